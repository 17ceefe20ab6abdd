/- Bytes of a law's own with marks in the room behind them (wisplaw01.Roomy), and whether both are as they were (Whole). -/
import Derived.Test.YtpjdgndbcjinjaaDoorAp
import Derived.WalkSpells
import Derived.Lib.SliceRun
import Derived.Outline
namespace Go.Proofs.YtpjdgndbcjinjaaDoor.Ap
open Go.RowKit Go.Proofs.YtpjdgndbcjinjaaDoorW.PrintWords Go.Proofs.YtpjdgndbcjinjaaDoorW.PrintLast Go.Proofs.YtpjdgndbcjinjaaDoorW.PrintMore Go.Proofs.YtpjdgndbcjinjaaDoor.Mem
set_option linter.unusedVariables false
set_option linter.unusedSimpArgs false
/-- a slice cut anew, up to its room -/
theorem cut_cap {P : Program} (t e : TypeId) (kh : IntKind) {i : TypeInfo} (ht : P.underlying t = some (.slice e)) (hi : P.info? e = some i) (A : Option Addr) (n c : Nat) (j : Int) (h0 : 0 ≤ j) (hc : j ≤ c) :
    ∀ W : World, (Instr.slice t (.slice A n c) none (some (.int kh j)) none).run P W = .ok (.slice A j.toNat c) W := by
  intro W
  have hel : P.elem t = e := by simp [Program.elem, ht]
  have hu : P.underlying t = some (.slice (P.elem t)) := by rw [hel]; exact ht
  have ha : (A.map fun x => x.add 0) = A := by cases A <;> simp [Addr.add]
  rw [run_slice_h W t A n c hu kh j h0 hc, hel]
  simp [sizeOf, typeInfo, hi, sliced, Result.andThen, ha]
/-- the marks -/
def mk3 : List Int := [77, 78, 79]
/-- block g is a row of the law's own that holds xs, and the marks behind them; cap: its room -/
def IsM (W : World) (B g cap : Nat) (xs : List Int) : Prop := Kd.R (Kd.int .u8) 5 W B (fun k => k = g) (.slice (some ⟨g, 0, none⟩) (xs.length + 3) cap) (xs ++ mk3)
namespace IsM
variable {W W' : World} {B g cap : Nat} {xs : List Int}
theorem base (h : IsM W B g cap xs) : B ≤ g := Kd.R_base h g rfl
theorem lt (h : IsM W B g cap xs) : g < W.heap.size := Kd.R_lt h g rfl
theorem len (h : IsM W B g cap xs) : xs.length + 3 ≤ cap := (Kd.R_reads' h).2.1
theorem all (h : IsM W B g cap xs) : Kd.C (Kd.int .u8) W (some ⟨g, 0, none⟩) (xs.length + 3) (xs ++ mk3) := by
  have h1 := (Kd.R_reads' h).2.2
  rw [show (xs ++ mk3).length = xs.length + 3 by simp [mk3]] at h1
  exact h1
theorem c (h : IsM W B g cap xs) : Kd.C (Kd.int .u8) W (some ⟨g, 0, none⟩) xs.length xs := by
  have h1 := h.all
  have e : xs.length + 3 = (xs ++ mk3).length := by simp [mk3]
  rw [e] at h1
  have h2 := Kd.C_take (m := xs.length) h1 (by simp)
  rw [List.take_left' rfl] at h2
  exact h2
theorem fr {S : Nat → Prop} (h : IsM W B g cap xs) (hf : Fr W W' S) (hg : ¬ S g) : IsM W' B g cap xs := hf.row h (fun k e _ => by subst e; exact hg)
theorem below (h : IsM W B g cap xs) (hb : Below W.heap.size W W') : IsM W' B g cap xs := Kd.R_below h hb
theorem lower {B' : Nat} (h : IsM W B g cap xs) (hb : B' ≤ B) : IsM W B' g cap xs := Kd.R_lower h hb
/-- one byte is written -/
theorem put (h : IsM W B g cap xs) {k : Nat} (hk : k < xs.length) (y : Int) : IsM (W.setCell ⟨g, k, none⟩ (.int .u8 y)) B g cap (xs.set k y) := by
  unfold IsM at h ⊢
  have h9 := Kd.R_putn h (k : Int) y
  rw [Int.toNat_natCast, List.set_append_left _ _ hk] at h9
  rw [List.length_set]
  exact h9
/-- one byte is read -/
theorem at_ (h : IsM W B g cap xs) {k : Nat} (hk : k < xs.length) : W.cell? ⟨g, k, none⟩ = some (.int .u8 (rd xs (k : Int))) ∧ W.frozen? ⟨g, k, none⟩ = false := by
  unfold IsM at h
  have hce := Kd.R_celln 0 h (k : Int) (by omega) (by omega)
  rw [Int.toNat_natCast] at hce
  refine ⟨?_, hce.2⟩
  rw [hce.1]
  show some (Value.int .u8 (rd (xs ++ mk3) (k : Int))) = _
  congr 2
  unfold rd
  rw [Int.toNat_natCast, List.getD_eq_getElem?_getD, List.getD_eq_getElem?_getD, List.getElem?_append_left hk]
end IsM
/-- a row of one's own, and behind it another row -/
theorem appB {ops : Array Oper} {Q : Exit → Act → World → Prop} {o : Oper} {rest : List Oper} {a : Act} {w0 W : World} (base : Nat) (v : Value) (xs ys : List Int) (A : Option Addr) (m c : Nat) (hgd : o.guard = none) (s x : Operand)
    (ho : o.op = .call { callee := .builtin .append, args := #[s, x], argTypes := #[24, 24] }) (hs : a.eval s = v) (hx : a.eval x = .slice A m c)
    (HO : RB W base v xs) (HR : CB W A m ys) (HB : Below base w0 W) (hbase : base ≤ W.heap.size) (hl : xs.length + m ≤ 140737488355328)
    (h : ∀ v1 w1, RB w1 base v1 (xs ++ ys) → Below base w0 w1 → wpList Tryd.prog ops Q rest (a.put o.dst v1) w1) : wpList Tryd.prog ops Q (o :: rest) a W :=
  Kd.R_append_row (w0 := w0) (Value.int .u8) 0 (h1 := fun _ => rfl) base hgd s x 24 5 (.int .u8 0) 1 ho Tryd.underlying24 infoB rfl (by decide) v xs ys A m c (fun _ => True) hs hx (fun _ _ => trivial) HO HR HB hbase (by omega) (fun v1 w1 h1 h2 _ _ => h v1 w1 h1 h2)
theorem R_made (w : World) : RB (w.alloc (.cells #[] 5)) w.heap.size (.slice (some ⟨w.heap.size, 0, none⟩) 0 0) ([] : List Int) := Kd.R_of_own (h1 := fun _ => rfl) (by have h2 := World.ownsRow_made w #[] (e := 5) (size := 1) 0 (Nat.le_refl _) (Nat.zero_le _) rfl; simpa [encs] using h2) (fun _ _ => trivial)
/-- a slice literal of bytes -/
theorem C_lit (w : World) (xs : List Int) (t : TypeId) {fr : Nat × Nat} (hl : xs.length ≤ 1000) : CB (w.alloc (.cells (xs.map (Value.int .u8)).toArray t fr)) (some ⟨w.heap.size, 0, none⟩) xs.length xs := by
  refine Kd.C_of_reads (d := (0 : Int)) (h1 := fun _ => rfl) ⟨rfl, by omega, fun hn => ⟨_, rfl, fun j hj => ?_⟩⟩
  rw [add_plain]
  have hh := World.alloc_heap_new w (.cells (xs.map (Value.int .u8)).toArray t fr)
  simp only [World.cell?, hh]
  simp [hj, List.getD_eq_getElem?_getD]
set_option maxRecDepth 100000 in
set_option maxHeartbeats 2000000 in
theorem Roomy {w : World} {A : Option Addr} {c : Nat} {xs : List Int} (hC : CB w A xs.length xs) (hl : xs.length ≤ 140737488351232) :
    Calls Tryd.prog 8 #[.slice A xs.length c] w fun e w' => ∃ g cap, e = .returned (.slice (some ⟨g, 0, none⟩) xs.length cap) ∧ IsM w' w.heap.size g cap xs ∧ Below w.heap.size w w' := by
  obtain ⟨i0, hi, hz0, hz1, hz2⟩ := info_parts infoB
  obtain ⟨n, hn⟩ : ∃ n, n = xs.length := ⟨_, rfl⟩
  have hCC := Aside0.mk hC
  have hN := Aside0.mk hn
  have hSZ := Aside0.mk hl
  rw [← hn]
  clear hC hn hl
  have hb0 : Below w.heap.size w (w.alloc (.cells #[] 5)) := below_alloc (Below.refl _ _) _
  have hb00 := Aside0.mk hb0
  have hR00 := Aside0.mk (R_made w)
  clear hb0
  go_enter Tryd.func8, Tryd.ntmps8
  have k1 : CB (w.alloc (.cells #[] 5)) A n xs := by rw [hN.out]; exact Kd.C_below hCC.out hb00.out
  have k2 : ([] : List Int).length + n ≤ 140737488355328 := by have := hSZ.out; have := hN.out; simp; omega
  have k3 : ([] ++ xs : List Int).length + 3 ≤ 140737488355328 := by have := hSZ.out; simp; omega
  have kk1 := Aside0.mk k1
  have kk2 := Aside0.mk k2
  have kk3 := Aside0.mk k3
  clear k1 k2 k3
  go_wp2_with (first | (at_builtin; refine appB (w0 := w) w.heap.size _ [] xs A n c rfl _ _ rfl rfl rfl hR00.out kk1.out hb00.out (by rw [World.size_alloc]; omega) kk2.out ?_; intro v1 w1 ho hbl; have ho1 := Aside0.mk (Kd.R_below ho (below_alloc (Below.refl _ _) (.cells #[.int .u8 77, .int .u8 78, .int .u8 79] 5))); have hb1 := Aside0.mk (below_alloc hbl (.cells #[.int .u8 77, .int .u8 78, .int .u8 79] 5)); have hc1 := Aside0.mk (C_lit (fr := (0, 0)) w1 mk3 5 (by simp [mk3])); have hs1 := hbl.size; clear ho hbl) | (at_builtin; refine appB (w0 := w) w.heap.size v1 _ mk3 (some ⟨w1.heap.size, 0, none⟩) 3 3 rfl _ _ rfl rfl rfl ho1.out hc1.out hb1.out (by rw [World.size_alloc]; omega) kk3.out ?_; intro v2 w2 ho hbl; have ho2 := Aside0.mk ho; have hb2 := Aside0.mk hbl; obtain ⟨g, cap, rfl, _, _, _⟩ := Kd.R_form ho (by simp [mk3]); have hcap := (Kd.R_reads' ho).2.1; clear ho hbl; have qs := cut_cap (P := Tryd.prog) 24 5 .i64 Tryd.underlying24 hi (some ⟨g, 0, none⟩) (xs.length + mk3.length) cap n (by omega) (by have := hN.out; simp [mk3] at hcap; omega); rw [Int.toNat_natCast] at qs))
  go_ret
  have hn := hN.out
  subst hn
  refine ⟨g, cap, rfl, ?_, hb2.out⟩
  have h3 := ho2.out
  rw [List.nil_append, show (xs ++ mk3).length = xs.length + 3 by simp [mk3]] at h3
  exact Kd.R_mono (Kd.R_tight rfl h3) (fun k hk => by simpa [Value.ownBlock] using hk)
theorem strf {W : World} {A : Option Addr} {m c : Nat} {xs : List Int} {S : ByteArray} (h : CB W A m xs) (hS : strOfNums xs = S) : (convert 24 9 (.slice A m c)).run Tryd.prog W = .ok (.string S) W := by
  subst hS
  exact Kd.C_string (P := Tryd.prog) (c := c) Tryd.underlying24 Tryd.underlying5 Tryd.underlying9 h
theorem rowf {W : World} {base : Nat} {v : Value} {xs : List Int} (h : RB W base v xs) : ∃ A m c, v = .slice A m c ∧ m = xs.length ∧ CB W A m xs := by
  obtain ⟨A, c, rfl, _, hC⟩ := Kd.R_reads h
  exact ⟨A, _, c, rfl, rfl, hC⟩
set_option maxRecDepth 100000 in
set_option maxHeartbeats 2000000 in
theorem Whole {w : World} {A : Option Addr} {B g cap c : Nat} {xs : List Int} (hM : IsM w B g cap xs) (hC : CB w A xs.length xs) (hl : xs.length ≤ 140737488351232) :
    Calls Tryd.prog 13 #[.slice (some ⟨g, 0, none⟩) xs.length cap, .slice A xs.length c] w fun e w' => e = .returned (.bool true) ∧ w = w' := by
  obtain ⟨i0, hi, hz0, hz1, hz2⟩ := info_parts infoB
  obtain ⟨n, hn⟩ : ∃ n, n = xs.length := ⟨_, rfl⟩
  have hA := hM.all
  have hcap := hM.len
  have hc1 := hM.c
  rw [← hn] at hC hA hcap hc1 hl ⊢
  have qs := cut_cap (P := Tryd.prog) 24 5 .i64 Tryd.underlying24 hi (some ⟨g, 0, none⟩) n cap ((n : Int) + 3) (by omega) (by omega)
  rw [show ((n : Int) + 3).toNat = n + 3 by omega] at qs
  have hrd : ∀ j, j < 3 → rd (xs ++ mk3) ((n + j : Nat) : Int) = rd mk3 (j : Int) := fun j hj => by
    unfold rd
    rw [Int.toNat_natCast, Int.toNat_natCast, List.getD_eq_getElem?_getD, List.getD_eq_getElem?_getD, List.getElem?_append_right (by omega), hn, Nat.add_sub_cancel_left]
  obtain ⟨S, hS⟩ : ∃ S, strOfNums xs = S := ⟨_, rfl⟩
  have q1 := strf (c := cap) hc1 hS
  have q2 := strf (c := c) hC hS
  have q3 : (S.toList == S.toList) = true := by simp
  have m0 : w.cell? ⟨g, n, none⟩ = some (.int .u8 77) := by
    obtain ⟨a, e, h⟩ := Kd.at_int hA ((n + 0 : Nat) : Int) (by omega) (by omega)
    cases e
    rw [hrd 0 (by omega), Int.toNat_natCast, add_plain] at h
    exact h
  have m1 : w.cell? ⟨g, n + 1, none⟩ = some (.int .u8 78) := by
    obtain ⟨a, e, h⟩ := Kd.at_int hA ((n + 1 : Nat) : Int) (by omega) (by omega)
    cases e
    rw [hrd 1 (by omega), Int.toNat_natCast, add_plain] at h
    exact h
  have m2 : w.cell? ⟨g, n + 2, none⟩ = some (.int .u8 79) := by
    obtain ⟨a, e, h⟩ := Kd.at_int hA ((n + 2 : Nat) : Int) (by omega) (by omega)
    cases e
    rw [hrd 2 (by omega), Int.toNat_natCast, add_plain] at h
    exact h
  clear hA hC hM hn hrd hc1 hS
  go_enter Tryd.func13, Tryd.ntmps13
  go_wp2
  go_ret
  exact ⟨rfl, rfl⟩
end Go.Proofs.YtpjdgndbcjinjaaDoor.Ap
