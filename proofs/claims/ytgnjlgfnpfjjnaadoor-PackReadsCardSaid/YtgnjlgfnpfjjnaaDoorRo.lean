/- Bytes of a law's own with marks in the room behind them (Roomy), and whether both are as they were (AsWas). -/
import Derived.Test.YtgnjlgfnpfjjnaaDoorWr
namespace Go.Proofs.YtgnjlgfnpfjjnaaDoor.Pk
open Go.RowKit Go.Proofs.YtgnjlgfnpfjjnaaDoorW.PrintWords Go.Proofs.YtgnjlgfnpfjjnaaDoorW.PrintLast Go.Proofs.YtgnjlgfnpfjjnaaDoorW.PrintMore Go.Proofs.YtgnjlgfnpfjjnaaDoor.Mem
set_option linter.unusedVariables false
set_option linter.unusedSimpArgs false
/-- a slice cut anew, up to its room -/
theorem cut_cap {P : Program} (t e : TypeId) (kh : IntKind) {i : TypeInfo} (ht : P.underlying t = some (.slice e)) (hi : P.info? e = some i) (A : Option Addr) (n c : Nat) (j : Int) (h0 : 0 ≤ j) (hc : j ≤ c) :
    ∀ W : World, (Instr.slice t (.slice A n c) none (some (.int kh j)) none).run P W = .ok (.slice A j.toNat c) W := by
  intro W
  have hel : P.elem t = e := by simp [Program.elem, ht]
  have hu : P.underlying t = some (.slice (P.elem t)) := by rw [hel]; exact ht
  have ha : (A.map fun x => x.add 0) = A := by cases A <;> simp [Addr.add]
  rw [run_slice_h W t A n c hu kh j h0 hc, hel]
  simp [sizeOf, typeInfo, hi, sliced, Result.andThen, ha]
/-- the marks -/
def mk3 : List Int := [85, 170, 85]
/-- block g is a row of the law's own that holds xs, and the marks behind them; cap: its room -/
def IsM (W : World) (B g cap : Nat) (xs : List Int) : Prop := Kd.R (Kd.int .u8) 5 W B (fun k => k = g) (.slice (some ⟨g, 0, none⟩) (xs.length + 3) cap) (xs ++ mk3)
namespace IsM
variable {W W' : World} {B g cap : Nat} {xs : List Int}
theorem base (h : IsM W B g cap xs) : B ≤ g := Kd.R_base h g rfl
theorem lt (h : IsM W B g cap xs) : g < W.heap.size := Kd.R_lt h g rfl
theorem len (h : IsM W B g cap xs) : xs.length + 3 ≤ cap := (Kd.R_reads' h).2.1
theorem all (h : IsM W B g cap xs) : Kd.C (Kd.int .u8) W (some ⟨g, 0, none⟩) (xs.length + 3) (xs ++ mk3) := by
  have h1 := (Kd.R_reads' h).2.2
  rw [show (xs ++ mk3).length = xs.length + 3 by simp [mk3]] at h1
  exact h1
theorem c (h : IsM W B g cap xs) : Kd.C (Kd.int .u8) W (some ⟨g, 0, none⟩) xs.length xs := by
  have h1 := h.all
  have e : xs.length + 3 = (xs ++ mk3).length := by simp [mk3]
  rw [e] at h1
  have h2 := Kd.C_take (m := xs.length) h1 (by simp)
  rw [List.take_left' rfl] at h2
  exact h2
theorem fr {S : Nat → Prop} (h : IsM W B g cap xs) (hf : Fr W W' S) (hg : ¬ S g) : IsM W' B g cap xs := hf.row h (fun k e _ => by subst e; exact hg)
theorem below (h : IsM W B g cap xs) (hb : Below W.heap.size W W') : IsM W' B g cap xs := Kd.R_below h hb
theorem lower {B' : Nat} (h : IsM W B g cap xs) (hb : B' ≤ B) : IsM W B' g cap xs := Kd.R_lower h hb
end IsM
/-- a row of one's own, and behind it another row -/
theorem appB {ops : Array Oper} {Q : Exit → Act → World → Prop} {o : Oper} {rest : List Oper} {a : Act} {w0 W : World} (base : Nat) (v : Value) (xs ys : List Int) (A : Option Addr) (m c : Nat) (hgd : o.guard = none) (s x : Operand)
    (ho : o.op = .call { callee := .builtin .append, args := #[s, x], argTypes := #[23, 23] }) (hs : a.eval s = v) (hx : a.eval x = .slice A m c)
    (HO : Kd.R (Kd.int .u8) 5 W base (fun _ => True) v xs) (HR : Kd.C (Kd.int .u8) W A m ys) (HB : Below base w0 W) (hbase : base ≤ W.heap.size) (hl : xs.length + m ≤ 140737488355328)
    (h : ∀ v1 w1, Kd.R (Kd.int .u8) 5 w1 base (fun _ => True) v1 (xs ++ ys) → Below base w0 w1 → wpList Tryd.prog ops Q rest (a.put o.dst v1) w1) : wpList Tryd.prog ops Q (o :: rest) a W :=
  Kd.R_append_row (w0 := w0) (Value.int .u8) 0 (h1 := fun _ => rfl) base hgd s x 23 5 (.int .u8 0) 1 ho Tryd.underlying23 infoB rfl (by decide) v xs ys A m c (fun _ => True) hs hx (fun _ _ => trivial) HO HR HB hbase (by omega) (fun v1 w1 h1 h2 _ _ => h v1 w1 h1 h2)
set_option maxRecDepth 100000 in
set_option maxHeartbeats 2000000 in
theorem Roomy {w : World} {A : Option Addr} {c : Nat} {xs : List Int} (hC : Kd.C (Kd.int .u8) w A xs.length xs) (hl : xs.length ≤ 140737488351232) :
    Calls Tryd.prog 8 #[.slice A xs.length c] w fun e w' => ∃ g cap, e = .returned (.slice (some ⟨g, 0, none⟩) xs.length cap) ∧ IsM w' w.heap.size g cap xs ∧ Below w.heap.size w w' := by
  obtain ⟨i0, hi, hz0, hz1, hz2⟩ := info_parts infoB
  obtain ⟨n, hn⟩ : ∃ n, n = xs.length := ⟨_, rfl⟩
  have hCC := Aside0.mk hC
  have hN := Aside0.mk hn
  have hSZ := Aside0.mk hl
  rw [← hn]
  clear hC hn hl
  have hb0 : Below w.heap.size w (w.alloc (.cells #[] 5)) := below_alloc (Below.refl _ _) _
  have hR0 : Kd.R (Kd.int .u8) 5 (w.alloc (.cells #[] 5)) w.heap.size (fun _ => True) (.slice (some ⟨w.heap.size, 0, none⟩) 0 0) ([] : List Int) := Kd.R_of_own (h1 := fun _ => rfl) (by have h2 := World.ownsRow_made w #[] (e := 5) (size := 1) 0 (Nat.le_refl _) (Nat.zero_le _) rfl; simpa [encs] using h2) (fun _ _ => trivial)
  have hb00 := Aside0.mk hb0
  have hR00 := Aside0.mk hR0
  clear hb0 hR0
  go_enter Tryd.func8, Tryd.ntmps8
  have k1 : Kd.C (Kd.int .u8) (w.alloc (.cells #[] 5)) A n xs := by rw [hN.out]; exact Kd.C_below hCC.out hb00.out
  have k2 : ([] : List Int).length + n ≤ 140737488355328 := by have := hSZ.out; have := hN.out; simp; omega
  have k3 : ([] ++ xs : List Int).length + 3 ≤ 140737488355328 := by have := hSZ.out; simp; omega
  have kk1 := Aside0.mk k1
  have kk2 := Aside0.mk k2
  have kk3 := Aside0.mk k3
  clear k1 k2 k3
  go_wp2_with (first | (at_builtin; refine appB (w0 := w) w.heap.size _ [] xs A n c rfl _ _ rfl rfl rfl hR00.out kk1.out hb00.out (by rw [World.size_alloc]; omega) kk2.out ?_; intro v1 w1 ho hbl; have ho1 := Aside0.mk (Kd.R_below ho (below_alloc (Below.refl _ _) (.cells #[.int .u8 85, .int .u8 170, .int .u8 85] 5))); have hb1 := Aside0.mk (below_alloc hbl (.cells #[.int .u8 85, .int .u8 170, .int .u8 85] 5)); have hc1 := Aside0.mk (C_lit (fr := (0, 0)) w1 mk3 5 (by simp [mk3])); have hs1 := hbl.size; clear ho hbl) | (at_builtin; refine appB (w0 := w) w.heap.size v1 _ mk3 (some ⟨w1.heap.size, 0, none⟩) 3 3 rfl _ _ rfl rfl rfl ho1.out hc1.out hb1.out (by rw [World.size_alloc]; omega) kk3.out ?_; intro v2 w2 ho hbl; have ho2 := Aside0.mk ho; have hb2 := Aside0.mk hbl; obtain ⟨g, cap, rfl, _, _, _⟩ := Kd.R_form ho (by simp [mk3]); have hcap := (Kd.R_reads' ho).2.1; clear ho hbl; have qs := cut_cap (P := Tryd.prog) 23 5 .i64 Tryd.underlying23 hi (some ⟨g, 0, none⟩) (xs.length + mk3.length) cap n (by omega) (by have := hN.out; simp [mk3] at hcap; omega); rw [Int.toNat_natCast] at qs))
  go_ret
  have hn := hN.out
  subst hn
  refine ⟨g, cap, rfl, ?_, hb2.out⟩
  have h3 := ho2.out
  rw [List.nil_append, show (xs ++ mk3).length = xs.length + 3 by simp [mk3]] at h3
  exact Kd.R_mono (Kd.R_tight rfl h3) (fun k hk => by simpa [Value.ownBlock] using hk)
theorem strOf_add (xs ys : List Int) : strOfNums xs ++ strOfNums ys = strOfNums (xs ++ ys) := by
  apply ByteArray.ext
  simp [strOfNums, ByteArray.data_append]
set_option maxRecDepth 100000 in
set_option maxHeartbeats 2000000 in
theorem AsWasC {w : World} {A : Option Addr} {g cap c : Nat} {xs : List Int} (hA : Kd.C (Kd.int .u8) w (some ⟨g, 0, none⟩) (xs.length + 3) (xs ++ mk3)) (hcap : xs.length + 3 ≤ cap) (hC : Kd.C (Kd.int .u8) w A xs.length xs) (hl : xs.length ≤ 140737488351232) :
    Calls Tryd.prog 12 #[.slice (some ⟨g, 0, none⟩) xs.length cap, .slice A xs.length c] w fun e w' => e = .returned (.bool true) ∧ w' = w.drew := by
  obtain ⟨i0, hi, hz0, hz1, hz2⟩ := info_parts infoB
  obtain ⟨n, hn⟩ : ∃ n, n = xs.length := ⟨_, rfl⟩
  rw [← hn] at hC hA hcap hl ⊢
  have qs := cut_cap (P := Tryd.prog) 23 5 .i64 Tryd.underlying23 hi (some ⟨g, 0, none⟩) n cap ((n : Int) + 3) (by omega) (by omega)
  rw [show ((n : Int) + 3).toNat = n + 3 by omega] at qs
  replace hA := Kd.C_below hA (below_drew (Below.refl _ _))
  replace hC := Kd.C_below hC (below_drew (Below.refl _ _))
  have q1 := Kd.C_string (P := Tryd.prog) (c := cap) Tryd.underlying23 Tryd.underlying5 Tryd.underlying9 hA
  have q2 := Kd.C_string (P := Tryd.prog) (c := c) Tryd.underlying23 Tryd.underlying5 Tryd.underlying9 hC
  have e3 : strOfNums xs ++ ⟨#[85, 170, 85]⟩ = strOfNums (xs ++ mk3) := strOf_add xs mk3
  have hsz : (strOfNums xs).size = n := by rw [hn]; simp [strOfNums, ByteArray.size]
  have hs1 : (strOfNums xs).size + 3 ≤ 140737488355328 := by omega
  have hs2 : ((strOfNums xs).size : Int) + 3 ≤ 9223372036854775807 := by omega
  have hN := Aside0.mk hn
  have he3 := Aside0.mk e3
  clear hA hC hn e3 hsz
  go_enter Tryd.func12, Tryd.ntmps12
  go_wp2
  go_region
  go_wp2
  go_ret
  refine ⟨?_, rfl⟩
  show Ending.returned (.bool ((strOfNums (xs ++ mk3)).toList == (strOfNums xs ++ ⟨#[85, 170, 85]⟩).toList)) = _
  rw [he3.out]
  simp
theorem AsWas {w : World} {A : Option Addr} {B g cap c : Nat} {xs : List Int} (hM : IsM w B g cap xs) (hC : Kd.C (Kd.int .u8) w A xs.length xs) (hl : xs.length ≤ 140737488351232) :
    Calls Tryd.prog 12 #[.slice (some ⟨g, 0, none⟩) xs.length cap, .slice A xs.length c] w fun e w' => e = .returned (.bool true) ∧ w' = w.drew := AsWasC hM.all hM.len hC hl
/-- marked rows, as elements of a row -/
def mr : Kd (List Int) where
  sz := 1
  E := [5]
  K := fun w xs cs => ∃ g cap, cs = [.slice (some ⟨g, 0, none⟩) xs.length cap] ∧ xs.length + 3 ≤ cap ∧ Kd.C (Kd.int .u8) w (some ⟨g, 0, none⟩) (xs.length + 3) (xs ++ mk3)
  M := fun w base ok xs cs => ∃ g cap, cs = [.slice (some ⟨g, 0, none⟩) xs.length cap] ∧ IsM w base g cap xs ∧ ok g
  K_len := by
    rintro w x cs ⟨g, cap, rfl, _⟩
    rfl
  K_one := by
    rintro w x cs ⟨g, cap, rfl, _⟩ u hu
    rw [List.mem_singleton.1 hu]
    rfl
  K_below := by
    rintro w w1 x cs hb ⟨g, cap, rfl, h1, h2⟩
    exact ⟨g, cap, rfl, h1, Kd.C_below h2 hb⟩
  K_of_M := by
    rintro w base ok x cs ⟨g, cap, rfl, h, _⟩
    exact ⟨g, cap, rfl, h.len, h.all⟩
  M_mono := by
    rintro w base ok ok' x cs hk ⟨g, cap, rfl, h, h2⟩
    exact ⟨g, cap, rfl, h, hk _ h2⟩
  M_bound := by
    rintro w base ok x cs ⟨g, cap, rfl, h, h2⟩
    obtain ⟨cells, hc⟩ := Kd.R_typed h g rfl
    exact ⟨g, cap, rfl, h, h2, h.base, h.lt, _, List.mem_singleton.2 rfl, cells, hc⟩
  M_move := by
    rintro w w1 base ok x cs hm ⟨g, cap, rfl, h, h2⟩
    exact ⟨g, cap, rfl, Kd.R_move h (fun k hk => by subst hk; exact hm _ h2), h2⟩
  M_lower := by
    rintro w base base' ok x cs hb ⟨g, cap, rfl, h, h2⟩
    exact ⟨g, cap, rfl, h.lower hb, h2⟩
theorem mr_C {w : World} {A : Option Addr} {n : Nat} {ps : List (List Int)} (h : Kd.C mr w A n ps) : Kd.C (Kd.slice 5 (Kd.int .u8)) w A n ps :=
  Kd.C_imp (d := mr) (d' := Kd.slice 5 (Kd.int .u8)) rfl (fun w x cs hk => by
    obtain ⟨g, cap, rfl, h1, h2⟩ := hk
    refine ⟨_, _, rfl, by omega, ?_⟩
    have e : x.length + 3 = (x ++ mk3).length := by simp [mk3]
    rw [e] at h2
    have h3 := Kd.C_take (m := x.length) h2 (by simp)
    rwa [List.take_left' rfl] at h3) h
end Go.Proofs.YtgnjlgfnpfjjnaaDoor.Pk
