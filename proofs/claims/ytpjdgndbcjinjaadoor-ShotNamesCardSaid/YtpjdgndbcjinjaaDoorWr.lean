/- The writer of package pack: a variable in memory that holds a row of the call's own; what its methods do to it. -/
import Derived.Test.YtpjdgndbcjinjaaDoorMem
import Derived.Test.YtpjdgndbcjinjaaDoorProg
import Derived.WalkSpells
import Derived.Lib.SliceRun
import Derived.Outline
import Derived.Deep.LoopGhost
import Derived.Laws.BitsLemmas
namespace Go.Proofs.YtpjdgndbcjinjaaDoor.Pk
open Go.RowKit Go.Proofs.YtpjdgndbcjinjaaDoorW.PrintWords Go.Proofs.YtpjdgndbcjinjaaDoorW.PrintLast Go.Proofs.YtpjdgndbcjinjaaDoorW.PrintMore Go.Proofs.YtpjdgndbcjinjaaDoor.Mem
set_option linter.unusedVariables false
set_option linter.unusedSimpArgs false
theorem infoB : (Tryd.prog.info? 5).map (fun i => (i.zero, i.size, i.bytes)) = some (some (.int .u8 0), 1, 1) := by kernel_rfl
/-- block g is a writer that holds xs -/
def IsW (W : World) (B : Nat) (ok : Nat → Prop) (g : Nat) (xs : List Int) : Prop := ∃ v, Boxed W g 56 v ∧ B ≤ g ∧ Kd.R (Kd.int .u8) 5 W B ok v xs
/-- a row of bytes is no writer's block -/
theorem row_ne {W : World} {B g : Nat} {ok : Nat → Prop} {v u : Value} {xs : List Int} (h : Kd.R (Kd.int .u8) 5 W B ok v xs) (hb : Boxed W g 56 u) : some g ≠ v.ownBlock := Kd.R_ne h hb (by decide)
theorem row_ok {W : World} {B g : Nat} {ok : Nat → Prop} {v u : Value} {xs : List Int} (h : Kd.R (Kd.int .u8) 5 W B ok v xs) (hb : Boxed W g 56 u) : Kd.R (Kd.int .u8) 5 W B (fun k => ok k ∧ k ≠ g ∧ B ≤ k ∧ k < W.heap.size) v xs :=
  Kd.R_mono (Kd.R_bound (Kd.R_types h hb (by intro q hq; simp [Kd.int, Kd.scalar] at hq; rw [hq]; decide))) (fun k hk => ⟨hk.1.1, hk.1.2, hk.2.1, hk.2.2.1⟩)
namespace IsW
variable {W W' : World} {B g : Nat} {ok ok' : Nat → Prop} {xs : List Int}
theorem lt (h : IsW W B ok g xs) : g < W.heap.size := by obtain ⟨v, hb, _⟩ := h; exact hb.lt
theorem base (h : IsW W B ok g xs) : B ≤ g := by obtain ⟨v, _, h, _⟩ := h; exact h
theorem mono (h : IsW W B ok g xs) (hk : ∀ k, ok k → B ≤ k → k < W.heap.size → ok' k) : IsW W B ok' g xs := by
  obtain ⟨v, hb, hg, hr⟩ := h
  exact ⟨v, hb, hg, Kd.R_mono (row_ok hr hb) (fun k h => hk k h.1 h.2.2.1 h.2.2.2)⟩
theorem fr {S : Nat → Prop} (h : IsW W B ok g xs) (hf : Fr W W' S) (hg : ¬ S g) (hk : ∀ k, ok k → B ≤ k → k < W.heap.size → ¬ S k) : IsW W' B ok g xs := by
  obtain ⟨v, hb, hB, hr⟩ := h
  exact ⟨v, hf.boxed hb hg, hB, Kd.R_mono (hf.row (row_ok hr hb) (fun k h _ => hk k h.1 h.2.2.1 h.2.2.2)) (fun k h => h.1)⟩
theorem below (h : IsW W B ok g xs) (hb : Below W.heap.size W W') : IsW W' B ok g xs := h.fr (Fr.of_below hb (fun _ => False)) (fun h => h) (fun _ _ _ _ h => h)
/-- a writer that has just been made -/
theorem new (W : World) (B : Nat) (hB : B ≤ W.heap.size) : IsW (W.alloc (.cells #[.slice none 0 0] 56)) B (fun _ => False) W.heap.size [] := ⟨_, Boxed.new W _ _, hB, Kd.R_nil _ _ _ _ _⟩
end IsW
set_option maxRecDepth 100000 in
set_option maxHeartbeats 2000000 in
theorem Bytes {w : World} {B g c : Nat} {ok : Nat → Prop} {xs ys : List Int} {A : Option Addr} (hW : IsW w B ok g xs) (hB : B ≤ w.heap.size) (hC : Kd.C (Kd.int .u8) w A ys.length ys) (hl : xs.length + ys.length ≤ 140737488355328) :
    Calls Tryd.prog 20 #[.pointer (some ⟨g, 0, none⟩), .slice A ys.length c] w fun e w' => e = .returned (.tuple #[]) ∧ IsW w' B (fun k => ok k ∨ w.heap.size ≤ k) g (xs ++ ys) ∧ Fr w w' (fun k => k = g ∨ ok k) := by
  obtain ⟨v, hb, hBg, hr⟩ := hW
  have hr1 := Aside0.mk (Kd.R_mono (row_ok hr hb) (ok' := fun k => (ok k ∧ k ≠ g) ∨ w.heap.size ≤ k) (fun k h => .inl ⟨h.1, h.2.1⟩))
  have hrr := Aside0.mk hr
  have hcell := hb.cell
  have hbb := Aside0.mk hb
  obtain ⟨m, hm⟩ : ∃ m, m = ys.length := ⟨_, rfl⟩
  have hmm := Aside0.mk hm
  have hCC := Aside0.mk hC
  have hLL := Aside0.mk hl
  rw [← hm]
  clear hr hb hm hC hl
  go_enter Tryd.func20, Tryd.ntmps20
  go_wp2_with (at_builtin; go_must (refine Kd.R_append_row (w0 := w) (Value.int .u8) 0 (h1 := fun _ => rfl) B rfl _ _ 24 5 (.int .u8 0) 1 rfl Tryd.underlying24 infoB rfl (by decide) v xs ys A m c _ rfl rfl ?hfresh hr1.out ?hC ?hB hB ?hl ?_); (case hfresh => exact (fun k hk => .inr hk)); (case hC => rw [hmm.out]; exact hCC.out); (case hB => exact Below.refl _ _); (case hl => have := hLL.out; have := hmm.out; omega); intro v1 w1 ho hbl hg hat; have hb1 := (hbb.out.kept hg (row_ne hrr.out hbb.out)); have hc1 := hb1.cell; have hf1 := hb1.frozen; obtain ⟨A1, c1, rfl⟩ := Kd.R_slice ho)
  go_end0
  refine ⟨rfl, ⟨_, hb1.set _, hBg, ?_⟩, ?_⟩
  · have ho2 := ho
    rw [List.length_append] at ho2
    refine Kd.R_mono (Kd.R_set ho2 hb1 (by intro q hq; simp [Kd.int, Kd.scalar] at hq; rw [hq]; decide) 0 _) ?_
    rintro k (h | h)
    · exact .inl h.1
    · exact .inr h
  · refine (Fr.of_grown hg (fun k hk _ => ?_)).setCell (p := ⟨g, 0, none⟩) (fun _ => .inl rfl) _
    rcases hrr.out.1 k hk with h
    exact .inr h
/-- a slice literal of bytes -/
theorem C_lit (w : World) (xs : List Int) (t : TypeId) {fr : Nat × Nat} (hl : xs.length ≤ 1000) : Kd.C (Kd.int .u8) (w.alloc (.cells (xs.map (Value.int .u8)).toArray t fr)) (some ⟨w.heap.size, 0, none⟩) xs.length xs := by
  refine Kd.C_of_reads (d := (0 : Int)) (h1 := fun _ => rfl) ⟨rfl, by omega, fun hn => ⟨_, rfl, fun j hj => ?_⟩⟩
  rw [add_plain]
  have hh := World.alloc_heap_new w (.cells (xs.map (Value.int .u8)).toArray t fr)
  simp only [World.cell?, hh]
  simp [hj, List.getD_eq_getElem?_getD]
theorem IsW.lit {w : World} {B g : Nat} {ok : Nat → Prop} {xs : List Int} (h : IsW w B ok g xs) (o : Obj) : IsW (w.alloc o) B ok g xs := h.below (below_alloc (Below.refl _ _) o)
/-- what a call in the world behind a literal says of the world ahead of it -/
theorem up {w w' : World} {B g : Nat} {ok : Nat → Prop} {xs : List Int} {o : Obj} (h : IsW w' B (fun k => ok k ∨ (w.alloc o).heap.size ≤ k) g xs) : IsW w' B (fun k => ok k ∨ w.heap.size ≤ k) g xs :=
  h.mono (fun k hk _ _ => hk.imp id (fun h => by simp at h; omega))
theorem upF {w w' : World} {S : Nat → Prop} {o : Obj} (h : Fr (w.alloc o) w' S) : Fr w w' S := ((Fr.refl w S).alloc o).trans h (fun _ _ h => h)
set_option maxHeartbeats 2000000 in
theorem Byte {w : World} {B g : Nat} {ok : Nat → Prop} {xs : List Int} (x : Int) (hW : IsW w B ok g xs) (hB : B ≤ w.heap.size) (hl : xs.length + 1 ≤ 140737488355328) :
    Calls Tryd.prog 22 #[.pointer (some ⟨g, 0, none⟩), .int .u8 x] w fun e w' => e = .returned (.tuple #[]) ∧ IsW w' B (fun k => ok k ∨ w.heap.size ≤ k) g (xs ++ [x]) ∧ Fr w w' (fun k => k = g ∨ ok k) := by
  have h1 := Aside0.mk hW
  have h2 := Aside0.mk hl
  clear hW hl
  go_enter Tryd.func22, Tryd.ntmps22
  go_wp2_with (go_at_call 20; go_must (refine (Bytes (c := 1) (ys := [x]) (h1.out.lit _) (by simp; omega) (C_lit w [x] _ (by simp)) (by have := h2.out; simp; omega)).mono ?_); rintro e w' ⟨rfl, hW, hF⟩)
  go_end0
  exact ⟨rfl, up hW, upF hF⟩
set_option maxHeartbeats 2000000 in
theorem Cell {w : World} {B g : Nat} {ok : Nat → Prop} {xs : List Int} (x : Int) (hx0 : 0 ≤ x) (hx1 : x ≤ 65535) (hW : IsW w B ok g xs) (hB : B ≤ w.heap.size) (hl : xs.length + 2 ≤ 140737488355328) :
    Calls Tryd.prog 21 #[.pointer (some ⟨g, 0, none⟩), .int .u16 x] w fun e w' => e = .returned (.tuple #[]) ∧ IsW w' B (fun k => ok k ∨ w.heap.size ≤ k) g (xs ++ [x % 256, x / 256]) ∧ Fr w w' (fun k => k = g ∨ ok k) := by
  have h1 := Aside0.mk hW
  have h2 := Aside0.mk hl
  clear hW hl
  go_enter Tryd.func21, Tryd.ntmps21
  go_wp2_with (go_at_call 20; go_must (refine (Bytes (c := 2) (ys := [x % 256, x / 256]) (h1.out.lit _) (by simp; omega) (C_lit w [x % 256, x / 256] _ (by simp)) (by have := h2.out; simp; omega)).mono ?_); rintro e w' ⟨rfl, hW, hF⟩)
  go_end0
  exact ⟨rfl, up hW, upF hF⟩
/-- two calls, one behind the other -/
theorem chain {w w1 w2 : World} {B g : Nat} {ok : Nat → Prop} {xs : List Int} (hs : w.heap.size ≤ w1.heap.size) (h : IsW w2 B (fun k => (ok k ∨ w.heap.size ≤ k) ∨ w1.heap.size ≤ k) g xs) : IsW w2 B (fun k => ok k ∨ w.heap.size ≤ k) g xs :=
  h.mono (fun k hk _ _ => by rcases hk with h | h
                             · exact h
                             · exact .inr (Nat.le_trans hs h))
theorem chainF {w w1 w2 : World} {g : Nat} {ok : Nat → Prop} (h1 : Fr w w1 (fun k => k = g ∨ ok k)) (h2 : Fr w1 w2 (fun k => k = g ∨ (ok k ∨ w.heap.size ≤ k))) : Fr w w2 (fun k => k = g ∨ ok k) :=
  h1.trans h2 (fun k hk h => by rcases h with h | h | h
                                · exact .inl h
                                · exact .inr h
                                · omega)
set_option maxHeartbeats 2000000 in
theorem Word {w : World} {B g : Nat} {ok : Nat → Prop} {xs : List Int} (x : Int) (hx0 : 0 ≤ x) (hx1 : x ≤ 4294967295) (hW : IsW w B ok g xs) (hB : B ≤ w.heap.size) (hl : xs.length + 4 ≤ 140737488355328) :
    Calls Tryd.prog 19 #[.pointer (some ⟨g, 0, none⟩), .int .u32 x] w fun e w' => e = .returned (.tuple #[]) ∧ IsW w' B (fun k => ok k ∨ w.heap.size ≤ k) g (xs ++ [x % 65536 % 256, x % 65536 / 256, x / 65536 % 256, x / 65536 / 256]) ∧ Fr w w' (fun k => k = g ∨ ok k) := by
  have h1 := Aside0.mk hW
  have h2 := Aside0.mk hl
  clear hW hl
  go_enter Tryd.func19, Tryd.ntmps19
  go_wp2_with (go_at_call 21; refine (Cell (x % 65536) (by omega) (by omega) h1.out hB (by have := h2.out; omega)).mono ?_; rintro e w1 ⟨rfl, hW1, hF1⟩; have h3 := Aside0.mk hW1; have h4 := Aside0.mk hF1; have hs1 := hF1.size; have hB1 := Nat.le_trans hB hs1; clear hW1 hF1 h1)
  go_wp2_with (go_at_call 21; go_must (refine (Cell (x / 65536) (by omega) (by omega) h3.out hB1 (by have := h2.out; simp; omega)).mono ?_); rintro e w2 ⟨rfl, hW2, hF2⟩)
  go_end0
  refine ⟨rfl, ?_, chainF h4.out hF2⟩
  have h5 := chain hs1 hW2
  simpa using h5
/-- a number's form: seven bits a byte -/
def vl : Nat → Int → List Int
  | 0, x => [x % 256]
  | k + 1, x => if x ≥ 128 then Go.bits .or .u8 (x % 256) 128 :: vl k (x / 128) else [x % 256]
theorem vl_len : ∀ k x, (vl k x).length ≤ k + 1
  | 0, x => by simp [vl]
  | k + 1, x => by
    have := vl_len k (x / 128)
    simp only [vl]; split <;> simp <;> omega
def numOf (n : Int) : List Int := vl 4 (n % 4294967296)
theorem pow_step (k : Nat) (x : Int) (h0 : 0 ≤ x) (h : x < 16 * (128 : Int) ^ (k + 1)) : x / 128 < 16 * (128 : Int) ^ k := by
  have e : (128 : Int) ^ (k + 1) = 128 * 128 ^ k := by rw [Int.pow_succ, Int.mul_comm]
  rw [e] at h
  omega
/-- slices.Clone of bytes -/
theorem CloneX {w : World} {A : Option Addr} {c : Nat} {xs : List Int} (hC : Kd.C (Kd.int .u8) w A xs.length xs) (hl : xs.length ≤ 140737488355328) :
    Calls Tryd.prog 35 #[.slice A xs.length c] w fun e w' => ∃ v, e = .returned v ∧ Kd.R (Kd.int .u8) 5 w' w.heap.size (fun _ => True) v xs ∧ Below w.heap.size w w' := by
  obtain ⟨i0, hi, hz0, hz1, hz2⟩ := info_parts infoB
  have q22 : ∀ (w : World) (a : Option Addr) (n c n' c' : Nat), (binOp .eql 24 (.slice a n c) (.slice none n' c')).run Tryd.prog w = .ok (.bool a.isNone) w := fun w a n c n' c' => Go.Lib.run_eql_slice_nil w _ _ a n c n' c' Tryd.underlying24
  obtain ⟨n, hn⟩ : ∃ n, n = xs.length := ⟨_, rfl⟩
  have hCC := Aside0.mk hC
  have hN := Aside0.mk hn
  have hSZ := Aside0.mk hl
  rw [← hn]
  clear hC hn hl
  cases A with
  | none =>
    go_enter Tryd.func35, Tryd.ntmps35
    go_wp2
    go_ret
    have hr0 := hCC.out
    have : xs = [] := by
      cases xs with
      | nil => rfl
      | cons x t => obtain ⟨ad, e, _⟩ := Kd.at_int hr0 0 (by omega) (by simp); cases e
    subst this
    exact ⟨_, rfl, Kd.R_nil _ _ _ _ _, Below.refl _ _⟩
  | some a =>
    go_enter Tryd.func35, Tryd.ntmps35
    go_wp2_with (at_builtin; refine wpList_append_own _ rfl _ _ 24 rfl w.heap.size 5 i0 (.int .u8 0) 1 1 Tryd.underlying24 hi hz0 hz1 hz2 rfl (by decide) _ _ _ rfl (World.ownsRow_made w #[] 0 (Nat.le_refl _) (Nat.zero_le _) rfl) a n _ (xs.map (Value.int .u8)) rfl ?qc1 ?qc2 ?qc3 ?qc4 ?qc5 ?qc6 ?_)
    case qc1 => simp [hN.out]
    case qc2 =>
      intro j u hj
      have hjn : j < xs.length := by
        have := (List.getElem?_eq_some_iff.1 hj).1
        simpa using this
      refine Go.Lib.cell?_alloc_some _ ?_
      obtain ⟨ad, e, hx⟩ := Kd.at_int hCC.out j (by omega) (by omega)
      cases e
      rw [Int.toNat_natCast] at hx
      rw [hx]
      have e : (xs.map (Value.int .u8))[j]? = some (Value.int .u8 (rd xs j)) := by simp [rd, List.getD, List.getElem?_eq_getElem hjn]
      rw [e] at hj
      exact hj
    case qc3 => intro u hu; obtain ⟨x, _, rfl⟩ := List.mem_map.1 hu; rfl
    case qc4 => have := hSZ.out; have := hN.out; unfold maxLen; omega
    case qc5 => have := hSZ.out; have := hN.out; omega
    case qc6 => simp
    intro v' w1 hown hgrow hnil
    go_wp2
    go_ret
    have hNo := hN.out
    subst hNo
    refine ⟨v', rfl, Kd.R_of_own (h1 := fun _ => rfl) (ok := fun _ => True) (by have h2 := hown; (try simp at h2); exact h2) (fun _ _ => trivial), ?_⟩
    exact ((Below.refl _ w).alloc (Nat.le_refl _) _).grown hgrow (by simp) (by intro k hk; simp [Value.ownBlock] at hk; omega)
theorem Clone {w : World} {A : Option Addr} {c : Nat} {xs : List Int} (hC : Kd.C (Kd.int .u8) w A xs.length xs) (hl : xs.length ≤ 140737488351232) :
    Calls Tryd.prog 35 #[.slice A xs.length c] w fun e w' => ∃ v, e = .returned v ∧ Kd.R (Kd.int .u8) 5 w' w.heap.size (fun _ => True) v xs ∧ Below w.heap.size w w' := CloneX hC (by omega)
set_option maxHeartbeats 1000000 in
theorem DoneX {w : World} {B g : Nat} {ok : Nat → Prop} {xs : List Int} (hW : IsW w B ok g xs) (hl : xs.length ≤ 140737488355328) :
    Calls Tryd.prog 24 #[.pointer (some ⟨g, 0, none⟩)] w fun e w' => ∃ v, e = .returned v ∧ Kd.R (Kd.int .u8) 5 w' w.heap.size (fun _ => True) v xs ∧ Below w.heap.size w w' := by
  obtain ⟨v, hb, hBg, hr⟩ := hW
  obtain ⟨A, c, rfl, hcl, hC⟩ := Kd.R_reads hr
  have hcell := hb.cell
  have hCC := Aside0.mk hC
  have hLL := Aside0.mk hl
  clear hr hb hC hl hcl
  go_enter Tryd.func24, Tryd.ntmps24
  go_wp2_with (go_at_call 35; go_must (with_reducible refine (CloneX hCC.out hLL.out).mono ?_); rintro e w1 ⟨u, rfl, hR, hb⟩)
  go_ret
  exact ⟨u, rfl, hR, hb⟩
theorem Done {w : World} {B g : Nat} {ok : Nat → Prop} {xs : List Int} (hW : IsW w B ok g xs) (hl : xs.length ≤ 140737488351232) :
    Calls Tryd.prog 24 #[.pointer (some ⟨g, 0, none⟩)] w fun e w' => ∃ v, e = .returned v ∧ Kd.R (Kd.int .u8) 5 w' w.heap.size (fun _ => True) v xs ∧ Below w.heap.size w w' := DoneX hW (by omega)
end Go.Proofs.YtpjdgndbcjinjaaDoor.Pk
