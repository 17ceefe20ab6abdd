import Derived.Test.YtembdahclmffjaaDoorMem
import Derived.Test.YtembdahclmffjaaDoorProg
import Derived.WalkSpells
import Derived.Lib.SliceRun
import Derived.Outline
import Derived.Deep.LoopGhost
import Derived.Laws.BitsLemmas
import Derived.Lib.SlBytesConst
/- The writer of package pack: a variable in memory that holds a row of the call's own; what its methods do to it. -/
namespace Go.Proofs.YtembdahclmffjaaDoor.Pk
open Go.RowKit Go.Proofs.YtembdahclmffjaaDoorW.PrintWords Go.Proofs.YtembdahclmffjaaDoorW.PrintLast Go.Proofs.YtembdahclmffjaaDoorW.PrintMore Go.Proofs.YtembdahclmffjaaDoor.Mem
set_option linter.unusedVariables false
set_option linter.unusedSimpArgs false
theorem infoB : (Tryd.prog.info? 5).map (fun i => (i.zero, i.size, i.bytes)) = some (some (.int .u8 0), 1, 1) := by kernel_rfl
/-- block g is a writer that holds xs -/
def IsW (W : World) (B : Nat) (ok : Nat → Prop) (g : Nat) (xs : List Int) : Prop := ∃ v, Boxed W g 51 v ∧ B ≤ g ∧ Kd.R (Kd.int .u8) 5 W B ok v xs
/-- a row of bytes is no writer's block -/
theorem row_ne {W : World} {B g : Nat} {ok : Nat → Prop} {v u : Value} {xs : List Int} (h : Kd.R (Kd.int .u8) 5 W B ok v xs) (hb : Boxed W g 51 u) : some g ≠ v.ownBlock := Kd.R_ne h hb (by decide)
theorem row_ok {W : World} {B g : Nat} {ok : Nat → Prop} {v u : Value} {xs : List Int} (h : Kd.R (Kd.int .u8) 5 W B ok v xs) (hb : Boxed W g 51 u) : Kd.R (Kd.int .u8) 5 W B (fun k => ok k ∧ k ≠ g ∧ B ≤ k ∧ k < W.heap.size) v xs :=
  Kd.R_mono (Kd.R_bound (Kd.R_types h hb (by intro q hq; simp [Kd.int, Kd.scalar] at hq; rw [hq]; decide))) (fun k hk => ⟨hk.1.1, hk.1.2, hk.2.1, hk.2.2.1⟩)
namespace IsW
variable {W W' : World} {B g : Nat} {ok ok' : Nat → Prop} {xs : List Int}
theorem lt (h : IsW W B ok g xs) : g < W.heap.size := by obtain ⟨v, hb, _⟩ := h; exact hb.lt
theorem base (h : IsW W B ok g xs) : B ≤ g := by obtain ⟨v, _, h, _⟩ := h; exact h
theorem mono (h : IsW W B ok g xs) (hk : ∀ k, ok k → B ≤ k → k < W.heap.size → ok' k) : IsW W B ok' g xs := by
  obtain ⟨v, hb, hg, hr⟩ := h
  exact ⟨v, hb, hg, Kd.R_mono (row_ok hr hb) (fun k h => hk k h.1 h.2.2.1 h.2.2.2)⟩
theorem fr {S : Nat → Prop} (h : IsW W B ok g xs) (hf : Fr W W' S) (hg : ¬ S g) (hk : ∀ k, ok k → B ≤ k → k < W.heap.size → ¬ S k) : IsW W' B ok g xs := by
  obtain ⟨v, hb, hB, hr⟩ := h
  exact ⟨v, hf.boxed hb hg, hB, Kd.R_mono (hf.row (row_ok hr hb) (fun k h _ => hk k h.1 h.2.2.1 h.2.2.2)) (fun k h => h.1)⟩
theorem below (h : IsW W B ok g xs) (hb : Below W.heap.size W W') : IsW W' B ok g xs := h.fr (Fr.of_below hb (fun _ => False)) (fun h => h) (fun _ _ _ _ h => h)
/-- a writer that has just been made -/
theorem new (W : World) (B : Nat) (hB : B ≤ W.heap.size) : IsW (W.alloc (.cells #[.slice none 0 0] 51)) B (fun _ => False) W.heap.size [] := ⟨_, Boxed.new W _ _, hB, Kd.R_nil _ _ _ _ _⟩
end IsW
set_option maxRecDepth 100000 in
set_option maxHeartbeats 2000000 in
theorem Bytes {w : World} {B g c : Nat} {ok : Nat → Prop} {xs ys : List Int} {A : Option Addr} (hW : IsW w B ok g xs) (hB : B ≤ w.heap.size) (hC : Kd.C (Kd.int .u8) w A ys.length ys) (hl : xs.length + ys.length ≤ 140737488355328) :
    Calls Tryd.prog 19 #[.pointer (some ⟨g, 0, none⟩), .slice A ys.length c] w fun e w' => e = .returned (.tuple #[]) ∧ IsW w' B (fun k => ok k ∨ w.heap.size ≤ k) g (xs ++ ys) ∧ Fr w w' (fun k => k = g ∨ ok k) := by
  obtain ⟨v, hb, hBg, hr⟩ := hW
  have hr1 := Aside0.mk (Kd.R_mono (row_ok hr hb) (ok' := fun k => (ok k ∧ k ≠ g) ∨ w.heap.size ≤ k) (fun k h => .inl ⟨h.1, h.2.1⟩))
  have hrr := Aside0.mk hr
  have hcell := hb.cell
  have hbb := Aside0.mk hb
  obtain ⟨m, hm⟩ : ∃ m, m = ys.length := ⟨_, rfl⟩
  have hmm := Aside0.mk hm
  have hCC := Aside0.mk hC
  have hLL := Aside0.mk hl
  rw [← hm]
  clear hr hb hm hC hl
  go_enter Tryd.func19, Tryd.ntmps19
  go_wp2_with (at_builtin; go_must (refine Kd.R_append_row (w0 := w) (Value.int .u8) 0 (h1 := fun _ => rfl) B rfl _ _ 22 5 (.int .u8 0) 1 rfl Tryd.underlying22 infoB rfl (by decide) v xs ys A m c _ rfl rfl ?hfresh hr1.out ?hC ?hB hB ?hl ?_); (case hfresh => exact (fun k hk => .inr hk)); (case hC => rw [hmm.out]; exact hCC.out); (case hB => exact Below.refl _ _); (case hl => have := hLL.out; have := hmm.out; omega); intro v1 w1 ho hbl hg hat; have hb1 := (hbb.out.kept hg (row_ne hrr.out hbb.out)); have hc1 := hb1.cell; have hf1 := hb1.frozen; obtain ⟨A1, c1, rfl⟩ := Kd.R_slice ho)
  go_end0
  refine ⟨rfl, ⟨_, hb1.set _, hBg, ?_⟩, ?_⟩
  · have ho2 := ho
    rw [List.length_append] at ho2
    refine Kd.R_mono (Kd.R_set ho2 hb1 (by intro q hq; simp [Kd.int, Kd.scalar] at hq; rw [hq]; decide) 0 _) ?_
    rintro k (h | h)
    · exact .inl h.1
    · exact .inr h
  · refine (Fr.of_grown hg (fun k hk _ => ?_)).setCell (p := ⟨g, 0, none⟩) (fun _ => .inl rfl) _
    rcases hrr.out.1 k hk with h
    exact .inr h
/-- a slice literal of bytes -/
theorem C_lit (w : World) (xs : List Int) (t : TypeId) {fr : Nat × Nat} (hl : xs.length ≤ 1000) : Kd.C (Kd.int .u8) (w.alloc (.cells (xs.map (Value.int .u8)).toArray t fr)) (some ⟨w.heap.size, 0, none⟩) xs.length xs := by
  refine Kd.C_of_reads (d := (0 : Int)) (h1 := fun _ => rfl) ⟨rfl, by omega, fun hn => ⟨_, rfl, fun j hj => ?_⟩⟩
  rw [add_plain]
  have hh := World.alloc_heap_new w (.cells (xs.map (Value.int .u8)).toArray t fr)
  simp only [World.cell?, hh]
  simp [hj, List.getD_eq_getElem?_getD]
theorem IsW.lit {w : World} {B g : Nat} {ok : Nat → Prop} {xs : List Int} (h : IsW w B ok g xs) (o : Obj) : IsW (w.alloc o) B ok g xs := h.below (below_alloc (Below.refl _ _) o)
/-- what a call in the world behind a literal says of the world ahead of it -/
theorem up {w w' : World} {B g : Nat} {ok : Nat → Prop} {xs : List Int} {o : Obj} (h : IsW w' B (fun k => ok k ∨ (w.alloc o).heap.size ≤ k) g xs) : IsW w' B (fun k => ok k ∨ w.heap.size ≤ k) g xs :=
  h.mono (fun k hk _ _ => hk.imp id (fun h => by simp at h; omega))
theorem upF {w w' : World} {S : Nat → Prop} {o : Obj} (h : Fr (w.alloc o) w' S) : Fr w w' S := ((Fr.refl w S).alloc o).trans h (fun _ _ h => h)
set_option maxHeartbeats 2000000 in
theorem Byte {w : World} {B g : Nat} {ok : Nat → Prop} {xs : List Int} (x : Int) (hW : IsW w B ok g xs) (hB : B ≤ w.heap.size) (hl : xs.length + 1 ≤ 140737488355328) :
    Calls Tryd.prog 20 #[.pointer (some ⟨g, 0, none⟩), .int .u8 x] w fun e w' => e = .returned (.tuple #[]) ∧ IsW w' B (fun k => ok k ∨ w.heap.size ≤ k) g (xs ++ [x]) ∧ Fr w w' (fun k => k = g ∨ ok k) := by
  have h1 := Aside0.mk hW
  have h2 := Aside0.mk hl
  clear hW hl
  go_enter Tryd.func20, Tryd.ntmps20
  go_wp2_with (go_at_call 19; go_must (refine (Bytes (c := 1) (ys := [x]) (h1.out.lit _) (by simp; omega) (C_lit w [x] _ (by simp)) (by have := h2.out; simp; omega)).mono ?_); rintro e w' ⟨rfl, hW, hF⟩)
  go_end0
  exact ⟨rfl, up hW, upF hF⟩
set_option maxHeartbeats 2000000 in
theorem Cell {w : World} {B g : Nat} {ok : Nat → Prop} {xs : List Int} (x : Int) (hx0 : 0 ≤ x) (hx1 : x ≤ 65535) (hW : IsW w B ok g xs) (hB : B ≤ w.heap.size) (hl : xs.length + 2 ≤ 140737488355328) :
    Calls Tryd.prog 21 #[.pointer (some ⟨g, 0, none⟩), .int .u16 x] w fun e w' => e = .returned (.tuple #[]) ∧ IsW w' B (fun k => ok k ∨ w.heap.size ≤ k) g (xs ++ [x % 256, x / 256]) ∧ Fr w w' (fun k => k = g ∨ ok k) := by
  have h1 := Aside0.mk hW
  have h2 := Aside0.mk hl
  clear hW hl
  go_enter Tryd.func21, Tryd.ntmps21
  go_wp2_with (go_at_call 19; go_must (refine (Bytes (c := 2) (ys := [x % 256, x / 256]) (h1.out.lit _) (by simp; omega) (C_lit w [x % 256, x / 256] _ (by simp)) (by have := h2.out; simp; omega)).mono ?_); rintro e w' ⟨rfl, hW, hF⟩)
  go_end0
  exact ⟨rfl, up hW, upF hF⟩
/-- two calls, one behind the other -/
theorem chain {w w1 w2 : World} {B g : Nat} {ok : Nat → Prop} {xs : List Int} (hs : w.heap.size ≤ w1.heap.size) (h : IsW w2 B (fun k => (ok k ∨ w.heap.size ≤ k) ∨ w1.heap.size ≤ k) g xs) : IsW w2 B (fun k => ok k ∨ w.heap.size ≤ k) g xs :=
  h.mono (fun k hk _ _ => by rcases hk with h | h
                             · exact h
                             · exact .inr (Nat.le_trans hs h))
theorem chainF {w w1 w2 : World} {g : Nat} {ok : Nat → Prop} (h1 : Fr w w1 (fun k => k = g ∨ ok k)) (h2 : Fr w1 w2 (fun k => k = g ∨ (ok k ∨ w.heap.size ≤ k))) : Fr w w2 (fun k => k = g ∨ ok k) :=
  h1.trans h2 (fun k hk h => by rcases h with h | h | h
                                · exact .inl h
                                · exact .inr h
                                · omega)
set_option maxHeartbeats 2000000 in
theorem Word {w : World} {B g : Nat} {ok : Nat → Prop} {xs : List Int} (x : Int) (hx0 : 0 ≤ x) (hx1 : x ≤ 4294967295) (hW : IsW w B ok g xs) (hB : B ≤ w.heap.size) (hl : xs.length + 4 ≤ 140737488355328) :
    Calls Tryd.prog 22 #[.pointer (some ⟨g, 0, none⟩), .int .u32 x] w fun e w' => e = .returned (.tuple #[]) ∧ IsW w' B (fun k => ok k ∨ w.heap.size ≤ k) g (xs ++ [x % 65536 % 256, x % 65536 / 256, x / 65536 % 256, x / 65536 / 256]) ∧ Fr w w' (fun k => k = g ∨ ok k) := by
  have h1 := Aside0.mk hW
  have h2 := Aside0.mk hl
  clear hW hl
  go_enter Tryd.func22, Tryd.ntmps22
  go_wp2_with (go_at_call 21; refine (Cell (x % 65536) (by omega) (by omega) h1.out hB (by have := h2.out; omega)).mono ?_; rintro e w1 ⟨rfl, hW1, hF1⟩; have h3 := Aside0.mk hW1; have h4 := Aside0.mk hF1; have hs1 := hF1.size; have hB1 := Nat.le_trans hB hs1; clear hW1 hF1 h1)
  go_wp2_with (go_at_call 21; go_must (refine (Cell (x / 65536) (by omega) (by omega) h3.out hB1 (by have := h2.out; simp; omega)).mono ?_); rintro e w2 ⟨rfl, hW2, hF2⟩)
  go_end0
  refine ⟨rfl, ?_, chainF h4.out hF2⟩
  have h5 := chain hs1 hW2
  simpa using h5
/-- a number's form: seven bits a byte -/
def vl : Nat → Int → List Int
  | 0, x => [x % 256]
  | k + 1, x => if x ≥ 128 then Go.bits .or .u8 (x % 256) 128 :: vl k (x / 128) else [x % 256]
theorem vl_len : ∀ k x, (vl k x).length ≤ k + 1
  | 0, x => by simp [vl]
  | k + 1, x => by
    have := vl_len k (x / 128)
    simp only [vl]; split <;> simp <;> omega
def numOf (n : Int) : List Int := vl 4 (n % 4294967296)
theorem pow_step (k : Nat) (x : Int) (h0 : 0 ≤ x) (h : x < 16 * (128 : Int) ^ (k + 1)) : x / 128 < 16 * (128 : Int) ^ k := by
  have e : (128 : Int) ^ (k + 1) = 128 * 128 ^ k := by rw [Int.pow_succ, Int.mul_comm]
  rw [e] at h
  omega
/-- slices.Clone of bytes -/
theorem CloneX {w : World} {A : Option Addr} {c : Nat} {xs : List Int} (hC : Kd.C (Kd.int .u8) w A xs.length xs) (hl : xs.length ≤ 140737488355328) :
    Calls Tryd.prog 41 #[.slice A xs.length c] w fun e w' => ∃ v, e = .returned v ∧ Kd.R (Kd.int .u8) 5 w' w.heap.size (fun _ => True) v xs ∧ Below w.heap.size w w' := by
  obtain ⟨i0, hi, hz0, hz1, hz2⟩ := info_parts infoB
  have q22 : ∀ (w : World) (a : Option Addr) (n c n' c' : Nat), (binOp .eql 22 (.slice a n c) (.slice none n' c')).run Tryd.prog w = .ok (.bool a.isNone) w := fun w a n c n' c' => Go.Lib.run_eql_slice_nil w _ _ a n c n' c' Tryd.underlying22
  obtain ⟨n, hn⟩ : ∃ n, n = xs.length := ⟨_, rfl⟩
  have hCC := Aside0.mk hC
  have hN := Aside0.mk hn
  have hSZ := Aside0.mk hl
  rw [← hn]
  clear hC hn hl
  cases A with
  | none =>
    go_enter Tryd.func41, Tryd.ntmps41
    go_wp2
    go_ret
    have hr0 := hCC.out
    have : xs = [] := by
      cases xs with
      | nil => rfl
      | cons x t => obtain ⟨ad, e, _⟩ := Kd.at_int hr0 0 (by omega) (by simp); cases e
    subst this
    exact ⟨_, rfl, Kd.R_nil _ _ _ _ _, Below.refl _ _⟩
  | some a =>
    go_enter Tryd.func41, Tryd.ntmps41
    go_wp2_with (at_builtin; refine wpList_append_own _ rfl _ _ 22 rfl w.heap.size 5 i0 (.int .u8 0) 1 1 Tryd.underlying22 hi hz0 hz1 hz2 rfl (by decide) _ _ _ rfl (World.ownsRow_made w #[] 0 (Nat.le_refl _) (Nat.zero_le _) rfl) a n _ (xs.map (Value.int .u8)) rfl ?qc1 ?qc2 ?qc3 ?qc4 ?qc5 ?qc6 ?_)
    case qc1 => simp [hN.out]
    case qc2 =>
      intro j u hj
      have hjn : j < xs.length := by
        have := (List.getElem?_eq_some_iff.1 hj).1
        simpa using this
      refine Go.Lib.cell?_alloc_some _ ?_
      obtain ⟨ad, e, hx⟩ := Kd.at_int hCC.out j (by omega) (by omega)
      cases e
      rw [Int.toNat_natCast] at hx
      rw [hx]
      have e : (xs.map (Value.int .u8))[j]? = some (Value.int .u8 (rd xs j)) := by simp [rd, List.getD, List.getElem?_eq_getElem hjn]
      rw [e] at hj
      exact hj
    case qc3 => intro u hu; obtain ⟨x, _, rfl⟩ := List.mem_map.1 hu; rfl
    case qc4 => have := hSZ.out; have := hN.out; unfold maxLen; omega
    case qc5 => have := hSZ.out; have := hN.out; omega
    case qc6 => simp
    intro v' w1 hown hgrow hnil
    go_wp2
    go_ret
    have hNo := hN.out
    subst hNo
    refine ⟨v', rfl, Kd.R_of_own (h1 := fun _ => rfl) (ok := fun _ => True) (by have h2 := hown; (try simp at h2); exact h2) (fun _ _ => trivial), ?_⟩
    exact ((Below.refl _ w).alloc (Nat.le_refl _) _).grown hgrow (by simp) (by intro k hk; simp [Value.ownBlock] at hk; omega)
theorem Clone {w : World} {A : Option Addr} {c : Nat} {xs : List Int} (hC : Kd.C (Kd.int .u8) w A xs.length xs) (hl : xs.length ≤ 140737488351232) :
    Calls Tryd.prog 41 #[.slice A xs.length c] w fun e w' => ∃ v, e = .returned v ∧ Kd.R (Kd.int .u8) 5 w' w.heap.size (fun _ => True) v xs ∧ Below w.heap.size w w' := CloneX hC (by omega)
set_option maxHeartbeats 1000000 in
theorem DoneX {w : World} {B g : Nat} {ok : Nat → Prop} {xs : List Int} (hW : IsW w B ok g xs) (hl : xs.length ≤ 140737488355328) :
    Calls Tryd.prog 23 #[.pointer (some ⟨g, 0, none⟩)] w fun e w' => ∃ v, e = .returned v ∧ Kd.R (Kd.int .u8) 5 w' w.heap.size (fun _ => True) v xs ∧ Below w.heap.size w w' := by
  obtain ⟨v, hb, hBg, hr⟩ := hW
  obtain ⟨A, c, rfl, hcl, hC⟩ := Kd.R_reads hr
  have hcell := hb.cell
  have hCC := Aside0.mk hC
  have hLL := Aside0.mk hl
  clear hr hb hC hl hcl
  go_enter Tryd.func23, Tryd.ntmps23
  go_wp2_with (go_at_call 41; go_must (with_reducible refine (CloneX hCC.out hLL.out).mono ?_); rintro e w1 ⟨u, rfl, hR, hb⟩)
  go_ret
  exact ⟨u, rfl, hR, hb⟩
theorem Done {w : World} {B g : Nat} {ok : Nat → Prop} {xs : List Int} (hW : IsW w B ok g xs) (hl : xs.length ≤ 140737488351232) :
    Calls Tryd.prog 23 #[.pointer (some ⟨g, 0, none⟩)] w fun e w' => ∃ v, e = .returned v ∧ Kd.R (Kd.int .u8) 5 w' w.heap.size (fun _ => True) v xs ∧ Below w.heap.size w w' := DoneX hW (by omega)
end Go.Proofs.YtembdahclmffjaaDoor.Pk
/- The reader of package pack: a variable in memory that holds what is left of a row, and an error; what its methods do to it. -/
namespace Go.Proofs.YtembdahclmffjaaDoor.Pk
open Go.RowKit Go.Proofs.YtembdahclmffjaaDoorW.PrintWords Go.Proofs.YtembdahclmffjaaDoorW.PrintLast Go.Proofs.YtembdahclmffjaaDoorW.PrintMore Go.Proofs.YtembdahclmffjaaDoor.Mem
set_option linter.unusedVariables false
set_option linter.unusedSimpArgs false
/-- a block of two cells -/
def Box2 (W : World) (g : Nat) (t : TypeId) (a b : Value) : Prop := W.heap[g]? = some (.cells #[a, b] t (0, 0))
namespace Box2
variable {W W' : World} {g : Nat} {t : TypeId} {a b : Value}
theorem lt (h : Box2 W g t a b) : g < W.heap.size := (Array.getElem?_eq_some_iff.1 h).1
theorem cell0 (h : Box2 W g t a b) : W.cell? ⟨g, 0, none⟩ = some a := by simp [World.cell?, show W.heap[g]? = _ from h]
theorem cell1 (h : Box2 W g t a b) : W.cell? ⟨g, 1, none⟩ = some b := by simp [World.cell?, show W.heap[g]? = _ from h]
theorem frozen (h : Box2 W g t a b) (o : Nat) : W.frozen? ⟨g, o, none⟩ = false := by simp [World.frozen?, show W.heap[g]? = _ from h]
theorem set0 (h : Box2 W g t a b) (v : Value) : Box2 (W.setCell ⟨g, 0, none⟩ v) g t v b := by
  obtain ⟨hlt, hk⟩ := Array.getElem?_eq_some_iff.1 h
  show (W.heap.modify g _)[g]? = _
  rw [Array.getElem?_eq_getElem (by rw [Array.size_modify]; exact hlt), Array.getElem_modify_self, hk]
  rfl
theorem set1 (h : Box2 W g t a b) (v : Value) : Box2 (W.setCell ⟨g, 1, none⟩ v) g t a v := by
  obtain ⟨hlt, hk⟩ := Array.getElem?_eq_some_iff.1 h
  show (W.heap.modify g _)[g]? = _
  rw [Array.getElem?_eq_getElem (by rw [Array.size_modify]; exact hlt), Array.getElem_modify_self, hk]
  rfl
theorem fr {S : Nat → Prop} (h : Box2 W g t a b) (hf : Fr W W' S) (hs : ¬ S g) : Box2 W' g t a b := hf.heap h hs
theorem new (W : World) (t : TypeId) (a b : Value) : Box2 (W.alloc (.cells #[a, b] t)) W.heap.size t a b := World.alloc_heap_new W _
end Box2
/-- where a row that is read lies -/
def Lies (ok : Nat → Prop) (g : Nat) (A : Option Addr) (n : Nat) : Prop := ∀ a, A = some a → 0 < n → ok a.block ∧ a.block ≠ g
/-- block g is a reader: what is left, its error -/
def IsR (W : World) (B : Nat) (ok : Nat → Prop) (g : Nat) (xs : List Int) (err : Int) : Prop :=
  ∃ A c, Box2 W g 91 (.slice A xs.length c) (.int .i64 err) ∧ B ≤ g ∧ xs.length ≤ c ∧ Kd.C (Kd.int .u8) W A xs.length xs ∧ Lies ok g A xs.length
namespace IsR
variable {W W' : World} {B g : Nat} {ok ok' : Nat → Prop} {xs : List Int} {err : Int}
theorem lt (h : IsR W B ok g xs err) : g < W.heap.size := by obtain ⟨A, c, hb, _⟩ := h; exact hb.lt
theorem base (h : IsR W B ok g xs err) : B ≤ g := by obtain ⟨A, c, _, h, _⟩ := h; exact h
theorem C_lt {k : IntKind} {A : Option Addr} {n : Nat} {ys : List Int} (h : Kd.C (Kd.int k) W A n ys) {a : Addr} (ha : A = some a) (hn : 0 < n) : a.block < W.heap.size := by
  have hr : ReadsInt W k A n ys := Kd.reads_of_C (d := (0 : Int)) h
  obtain ⟨ad, e, hc⟩ := hr.2.2 hn
  rw [ha] at e; cases e
  have := World.block_lt_of_cell? _ _ (hc 0 hn)
  rwa [show (a.add 0).block = a.block by simp [Addr.add]] at this
theorem mono (h : IsR W B ok g xs err) (hk : ∀ k, ok k → k < W.heap.size → ok' k) : IsR W B ok' g xs err := by
  obtain ⟨A, c, hb, hg, hl, hC, hL⟩ := h
  exact ⟨A, c, hb, hg, hl, hC, fun a ha hn => ⟨hk _ (hL a ha hn).1 (C_lt hC ha hn), (hL a ha hn).2⟩⟩
theorem fr {S : Nat → Prop} (h : IsR W B ok g xs err) (hf : Fr W W' S) (hg : ¬ S g) (hk : ∀ k, ok k → k < W.heap.size → ¬ S k) : IsR W' B ok g xs err := by
  obtain ⟨A, c, hb, hB, hl, hC, hL⟩ := h
  exact ⟨A, c, hb.fr hf hg, hB, hl, C_move hC (fun a ha hn => hf.block _ (C_lt hC ha hn) (hk _ (hL a ha hn).1 (C_lt hC ha hn))), hL⟩
theorem below (h : IsR W B ok g xs err) (hb : Below W.heap.size W W') : IsR W' B ok g xs err := h.fr (Fr.of_below hb (fun _ => False)) (fun h => h) (fun _ _ _ h => h)
end IsR
theorem C_none {k : IntKind} (w : World) : Kd.C (Kd.int k) w none ([] : List Int).length [] := ⟨rfl, by simp, fun h => by simp at h⟩
/-- take: what is taken, what is left, the error -/
def takeL (xs : List Int) (err n : Int) : List Int := if err = 0 ∧ 0 ≤ n ∧ n ≤ xs.length then xs.take n.toNat else []
def leftL (xs : List Int) (err n : Int) : List Int := if err = 0 ∧ 0 ≤ n ∧ n ≤ xs.length then xs.drop n.toNat else xs
def errL (xs : List Int) (err n : Int) : Int := if err = 0 ∧ ¬ (0 ≤ n ∧ n ≤ xs.length) then 30 else err
set_option maxHeartbeats 1000000 in
theorem good {w : World} {B g : Nat} {ok : Nat → Prop} {xs : List Int} {err : Int} (hR : IsR w B ok g xs err) :
    Calls Tryd.prog 51 #[.pointer (some ⟨g, 0, none⟩)] w fun e w' => e = .returned (.bool (err == 0)) ∧ w = w' := by
  obtain ⟨A, c, hb, _⟩ := hR
  have h1 := hb.cell1
  clear hb
  go_enter Tryd.func51, Tryd.ntmps51
  go_wp2
  all_goals go_ret
  all_goals exact ⟨rfl, rfl⟩
/-- the error is written -/
theorem IsR.fail {w : World} {B g : Nat} {ok : Nat → Prop} {xs : List Int} {err : Int} (h : IsR w B ok g xs err) (e : Int) : IsR (w.setCell ⟨g, 1, none⟩ (.int .i64 e)) B ok g xs e ∧ Fr w (w.setCell ⟨g, 1, none⟩ (.int .i64 e)) (fun k => k = g) := by
  obtain ⟨A, c, hb, hB, hl, hC, hL⟩ := h
  have hF : Fr w (w.setCell ⟨g, 1, none⟩ (.int .i64 e)) (fun q => q = g) := (Fr.refl w (fun q => q = g)).setCell (p := ⟨g, 1, none⟩) (fun _ => rfl) _
  exact ⟨⟨A, c, hb.set1 _, hB, hl, C_move hC (fun a ha hn => hF.block _ (C_lt hC ha hn) (hL a ha hn).2), hL⟩, hF⟩
theorem take_bad {w : World} {B g : Nat} {ok : Nat → Prop} {xs : List Int} {n : Int} (h : IsR w B ok g xs 0) (hc : ¬ ((0 : Int) = 0 ∧ 0 ≤ n ∧ n ≤ xs.length)) :
    ∃ A c, Ending.returned (Value.slice none 0 0) = .returned (.slice A (takeL xs 0 n).length c) ∧ Kd.C (Kd.int .u8) (w.setCell ⟨g, 1, none⟩ (.int .i64 30)) A (takeL xs 0 n).length (takeL xs 0 n) ∧ IsR (w.setCell ⟨g, 1, none⟩ (.int .i64 30)) B ok g (leftL xs 0 n) (errL xs 0 n) ∧ Fr w (w.setCell ⟨g, 1, none⟩ (.int .i64 30)) (fun k => k = g) := by
  have t1 : takeL xs 0 n = [] := if_neg hc
  have t2 : leftL xs 0 n = xs := if_neg hc
  have t3 : errL xs 0 n = 30 := if_pos ⟨rfl, fun h => hc ⟨rfl, h⟩⟩
  rw [t1, t2, t3]
  obtain ⟨h1, h2⟩ := h.fail 30
  exact ⟨none, 0, rfl, C_none _, h1, h2⟩
set_option maxRecDepth 100000 in
set_option maxHeartbeats 2000000 in
theorem take {w : World} {B g : Nat} {ok : Nat → Prop} {xs : List Int} {err : Int} (n : Int) (hR : IsR w B ok g xs err) :
    Calls Tryd.prog 50 #[.pointer (some ⟨g, 0, none⟩), .int .i64 n] w fun e w' => ∃ A c, e = .returned (.slice A (takeL xs err n).length c) ∧ Kd.C (Kd.int .u8) w' A (takeL xs err n).length (takeL xs err n) ∧ IsR w' B ok g (leftL xs err n) (errL xs err n) ∧ Fr w w' (fun k => k = g) := by
  obtain ⟨A, c, hb, hB, hl, hC, hL⟩ := id hR
  obtain ⟨m, hm⟩ : ∃ m, m = xs.length := ⟨_, rfl⟩
  have hmm := Aside0.mk hm
  have h0 := hb.cell0
  have h1 := hb.cell1
  have f0 := hb.frozen 0
  have f1 := hb.frozen 1
  have hbb := Aside0.mk hb
  have hRR := Aside0.mk hR
  have hCC := Aside0.mk hC
  have hLL := Aside0.mk hL
  have hll := Aside0.mk hl
  rw [← hm] at h0
  clear hb hR hC hL hm hl
  obtain ⟨i0, hi, _, hz1, _⟩ := info_parts infoB
  by_cases he : err = 0
  · subst he
    by_cases hn0 : 0 ≤ n
    · obtain ⟨k, rfl⟩ := Int.eq_ofNat_of_zero_le hn0
      by_cases hn1 : k ≤ m
      · have d0 : decide ((k : Int) < 0) = false := decide_eq_false (by omega)
        have d1 : decide ((k : Int) > (m : Int)) = false := decide_eq_false (by omega)
        have hs1 : ∀ W : World, (Instr.slice 22 (.slice A m c) (some (.int .i64 (k : Int))) none none).run Tryd.prog W = .ok (.slice (if c = k then A else A.map (·.add k)) (m - k) (c - k)) W := fun W => by
          have := cut_from (P := Tryd.prog) 22 5 .i64 Tryd.underlying22 hi 1 hz1 A m c k (by omega) (by omega) W
          rw [Int.toNat_natCast] at this
          simpa using this
        have hs2 : ∀ W : World, (Instr.slice 22 (.slice A m c) none (some (.int .i64 (k : Int))) none).run Tryd.prog W = .ok (.slice A k c) W := fun W => by
          have := cut_to (P := Tryd.prog) 22 5 .i64 Tryd.underlying22 hi A m c k (by omega) (by omega) (by have := hll.out; have := hmm.out; omega) W
          rwa [Int.toNat_natCast] at this
        obtain ⟨A2, hA2⟩ : ∃ A2, A2 = (if c = k then A else A.map (·.add k)) := ⟨_, rfl⟩
        rw [← hA2] at hs1
        have hAA := Aside0.mk hA2
        clear hA2
        go_enter Tryd.func50, Tryd.ntmps50
        go_wp2_with (go_at_call 51; go_must (with_reducible refine (good hRR.out).mono ?_); rintro e w1 ⟨rfl, rfl⟩)
        go_ret
        have hc : (0 : Int) = 0 ∧ 0 ≤ (k : Int) ∧ (k : Int) ≤ xs.length := ⟨rfl, by omega, by have := hmm.out; omega⟩
        have t1 : takeL xs 0 k = xs.take k := (if_pos hc).trans (by rw [Int.toNat_natCast])
        have t2 : leftL xs 0 k = xs.drop k := (if_pos hc).trans (by rw [Int.toNat_natCast])
        have t3 : errL xs 0 k = 0 := if_neg (fun h => h.2 hc.2)
        have hkl : k ≤ xs.length := by have := hmm.out; omega
        rw [t1, t2, t3, List.length_take, Nat.min_eq_left hkl]
        have hF : Fr w (w.setCell ⟨g, 0, none⟩ (.slice A2 (m - k) (c - k))) (fun q => q = g) := (Fr.refl w (fun q => q = g)).setCell (p := ⟨g, 0, none⟩) (fun _ => rfl) _
        have hCm : ∀ {A' : Option Addr} {ys : List Int}, Kd.C (Kd.int .u8) w A' ys.length ys → Lies ok g A' ys.length → Kd.C (Kd.int .u8) (w.setCell ⟨g, 0, none⟩ (.slice A2 (m - k) (c - k))) A' ys.length ys := fun h hL' =>
          C_move h (fun a ha hn => hF.block _ (IsR.C_lt h ha hn) (hL' a ha hn).2)
        have hL1 : Lies ok g A (xs.take k).length := fun a ha hn => hLL.out a ha (by rw [List.length_take] at hn; omega)
        have hL2 : Lies ok g A2 (xs.drop k).length := fun a ha hn => by
          have hx : 0 < xs.length := by rw [List.length_drop] at hn; omega
          rw [hAA.out] at ha
          split at ha
          · exact hLL.out a ha hx
          · obtain ⟨a0, h0, rfl⟩ := Option.map_eq_some_iff.1 ha
            rw [show (a0.add k).block = a0.block by unfold Addr.add; split <;> rfl]
            exact hLL.out a0 h0 hx
        have hC1 : Kd.C (Kd.int .u8) w A (xs.take k).length (xs.take k) := by
          have hr : ReadsInt w .u8 A xs.length xs := Kd.reads_of_C (d := (0 : Int)) hCC.out
          have h2 := hr.take_ k hkl
          rw [List.length_take, Nat.min_eq_left hkl]
          exact Kd.C_of_reads (d := (0 : Int)) (h1 := fun _ => rfl) h2
        have hC2 : Kd.C (Kd.int .u8) w A2 (xs.drop k).length (xs.drop k) := by
          have h3 := Kd.C_drop hCC.out hkl hll.out
          simp only [show (Kd.int .u8).sz = 1 from rfl, Nat.mul_one] at h3
          rw [hAA.out]; exact h3
        have h1' := hCm hC1 hL1
        rw [List.length_take, Nat.min_eq_left hkl] at h1'
        refine ⟨A, c, rfl, h1', ⟨A2, c - k, ?_, hB, ?_, hCm hC2 hL2, hL2⟩, hF⟩
        · have hb2 := hbb.out.set0 (.slice A2 (m - k) (c - k))
          rw [List.length_drop, ← hmm.out]; exact hb2
        · rw [List.length_drop]; have := hll.out; omega
      · have d0 : decide ((k : Int) < 0) = false := decide_eq_false (by omega)
        have d1 : decide ((k : Int) > (m : Int)) = true := decide_eq_true (by omega)
        go_enter Tryd.func50, Tryd.ntmps50
        go_wp2_with (go_at_call 51; go_must (with_reducible refine (good hRR.out).mono ?_); rintro e w1 ⟨rfl, rfl⟩)
        go_ret
        have hc : ¬ ((0 : Int) = 0 ∧ 0 ≤ (k : Int) ∧ (k : Int) ≤ xs.length) := fun h => by have := hmm.out; omega
        exact take_bad hRR.out hc
    · have d0 : decide (n < 0) = true := decide_eq_true (by omega)
      go_enter Tryd.func50, Tryd.ntmps50
      go_wp2_with (go_at_call 51; go_must (with_reducible refine (good hRR.out).mono ?_); rintro e w1 ⟨rfl, rfl⟩)
      go_ret
      have hc : ¬ ((0 : Int) = 0 ∧ 0 ≤ n ∧ n ≤ xs.length) := fun h => by omega
      exact take_bad hRR.out hc
  · have e0 : (err == 0) = false := beq_eq_false_iff_ne.2 he
    have hee := Aside0.mk he
    clear he
    go_enter Tryd.func50, Tryd.ntmps50
    go_wp2_with (go_at_call 51; go_must (with_reducible refine (good hRR.out).mono ?_); rintro e w1 ⟨rfl, rfl⟩; rw [e0])
    go_ret
    have t1 : takeL xs err n = [] := if_neg (fun h => hee.out h.1)
    have t2 : leftL xs err n = xs := if_neg (fun h => hee.out h.1)
    have t3 : errL xs err n = err := if_neg (fun h => hee.out h.1)
    rw [t1, t2, t3]
    exact ⟨none, 0, rfl, C_none _, hRR.out, Fr.refl _ _⟩
/-- the number of bytes, the lowest first, as the program reckons it -/
def orL : Nat → List Int → Int → Int
  | _, [], x => x
  | i, b :: l, x => orL (i + 1) l (Go.bits .or .u32 x (b % 4294967296 * 2 ^ (8 * i) % 4294967296))
set_option maxRecDepth 100000 in
set_option maxHeartbeats 2000000 in
theorem value {w : World} {B g : Nat} {ok : Nat → Prop} {xs : List Int} {err : Int} (n : Int) (hn : n ≤ 4) (hR : IsR w B ok g xs err) :
    Calls Tryd.prog 45 #[.pointer (some ⟨g, 0, none⟩), .int .i64 n] w fun e w' => e = .returned (.int .u32 (orL 0 (takeL xs err n) 0)) ∧ IsR w' B ok g (leftL xs err n) (errL xs err n) ∧ Fr w w' (fun k => k = g) := by
  have hRR := Aside0.mk hR
  clear hR
  have hlen : (takeL xs err n).length ≤ 4 := by unfold takeL; split <;> simp <;> omega
  have hL := Aside0.mk hlen
  clear hlen
  go_enter Tryd.func45, Tryd.ntmps45
  go_wp2_with (go_at_call 50; go_must (with_reducible refine (take n hRR.out).mono ?_); rintro e w1 ⟨A, c, rfl, hC, hR1, hF1⟩; have hC1 := Aside0.mk hC; have hR2 := Aside0.mk hR1; have hF2 := Aside0.mk hF1; clear hC hR1 hF1)
  obtain ⟨m, hm⟩ : ∃ m, m = (takeL xs err n).length := ⟨_, rfl⟩
  have hmm := Aside0.mk hm
  rw [← hm]
  clear hm
  go_loopg [5, 12] m (fun gk v5 v12 wr => ∃ (i : Nat) (x : Int), v5 = .int .u32 x ∧ v12 = .int .i64 (i : Int) ∧ i + gk = m ∧ wr = w1 ∧ Aside0 (orL i ((takeL xs err n).drop i) x = orL 0 (takeL xs err n) 0))
  case atStart => exact ⟨0, 0, rfl, rfl, by omega, rfl, ⟨rfl⟩⟩
  case round =>
    obtain ⟨i, x, rfl, rfl, hi, rfl, hx⟩ := hrel
    cases gk with
    | zero =>
      have hd : decide ((i : Int) < (m : Int)) = false := decide_eq_false (by omega)
      go_wp2
      go_ret
      have h1 := hx.out
      rw [List.drop_of_length_le (by have := hmm.out; omega)] at h1
      refine ⟨?_, hR2.out, hF2.out⟩
      rw [← h1]; rfl
    | succ k1 =>
      have hd : decide ((i : Int) < (m : Int)) = true := decide_eq_true (by omega)
      have hm4 : m ≤ 4 := by have := hL.out; have := hmm.out; omega
      obtain ⟨a0, e0, hx0⟩ := Kd.at_int hC1.out (i : Int) (by omega) (by have := hmm.out; omega)
      subst e0
      rw [Int.toNat_natCast] at hx0
      generalize hbv : rd (takeL xs err n) (i : Int) = bv at hx0
      have hbb := Aside0.mk hbv
      clear hbv
      go_wp2
      go_roundg k1
      case measure => omega
      case rel =>
        refine ⟨i + 1, Go.bits .or .u32 x (bv % 4294967296 * 2 ^ (8 * i) % 4294967296), rfl, rfl, by omega, rfl, ⟨?_⟩⟩
        rw [← hx.out]
        have hlt : i < (takeL xs err n).length := by have := hmm.out; omega
        rw [List.drop_eq_getElem_cons hlt]
        have e : (takeL xs err n)[i] = bv := by
          rw [← hbb.out]; unfold rd
          rw [Int.toNat_natCast, List.getD_eq_getElem?_getD, List.getElem?_eq_getElem hlt]; rfl
        rw [e]; rfl
section
variable {w : World} {B g : Nat} {ok : Nat → Prop} {xs : List Int} {err : Int}
set_option maxHeartbeats 2000000 in
theorem RByte (hR : IsR w B ok g xs err) :
    Calls Tryd.prog 47 #[.pointer (some ⟨g, 0, none⟩)] w fun e w' => e = .returned (.int .u8 (orL 0 (takeL xs err 1) 0 % 256)) ∧ IsR w' B ok g (leftL xs err 1) (errL xs err 1) ∧ Fr w w' (fun k => k = g) := by
  have hRR := Aside0.mk hR
  clear hR
  go_enter Tryd.func47, Tryd.ntmps47
  go_wp2_with (go_at_call 45; go_must (with_reducible refine (value 1 (by omega) hRR.out).mono ?_); rintro e w1 ⟨rfl, hR1, hF1⟩)
  go_ret
  exact ⟨rfl, hR1, hF1⟩
set_option maxHeartbeats 2000000 in
theorem RCell (hR : IsR w B ok g xs err) :
    Calls Tryd.prog 48 #[.pointer (some ⟨g, 0, none⟩)] w fun e w' => e = .returned (.int .u16 (IntKind.u16.wrap (orL 0 (takeL xs err 2) 0))) ∧ IsR w' B ok g (leftL xs err 2) (errL xs err 2) ∧ Fr w w' (fun k => k = g) := by
  have hRR := Aside0.mk hR
  clear hR
  go_enter Tryd.func48, Tryd.ntmps48
  go_wp2_with (go_at_call 45; go_must (with_reducible refine (value 2 (by omega) hRR.out).mono ?_); rintro e w1 ⟨rfl, hR1, hF1⟩)
  go_ret
  exact ⟨rfl, hR1, hF1⟩
set_option maxHeartbeats 2000000 in
theorem RWord (hR : IsR w B ok g xs err) :
    Calls Tryd.prog 33 #[.pointer (some ⟨g, 0, none⟩)] w fun e w' => e = .returned (.int .u32 (orL 0 (takeL xs err 4) 0)) ∧ IsR w' B ok g (leftL xs err 4) (errL xs err 4) ∧ Fr w w' (fun k => k = g) := by
  have hRR := Aside0.mk hR
  clear hR
  go_enter Tryd.func33, Tryd.ntmps33
  go_wp2_with (go_at_call 45; go_must (with_reducible refine (value 4 (by omega) hRR.out).mono ?_); rintro e w1 ⟨rfl, hR1, hF1⟩)
  go_ret
  exact ⟨rfl, hR1, hF1⟩
set_option maxHeartbeats 2000000 in
/-- a row that comes back is the call's own; what it was taken of stands -/
theorem RBytes (n : Int) (hR : IsR w B ok g xs err) (hl : xs.length ≤ 140737488351232) :
    Calls Tryd.prog 46 #[.pointer (some ⟨g, 0, none⟩), .int .i64 n] w fun e w' => ∃ v, e = .returned v ∧ Kd.R (Kd.int .u8) 5 w' w.heap.size (fun _ => True) v (takeL xs err n) ∧ IsR w' B ok g (leftL xs err n) (errL xs err n) ∧ Fr w w' (fun k => k = g) := by
  have hRR := Aside0.mk hR
  clear hR
  have hlen : (takeL xs err n).length ≤ xs.length := by
    unfold takeL; split
    · rw [List.length_take]; exact Nat.min_le_right _ _
    · simp
  have hL := Aside0.mk (Nat.le_trans hlen hl)
  clear hlen hl
  go_enter Tryd.func46, Tryd.ntmps46
  go_wp2_with (first | (go_at_call 50; go_must (with_reducible refine (take n hRR.out).mono ?_); rintro e w1 ⟨A, c, rfl, hC, hR1, hF1⟩; have hC1 := Aside0.mk hC; have hR2 := Aside0.mk hR1; have hF2 := Aside0.mk hF1; clear hC hR1 hF1) | (go_at_call 41; go_must (with_reducible refine (Clone hC1.out hL.out).mono ?_); rintro e w2 ⟨u, rfl, hR3, hb⟩))
  go_ret
  refine ⟨u, rfl, Kd.R_lower hR3 hF2.out.size, hR2.out.below hb, hF2.out.trans (Fr.of_below hb (fun _ => False)) (fun _ _ h => h.elim)⟩
end
set_option maxHeartbeats 2000000 in
theorem NewReader {w : World} {A : Option Addr} {c : Nat} {xs : List Int} (hC : Kd.C (Kd.int .u8) w A xs.length xs) (hl : xs.length ≤ 140737488351232) :
    Calls Tryd.prog 32 #[.slice A xs.length c] w fun e w' => ∃ g, e = .returned (.pointer (some ⟨g, 0, none⟩)) ∧ IsR w' w.heap.size (fun k => w.heap.size ≤ k) g xs 0 ∧ Below w.heap.size w w' := by
  have hCC := Aside0.mk hC
  have hLL := Aside0.mk hl
  clear hC hl
  go_enter Tryd.func32, Tryd.ntmps32
  go_wp2_with (go_at_call 41; go_must (with_reducible refine (Clone hCC.out hLL.out).mono ?_); rintro e w1 ⟨u, rfl, hR, hb⟩; obtain ⟨A1, c1, rfl⟩ := Kd.R_slice hR; have hRR := Aside0.mk hR; have hbb := Aside0.mk hb; clear hR hb)
  go_ret
  obtain ⟨A2, c2, he, hcl, hC2⟩ := Kd.R_reads hRR.out
  injection he with h1 _ h3
  subst h1; subst h3
  have hbe : Below w1.heap.size w1 (w1.alloc (.cells #[.slice A1 xs.length c1, .int .i64 0] 91)) := below_alloc (Below.refl _ _) _
  refine ⟨_, rfl, ⟨A1, c1, Box2.new w1 _ _ _, hbb.out.size, hcl, Kd.C_below hC2 hbe, fun a ha hn => ⟨?_, ?_⟩⟩, below_alloc hbb.out _⟩
  · have := Kd.R_base hRR.out a.block (by rw [ha]; rfl)
    exact this
  · have := IsR.C_lt hC2 ha hn
    omega
end Go.Proofs.YtembdahclmffjaaDoor.Pk
/- The reader's Number, and the sum over parts: contracts. -/
namespace Go.Proofs.YtembdahclmffjaaDoor.Pk
open Go.RowKit Go.Proofs.YtembdahclmffjaaDoorW.PrintWords Go.Proofs.YtembdahclmffjaaDoorW.PrintLast Go.Proofs.YtembdahclmffjaaDoorW.PrintMore Go.Proofs.YtembdahclmffjaaDoor.Mem
set_option linter.unusedVariables false
set_option linter.unusedSimpArgs false
def orN (i : Nat) (b x : Int) : Int := Go.bits .or .i64 x (wrap64 (wrap64 (Go.bits .and .u8 b 127) * 2 ^ (7 * i)))
/-- a number: its value, the error, how many bytes are taken -/
def numR : Nat → Nat → List Int → Int → Int × Int × Nat
  | 0, _, _, _ => (0, 31, 0)
  | _ + 1, _, [], _ => (0, 30, 0)
  | k + 1, i, b :: l, x => if b ≥ 128 then numR k (i + 1) l (orN i b x) else if (b = 0 ∧ 0 < i) ∨ orN i b x / 4294967296 ≠ 0 then (0, 31, 0) else (orN i b x, 0, i + 1)
def numF (xs : List Int) (err : Int) : Int × Int × Nat := if err = 0 then numR 5 0 xs 0 else (0, err, 0)
theorem numR_step {k i : Nat} {b x Y : Int} {l : List Int} (h : orN i b x = Y) : numR (k + 1) i (b :: l) x = if b ≥ 128 then numR k (i + 1) l Y else if (b = 0 ∧ 0 < i) ∨ Y / 4294967296 ≠ 0 then (0, 31, 0) else (Y, 0, i + 1) := by
  subst h; rfl
theorem num_bad {w : World} {B g : Nat} {ok : Nat → Prop} {xs : List Int} {e : Int} (h : IsR w B ok g xs 0) (hx : (0, e, 0) = numR 5 0 xs 0) :
    Ending.returned (Value.int .i64 0) = .returned (.int .i64 (numF xs 0).1) ∧ IsR (w.setCell ⟨g, 1, none⟩ (.int .i64 e)) B ok g (xs.drop (numF xs 0).2.2) (numF xs 0).2.1 ∧ Fr w (w.setCell ⟨g, 1, none⟩ (.int .i64 e)) (fun k => k = g) := by
  have t : numF xs 0 = (0, e, 0) := (if_pos rfl).trans hx.symm
  rw [t]
  obtain ⟨h1, h2⟩ := h.fail e
  exact ⟨rfl, h1, h2⟩
theorem num_ok {w : World} {B g i m c : Nat} {ok : Nat → Prop} {xs : List Int} {a0 : Addr} {A2 : Option Addr} {Y : Int} (hb : Box2 w g 91 (.slice (some a0) xs.length c) (.int .i64 0)) (hC : Kd.C (Kd.int .u8) w (some a0) xs.length xs) (hl : xs.length ≤ c) (hL : Lies ok g (some a0) xs.length)
    (hB : B ≤ g) (hm : m = xs.length) (hi : i < m) (hA : A2 = (if c = i + 1 then some a0 else some (a0.add (i + 1)))) (hx : (Y, (0 : Int), i + 1) = numR 5 0 xs 0) :
    Ending.returned (Value.int .i64 Y) = .returned (.int .i64 (numF xs 0).1) ∧ IsR (w.setCell ⟨g, 0, none⟩ (.slice A2 (m - (i + 1)) (c - (i + 1)))) B ok g (xs.drop (numF xs 0).2.2) (numF xs 0).2.1 ∧ Fr w (w.setCell ⟨g, 0, none⟩ (.slice A2 (m - (i + 1)) (c - (i + 1)))) (fun k => k = g) := by
  have t : numF xs 0 = (Y, 0, i + 1) := (if_pos rfl).trans hx.symm
  rw [t]
  have hF : Fr w (w.setCell ⟨g, 0, none⟩ (.slice A2 (m - (i + 1)) (c - (i + 1)))) (fun q => q = g) := (Fr.refl w (fun q => q = g)).setCell (p := ⟨g, 0, none⟩) (fun _ => rfl) _
  have hkl : i + 1 ≤ xs.length := by omega
  have hC2 : Kd.C (Kd.int .u8) w A2 (xs.drop (i + 1)).length (xs.drop (i + 1)) := by
    have h3 := Kd.C_drop hC hkl hl
    simp only [show (Kd.int .u8).sz = 1 from rfl, Nat.mul_one, Option.map_some] at h3
    rw [hA]; exact h3
  have hL2 : Lies ok g A2 (xs.drop (i + 1)).length := fun a ha hn => by
    have hx : 0 < xs.length := by omega
    rw [hA] at ha
    split at ha
    · exact hL a ha hx
    · cases ha
      rw [show (a0.add (i + 1)).block = a0.block by unfold Addr.add; split <;> rfl]
      exact hL a0 rfl hx
  refine ⟨rfl, ⟨A2, c - (i + 1), ?_, hB, by show (xs.drop (i + 1)).length ≤ c - (i + 1); rw [List.length_drop]; omega, C_move hC2 (fun a ha hn => hF.block _ (IsR.C_lt hC2 ha hn) (hL2 a ha hn).2), hL2⟩, hF⟩
  have hb2 := hb.set0 (.slice A2 (m - (i + 1)) (c - (i + 1)))
  rw [List.length_drop, ← hm]; exact hb2
end Go.Proofs.YtembdahclmffjaaDoor.Pk
/- The sum over parts (pack.Sum): its contract, the table of the program as it is laid. -/
namespace Go.Proofs.YtembdahclmffjaaDoor.Pk
open Go.RowKit Go.Proofs.YtembdahclmffjaaDoorW.PrintWords Go.Proofs.YtembdahclmffjaaDoorW.PrintLast Go.Proofs.YtembdahclmffjaaDoorW.PrintMore Go.Proofs.YtembdahclmffjaaDoor.Mem
set_option linter.unusedVariables false
set_option linter.unusedSimpArgs false
def tabI : List Int := [0x00000000, 0x1DB71064, 0x3B6E20C8, 0x26D930AC, 0x76DC4190, 0x6B6B51F4, 0x4DB26158, 0x5005713C, 0xEDB88320, 0xF00F9344, 0xD6D6A3E8, 0xCB61B38C, 0x9B64C2B0, 0x86D3D2D4, 0xA00AE278, 0xBDBDF21C]
/-- the program's table lies in its variable -/
def Tab (w : World) : Prop := 0 < w.heap.size ∧ ∀ i : Nat, i < 16 → w.cell? ⟨0, i, none⟩ = some (.int .u32 (rd tabI (i : Int)))
theorem Tab.fr {w w' : World} {S : Nat → Prop} (h : Tab w) (hf : Fr w w' S) (hs : ¬ S 0) : Tab w' :=
  ⟨Nat.lt_of_lt_of_le h.1 hf.size, fun i hi => by
    have h1 := h.2 i hi
    rw [← h1]
    exact World.cell?_of_block (hf.block _ (World.block_lt_of_cell? _ _ h1) hs)⟩
theorem Tab.below {w w' : World} (h : Tab w) (hb : Below w.heap.size w w') : Tab w' := h.fr (Fr.of_below hb (fun _ => False)) (fun h => h)
def st4 (x : Int) : Int := Go.bits .xor .u32 (rd tabI (x % 16)) (x / 16)
def upI (x b : Int) : Int := st4 (st4 (Go.bits .xor .u32 x (b % 4294967296)))
def sumI (ps : List (List Int)) : Int := Go.bits .xor .u32 4294967295 (ps.flatten.foldl upI 4294967295)
theorem bits32 (op : BinOp) (a b : Int) : 0 ≤ Go.bits op .u32 a b ∧ Go.bits op .u32 a b ≤ 4294967295 := by
  unfold Go.bits
  simp only [IntKind.wrap_u32]
  omega
theorem upI_ok (x b : Int) : 0 ≤ upI x b ∧ upI x b ≤ 4294967295 := by unfold upI st4; exact bits32 _ _ _
set_option maxRecDepth 100000 in
set_option maxHeartbeats 4000000 in
theorem Sum {w : World} {A : Option Addr} {c : Nat} {ps : List (List Int)} (hT : Tab w) (hC : Kd.C (Kd.slice 5 (Kd.int .u8)) w A ps.length ps) :
    Calls Tryd.prog 18 #[.slice A ps.length c] w fun e w' => e = .returned (.int .u32 (sumI ps)) ∧ w = w' := by
  obtain ⟨n, hn⟩ : ∃ n, n = ps.length := ⟨_, rfl⟩
  have hnn := Aside0.mk hn
  have hTT := Aside0.mk hT
  have hCC := Aside0.mk hC
  rw [← hn]
  have hn63 : n ≤ 9223372036854775807 := by have := hC.2.1; omega
  clear hn hT hC
  go_enter Tryd.func18, Tryd.ntmps18
  go_wp2
  go_loopg [3, 10] n (fun gk v3 v10 wr => ∃ (i : Nat) (x : Int), v3 = .int .u32 x ∧ v10 = .int .i64 (i : Int) ∧ 0 ≤ x ∧ x ≤ 4294967295 ∧ i + gk = n ∧ wr = w ∧ Aside0 ((ps.drop i).flatten.foldl upI x = ps.flatten.foldl upI 4294967295))
  case atStart => exact ⟨0, 4294967295, rfl, rfl, by omega, by omega, by omega, rfl, ⟨rfl⟩⟩
  case round =>
    obtain ⟨i, x, rfl, rfl, hx0, hx1, hi, rfl, hx⟩ := hrel
    cases gk with
    | zero =>
      have hd : decide (i < n) = false := decide_eq_false (by omega)
      go_wp2
      go_ret
      have h1 := hx.out
      rw [List.drop_of_length_le (by have := hnn.out; omega)] at h1
      refine ⟨?_, rfl⟩
      rw [sumI, ← h1]; rfl
    | succ k1 =>
      have hd : decide (i < n) = true := decide_eq_true (by omega)
      obtain ⟨a0, cc, e0, hnil, hK, hx0c⟩ := Kd.C_get hCC.out [] (i : Int) (by omega) (by have := hnn.out; omega)
      subst e0
      obtain ⟨A1, c1, rfl, hl1, hC1⟩ := hK
      have hx1c := hx0c 0 _ rfl
      rw [Int.toNat_natCast, show (Kd.slice 5 (Kd.int .u8)).sz = 1 from rfl, Nat.mul_one, Nat.add_zero] at hx1c
      clear hx0c
      have hlt : i < ps.length := by have := hnn.out; omega
      have hX := hx.out
      rw [List.drop_eq_getElem_cons hlt, List.flatten_cons, List.foldl_append] at hX
      have hpi : ps.getD i [] = ps[i] := by rw [List.getD_eq_getElem?_getD, List.getElem?_eq_getElem hlt]; rfl
      simp only [Int.toNat_natCast] at hC1 hx1c
      rw [hpi] at hC1 hx1c
      clear hx hpi hl1 hnil
      generalize ps[i] = p at hC1 hx1c hX
      clear hlt
      have hXX := Aside0.mk hX
      clear hX
      obtain ⟨m, hm⟩ : ∃ m, m = p.length := ⟨_, rfl⟩
      have hmm := Aside0.mk hm
      have hCC1 := Aside0.mk hC1
      rw [← hm] at hx1c
      have hm63 : m ≤ 9223372036854775807 := by have := hC1.2.1; omega
      clear hm hC1
      go_wp2
      obtain ⟨wo, rfl⟩ : ∃ wo : World, wo = wr := ⟨_, rfl⟩
      go_loopg [3, 16] m (fun gj v3 v16 wq => ∃ (j : Nat) (y : Int), v3 = .int .u32 y ∧ v16 = .int .i64 (j : Int) ∧ 0 ≤ y ∧ y ≤ 4294967295 ∧ j + gj = m ∧ wq = wo ∧ Aside0 ((p.drop j).foldl upI y = p.foldl upI x))
      case atStart => exact ⟨0, x, rfl, rfl, hx0, hx1, by omega, rfl, ⟨rfl⟩⟩
      case round =>
        obtain ⟨j, y, rfl, rfl, hy0, hy1, hj, rfl, hy⟩ := hrel
        cases gk with
        | zero =>
          have hd2 : decide (j < m) = false := decide_eq_false (by omega)
          go_wp2
          go_roundg k1
          case measure => omega
          case rel =>
            refine ⟨i + 1, y, rfl, rfl, hy0, hy1, by omega, rfl, ⟨?_⟩⟩
            have h1 := hy.out
            rw [List.drop_of_length_le (by have := hmm.out; omega)] at h1
            rw [← hXX.out, ← h1]; rfl
        | succ j1 =>
          have hd2 : decide (j < m) = true := decide_eq_true (by omega)
          obtain ⟨a1, e1, hxb⟩ := Kd.at_int hCC1.out (j : Int) (by omega) (by have := hmm.out; omega)
          subst e1
          rw [Int.toNat_natCast] at hxb
          have hlt : j < p.length := by have := hmm.out; omega
          have hY := hy.out
          have hdr : p.drop j = rd p (j : Int) :: p.drop (j + 1) := by
            rw [List.drop_eq_getElem_cons hlt]
            congr 1
            unfold rd
            rw [Int.toNat_natCast, List.getD_eq_getElem?_getD, List.getElem?_eq_getElem hlt]; rfl
          rw [hdr, List.foldl_cons] at hY
          clear hy hdr hlt
          generalize rd p (j : Int) = bv at hxb hY
          obtain ⟨Z, hZ⟩ : ∃ Z, Go.bits .xor .u32 y (bv % 4294967296) = Z := ⟨_, rfl⟩
          have hzb := bits32 .xor y (bv % 4294967296)
          rw [hZ] at hzb
          have hz0 := hzb.1
          have hz1 := hzb.2
          clear hzb
          have hYY : Aside0 (List.foldl upI (st4 (st4 Z)) (p.drop (j + 1)) = p.foldl upI x) := ⟨by rw [← hZ]; exact hY⟩
          clear hY
          go_wp2
          obtain ⟨wp, rfl⟩ : ∃ wp : World, wp = wr := ⟨_, rfl⟩
          go_loopg [3, 24] 2 (fun gl v3 v24 wl => ∃ (l : Nat) (z : Int), v3 = .int .u32 z ∧ v24 = .int .i64 (l : Int) ∧ 0 ≤ z ∧ z ≤ 4294967295 ∧ l + gl = 2 ∧ wl = wp ∧ Aside0 ((match gl with | 0 => z | 1 => st4 z | _ => st4 (st4 z)) = st4 (st4 Z)))
          case atStart => exact ⟨0, Z, rfl, rfl, hz0, hz1, by omega, rfl, ⟨rfl⟩⟩
          case round =>
            obtain ⟨l, z, rfl, rfl, hq0, hq1, hl, rfl, hq⟩ := hrel
            cases gk with
            | zero =>
              have hd3 : decide ((l : Int) < 2) = false := decide_eq_false (by omega)
              go_wp2
              go_roundg j1
              case measure => omega
              case rel => exact ⟨j + 1, z, rfl, rfl, hq0, hq1, by omega, rfl, ⟨by rw [← hYY.out, show z = st4 (st4 Z) from hq.out]⟩⟩
            | succ l1 =>
              have hd3 : decide ((l : Int) < 2) = true := decide_eq_true (by omega)
              obtain ⟨q, hq16⟩ := Int.eq_ofNat_of_zero_le (show 0 ≤ z % 16 by omega)
              have hcell := hTT.out.2 q (by omega)
              obtain ⟨V, hV⟩ : ∃ V, Go.bits .xor .u32 (rd tabI (q : Int)) (z / 16) = V := ⟨_, rfl⟩
              have hVb := bits32 .xor (rd tabI (q : Int)) (z / 16)
              rw [hV] at hVb
              have hV0 := hVb.1
              have hV1 := hVb.2
              clear hVb
              have hVV : Aside0 (V = st4 z) := ⟨by rw [← hV, ← hq16]; rfl⟩
              generalize rd tabI (q : Int) = T at hcell hV
              go_wp2
              go_roundg l1
              case measure => omega
              case rel =>
                refine ⟨l + 1, V, rfl, rfl, hV0, hV1, by omega, rfl, ⟨?_⟩⟩
                rw [hVV.out, ← hq.out]
                match l1, hl with
                | 0, _ => rfl
                | 1, _ => rfl
end Go.Proofs.YtembdahclmffjaaDoor.Pk
/- The register of a CRC-32 over numbers: linear, and never 0 again once it is not: a burst of at most 32 bits changes the sum. -/
namespace Go.Proofs.YtembdahclmffjaaDoor.Crc
/-- one bit of a register -/
def stp (r : Nat) : Nat := if r % 2 = 1 then (r / 2) ^^^ 0xedb88320 else r / 2
def its : Nat → Nat → Nat
  | 0, r => r
  | n + 1, r => its n (stp r)
theorem its_add (m n r : Nat) : its (m + n) r = its n (its m r) := by
  induction m generalizing r with
  | zero => simp [its]
  | succ m ih => rw [Nat.succ_add]; exact ih (stp r)
theorem div2_xor (a b : Nat) : (a ^^^ b) / 2 = (a / 2) ^^^ (b / 2) := by
  have h := Nat.shiftRight_xor_distrib (a := a) (b := b) (i := 1)
  simpa [Nat.shiftRight_eq_div_pow] using h
theorem mod2_xor (a b : Nat) : (a ^^^ b) % 2 = (a + b) % 2 := by
  have h := Nat.testBit_xor a b 0
  simp only [Nat.testBit_zero] at h
  rcases Nat.mod_two_eq_zero_or_one a with ha | ha <;> rcases Nat.mod_two_eq_zero_or_one b with hb | hb <;> rcases Nat.mod_two_eq_zero_or_one (a ^^^ b) with hc | hc <;> simp [ha, hb, hc] at h <;> omega
theorem stp_xor (a b : Nat) : stp (a ^^^ b) = stp a ^^^ stp b := by
  unfold stp
  rw [div2_xor, mod2_xor]
  rcases Nat.mod_two_eq_zero_or_one a with ha | ha <;> rcases Nat.mod_two_eq_zero_or_one b with hb | hb
  · rw [if_neg (by omega), if_neg (by omega), if_neg (by omega)]
  · rw [if_pos (by omega), if_neg (by omega), if_pos (by omega), Nat.xor_assoc]
  · rw [if_pos (by omega), if_pos (by omega), if_neg (by omega), Nat.xor_assoc, Nat.xor_comm (b / 2), ← Nat.xor_assoc]
  · rw [if_neg (by omega), if_pos (by omega), if_pos (by omega)]
    rw [Nat.xor_assoc (a / 2), Nat.xor_comm (0xedb88320) ((b / 2) ^^^ 0xedb88320), Nat.xor_assoc (b / 2), Nat.xor_self, Nat.xor_zero]
theorem its_xor (n a b : Nat) : its n (a ^^^ b) = its n a ^^^ its n b := by
  induction n generalizing a b with
  | zero => rfl
  | succ n ih => simp only [its]; rw [stp_xor, ih]
theorem stp_lt {r : Nat} (h : r < 4294967296) : stp r < 4294967296 := by
  unfold stp
  split
  · exact Nat.xor_lt_two_pow (n := 32) (by omega) (by omega)
  · omega
theorem its_lt (n : Nat) : ∀ {r : Nat}, r < 4294967296 → its n r < 4294967296 := by
  induction n with
  | zero => intro r h; exact h
  | succ n ih => intro r h; exact ih (stp_lt h)
theorem stp_zero : stp 0 = 0 := rfl
theorem its_zero (n : Nat) : its n 0 = 0 := by induction n with
  | zero => rfl
  | succ n ih => simp only [its, stp_zero, ih]
theorem stp_even (r : Nat) : stp (2 * r) = r := by unfold stp; rw [if_neg (by omega)]; omega
/-- a register that is not 0 stays so -/
theorem stp_ne {r : Nat} (h : r < 4294967296) (h0 : r ≠ 0) : stp r ≠ 0 := by
  unfold stp
  split
  · intro e
    have h1 : r / 2 = 0xedb88320 := (by have h2 : (r / 2 ^^^ 0xedb88320) ^^^ 0xedb88320 = 0 ^^^ 0xedb88320 := by rw [e]
                                        rwa [Nat.xor_assoc, Nat.xor_self, Nat.xor_zero, Nat.zero_xor] at h2)
    omega
  · omega
theorem its_ne (n : Nat) : ∀ {r : Nat}, r < 4294967296 → r ≠ 0 → its n r ≠ 0 := by
  induction n with
  | zero => intro r _ h; exact h
  | succ n ih => intro r h h0; exact ih (stp_lt h) (stp_ne h h0)
/-- the table of the program -/
def tab : List Nat := [0x00000000, 0x1DB71064, 0x3B6E20C8, 0x26D930AC, 0x76DC4190, 0x6B6B51F4, 0x4DB26158, 0x5005713C, 0xEDB88320, 0xF00F9344, 0xD6D6A3E8, 0xCB61B38C, 0x9B64C2B0, 0x86D3D2D4, 0xA00AE278, 0xBDBDF21C]
theorem tab_ok : ∀ i < 16, its 4 i = tab.getD i 0 := by decide +kernel
theorem low_high (r : Nat) : r = (r % 16) ^^^ (16 * (r / 16)) := by
  apply Nat.eq_of_testBit_eq
  intro i
  rw [Nat.testBit_xor, show (16 : Nat) = 2 ^ 4 from rfl, Nat.testBit_mod_two_pow, Nat.testBit_two_pow_mul, Nat.testBit_div_two_pow]
  by_cases h : i < 4
  · simp [h, show ¬ 4 ≤ i by omega]
  · simp [h, show 4 ≤ i by omega, show i - 4 + 4 = i by omega]
theorem nibble (r : Nat) : its 4 r = tab.getD (r % 16) 0 ^^^ (r / 16) := by
  conv => lhs; rw [low_high r]
  rw [its_xor, tab_ok _ (by omega)]
  have : its 4 (16 * (r / 16)) = r / 16 := by
    simp only [its]
    rw [show 16 * (r / 16) = 2 * (2 * (2 * (2 * (r / 16)))) by omega, stp_even, stp_even, stp_even, stp_even]
  rw [this]
/-- a byte taken in -/
def upd (r b : Nat) : Nat := its 8 (r ^^^ b)
def reg (r : Nat) (l : List Nat) : Nat := l.foldl upd r
theorem reg_nil (r : Nat) : reg r [] = r := by unfold reg; rw [List.foldl_nil]
theorem reg_cons (r b : Nat) (l : List Nat) : reg r (b :: l) = reg (upd r b) l := by unfold reg; rw [List.foldl_cons]
theorem reg_append (r : Nat) (l m : List Nat) : reg r (l ++ m) = reg (reg r l) m := by unfold reg; rw [List.foldl_append]
theorem upd_lt {r b : Nat} (h : r < 4294967296) (hb : b < 256) : upd r b < 4294967296 := by
  have h1 : r ^^^ b < 4294967296 := Nat.xor_lt_two_pow (n := 32) h (by omega)
  unfold upd
  generalize r ^^^ b = q at h1 ⊢
  exact its_lt 8 h1
theorem reg_lt (l : List Nat) : ∀ {r : Nat}, r < 4294967296 → (∀ b ∈ l, b < 256) → reg r l < 4294967296 := by
  induction l with
  | nil => intro r h _; rw [reg_nil]; exact h
  | cons b l ih =>
    intro r h hl
    rw [reg_cons]
    have h1 := upd_lt h (hl b (by simp))
    generalize upd r b = q at h1 ⊢
    exact ih h1 (fun c hc => hl c (by simp [hc]))
/-- the sum -/
def sum (l : List Nat) : Nat := reg 0xffffffff l ^^^ 0xffffffff
theorem upd_xor (r s b c : Nat) : upd r b ^^^ upd s c = upd (r ^^^ s) (b ^^^ c) := by
  unfold upd
  rw [← its_xor]
  have e2 : (r ^^^ b) ^^^ (s ^^^ c) = (r ^^^ s) ^^^ (b ^^^ c) := by
    rw [Nat.xor_assoc, Nat.xor_assoc, ← Nat.xor_assoc b, Nat.xor_comm b s, Nat.xor_assoc s]
  rw [e2]
/-- two texts of one length: their registers part as the register of what they part in -/
theorem reg_xor (l : List Nat) : ∀ (m : List Nat) (r s : Nat), l.length = m.length → reg r l ^^^ reg s m = reg (r ^^^ s) (List.zipWith (· ^^^ ·) l m) := by
  induction l with
  | nil =>
    intro m r s h
    cases m with
    | nil => rw [List.zipWith_nil_left, reg_nil, reg_nil, reg_nil]
    | cons c m => simp at h
  | cons b l ih =>
    intro m r s h
    cases m with
    | nil => simp at h
    | cons c m => rw [List.zipWith_cons_cons, reg_cons, reg_cons, reg_cons, ih m _ _ (by simpa using h), upd_xor]
theorem upd_zero (r : Nat) : upd r 0 = its 8 r := by unfold upd; rw [Nat.xor_zero]
theorem reg_zeros (n : Nat) : ∀ r, reg r (List.replicate n 0) = its (8 * n) r := by
  induction n with
  | zero => intro r; rw [List.replicate_zero, reg_nil]; rfl
  | succ n ih => intro r; rw [List.replicate_succ, reg_cons, upd_zero, ih, Nat.mul_succ, Nat.add_comm, its_add]
/-! ### a text as one number -/
def num : List Nat → Nat
  | [] => 0
  | b :: l => b + 256 * num l
theorem add_xor {a n : Nat} (b : Nat) (h : a < 2 ^ n) : a + 2 ^ n * b = a ^^^ (2 ^ n * b) := by
  apply Nat.eq_of_testBit_eq
  intro i
  rw [Nat.add_comm, Nat.testBit_two_pow_mul_add _ h, Nat.testBit_xor, Nat.testBit_two_pow_mul]
  by_cases hi : i < n
  · simp [hi, show ¬ n ≤ i by omega]
  · simp only [hi, if_false, show n ≤ i by omega, decide_true, Bool.true_and]
    rw [Nat.testBit_lt_two_pow (Nat.lt_of_lt_of_le h (Nat.pow_le_pow_right (by omega) (by omega)))]
    simp
theorem its_shift (n : Nat) : ∀ x, its n (2 ^ n * x) = x := by
  induction n with
  | zero => intro x; rw [Nat.pow_zero, Nat.one_mul]; rfl
  | succ n ih => intro x; rw [Nat.pow_succ, Nat.mul_comm (2 ^ n) 2, Nat.mul_assoc]; show its n (stp (2 * (2 ^ n * x))) = x; rw [stp_even, ih]
theorem reg_num (l : List Nat) : ∀ r, (∀ b ∈ l, b < 256) → reg r l = its (8 * l.length) (r ^^^ num l) := by
  induction l with
  | nil => intro r _; rw [reg_nil]; show r = its 0 (r ^^^ 0); rw [Nat.xor_zero]; rfl
  | cons b l ih =>
    intro r h
    rw [reg_cons, ih _ (fun c hc => h c (by simp [hc])), List.length_cons, Nat.mul_succ, Nat.add_comm, its_add]
    have hb : b < 2 ^ 8 := h b (by simp)
    have e : its 8 (r ^^^ num (b :: l)) = upd r b ^^^ num l := by
      have e1 : num (b :: l) = b + 2 ^ 8 * num l := rfl
      have e2 := its_shift 8 (num l)
      rw [e1, add_xor _ hb, ← Nat.xor_assoc, its_xor, e2]
      unfold upd
      generalize its 8 (r ^^^ b) = q
      rfl
    rw [e]
theorem num_set (l : List Nat) : ∀ (j x : Nat), j < l.length → (∀ b ∈ l, b < 256) → x < 256 → num (l.set j (l.getD j 0 ^^^ x)) = num l ^^^ (2 ^ (8 * j) * x) := by
  induction l with
  | nil => intro j x h; simp at h
  | cons b l ih =>
    intro j x h hl hx
    have hb : b < 2 ^ 8 := hl b (by simp)
    cases j with
    | zero =>
      show (b ^^^ x) + 2 ^ 8 * num l = (b + 2 ^ 8 * num l) ^^^ (2 ^ 0 * x)
      rw [add_xor _ hb, add_xor _ (Nat.xor_lt_two_pow hb hx), Nat.pow_zero, Nat.one_mul, Nat.xor_assoc, Nat.xor_assoc, Nat.xor_comm x]
    | succ j =>
      show b + 2 ^ 8 * num (l.set j (l.getD j 0 ^^^ x)) = (b + 2 ^ 8 * num l) ^^^ (2 ^ (8 * (j + 1)) * x)
      rw [ih j x (by simpa using h) (fun c hc => hl c (by simp [hc])) hx, add_xor _ hb, add_xor _ hb, Nat.xor_assoc]
      have e : 2 ^ 8 * (num l ^^^ (2 ^ (8 * j) * x)) = (2 ^ 8 * num l) ^^^ (2 ^ (8 * (j + 1)) * x) := by
        have h2 : 2 ^ (8 * (j + 1)) * x = 2 ^ 8 * (2 ^ (8 * j) * x) := by rw [Nat.mul_succ, Nat.pow_add, Nat.mul_comm (2 ^ (8 * j)), Nat.mul_assoc]
        rw [h2]
        apply Nat.eq_of_testBit_eq
        intro i
        generalize 2 ^ (8 * j) * x = y
        rw [Nat.testBit_two_pow_mul, Nat.testBit_xor, Nat.testBit_xor, Nat.testBit_two_pow_mul, Nat.testBit_two_pow_mul]
        by_cases hi : 8 ≤ i <;> simp [hi]
      rw [e]
theorem set_lt {l : List Nat} {j x : Nat} (hl : ∀ b ∈ l, b < 256) (hx : x < 256) : ∀ b ∈ l.set j x, b < 256 := fun b hb => by
  rcases List.mem_or_eq_of_mem_set hb with h | h
  · exact hl b h
  · omega
theorem xor_ne {a b : Nat} (h : a ^^^ b ≠ 0) : a ≠ b := fun e => h (by rw [e, Nat.xor_self])
/-- two texts of one length that part in a burst of at most 32 bits have two sums -/
theorem burst {l m : List Nat} {n E : Nat} (hlen : l.length = m.length) (hl : ∀ b ∈ l, b < 256) (hm : ∀ b ∈ m, b < 256) (hn : n ≤ 8 * l.length) (hE : E < 4294967296) (h0 : E ≠ 0) (h : num m = num l ^^^ (2 ^ n * E)) : sum l ≠ sum m := by
  refine xor_ne ?_
  have e : sum l ^^^ sum m = reg 0xffffffff l ^^^ reg 0xffffffff m := by
    unfold sum
    generalize reg 0xffffffff l = a
    generalize reg 0xffffffff m = b
    rw [Nat.xor_comm b, Nat.xor_assoc, ← Nat.xor_assoc 0xffffffff, Nat.xor_self, Nat.zero_xor]
  rw [e, reg_num l _ hl, reg_num m _ hm, ← hlen, ← its_xor, h]
  have e2 : (0xffffffff ^^^ num l) ^^^ (0xffffffff ^^^ (num l ^^^ (2 ^ n * E))) = 2 ^ n * E := by
    generalize num l = a
    generalize 2 ^ n * E = b
    rw [Nat.xor_comm 0xffffffff a, Nat.xor_assoc, ← Nat.xor_assoc 0xffffffff, Nat.xor_self, Nat.zero_xor, ← Nat.xor_assoc, Nat.xor_self, Nat.zero_xor]
  rw [e2, show 8 * l.length = n + (8 * l.length - n) by omega, its_add, its_shift]
  exact its_ne _ hE h0
end Go.Proofs.YtembdahclmffjaaDoor.Crc
/- The program's sum is the CRC of the bytes as natural numbers. -/
namespace Go.Proofs.YtembdahclmffjaaDoor.Pk
open Go.RowKit Go.Proofs.YtembdahclmffjaaDoorW.PrintWords Go.Proofs.YtembdahclmffjaaDoorW.PrintLast Go.Proofs.YtembdahclmffjaaDoorW.PrintMore Go.Proofs.YtembdahclmffjaaDoor.Mem
set_option linter.unusedVariables false
set_option linter.unusedSimpArgs false
def isB (x : Int) : Prop := 0 ≤ x ∧ x < 256
def allB (l : List Int) : Prop := ∀ x ∈ l, isB x
theorem wfB {x : Int} (h : (Lit.int .u8 x).wf = true) : isB x := by
  have h2 : (decide ((0 : Int) ≤ x) && decide (x ≤ 255)) = true := h
  simp only [Bool.and_eq_true, decide_eq_true_eq] at h2
  exact ⟨h2.1, by omega⟩
theorem rdB {l : List Int} (h : allB l) (i : Int) : isB (rd l i) := by
  unfold rd
  rw [List.getD_eq_getElem?_getD]
  cases hq : l[i.toNat]? with
  | none => exact ⟨by decide, by decide⟩
  | some x => exact h x (List.mem_of_getElem? hq)
theorem xor32 (a b : Nat) (ha : a < 4294967296) (hb : b < 4294967296) : Go.bits .xor .u32 a b = ((a ^^^ b : Nat) : Int) := by
  unfold Go.bits
  rw [IntKind.wrap_u32]
  have ta : (BitVec.ofInt 32 (a : Int)).toNat = a := by simp; omega
  have tb : (BitVec.ofInt 32 (b : Int)).toNat = b := by simp; omega
  show (((BitVec.ofInt 32 (a : Int) ^^^ BitVec.ofInt 32 (b : Int)).toNat : Nat) : Int) % 4294967296 = _
  rw [BitVec.toNat_xor, ta, tb]
  have : a ^^^ b < 4294967296 := Nat.xor_lt_two_pow (n := 32) ha hb
  omega
def nat (l : List Int) : List Nat := l.map Int.toNat
theorem natB {l : List Int} (h : allB l) : ∀ b ∈ nat l, b < 256 := by
  intro b hb
  obtain ⟨x, hx, rfl⟩ := List.mem_map.1 hb
  have := h x hx
  unfold isB at this
  omega
theorem nat_len (l : List Int) : (nat l).length = l.length := by simp [nat]
theorem tabs : ∀ i : Nat, i < 16 → rd tabI (i : Int) = ((Crc.tab.getD i 0 : Nat) : Int) := by decide +kernel
theorem tab_lt : ∀ i : Nat, i < 16 → Crc.tab.getD i 0 < 4294967296 := by decide +kernel
theorem st4_nat (r : Nat) (h : r < 4294967296) : st4 (r : Int) = ((Crc.its 4 r : Nat) : Int) := by
  unfold st4
  rw [show (r : Int) % 16 = ((r % 16 : Nat) : Int) by omega, show (r : Int) / 16 = ((r / 16 : Nat) : Int) by omega, tabs _ (by omega), xor32 _ _ (tab_lt _ (by omega)) (by omega), Crc.nibble]
theorem upI_nat (r b : Nat) (h : r < 4294967296) (hb : b < 256) : upI (r : Int) (b : Int) = ((Crc.upd r b : Nat) : Int) := by
  unfold upI
  rw [show (b : Int) % 4294967296 = (b : Int) by omega, xor32 r b h (by omega)]
  have h1 : r ^^^ b < 4294967296 := Nat.xor_lt_two_pow (n := 32) h (by omega)
  have e : Crc.upd r b = Crc.its 4 (Crc.its 4 (r ^^^ b)) := by
    unfold Crc.upd
    exact Crc.its_add 4 4 _
  rw [e]
  generalize r ^^^ b = q at h1 ⊢
  rw [st4_nat q h1, st4_nat _ (Crc.its_lt 4 h1)]
theorem fold_nat (l : List Int) : ∀ (r : Nat), r < 4294967296 → allB l → l.foldl upI (r : Int) = ((Crc.reg r (nat l) : Nat) : Int) := by
  induction l with
  | nil => intro r _ _; show (r : Int) = ((Crc.reg r [] : Nat) : Int); rw [Crc.reg_nil]
  | cons x l ih =>
    intro r h hb
    have hx := hb x (by simp)
    unfold isB at hx
    obtain ⟨b, rfl⟩ := Int.eq_ofNat_of_zero_le hx.1
    have e : nat ((b : Int) :: l) = b :: nat l := by simp [nat]
    rw [List.foldl_cons, upI_nat r b h (by omega), e, Crc.reg_cons]
    exact ih _ (Crc.upd_lt h (by omega)) (fun y hy => hb y (by simp [hy]))
theorem sumI_nat {ps : List (List Int)} (h : allB ps.flatten) : sumI ps = ((Crc.sum (nat ps.flatten) : Nat) : Int) := by
  unfold sumI Crc.sum
  have hf := fold_nat ps.flatten 4294967295 (by omega) h
  have hf2 : List.foldl upI 4294967295 ps.flatten = ((Crc.reg 4294967295 (nat ps.flatten) : Nat) : Int) := hf
  rw [hf2]
  have hr : Crc.reg 4294967295 (nat ps.flatten) < 4294967296 := Crc.reg_lt _ (by omega) (natB h)
  generalize Crc.reg 4294967295 (nat ps.flatten) = R at hr ⊢
  have h9 := xor32 4294967295 R (by omega) hr
  rw [show ((4294967295 : Nat) : Int) = 4294967295 from rfl] at h9
  rw [h9, Nat.xor_comm]
theorem sum_one {xs : List Int} (h : allB xs) : sumI [xs] = ((Crc.sum (nat xs) : Nat) : Int) := by
  have e : [xs].flatten = xs := by simp
  have := sumI_nat (ps := [xs]) (by rw [e]; exact h)
  rwa [e] at this
end Go.Proofs.YtembdahclmffjaaDoor.Pk
/- Bytes of a law's own with marks in the room behind them (Roomy), and whether both are as they were (AsWas). -/
namespace Go.Proofs.YtembdahclmffjaaDoor.Pk
open Go.RowKit Go.Proofs.YtembdahclmffjaaDoorW.PrintWords Go.Proofs.YtembdahclmffjaaDoorW.PrintLast Go.Proofs.YtembdahclmffjaaDoorW.PrintMore Go.Proofs.YtembdahclmffjaaDoor.Mem
set_option linter.unusedVariables false
set_option linter.unusedSimpArgs false
/-- a slice cut anew, up to its room -/
theorem cut_cap {P : Program} (t e : TypeId) (kh : IntKind) {i : TypeInfo} (ht : P.underlying t = some (.slice e)) (hi : P.info? e = some i) (A : Option Addr) (n c : Nat) (j : Int) (h0 : 0 ≤ j) (hc : j ≤ c) :
    ∀ W : World, (Instr.slice t (.slice A n c) none (some (.int kh j)) none).run P W = .ok (.slice A j.toNat c) W := by
  intro W
  have hel : P.elem t = e := by simp [Program.elem, ht]
  have hu : P.underlying t = some (.slice (P.elem t)) := by rw [hel]; exact ht
  have ha : (A.map fun x => x.add 0) = A := by cases A <;> simp [Addr.add]
  rw [run_slice_h W t A n c hu kh j h0 hc, hel]
  simp [sizeOf, typeInfo, hi, sliced, Result.andThen, ha]
/-- the marks -/
def mk3 : List Int := [85, 170, 85]
/-- block g is a row of the law's own that holds xs, and the marks behind them; cap: its room -/
def IsM (W : World) (B g cap : Nat) (xs : List Int) : Prop := Kd.R (Kd.int .u8) 5 W B (fun k => k = g) (.slice (some ⟨g, 0, none⟩) (xs.length + 3) cap) (xs ++ mk3)
namespace IsM
variable {W W' : World} {B g cap : Nat} {xs : List Int}
theorem base (h : IsM W B g cap xs) : B ≤ g := Kd.R_base h g rfl
theorem lt (h : IsM W B g cap xs) : g < W.heap.size := Kd.R_lt h g rfl
theorem len (h : IsM W B g cap xs) : xs.length + 3 ≤ cap := (Kd.R_reads' h).2.1
theorem all (h : IsM W B g cap xs) : Kd.C (Kd.int .u8) W (some ⟨g, 0, none⟩) (xs.length + 3) (xs ++ mk3) := by
  have h1 := (Kd.R_reads' h).2.2
  rw [show (xs ++ mk3).length = xs.length + 3 by simp [mk3]] at h1
  exact h1
theorem c (h : IsM W B g cap xs) : Kd.C (Kd.int .u8) W (some ⟨g, 0, none⟩) xs.length xs := by
  have h1 := h.all
  have e : xs.length + 3 = (xs ++ mk3).length := by simp [mk3]
  rw [e] at h1
  have h2 := Kd.C_take (m := xs.length) h1 (by simp)
  rw [List.take_left' rfl] at h2
  exact h2
theorem fr {S : Nat → Prop} (h : IsM W B g cap xs) (hf : Fr W W' S) (hg : ¬ S g) : IsM W' B g cap xs := hf.row h (fun k e _ => by subst e; exact hg)
theorem below (h : IsM W B g cap xs) (hb : Below W.heap.size W W') : IsM W' B g cap xs := Kd.R_below h hb
theorem lower {B' : Nat} (h : IsM W B g cap xs) (hb : B' ≤ B) : IsM W B' g cap xs := Kd.R_lower h hb
end IsM
/-- a row of one's own, and behind it another row -/
theorem appB {ops : Array Oper} {Q : Exit → Act → World → Prop} {o : Oper} {rest : List Oper} {a : Act} {w0 W : World} (base : Nat) (v : Value) (xs ys : List Int) (A : Option Addr) (m c : Nat) (hgd : o.guard = none) (s x : Operand)
    (ho : o.op = .call { callee := .builtin .append, args := #[s, x], argTypes := #[22, 22] }) (hs : a.eval s = v) (hx : a.eval x = .slice A m c)
    (HO : Kd.R (Kd.int .u8) 5 W base (fun _ => True) v xs) (HR : Kd.C (Kd.int .u8) W A m ys) (HB : Below base w0 W) (hbase : base ≤ W.heap.size) (hl : xs.length + m ≤ 140737488355328)
    (h : ∀ v1 w1, Kd.R (Kd.int .u8) 5 w1 base (fun _ => True) v1 (xs ++ ys) → Below base w0 w1 → wpList Tryd.prog ops Q rest (a.put o.dst v1) w1) : wpList Tryd.prog ops Q (o :: rest) a W :=
  Kd.R_append_row (w0 := w0) (Value.int .u8) 0 (h1 := fun _ => rfl) base hgd s x 22 5 (.int .u8 0) 1 ho Tryd.underlying22 infoB rfl (by decide) v xs ys A m c (fun _ => True) hs hx (fun _ _ => trivial) HO HR HB hbase (by omega) (fun v1 w1 h1 h2 _ _ => h v1 w1 h1 h2)
set_option maxRecDepth 100000 in
set_option maxHeartbeats 2000000 in
theorem Roomy {w : World} {A : Option Addr} {c : Nat} {xs : List Int} (hC : Kd.C (Kd.int .u8) w A xs.length xs) (hl : xs.length ≤ 140737488351232) :
    Calls Tryd.prog 8 #[.slice A xs.length c] w fun e w' => ∃ g cap, e = .returned (.slice (some ⟨g, 0, none⟩) xs.length cap) ∧ IsM w' w.heap.size g cap xs ∧ Below w.heap.size w w' := by
  obtain ⟨i0, hi, hz0, hz1, hz2⟩ := info_parts infoB
  obtain ⟨n, hn⟩ : ∃ n, n = xs.length := ⟨_, rfl⟩
  have hCC := Aside0.mk hC
  have hN := Aside0.mk hn
  have hSZ := Aside0.mk hl
  rw [← hn]
  clear hC hn hl
  have hb0 : Below w.heap.size w (w.alloc (.cells #[] 5)) := below_alloc (Below.refl _ _) _
  have hR0 : Kd.R (Kd.int .u8) 5 (w.alloc (.cells #[] 5)) w.heap.size (fun _ => True) (.slice (some ⟨w.heap.size, 0, none⟩) 0 0) ([] : List Int) := Kd.R_of_own (h1 := fun _ => rfl) (by have h2 := World.ownsRow_made w #[] (e := 5) (size := 1) 0 (Nat.le_refl _) (Nat.zero_le _) rfl; simpa [encs] using h2) (fun _ _ => trivial)
  have hb00 := Aside0.mk hb0
  have hR00 := Aside0.mk hR0
  clear hb0 hR0
  go_enter Tryd.func8, Tryd.ntmps8
  have k1 : Kd.C (Kd.int .u8) (w.alloc (.cells #[] 5)) A n xs := by rw [hN.out]; exact Kd.C_below hCC.out hb00.out
  have k2 : ([] : List Int).length + n ≤ 140737488355328 := by have := hSZ.out; have := hN.out; simp; omega
  have k3 : ([] ++ xs : List Int).length + 3 ≤ 140737488355328 := by have := hSZ.out; simp; omega
  have kk1 := Aside0.mk k1
  have kk2 := Aside0.mk k2
  have kk3 := Aside0.mk k3
  clear k1 k2 k3
  go_wp2_with (first | (at_builtin; refine appB (w0 := w) w.heap.size _ [] xs A n c rfl _ _ rfl rfl rfl hR00.out kk1.out hb00.out (by rw [World.size_alloc]; omega) kk2.out ?_; intro v1 w1 ho hbl; have ho1 := Aside0.mk (Kd.R_below ho (below_alloc (Below.refl _ _) (.cells #[.int .u8 85, .int .u8 170, .int .u8 85] 5))); have hb1 := Aside0.mk (below_alloc hbl (.cells #[.int .u8 85, .int .u8 170, .int .u8 85] 5)); have hc1 := Aside0.mk (C_lit (fr := (0, 0)) w1 mk3 5 (by simp [mk3])); have hs1 := hbl.size; clear ho hbl) | (at_builtin; refine appB (w0 := w) w.heap.size v1 _ mk3 (some ⟨w1.heap.size, 0, none⟩) 3 3 rfl _ _ rfl rfl rfl ho1.out hc1.out hb1.out (by rw [World.size_alloc]; omega) kk3.out ?_; intro v2 w2 ho hbl; have ho2 := Aside0.mk ho; have hb2 := Aside0.mk hbl; obtain ⟨g, cap, rfl, _, _, _⟩ := Kd.R_form ho (by simp [mk3]); have hcap := (Kd.R_reads' ho).2.1; clear ho hbl; have qs := cut_cap (P := Tryd.prog) 22 5 .i64 Tryd.underlying22 hi (some ⟨g, 0, none⟩) (xs.length + mk3.length) cap n (by omega) (by have := hN.out; simp [mk3] at hcap; omega); rw [Int.toNat_natCast] at qs))
  go_ret
  have hn := hN.out
  subst hn
  refine ⟨g, cap, rfl, ?_, hb2.out⟩
  have h3 := ho2.out
  rw [List.nil_append, show (xs ++ mk3).length = xs.length + 3 by simp [mk3]] at h3
  exact Kd.R_mono (Kd.R_tight rfl h3) (fun k hk => by simpa [Value.ownBlock] using hk)
theorem strOf_add (xs ys : List Int) : strOfNums xs ++ strOfNums ys = strOfNums (xs ++ ys) := by
  apply ByteArray.ext
  simp [strOfNums, ByteArray.data_append]
set_option maxRecDepth 100000 in
set_option maxHeartbeats 2000000 in
theorem AsWasC {w : World} {A : Option Addr} {g cap c : Nat} {xs : List Int} (hA : Kd.C (Kd.int .u8) w (some ⟨g, 0, none⟩) (xs.length + 3) (xs ++ mk3)) (hcap : xs.length + 3 ≤ cap) (hC : Kd.C (Kd.int .u8) w A xs.length xs) (hl : xs.length ≤ 140737488351232) :
    Calls Tryd.prog 14 #[.slice (some ⟨g, 0, none⟩) xs.length cap, .slice A xs.length c] w fun e w' => e = .returned (.bool true) ∧ w' = w.drew := by
  obtain ⟨i0, hi, hz0, hz1, hz2⟩ := info_parts infoB
  obtain ⟨n, hn⟩ : ∃ n, n = xs.length := ⟨_, rfl⟩
  rw [← hn] at hC hA hcap hl ⊢
  have qs := cut_cap (P := Tryd.prog) 22 5 .i64 Tryd.underlying22 hi (some ⟨g, 0, none⟩) n cap ((n : Int) + 3) (by omega) (by omega)
  rw [show ((n : Int) + 3).toNat = n + 3 by omega] at qs
  replace hA := Kd.C_below hA (below_drew (Below.refl _ _))
  replace hC := Kd.C_below hC (below_drew (Below.refl _ _))
  have q1 := Kd.C_string (P := Tryd.prog) (c := cap) Tryd.underlying22 Tryd.underlying5 Tryd.underlying9 hA
  have q2 := Kd.C_string (P := Tryd.prog) (c := c) Tryd.underlying22 Tryd.underlying5 Tryd.underlying9 hC
  have e3 : strOfNums xs ++ ⟨#[85, 170, 85]⟩ = strOfNums (xs ++ mk3) := strOf_add xs mk3
  have hsz : (strOfNums xs).size = n := by rw [hn]; simp [strOfNums, ByteArray.size]
  have hs1 : (strOfNums xs).size + 3 ≤ 140737488355328 := by omega
  have hs2 : ((strOfNums xs).size : Int) + 3 ≤ 9223372036854775807 := by omega
  have hN := Aside0.mk hn
  have he3 := Aside0.mk e3
  clear hA hC hn e3 hsz
  go_enter Tryd.func14, Tryd.ntmps14
  go_wp2
  go_region
  go_wp2
  go_ret
  refine ⟨?_, rfl⟩
  show Ending.returned (.bool ((strOfNums (xs ++ mk3)).toList == (strOfNums xs ++ ⟨#[85, 170, 85]⟩).toList)) = _
  rw [he3.out]
  simp
theorem AsWas {w : World} {A : Option Addr} {B g cap c : Nat} {xs : List Int} (hM : IsM w B g cap xs) (hC : Kd.C (Kd.int .u8) w A xs.length xs) (hl : xs.length ≤ 140737488351232) :
    Calls Tryd.prog 14 #[.slice (some ⟨g, 0, none⟩) xs.length cap, .slice A xs.length c] w fun e w' => e = .returned (.bool true) ∧ w' = w.drew := AsWasC hM.all hM.len hC hl
/-- marked rows, as elements of a row -/
def mr : Kd (List Int) where
  sz := 1
  E := [5]
  K := fun w xs cs => ∃ g cap, cs = [.slice (some ⟨g, 0, none⟩) xs.length cap] ∧ xs.length + 3 ≤ cap ∧ Kd.C (Kd.int .u8) w (some ⟨g, 0, none⟩) (xs.length + 3) (xs ++ mk3)
  M := fun w base ok xs cs => ∃ g cap, cs = [.slice (some ⟨g, 0, none⟩) xs.length cap] ∧ IsM w base g cap xs ∧ ok g
  K_len := by
    rintro w x cs ⟨g, cap, rfl, _⟩
    rfl
  K_one := by
    rintro w x cs ⟨g, cap, rfl, _⟩ u hu
    rw [List.mem_singleton.1 hu]
    rfl
  K_below := by
    rintro w w1 x cs hb ⟨g, cap, rfl, h1, h2⟩
    exact ⟨g, cap, rfl, h1, Kd.C_below h2 hb⟩
  K_of_M := by
    rintro w base ok x cs ⟨g, cap, rfl, h, _⟩
    exact ⟨g, cap, rfl, h.len, h.all⟩
  M_mono := by
    rintro w base ok ok' x cs hk ⟨g, cap, rfl, h, h2⟩
    exact ⟨g, cap, rfl, h, hk _ h2⟩
  M_bound := by
    rintro w base ok x cs ⟨g, cap, rfl, h, h2⟩
    obtain ⟨cells, hc⟩ := Kd.R_typed h g rfl
    exact ⟨g, cap, rfl, h, h2, h.base, h.lt, _, List.mem_singleton.2 rfl, cells, hc⟩
  M_move := by
    rintro w w1 base ok x cs hm ⟨g, cap, rfl, h, h2⟩
    exact ⟨g, cap, rfl, Kd.R_move h (fun k hk => by subst hk; exact hm _ h2), h2⟩
  M_lower := by
    rintro w base base' ok x cs hb ⟨g, cap, rfl, h, h2⟩
    exact ⟨g, cap, rfl, h.lower hb, h2⟩
theorem mr_C {w : World} {A : Option Addr} {n : Nat} {ps : List (List Int)} (h : Kd.C mr w A n ps) : Kd.C (Kd.slice 5 (Kd.int .u8)) w A n ps :=
  Kd.C_imp (d := mr) (d' := Kd.slice 5 (Kd.int .u8)) rfl (fun w x cs hk => by
    obtain ⟨g, cap, rfl, h1, h2⟩ := hk
    refine ⟨_, _, rfl, by omega, ?_⟩
    have e : x.length + 3 = (x ++ mk3).length := by simp [mk3]
    rw [e] at h2
    have h3 := Kd.C_take (m := x.length) h2 (by simp)
    rwa [List.take_left' rfl] at h3) h
end Go.Proofs.YtembdahclmffjaaDoor.Pk
/- The document's forms (wispref03.Low, wispref03.Number): their contracts; a row that grows by one byte. -/
namespace Go.Proofs.YtembdahclmffjaaDoor.Pk
open Go.RowKit Go.Proofs.YtembdahclmffjaaDoorW.PrintWords Go.Proofs.YtembdahclmffjaaDoorW.PrintLast Go.Proofs.YtembdahclmffjaaDoorW.PrintMore Go.Proofs.YtembdahclmffjaaDoor.Mem
set_option linter.unusedVariables false
set_option linter.unusedSimpArgs false
/-- a row of one's own, and one byte behind it -/
theorem appOne {ops : Array Oper} {Q : Exit → Act → World → Prop} {o : Oper} {rest : List Oper} {a : Act} {w0 W : World} (base : Nat) (v : Value) (xs : List Int) (y : Int) (hgd : o.guard = none) (s x : Operand)
    (ho : o.op = .call { callee := .builtin .append, args := #[s, x], argTypes := #[22, 22] }) (hs : a.eval s = v) (hx : a.eval x = .slice (some ⟨W.heap.size, 0, none⟩) 1 1)
    (HO : Kd.R (Kd.int .u8) 5 W base (fun _ => True) v xs) (HB : Below base w0 W) (hbase : base ≤ W.heap.size) (hl : xs.length + 1 ≤ 140737488355328)
    (h : ∀ v1 w1, Kd.R (Kd.int .u8) 5 w1 base (fun _ => True) v1 (xs ++ [y]) → Below base w0 w1 → wpList Tryd.prog ops Q rest (a.put o.dst v1) w1) : wpList Tryd.prog ops Q (o :: rest) a (W.alloc (.cells #[.int .u8 y] 5)) :=
  Kd.R_append (Kd.int .u8) (w0 := w0) base hgd s x 22 5 (.int .u8 0) 1 ho Tryd.underlying22 infoB rfl (by decide) (by decide) v xs y [.int .u8 y] (fun _ => True) (fun _ => False) hs hx rfl (fun _ hk => hk.elim) (fun _ _ => trivial) HO HB hbase (by omega) (fun v1 w1 h1 h2 _ _ => h v1 w1 h1 h2)
/-- the lowest k bytes of a number -/
def lowI : Nat → Int → List Int
  | 0, _ => []
  | k + 1, x => x % 256 :: lowI k (x / 256)
theorem lowI_len : ∀ k x, (lowI k x).length = k
  | 0, _ => rfl
  | k + 1, x => by simp [lowI, lowI_len k]
set_option maxRecDepth 100000 in
set_option maxHeartbeats 4000000 in
theorem Low (w : World) (x : Int) (k : Nat) (hx0 : 0 ≤ x) (hx1 : x ≤ 18446744073709551615) (hk : k ≤ 8) :
    Calls Tryd.prog 44 #[.int .u64 x, .int .i64 (k : Int)] w fun e w' => ∃ v, e = .returned v ∧ Kd.R (Kd.int .u8) 5 w' w.heap.size (fun _ => True) v (lowI k x) ∧ Below w.heap.size w w' := by
  go_enter Tryd.func44, Tryd.ntmps44
  go_wp2
  go_loopg [0, 5, 6] k (fun gk v0 v5 v6 wr => ∃ (i : Nat) (y : Int) (v : Value) (pre : List Int), v5 = v ∧ v0 = .int .u64 y ∧ v6 = .int .i64 (i : Int) ∧ 0 ≤ y ∧ y ≤ 18446744073709551615 ∧ i + gk = k ∧ Aside0 (pre ++ lowI gk y = lowI k x) ∧ Aside0 (Kd.R (Kd.int .u8) 5 wr w.heap.size (fun _ => True) v pre) ∧ Aside0 (Below w.heap.size w wr))
  case atStart => exact ⟨0, x, _, [], rfl, rfl, rfl, hx0, hx1, by omega, ⟨rfl⟩, ⟨Kd.R_nil _ _ _ _ _⟩, ⟨Below.refl _ _⟩⟩
  case round =>
    obtain ⟨i, y, v3, pre, hv3, rfl, rfl, hy0, hy1, hi, hp, hR, hb⟩ := hrel
    replace hv3 := hv3.symm
    subst hv3
    cases gk with
    | zero =>
      have hd : decide ((i : Int) < (k : Int)) = false := decide_eq_false (by omega)
      have hd' : decide (i < k) = false := decide_eq_false (by omega)
      go_wp2
      go_ret
      refine ⟨v3, rfl, ?_, hb.out⟩
      have h1 := hp.out
      simp only [lowI, List.append_nil] at h1
      rw [← h1]; exact hR.out
    | succ k1 =>
      have hd : decide ((i : Int) < (k : Int)) = true := decide_eq_true (by omega)
      have hd' : decide (i < k) = true := decide_eq_true (by omega)
      have hs := hb.out.size
      have hpl : Aside0 (pre.length + 1 ≤ 140737488355328) := ⟨by
        have h1 := congrArg List.length hp.out
        simp only [List.length_append, lowI_len] at h1
        omega⟩
      go_wp2_with (at_builtin; refine appOne (w0 := w) w.heap.size v3 pre (y % 256) rfl _ _ rfl rfl rfl hR.out hb.out hs hpl.out ?_; intro v1 w1 ho hbl; have ho1 := Aside0.mk ho; have hb1 := Aside0.mk hbl; clear ho hbl)
      go_roundg k1
      case measure => omega
      case rel => exact ⟨i + 1, y / 256, v1, pre ++ [y % 256], rfl, rfl, rfl, by omega, by omega, by omega, ⟨by rw [← hp.out]; simp [lowI]⟩, ho1, hb1⟩
theorem or_128 : ∀ b : Fin 256, Go.bits .or .u8 (b.val : Int) 128 = (b.val : Int) % 128 + 128 := by decide +kernel
theorem or128 (x : Int) : Go.bits .or .u8 (x % 256) 128 = x % 128 + 128 := by
  obtain ⟨n, hn⟩ := Int.eq_ofNat_of_zero_le (show 0 ≤ x % 256 by omega)
  have h := or_128 ⟨n, by omega⟩
  rw [hn]
  simp only at h
  rw [h]
  omega
end Go.Proofs.YtembdahclmffjaaDoor.Pk
/- wisplaw03.known: the calls whose answers the document fixes come to true. -/
namespace Go.Proofs.YtembdahclmffjaaDoor.Pk
open Go.RowKit Go.Proofs.YtembdahclmffjaaDoorW.PrintWords Go.Proofs.YtembdahclmffjaaDoorW.PrintLast Go.Proofs.YtembdahclmffjaaDoorW.PrintMore Go.Proofs.YtembdahclmffjaaDoor.Mem
set_option linter.unusedVariables false
set_option linter.unusedSimpArgs false
/-- one part alone -/
theorem C_one {w : World} {A : Option Addr} {c : Nat} {xs : List Int} (t : TypeId) (hl : xs.length ≤ c) (hC : Kd.C (Kd.int .u8) w A xs.length xs) : Kd.C (Kd.slice 5 (Kd.int .u8)) (w.alloc (.cells #[.slice A xs.length c] t)) (some ⟨w.heap.size, 0, none⟩) [xs].length [xs] := by
  refine ⟨rfl, by simp, fun hn => ⟨_, rfl, fun j p hj => ?_⟩⟩
  have hj0 : j = 0 := by
    have := (List.getElem?_eq_some_iff.1 hj).1
    simpa using this
  subst hj0
  simp at hj
  subst hj
  refine ⟨[.slice A xs.length c], rfl, ⟨A, c, rfl, hl, Kd.C_below hC (below_alloc (Below.refl _ _) _)⟩, fun i u hu => ?_⟩
  have hi0 : i = 0 := by
    have := (List.getElem?_eq_some_iff.1 hu).1
    simpa using this
  subst hi0
  simp at hu
  subst hu
  have hh := World.alloc_heap_new w (.cells #[.slice A xs.length c] t)
  rw [add_plain]
  simp only [World.cell?, hh]
  simp
theorem num300 : numOf 300 = [172, 2] := by decide +kernel
theorem read300 : numF [172, 2] 0 = (300, 0, 2) := by decide +kernel
theorem sum9 : sumI [[49, 50, 51, 52, 53, 54, 55, 56, 57]] = 3421780262 := by decide +kernel
/-- the world behind the worked example's literals -/
abbrev w9 (w : World) : World := (w.alloc (.cells #[.int .u8 49, .int .u8 50, .int .u8 51, .int .u8 52, .int .u8 53, .int .u8 54, .int .u8 55, .int .u8 56, .int .u8 57] 5 (9, 10))).alloc (.cells #[.slice (some ⟨w.heap.size, 0, none⟩) 9 9] 22)
theorem sum9_calls {w : World} (hT : Tab w) : Calls Tryd.prog 18 #[.slice (some ⟨w.heap.size + 1, 0, none⟩) 1 1] (w9 w) fun e w' => e = .returned (.int .u32 3421780262) ∧ w9 w = w' := by
  have hC : Kd.C (Kd.int .u8) (w.alloc (.cells #[.int .u8 49, .int .u8 50, .int .u8 51, .int .u8 52, .int .u8 53, .int .u8 54, .int .u8 55, .int .u8 56, .int .u8 57] 5 (9, 10))) (some ⟨w.heap.size, 0, none⟩) [49, 50, 51, 52, 53, 54, 55, 56, 57].length [49, 50, 51, 52, 53, 54, 55, 56, 57] := C_lit w [49, 50, 51, 52, 53, 54, 55, 56, 57] 5 (by simp)
  have h1 := C_one (c := 9) 22 (by simp) hC
  rw [World.size_alloc] at h1
  have h2 := Sum (c := 1) (hT.below (below_alloc (below_alloc (Below.refl _ _) _) _)) h1
  rw [sum9] at h2
  exact h2
theorem str2 : (strOfNums [172, 2]).toList = ([172, 2] : List UInt8) := by decide +kernel
end Go.Proofs.YtembdahclmffjaaDoor.Pk
/- There and back, in plain numbers: bytes of a number and numbers of bytes. -/
namespace Go.Proofs.YtembdahclmffjaaDoor.Pk
open Go.RowKit Go.Proofs.YtembdahclmffjaaDoorW.PrintWords Go.Proofs.YtembdahclmffjaaDoorW.PrintLast Go.Proofs.YtembdahclmffjaaDoorW.PrintMore Go.Proofs.YtembdahclmffjaaDoor.Mem
set_option linter.unusedVariables false
set_option linter.unusedSimpArgs false
theorem or32 (a b : Nat) (ha : a < 4294967296) (hb : b < 4294967296) : Go.bits .or .u32 a b = ((a ||| b : Nat) : Int) := by
  unfold Go.bits
  rw [IntKind.wrap_u32]
  have ta : (BitVec.ofInt 32 (a : Int)).toNat = a := by simp; omega
  have tb : (BitVec.ofInt 32 (b : Int)).toNat = b := by simp; omega
  show (((BitVec.ofInt 32 (a : Int) ||| BitVec.ofInt 32 (b : Int)).toNat : Nat) : Int) % 4294967296 = _
  rw [BitVec.toNat_or, ta, tb]
  have : a ||| b < 4294967296 := Nat.or_lt_two_pow (n := 32) ha hb
  omega
theorem or64 (a b : Nat) (ha : a < 9223372036854775808) (hb : b < 9223372036854775808) : Go.bits .or .i64 a b = ((a ||| b : Nat) : Int) := by
  unfold Go.bits
  rw [i64_w]
  have ta : (BitVec.ofInt 64 (a : Int)).toNat = a := by simp; omega
  have tb : (BitVec.ofInt 64 (b : Int)).toNat = b := by simp; omega
  show wrap64 (((BitVec.ofInt 64 (a : Int) ||| BitVec.ofInt 64 (b : Int)).toNat : Nat) : Int) = _
  have : a ||| b < 9223372036854775808 := Nat.or_lt_two_pow (n := 63) ha hb
  rw [BitVec.toNat_or, ta, tb]
  unfold wrap64
  omega
theorem or_add (a b i : Nat) (ha : a < 2 ^ i) : a ||| (b * 2 ^ i) = a + b * 2 ^ i := by
  rw [Nat.mul_comm, Nat.or_comm, ← Nat.two_pow_add_eq_or_of_lt ha b, Nat.add_comm]
/-- the number of bytes, the lowest first -/
def valI : List Int → Int
  | [] => 0
  | b :: l => b + 256 * valI l
theorem valI_b : ∀ l, allB l → 0 ≤ valI l ∧ valI l < 256 ^ l.length
  | [], _ => ⟨by decide, by decide⟩
  | b :: l, h => by
    have h1 := valI_b l (fun y hy => h y (by simp [hy]))
    have h2 := h b (by simp)
    unfold isB at h2
    have e : (256 : Int) ^ (b :: l).length = 256 * 256 ^ l.length := by rw [List.length_cons, Int.pow_succ, Int.mul_comm]
    rw [e]
    simp only [valI]
    omega
theorem lowI_val : ∀ l, allB l → lowI l.length (valI l) = l
  | [], _ => rfl
  | b :: l, h => by
    have h1 := lowI_val l (fun y hy => h y (by simp [hy]))
    have h2 := h b (by simp)
    unfold isB at h2
    simp only [List.length_cons, lowI, valI]
    rw [show (b + 256 * valI l) % 256 = b by omega, show (b + 256 * valI l) / 256 = valI l by omega, h1]
theorem lowI_B : ∀ k x, allB (lowI k x)
  | 0, _ => fun y hy => by simp [lowI] at hy
  | k + 1, x => fun y hy => by
    simp only [lowI, List.mem_cons] at hy
    rcases hy with rfl | hy
    · exact ⟨by omega, by omega⟩
    · exact lowI_B k _ y hy
theorem orL_val : ∀ (l : List Int) (i x : Nat), allB l → i + l.length ≤ 4 → x < 2 ^ (8 * i) → orL i l (x : Int) = (x : Int) + valI l * 2 ^ (8 * i)
  | [], i, x, _, _, _ => by simp [orL, valI]
  | b :: l, i, x, hb, hl, hx => by
    have h2 := hb b (by simp)
    unfold isB at h2
    obtain ⟨c, rfl⟩ := Int.eq_ofNat_of_zero_le h2.1
    have hc : c < 256 := by omega
    simp only [List.length_cons] at hl
    have hi : i ≤ 3 := by omega
    have hp : (2 : Nat) ^ (8 * i) ≤ 2 ^ 24 := Nat.pow_le_pow_right (by decide) (by omega)
    have hcp : c * 2 ^ (8 * i) ≤ 255 * 2 ^ (8 * i) := Nat.mul_le_mul_right _ (by omega)
    have hq : ∃ q : Nat, q = 2 ^ (8 * i) := ⟨_, rfl⟩
    obtain ⟨q, hq⟩ := hq
    have eI : (2 : Int) ^ (8 * i) = (q : Int) := by rw [hq]; push_cast; rfl
    have e1 : ((c : Int) % 4294967296 * 2 ^ (8 * i) % 4294967296) = ((c * q : Nat) : Int) := by
      rw [eI]
      have : c * q < 4294967296 := by rw [hq]; omega
      rw [show (c : Int) % 4294967296 = c by omega, ← Int.natCast_mul]
      omega
    have hlt : x + c * q < 2 ^ (8 * (i + 1)) := by
      have : (2 : Nat) ^ (8 * (i + 1)) = 256 * q := by rw [hq, show 8 * (i + 1) = 8 * i + 8 by omega, Nat.pow_add, Nat.mul_comm]
      rw [this]
      have : c * q ≤ 255 * q := Nat.mul_le_mul_right _ (by omega)
      omega
    simp only [orL]
    have hs : Go.bits .or .u32 (x : Int) ((c : Int) % 4294967296 * 2 ^ (8 * i) % 4294967296) = ((x + c * q : Nat) : Int) := by
      rw [e1, or32 x (c * q) (by omega) (by rw [hq]; omega), hq, or_add x c (8 * i) hx]
    rw [hs, orL_val l (i + 1) (x + c * q) (fun y hy => hb y (by simp [hy])) (by omega) hlt]
    have eI2 : (2 : Int) ^ (8 * (i + 1)) = 256 * (q : Int) := by rw [show 8 * (i + 1) = 8 * i + 8 by omega, Int.pow_add, eI]; show (q : Int) * 256 = 256 * (q : Int); omega
    rw [eI2, eI]
    simp only [valI]
    push_cast
    rw [Int.add_mul, Int.add_assoc, Int.mul_comm 256 (valI l), Int.mul_assoc]
theorem or_val {l : List Int} (h : allB l) (hl : l.length ≤ 4) : orL 0 l 0 = valI l := by
  have := orL_val l 0 0 h (by omega) (by decide)
  simpa using this
theorem val_low : ∀ k x, valI (lowI k x) = x % 256 ^ k
  | 0, x => by simp [lowI, valI]
  | k + 1, x => by
    simp only [lowI, valI]
    rw [val_low k]
    have e : (256 : Int) ^ (k + 1) = 256 * 256 ^ k := by rw [Int.pow_succ, Int.mul_comm]
    rw [e]
    have hp : (0 : Int) < 256 ^ k := Int.pow_pos (by decide)
    generalize (256 : Int) ^ k = m at hp
    have h1 := Int.mul_ediv_add_emod (x / 256) m
    have h2 := Int.mul_ediv_add_emod x 256
    have h3 := Int.emod_nonneg (x / 256) (show m ≠ 0 by omega)
    have h4 := Int.emod_lt_of_pos (x / 256) hp
    have h5 : 0 ≤ x % 256 ∧ x % 256 < 256 := by omega
    generalize x / 256 % m = r at h1 h3 h4
    generalize x / 256 / m = q at h1
    generalize x / 256 = y at h1 h2
    generalize x % 256 = z at h2 h5
    have e1 : x = (z + 256 * r) + 256 * m * q := by rw [Int.mul_assoc]; omega
    rw [e1, Int.add_mul_emod_self_left, Int.emod_eq_of_lt (by omega) (by omega)]
theorem and_127 : ∀ b : Fin 256, Go.bits .and .u8 (b.val : Int) 127 = (b.val : Int) % 128 := by decide +kernel
theorem and127 {b : Int} (h : isB b) : Go.bits .and .u8 b 127 = b % 128 := by
  unfold isB at h
  obtain ⟨n, rfl⟩ := Int.eq_ofNat_of_zero_le h.1
  exact and_127 ⟨n, by omega⟩
theorem orN_val {i : Nat} {b x : Int} (hi : i ≤ 4) (hb : isB b) (hx0 : 0 ≤ x) (hx : x < 2 ^ (7 * i)) : orN i b x = x + b % 128 * 2 ^ (7 * i) := by
  unfold orN
  rw [and127 hb]
  have hp : (2 : Nat) ^ (7 * i) ≤ 2 ^ 28 := Nat.pow_le_pow_right (by decide) (by omega)
  obtain ⟨q, hq⟩ : ∃ q : Nat, q = 2 ^ (7 * i) := ⟨_, rfl⟩
  have eI : (2 : Int) ^ (7 * i) = (q : Int) := by rw [hq]; push_cast; rfl
  rw [eI] at hx ⊢
  obtain ⟨c, hc⟩ := Int.eq_ofNat_of_zero_le (show 0 ≤ b % 128 by omega)
  obtain ⟨y, rfl⟩ := Int.eq_ofNat_of_zero_le hx0
  have hc1 : c < 128 := by omega
  have hcp : c * q ≤ 127 * q := Nat.mul_le_mul_right _ (by omega)
  rw [hc]
  have e1 : wrap64 (wrap64 (c : Int) * (q : Int)) = ((c * q : Nat) : Int) := by
    have e2 : wrap64 (c : Int) = c := by unfold wrap64; omega
    rw [e2, ← Int.natCast_mul]
    unfold wrap64
    omega
  rw [e1, or64 y (c * q) (by omega) (by omega), hq, or_add y c (7 * i) (by omega)]
  push_cast
  rfl
theorem pow7 (i : Nat) : (2 : Int) ^ (7 * (i + 1)) = 128 * 2 ^ (7 * i) := by rw [show 7 * (i + 1) = 7 * i + 7 by omega, Int.pow_add, Int.mul_comm]; rfl
theorem two_pow_pos (i : Nat) : (0 : Int) < 2 ^ i := Int.pow_pos (by decide)
theorem num_fwd : ∀ (k i : Nat) (y x : Int) (rest : List Int), i + k = 4 → 0 ≤ x → x < 2 ^ (7 * i) → 0 ≤ y → y < 16 * (128 : Int) ^ k → (i = 0 ∨ 0 < y) → numR (k + 1) i (vl k y ++ rest) x = (x + y * 2 ^ (7 * i), 0, i + (vl k y).length)
  | 0, i, y, x, rest, hi, hx0, hx, hy0, hy, h0 => by
    rw [Int.pow_zero] at hy
    have hi4 : i = 4 := by omega
    subst hi4
    have e : vl 0 y = [y] := by simp only [vl]; rw [show y % 256 = y by omega]
    rw [e]
    show numR 1 4 (y :: rest) x = _
    have ho := orN_val (i := 4) (b := y) (by decide) ⟨hy0, by omega⟩ hx0 hx
    rw [numR_step ho, if_neg (by omega), if_neg]
    · rw [show y % 128 = y by omega]; rfl
    · rw [show (2 : Int) ^ (7 * 4) = 268435456 by decide] at hx ⊢
      rintro (h | h)
      · omega
      · exact h (by omega)
  | k + 1, i, y, x, rest, hi, hx0, hx, hy0, hy, h0 => by
    by_cases hc : y ≥ 128
    · have hb := or128 y
      have hB : isB (y % 128 + 128) := ⟨by omega, by omega⟩
      have ho := orN_val (i := i) (b := y % 128 + 128) (by omega) hB hx0 hx
      rw [show (y % 128 + 128) % 128 = y % 128 by omega] at ho
      have e : vl (k + 1) y = (y % 128 + 128) :: vl k (y / 128) := by simp only [vl]; rw [if_pos hc, hb]
      rw [e]
      show numR (k + 1 + 1) i ((y % 128 + 128) :: (vl k (y / 128) ++ rest)) x = _
      have hm : y % 128 * 2 ^ (7 * i) ≤ 127 * 2 ^ (7 * i) := Int.mul_le_mul_of_nonneg_right (by omega) (Int.le_of_lt (two_pow_pos _))
      have hm0 : 0 ≤ y % 128 * 2 ^ (7 * i) := Int.mul_nonneg (by omega) (Int.le_of_lt (two_pow_pos _))
      rw [numR_step ho, if_pos (by omega), num_fwd k (i + 1) (y / 128) _ rest (by omega) (by omega) (by rw [pow7]; omega) (by omega) (pow_step k y hy0 hy) (.inr (by omega)), pow7]
      have e2 : y * 2 ^ (7 * i) = y % 128 * 2 ^ (7 * i) + y / 128 * (128 * 2 ^ (7 * i)) := by
        rw [← Int.mul_assoc, ← Int.add_mul]
        congr 1
        omega
      refine Prod.ext ?_ (Prod.ext rfl ?_)
      · show x + y % 128 * 2 ^ (7 * i) + y / 128 * (128 * 2 ^ (7 * i)) = x + y * 2 ^ (7 * i)
        omega
      · show i + 1 + (vl k (y / 128)).length = i + ((y % 128 + 128) :: vl k (y / 128)).length
        rw [List.length_cons]; omega
    · have e : vl (k + 1) y = [y] := by simp only [vl]; rw [if_neg hc, show y % 256 = y by omega]
      rw [e]
      show numR (k + 1 + 1) i (y :: rest) x = _
      have ho := orN_val (i := i) (b := y) (by omega) ⟨hy0, by omega⟩ hx0 hx
      rw [show y % 128 = y by omega] at ho
      have hp : (2 : Nat) ^ (7 * i) ≤ 2 ^ 21 := Nat.pow_le_pow_right (by decide) (by omega)
      have hp2 : (2 : Int) ^ (7 * i) ≤ 2097152 := by
        obtain ⟨q, hq⟩ : ∃ q : Nat, q = 2 ^ (7 * i) := ⟨_, rfl⟩
        rw [show (2 : Int) ^ (7 * i) = (q : Int) by rw [hq]; push_cast; rfl]
        have e21 : (2 : Nat) ^ 21 = 2097152 := rfl
        rw [← hq, e21] at hp
        omega
      have hm : y * 2 ^ (7 * i) ≤ 127 * 2 ^ (7 * i) := Int.mul_le_mul_of_nonneg_right (by omega) (Int.le_of_lt (two_pow_pos _))
      have hm0 : 0 ≤ y * 2 ^ (7 * i) := Int.mul_nonneg (by omega) (Int.le_of_lt (two_pow_pos _))
      rw [numR_step ho, if_neg (by omega), if_neg]
      · rfl
      · rintro (h | h)
        · omega
        · exact h (by omega)
theorem num_there (n : Int) (rest : List Int) : numF (numOf n ++ rest) 0 = (n % 4294967296, 0, (numOf n).length) := by
  have h := num_fwd 4 0 (n % 4294967296) 0 rest rfl (by decide) (by decide) (by omega) (by rw [show (16 * (128 : Int) ^ 4) = 4294967296 by decide]; omega) (.inl rfl)
  unfold numF numOf
  rw [if_pos rfl, h]
  simp
theorem num_back : ∀ (k i : Nat) (l : List Int) (x v : Int) (m : Nat), i + k = 4 → allB l → 0 ≤ x → x < 2 ^ (7 * i) → numR (k + 1) i l x = (v, 0, m) →
    ∃ y, 0 ≤ y ∧ y < 16 * (128 : Int) ^ k ∧ (i = 0 ∨ 0 < y) ∧ v = x + y * 2 ^ (7 * i) ∧ m = i + (vl k y).length ∧ l.take (vl k y).length = vl k y ∧ (vl k y).length ≤ l.length
  | k, i, [], x, v, m, hi, hl, hx0, hx, h => by
    simp only [numR] at h
    injection h with _ h; injection h with h _; cases h
  | k, i, b :: t, x, v, m, hi, hl, hx0, hx, h => by
    have hb := hl b (by simp)
    have hbb := hb
    unfold isB at hbb
    have ho := orN_val (i := i) (by omega) hb hx0 hx
    rw [numR_step ho] at h
    have hm : b % 128 * 2 ^ (7 * i) ≤ 127 * 2 ^ (7 * i) := Int.mul_le_mul_of_nonneg_right (by omega) (Int.le_of_lt (two_pow_pos _))
    have hm0 : 0 ≤ b % 128 * 2 ^ (7 * i) := Int.mul_nonneg (by omega) (Int.le_of_lt (two_pow_pos _))
    by_cases hc : b ≥ 128
    · rw [if_pos hc] at h
      cases k with
      | zero =>
        simp only [numR] at h
        injection h with _ h; injection h with h _; cases h
      | succ k =>
        obtain ⟨y, hy0, hy, hy1, hv, hm2, ht, hle⟩ := num_back k (i + 1) t _ v m (by omega) (fun z hz => hl z (by simp [hz])) (by omega) (by rw [pow7]; omega) h
        have hy2 : 0 < y := by omega
        have hr := or128 (b % 128 + 128 * y)
        have e : vl (k + 1) (b % 128 + 128 * y) = b :: vl k y := by
          simp only [vl]
          rw [if_pos (by omega), hr, show (b % 128 + 128 * y) / 128 = y by omega, show (b % 128 + 128 * y) % 128 + 128 = b by omega]
        refine ⟨b % 128 + 128 * y, by omega, ?_, .inr (by omega), ?_, ?_, ?_, ?_⟩
        · have e4 : (128 : Int) ^ (k + 1) = 128 * 128 ^ k := by rw [Int.pow_succ, Int.mul_comm]
          rw [e4]
          omega
        · rw [hv, pow7, Int.add_mul, Int.mul_comm 128 y, Int.mul_assoc]
          omega
        · rw [e, hm2, List.length_cons]; omega
        · rw [e, List.length_cons, List.take_succ_cons, ht]
        · rw [e, List.length_cons, List.length_cons]; omega
    · rw [if_neg hc] at h
      by_cases hz : (b = 0 ∧ 0 < i) ∨ (x + b % 128 * 2 ^ (7 * i)) / 4294967296 ≠ 0
      · rw [if_pos hz] at h
        injection h with _ h; injection h with h _; cases h
      · rw [if_neg hz] at h
        injection h with h1 h; injection h with _ h2
        have e : vl k b = [b] := by
          cases k with
          | zero => simp only [vl]; rw [show b % 256 = b by omega]
          | succ k => simp only [vl]; rw [if_neg hc, show b % 256 = b by omega]
        refine ⟨b, hbb.1, ?_, ?_, ?_, ?_, ?_, ?_⟩
        · cases k with
          | zero =>
            have hi4 : i = 4 := by omega
            subst hi4
            rw [show (2 : Int) ^ (7 * 4) = 268435456 by decide] at hz hx
            rw [Int.pow_zero]
            omega
          | succ k =>
            have e4 : (128 : Int) ^ (k + 1) = 128 * 128 ^ k := by rw [Int.pow_succ, Int.mul_comm]
            have hp : (0 : Int) < 128 ^ k := Int.pow_pos (by decide)
            rw [e4]
            omega
        · rcases Nat.eq_zero_or_pos i with h9 | h9
          · exact .inl h9
          · exact .inr (by omega)
        · rw [← h1, show b % 128 = b by omega]
        · rw [e, ← h2]; rfl
        · rw [e]; rfl
        · rw [e]; simp
theorem num_here {l : List Int} {v : Int} {m : Nat} (hl : allB l) (h : numF l 0 = (v, 0, m)) : numOf v = l.take m ∧ m ≤ l.length := by
  unfold numF at h
  rw [if_pos rfl] at h
  obtain ⟨y, hy0, hy, _, hv, hm, ht, hle⟩ := num_back 4 0 l 0 v m rfl hl (by decide) (by decide) h
  rw [show (16 * (128 : Int) ^ 4) = 4294967296 by decide] at hy
  have hvy : v = y := by rw [hv]; simp
  have hm2 : m = (vl 4 y).length := by omega
  subst hvy
  unfold numOf
  rw [show v % 4294967296 = v by omega, hm2]
  exact ⟨ht.symm, hle⟩
theorem taken (a rest : List Int) {k : Int} (hk : k = a.length) : takeL (a ++ rest) 0 k = a ∧ leftL (a ++ rest) 0 k = rest ∧ errL (a ++ rest) 0 k = 0 := by
  subst hk
  have h : (0 : Int) = 0 ∧ (0 : Int) ≤ (a.length : Int) ∧ (a.length : Int) ≤ ((a ++ rest).length : Int) := ⟨rfl, by omega, by rw [List.length_append]; omega⟩
  refine ⟨?_, ?_, ?_⟩
  · unfold takeL; rw [if_pos h, Int.toNat_natCast, List.take_left' rfl]
  · unfold leftL; rw [if_pos h, Int.toNat_natCast, List.drop_left' rfl]
  · unfold errL; rw [if_neg (fun h2 => h2.2 h.2)]
section
variable {W : World} {B g : Nat} {ok : Nat → Prop} {rest bs : List Int}
theorem back1 (n : Int) (hR : IsR W B ok g (lowI 1 (n % 18446744073709551616) ++ rest) 0) :
    Calls Tryd.prog 47 #[.pointer (some ⟨g, 0, none⟩)] W fun e w' => e = .returned (.int .u8 (n % 256)) ∧ IsR w' B ok g rest 0 ∧ Fr W w' (fun k => k = g) := by
  obtain ⟨h1, h2, h3⟩ := taken (lowI 1 (n % 18446744073709551616)) rest (k := 1) (by rw [lowI_len]; rfl)
  have h := RByte hR
  rw [h1, h2, h3, or_val (lowI_B _ _) (by rw [lowI_len]; decide), val_low, show n % 18446744073709551616 % 256 ^ 1 % 256 = n % 256 by rw [Int.pow_one]; omega] at h
  exact h
theorem back2 (n : Int) (hR : IsR W B ok g (lowI 2 (n % 18446744073709551616) ++ rest) 0) :
    Calls Tryd.prog 48 #[.pointer (some ⟨g, 0, none⟩)] W fun e w' => e = .returned (.int .u16 (n % 65536)) ∧ IsR w' B ok g rest 0 ∧ Fr W w' (fun k => k = g) := by
  obtain ⟨h1, h2, h3⟩ := taken (lowI 2 (n % 18446744073709551616)) rest (k := 2) (by rw [lowI_len]; rfl)
  have h := RCell hR
  rw [h1, h2, h3, or_val (lowI_B _ _) (by rw [lowI_len]; decide), val_low, IntKind.wrap_u16, show (256 : Int) ^ 2 = 65536 by decide, show n % 18446744073709551616 % 65536 % 65536 = n % 65536 by omega] at h
  exact h
theorem back3 (n : Int) (hR : IsR W B ok g (lowI 4 (n % 18446744073709551616) ++ rest) 0) :
    Calls Tryd.prog 33 #[.pointer (some ⟨g, 0, none⟩)] W fun e w' => e = .returned (.int .u32 (n % 4294967296)) ∧ IsR w' B ok g rest 0 ∧ Fr W w' (fun k => k = g) := by
  obtain ⟨h1, h2, h3⟩ := taken (lowI 4 (n % 18446744073709551616)) rest (k := 4) (by rw [lowI_len]; rfl)
  have h := RWord hR
  rw [h1, h2, h3, or_val (lowI_B _ _) (by rw [lowI_len]; decide), val_low, show (256 : Int) ^ 4 = 4294967296 by decide, show n % 18446744073709551616 % 4294967296 = n % 4294967296 by omega] at h
  exact h
theorem back4 (hR : IsR W B ok g (bs ++ rest) 0) (hl : (bs ++ rest).length ≤ 140737488351232) :
    Calls Tryd.prog 46 #[.pointer (some ⟨g, 0, none⟩), .int .i64 (bs.length : Int)] W fun e w' => ∃ v, e = .returned v ∧ Kd.R (Kd.int .u8) 5 w' W.heap.size (fun _ => True) v bs ∧ IsR w' B ok g rest 0 ∧ Fr W w' (fun k => k = g) := by
  obtain ⟨h1, h2, h3⟩ := taken bs rest (k := bs.length) rfl
  have h := RBytes (bs.length : Int) hR hl
  rw [h1, h2, h3] at h
  exact h
end
end Go.Proofs.YtembdahclmffjaaDoor.Pk
/- Cartridges over numbers alone: the form of a cartridge, what bytes tell, there and back. -/
namespace Go.Proofs.YtembdahclmffjaaDoor.Pk
open Go.RowKit Go.Proofs.YtembdahclmffjaaDoorW.PrintWords Go.Proofs.YtembdahclmffjaaDoorW.PrintLast Go.Proofs.YtembdahclmffjaaDoorW.PrintMore Go.Proofs.YtembdahclmffjaaDoor.Mem
set_option linter.unusedVariables false
set_option linter.unusedSimpArgs false
/-- an effect: at, in, out; a bank: its number, its bytes; a section: kind, number, bytes -/
abbrev EfT := Int × Int × Int
abbrev BkT := Int × List Int
abbrev ScT := Int × Int × List Int
structure CartP where
  code : List Int
  entry : Int
  efs : List EfT
  bks : List BkT
def z0 : CartP := ⟨[], 0, [], []⟩
def okE (es : List EfT) (i : Nat) : Prop := 0 ≤ (es.getD i (0, 0, 0)).2.1 ∧ (es.getD i (0, 0, 0)).2.1 ≤ 256 ∧ 0 ≤ (es.getD i (0, 0, 0)).2.2 ∧ (es.getD i (0, 0, 0)).2.2 ≤ 256 ∧ (0 < i → (es.getD (i - 1) (0, 0, 0)).1 < (es.getD i (0, 0, 0)).1)
def okB (bs : List BkT) (i : Nat) : Prop := 0 ≤ (bs.getD i (0, [])).1 ∧ (bs.getD i (0, [])).1 ≤ 15 ∧ (bs.getD i (0, [])).2.length ≤ 16384 ∧ (0 < i → (bs.getD (i - 1) (0, [])).1 < (bs.getD i (0, [])).1)
instance (es : List EfT) (i : Nat) : Decidable (okE es i) := by unfold okE; infer_instance
instance (bs : List BkT) (i : Nat) : Decidable (okB bs i) := by unfold okB; infer_instance
structure OkC (c : CartP) : Prop where
  ev : c.code.length % 2 = 0
  cl : c.code.length ≤ 16384
  el : c.efs.length ≤ 8192
  es : ∀ i, i < c.efs.length → okE c.efs i
  bs : ∀ i, i < c.bks.length → okB c.bks i
open Classical in
noncomputable def chk (c : CartP) : Int := if OkC c then 0 else 74
def cellB (x : Int) : List Int := [x % 256, x / 256]
def wordB (x : Int) : List Int := lowI 4 x
def effB (es : List EfT) : List Int := es.flatMap fun x => cellB x.1 ++ (cellB x.2.1 ++ cellB x.2.2)
def secs (c : CartP) : List ScT := (1, 0, c.code) :: (2, 0, effB c.efs) :: c.bks.map fun b => (3, b.1, b.2)
def tabB : Int → List ScT → List Int
  | _, [] => []
  | at_, s :: l => s.1 :: s.2.1 :: (wordB at_ ++ (wordB s.2.2.length ++ tabB (at_ + s.2.2.length) l))
def datB (l : List ScT) : List Int := (l.map fun s => s.2.2).flatten
def magic : List Int := [87, 73, 83, 80, 1]
def bodyB (entry : Int) (l : List ScT) : List Int := magic ++ ((l.length : Int) :: (cellB entry ++ (tabB (8 + 10 * l.length) l ++ datB l)))
def encB (c : CartP) : List Int := bodyB c.entry (secs c) ++ wordB (sumI [bodyB c.entry (secs c)])
/-- what numbers stand in bytes -/
def low2 (b : List Int) (i : Nat) : Int := b.getD i 0 + 256 * b.getD (i + 1) 0
def low4 (b : List Int) (i : Nat) : Int := b.getD i 0 + 256 * (b.getD (i + 1) 0 + 256 * (b.getD (i + 2) 0 + 256 * b.getD (i + 3) 0))
def nS (b : List Int) : Nat := (b.getD 5 0).toNat
def knd (b : List Int) (j : Nat) : Int := b.getD (8 + 10 * j) 0
def nmb (b : List Int) (j : Nat) : Int := b.getD (9 + 10 * j) 0
def frm (b : List Int) (j : Nat) : Int := low4 b (10 + 10 * j)
def siz (b : List Int) (j : Nat) : Int := low4 b (14 + 10 * j)
def ats (b : List Int) : Nat → Int
  | 0 => 8 + 10 * (nS b : Int)
  | j + 1 => ats b j + siz b j
def entOK (b : List Int) (j : Nat) : Prop := frm b j = ats b j ∧ siz b j ≤ (b.length : Int) - ats b j
def rgt (b : List Int) (j : Nat) : Prop := knd b j = (min (j + 1) 3 : Nat) ∧ (j < 2 → nmb b j = 0) ∧ nmb b j ≤ 15 ∧ (2 < j → nmb b (j - 1) < nmb b j)
structure TabOK (b : List Int) : Prop where
  lo : 2 ≤ nS b
  hi : nS b ≤ 18
  fit : 8 + 10 * nS b ≤ b.length
  ent : ∀ j, j < nS b → entOK b j
  rt : ∀ j, j < nS b → rgt b j
  sum : ats b (nS b) = b.length
def dat (b : List Int) (j : Nat) : List Int := (b.drop (ats b j).toNat).take (siz b j).toNat
def efsOf : Nat → List Int → List EfT
  | 0, _ => []
  | k + 1, d => (low2 d 0, low2 d 2, low2 d 4) :: efsOf k (d.drop 6)
def cartOf (b : List Int) : CartP := ⟨dat b 0, low2 b 6, efsOf ((siz b 1).toNat / 6) (dat b 1), (List.range (nS b - 2)).map fun i => (nmb b (i + 2), dat b (i + 2))⟩
open Classical in
noncomputable def decR (b : List Int) : CartP × Int := if ¬ TabOK b then (z0, 72) else if siz b 1 % 6 ≠ 0 then (z0, 73) else if ¬ OkC (cartOf b) then (z0, 73) else (cartOf b, 0)
open Classical in
noncomputable def decB (r : List Int) : CartP × Int := if ¬ (5 ≤ r.length ∧ r.take 5 = magic) then (z0, 70) else if ¬ (12 ≤ r.length ∧ r.length ≤ 524288 ∧ low4 r (r.length - 4) = sumI [r.take (r.length - 4)]) then (z0, 71) else decR (r.take (r.length - 4))
end Go.Proofs.YtembdahclmffjaaDoor.Pk
/- Cartridges over numbers alone: bytes made of sections, and what they tell. -/
namespace Go.Proofs.YtembdahclmffjaaDoor.Pk
open Go.RowKit Go.Proofs.YtembdahclmffjaaDoorW.PrintWords Go.Proofs.YtembdahclmffjaaDoorW.PrintLast Go.Proofs.YtembdahclmffjaaDoorW.PrintMore Go.Proofs.YtembdahclmffjaaDoor.Mem
set_option linter.unusedVariables false
set_option linter.unusedSimpArgs false
theorem word_len (x : Int) : (wordB x).length = 4 := lowI_len 4 x
theorem word_low (x : Int) (h0 : 0 ≤ x) (h1 : x < 4294967296) (r : List Int) : low4 (wordB x ++ r) 0 = x := by
  simp only [wordB, lowI, low4, List.cons_append, List.nil_append, List.getD_cons_zero, List.getD_cons_succ, Nat.zero_add]
  omega
theorem getD_drop (b : List Int) (i k : Nat) : (b.drop i).getD k 0 = b.getD (i + k) 0 := by
  simp [List.getD_eq_getElem?_getD, List.getElem?_drop]
theorem low4_drop (b : List Int) (i k : Nat) : low4 (b.drop i) k = low4 b (i + k) := by
  simp only [low4, getD_drop, Nat.add_assoc]
theorem low2_drop (b : List Int) (i k : Nat) : low2 (b.drop i) k = low2 b (i + k) := by
  simp only [low2, getD_drop, Nat.add_assoc]
/-- where section j begins -/
def off (l : List ScT) (j : Nat) : Int := 8 + 10 * l.length + (datB (l.take j)).length
theorem dat_cons (s : ScT) (l : List ScT) : datB (s :: l) = s.2.2 ++ datB l := by simp [datB]
theorem dat_append (l m : List ScT) : datB (l ++ m) = datB l ++ datB m := by simp [datB]
theorem tab_len : ∀ (l : List ScT) (a : Int), (tabB a l).length = 10 * l.length
  | [], _ => rfl
  | s :: l, a => by
    simp only [tabB, List.length_cons, List.length_append, word_len, tab_len l]
    omega
theorem tab_drop : ∀ (l : List ScT) (a : Int) (j : Nat) (hj : j < l.length), (tabB a l).drop (10 * j) = l[j].1 :: l[j].2.1 :: (wordB (a + (datB (l.take j)).length) ++ (wordB l[j].2.2.length ++ tabB (a + (datB (l.take (j + 1))).length) (l.drop (j + 1))))
  | s :: l, a, 0, _ => by simp [tabB, datB]
  | s :: l, a, j + 1, hj => by
    have h := tab_drop l (a + s.2.2.length) j (by simpa using hj)
    have e : 10 * (j + 1) = (10 * j) + 1 + 1 + 4 + 4 := by omega
    have e1 : (s.1 :: s.2.1 :: (wordB a ++ (wordB s.2.2.length ++ tabB (a + s.2.2.length) l))).drop (10 * (j + 1)) = (tabB (a + s.2.2.length) l).drop (10 * j) := by
      rw [show 10 * (j + 1) = (4 + (4 + 10 * j)) + 1 + 1 by omega, List.drop_succ_cons, List.drop_succ_cons]
      have w1 := word_len a
      have w2 := word_len (s.2.2.length : Int)
      rw [← List.drop_drop, List.drop_left' w1, ← List.drop_drop, List.drop_left' w2]
    simp only [tabB]
    rw [e1, h]
    simp only [List.getElem_cons_succ, List.take_succ_cons, dat_cons, List.length_append, List.drop_succ_cons, Int.natCast_add, Int.add_assoc]
theorem cell_len (x : Int) : (cellB x).length = 2 := rfl
theorem body_head (e : Int) (l : List ScT) : bodyB e l = ([87, 73, 83, 80, 1, (l.length : Int), e % 256, e / 256] : List Int) ++ (tabB (8 + 10 * l.length) l ++ datB l) := rfl
theorem body_d8 (e : Int) (l : List ScT) : (bodyB e l).drop 8 = tabB (8 + 10 * l.length) l ++ datB l := rfl
theorem body_len (e : Int) (l : List ScT) : (bodyB e l).length = 8 + 10 * l.length + (datB l).length := by
  rw [body_head]; simp only [List.length_append, tab_len, List.length_cons, List.length_nil]; omega
section
variable (e : Int) (l : List ScT)
theorem body_n (hl : l.length < 256) : nS (bodyB e l) = l.length := by
  rw [body_head]; simp [nS]
theorem body_magic : (bodyB e l).take 5 = magic := by
  rw [body_head]; simp [magic]
theorem body_entry (h0 : 0 ≤ e) (h1 : e < 65536) : low2 (bodyB e l) 6 = e := by
  rw [body_head]; simp [low2]; omega
theorem body_drop (j : Nat) (hj : j < l.length) : ∃ r, (bodyB e l).drop (8 + 10 * j) = l[j].1 :: l[j].2.1 :: (wordB (off l j) ++ (wordB l[j].2.2.length ++ r)) := by
  refine ⟨tabB (8 + 10 * l.length + (datB (l.take (j + 1))).length) (l.drop (j + 1)) ++ datB l, ?_⟩
  rw [← List.drop_drop, body_d8, List.drop_append_of_le_length (by rw [tab_len]; omega), tab_drop l _ j hj]
  simp only [List.cons_append, List.append_assoc, off]
theorem body_knd (j : Nat) (hj : j < l.length) : knd (bodyB e l) j = l[j].1 := by
  obtain ⟨r, h⟩ := body_drop e l j hj
  have := getD_drop (bodyB e l) (8 + 10 * j) 0
  rw [h] at this
  exact this.symm
theorem body_nmb (j : Nat) (hj : j < l.length) : nmb (bodyB e l) j = l[j].2.1 := by
  obtain ⟨r, h⟩ := body_drop e l j hj
  have := getD_drop (bodyB e l) (8 + 10 * j) 1
  rw [h] at this
  unfold nmb
  rw [show 9 + 10 * j = 8 + 10 * j + 1 by omega, ← this]; rfl
theorem off_le (j : Nat) : off l j ≤ 8 + 10 * l.length + (datB l).length := by
  unfold off
  have := congrArg List.length (dat_append (l.take j) (l.drop j))
  rw [List.take_append_drop, List.length_append] at this
  omega
theorem off_succ (j : Nat) (hj : j < l.length) : off l (j + 1) = off l j + l[j].2.2.length := by
  unfold off
  rw [List.take_succ_eq_append_getElem hj, dat_append, List.length_append]
  simp only [datB, List.map_cons, List.map_nil, List.flatten_cons, List.flatten_nil, List.append_nil]
  omega
theorem body_frm (j : Nat) (hj : j < l.length) (hb : 8 + 10 * l.length + (datB l).length < 4294967296) : frm (bodyB e l) j = off l j := by
  obtain ⟨r, h⟩ := body_drop e l j hj
  have h1 : (bodyB e l).drop (10 + 10 * j) = wordB (off l j) ++ (wordB l[j].2.2.length ++ r) := by
    rw [show 10 + 10 * j = (8 + 10 * j) + 2 by omega, ← List.drop_drop, h]; rfl
  have h2 := low4_drop (bodyB e l) (10 + 10 * j) 0
  have h3 := off_le l j
  rw [h1, word_low _ (by unfold off; omega) (by omega)] at h2
  exact h2.symm
theorem body_siz (j : Nat) (hj : j < l.length) (hb : 8 + 10 * l.length + (datB l).length < 4294967296) : siz (bodyB e l) j = l[j].2.2.length := by
  obtain ⟨r, h⟩ := body_drop e l j hj
  have h1 : (bodyB e l).drop (14 + 10 * j) = wordB l[j].2.2.length ++ r := by
    rw [show 14 + 10 * j = (8 + 10 * j) + 2 + 4 by omega, ← List.drop_drop, ← List.drop_drop, h]
    show (wordB (off l j) ++ _).drop 4 = _
    rw [List.drop_left' (word_len _)]
  have h2 := low4_drop (bodyB e l) (14 + 10 * j) 0
  have h3 := off_le l (j + 1)
  rw [off_succ l j hj] at h3
  rw [h1, word_low _ (by omega) (by unfold off at h3; omega)] at h2
  exact h2.symm
theorem body_ats (hl : l.length < 256) (hb : 8 + 10 * l.length + (datB l).length < 4294967296) : ∀ j, j ≤ l.length → ats (bodyB e l) j = off l j
  | 0, _ => by simp [ats, off, body_n e l hl, datB]
  | j + 1, h => by
    rw [ats, body_ats hl hb j (by omega), body_siz e l j (by omega) hb, off_succ l j (by omega)]
theorem body_dat (j : Nat) (hj : j < l.length) (hl : l.length < 256) (hb : 8 + 10 * l.length + (datB l).length < 4294967296) : dat (bodyB e l) j = l[j].2.2 := by
  unfold dat
  rw [body_ats e l hl hb j (by omega), body_siz e l j hj hb]
  have e1 : (off l j).toNat = 8 + (10 * l.length + (datB (l.take j)).length) := by unfold off; omega
  rw [e1, ← List.drop_drop, body_d8, ← List.drop_drop, List.drop_left' (tab_len _ _)]
  have e2 : datB l = datB (l.take j) ++ (l[j].2.2 ++ datB (l.drop (j + 1))) := by
    rw [← dat_cons, ← List.drop_eq_getElem_cons hj, ← dat_append, List.take_append_drop]
  rw [e2, List.drop_left' rfl, Int.toNat_natCast, List.take_left' rfl]
end
end Go.Proofs.YtembdahclmffjaaDoor.Pk
/- Cartridges over numbers alone: there and back, both ways. -/
namespace Go.Proofs.YtembdahclmffjaaDoor.Pk
open Go.RowKit Go.Proofs.YtembdahclmffjaaDoorW.PrintWords Go.Proofs.YtembdahclmffjaaDoorW.PrintLast Go.Proofs.YtembdahclmffjaaDoorW.PrintMore Go.Proofs.YtembdahclmffjaaDoor.Mem
set_option linter.unusedVariables false
set_option linter.unusedSimpArgs false
theorem getB {b : List Int} (h : allB b) (i : Nat) : isB (b.getD i 0) := by
  rw [List.getD_eq_getElem?_getD]
  cases hq : b[i]? with
  | none => exact ⟨by decide, by decide⟩
  | some x => exact h x (List.mem_of_getElem? hq)
theorem low4_bd {b : List Int} (h : allB b) (i : Nat) : 0 ≤ low4 b i ∧ low4 b i < 4294967296 := by
  have h0 := getB h i; have h1 := getB h (i + 1); have h2 := getB h (i + 2); have h3 := getB h (i + 3)
  unfold isB at h0 h1 h2 h3
  unfold low4
  omega
theorem low2_bd {b : List Int} (h : allB b) (i : Nat) : 0 ≤ low2 b i ∧ low2 b i < 65536 := by
  have h0 := getB h i; have h1 := getB h (i + 1)
  unfold isB at h0 h1
  unfold low2
  omega
theorem drop_getD {b : List Int} {i : Nat} (h : i < b.length) : b.drop i = b.getD i 0 :: b.drop (i + 1) := by
  rw [List.drop_eq_getElem_cons h, List.getD_eq_getElem?_getD, List.getElem?_eq_getElem h]; rfl
theorem word_back {b : List Int} (h : allB b) {i : Nat} (hi : i + 4 ≤ b.length) : wordB (low4 b i) = (b.drop i).take 4 := by
  have h0 := getB h i; have h1 := getB h (i + 1); have h2 := getB h (i + 2); have h3 := getB h (i + 3)
  unfold isB at h0 h1 h2 h3
  rw [drop_getD (show i < b.length by omega), drop_getD (show i + 1 < b.length by omega), drop_getD (show i + 1 + 1 < b.length by omega), drop_getD (show i + 1 + 1 + 1 < b.length by omega)]
  simp only [List.take_succ_cons, List.take_zero, wordB, lowI, low4, Nat.add_assoc]
  simp only [Nat.reduceAdd, List.cons.injEq, and_true]
  omega
theorem cell_back {b : List Int} (h : allB b) {i : Nat} (hi : i + 2 ≤ b.length) : cellB (low2 b i) = (b.drop i).take 2 := by
  have h0 := getB h i; have h1 := getB h (i + 1)
  unfold isB at h0 h1
  rw [drop_getD (show i < b.length by omega), drop_getD (show i + 1 < b.length by omega)]
  simp only [List.take_succ_cons, List.take_zero, cellB, low2, Nat.add_assoc]
  simp only [Nat.reduceAdd, List.cons.injEq, and_true]
  omega
theorem ats_le {b : List Int} (h : allB b) : ∀ j k, j ≤ k → ats b j ≤ ats b k := by
  intro j k hjk
  obtain ⟨d, rfl⟩ := Nat.exists_eq_add_of_le hjk
  induction d with
  | zero => exact Int.le_refl _
  | succ d ih =>
    have h1 := ih (by omega)
    have h2 := (low4_bd h (14 + 10 * (j + d))).1
    rw [show j + (d + 1) = j + d + 1 by omega, ats]
    unfold siz
    omega
theorem ats_lo {b : List Int} (h : allB b) (j : Nat) : 8 + 10 * (nS b : Int) ≤ ats b j := ats_le h 0 j (Nat.zero_le _)
theorem dat_len {b : List Int} (h : allB b) (hT : TabOK b) {j : Nat} (hj : j < nS b) : ((dat b j).length : Int) = siz b j := by
  have h1 := hT.ent j hj
  have h2 := (low4_bd h (14 + 10 * j)).1
  have h3 := ats_lo h j
  unfold dat
  rw [List.length_take, List.length_drop]
  have h4 := h1.2
  unfold siz at *
  omega
def secOf (b : List Int) (j : Nat) : ScT := (knd b j, nmb b j, dat b j)
def secL (b : List Int) : List ScT := (List.range (nS b)).map (secOf b)
theorem secL_len (b : List Int) : (secL b).length = nS b := by simp [secL]
theorem secL_drop (b : List Int) {k : Nat} (hk : k < nS b) : (secL b).drop k = secOf b k :: (secL b).drop (k + 1) := by
  rw [List.drop_eq_getElem_cons (by rw [secL_len]; exact hk)]
  congr 1
  simp [secL]
theorem take_cut (b : List Int) (p m : Nat) (h : p + 10 * (m + 1) ≤ b.length) : (b.drop p).take (10 * (m + 1)) = b.getD p 0 :: b.getD (p + 1) 0 :: ((b.drop (p + 2)).take 4 ++ ((b.drop (p + 6)).take 4 ++ (b.drop (p + 10)).take (10 * m))) := by
  rw [drop_getD (show p < b.length by omega), drop_getD (show p + 1 < b.length by omega), show 10 * (m + 1) = (4 + (4 + 10 * m)) + 1 + 1 by omega, List.take_succ_cons, List.take_succ_cons]
  congr 2
  rw [List.take_add, List.drop_drop, List.take_add, List.drop_drop]
theorem tab_back {b : List Int} (h : allB b) (hT : TabOK b) : ∀ m k, k + m = nS b → tabB (ats b k) ((secL b).drop k) = (b.drop (8 + 10 * k)).take (10 * m) := by
  intro m
  induction m with
  | zero =>
    intro k hk
    rw [List.drop_of_length_le (by rw [secL_len]; omega)]
    simp [tabB]
  | succ m ih =>
    intro k hk
    have hkn : k < nS b := by omega
    have hfit := hT.fit
    rw [secL_drop b hkn, take_cut b _ m (by omega)]
    have h1 := hT.ent k hkn
    have hl := dat_len h hT hkn
    have hf : wordB (ats b k) = (b.drop (8 + 10 * k + 2)).take 4 := by
      rw [← h1.1]; unfold frm
      rw [show 8 + 10 * k + 2 = 10 + 10 * k by omega]
      exact word_back h (by omega)
    have hs : wordB (siz b k) = (b.drop (8 + 10 * k + 6)).take 4 := by
      unfold siz
      rw [show 8 + 10 * k + 6 = 14 + 10 * k by omega]
      exact word_back h (by omega)
    have hi := ih (k + 1) (by omega)
    rw [ats] at hi
    simp only [secOf, tabB]
    rw [hl, hf, hs, hi]
    unfold knd nmb
    rw [show 9 + 10 * k = 8 + 10 * k + 1 by omega, show 8 + 10 * (k + 1) = 8 + 10 * k + 10 by omega]
theorem data_back {b : List Int} (h : allB b) (hT : TabOK b) : ∀ m k, k + m = nS b → datB ((secL b).drop k) = b.drop (ats b k).toNat := by
  intro m
  induction m with
  | zero =>
    intro k hk
    rw [List.drop_of_length_le (by rw [secL_len]; omega)]
    have hs := hT.sum
    rw [show k = nS b by omega, hs, Int.toNat_natCast, List.drop_of_length_le (Nat.le_refl _)]
    rfl
  | succ m ih =>
    intro k hk
    have hkn : k < nS b := by omega
    rw [secL_drop b hkn, dat_cons, ih (k + 1) (by omega)]
    have h2 := (low4_bd h (14 + 10 * k)).1
    have h3 := ats_lo h k
    have e : (ats b (k + 1)).toNat = (ats b k).toNat + (siz b k).toNat := by
      rw [ats]; unfold siz; omega
    rw [e, ← List.drop_drop]
    exact List.take_append_drop _ _
theorem head_back {b : List Int} (h : allB b) (hm : b.take 5 = magic) (hl : 8 ≤ b.length) : b.take 8 = ([87, 73, 83, 80, 1, (nS b : Int), low2 b 6 % 256, low2 b 6 / 256] : List Int) := by
  have h5 := getB h 5
  unfold isB at h5
  have e : b.take 8 = b.take 5 ++ (b.drop 5).take 3 := by rw [show 8 = 5 + 3 from rfl, List.take_add]
  have hc := cell_back h (i := 6) (by omega)
  have e3 : (b.drop 5).take 3 = b.getD 5 0 :: (b.drop 6).take 2 := by
    rw [drop_getD (show 5 < b.length by omega), show 3 = 2 + 1 from rfl, List.take_succ_cons]
  rw [e, hm, e3, ← hc]
  unfold nS cellB
  rw [Int.toNat_of_nonneg h5.1]
  rfl
theorem body_back {b : List Int} (h : allB b) (hm : b.take 5 = magic) (hT : TabOK b) : bodyB (low2 b 6) (secL b) = b := by
  have hfit := hT.fit
  have h1 := tab_back h hT (nS b) 0 (by omega)
  have h2 := data_back h hT (nS b) 0 (by omega)
  rw [List.drop_zero] at h1 h2
  rw [body_head, secL_len, ← head_back h hm (by omega)]
  have e0 : ats b 0 = 8 + 10 * (nS b : Int) := rfl
  rw [e0] at h1 h2
  rw [h1, h2, show (8 + 10 * (nS b : Int)).toNat = 8 + 10 * nS b by omega]
  have e1 : (b.drop (8 + 10 * 0)).take (10 * nS b) ++ b.drop (8 + 10 * nS b) = b.drop 8 := by
    have := List.take_append_drop (10 * nS b) (b.drop 8)
    rw [List.drop_drop] at this
    exact this
  rw [e1]
  exact List.take_append_drop _ _
theorem cell_low (x : Int) (h0 : 0 ≤ x) (h1 : x < 65536) : x % 256 + 256 * (x / 256) = x := by omega
theorem effB_cons (x : EfT) (es : List EfT) : effB (x :: es) = [x.1 % 256, x.1 / 256, x.2.1 % 256, x.2.1 / 256, x.2.2 % 256, x.2.2 / 256] ++ effB es := by simp [effB, cellB]
theorem eff_len (es : List EfT) : (effB es).length = 6 * es.length := by
  induction es with
  | nil => rfl
  | cons x es ih => rw [effB_cons, List.length_append, ih, List.length_cons]; simp; omega
/-- numbers of an effect are cells -/
def cellE (x : EfT) : Prop := (0 ≤ x.1 ∧ x.1 < 65536) ∧ (0 ≤ x.2.1 ∧ x.2.1 < 65536) ∧ (0 ≤ x.2.2 ∧ x.2.2 < 65536)
theorem efs_there (es : List EfT) (h : ∀ x ∈ es, cellE x) : efsOf es.length (effB es) = es := by
  induction es with
  | nil => rfl
  | cons x es ih =>
    obtain ⟨⟨a0, a1⟩, ⟨b0, b1⟩, ⟨c0, c1⟩⟩ := h x (by simp)
    rw [effB_cons, List.length_cons]
    simp only [efsOf, low2, List.cons_append, List.nil_append, List.getD_cons_zero, List.getD_cons_succ, Nat.zero_add, List.drop_succ_cons, List.drop_zero, Nat.reduceAdd]
    rw [ih (fun y hy => h y (by simp [hy])), cell_low _ a0 a1, cell_low _ b0 b1, cell_low _ c0 c1]
theorem efs_back : ∀ (k : Nat) (d : List Int), allB d → d.length = 6 * k → effB (efsOf k d) = d
  | 0, d, _, h => by
    have : d = [] := List.length_eq_zero_iff.1 (by omega)
    subst this; rfl
  | k + 1, d, hB, h => by
    have hd : allB (d.drop 6) := fun x hx => hB x (List.mem_of_mem_drop hx)
    have h1 := efs_back k (d.drop 6) hd (by rw [List.length_drop]; omega)
    have c0 := cell_back hB (i := 0) (by omega)
    have c2 := cell_back hB (i := 2) (by omega)
    have c4 := cell_back hB (i := 4) (by omega)
    have e : d = d.take 2 ++ ((d.drop 2).take 2 ++ ((d.drop 4).take 2 ++ d.drop 6)) := by
      have e1 : d.drop 4 = (d.drop 4).take 2 ++ d.drop 6 := by
        have := List.take_append_drop 2 (d.drop 4)
        rw [List.drop_drop] at this; exact this.symm
      have e2 : d.drop 2 = (d.drop 2).take 2 ++ d.drop 4 := by
        have := List.take_append_drop 2 (d.drop 2)
        rw [List.drop_drop] at this; exact this.symm
      rw [← e1, ← e2, List.take_append_drop]
    rw [List.drop_zero] at c0
    have e9 : effB (efsOf (k + 1) d) = cellB (low2 d 0) ++ (cellB (low2 d 2) ++ (cellB (low2 d 4) ++ effB (efsOf k (d.drop 6)))) := by
      simp only [efsOf, effB, List.flatMap_cons, List.append_assoc]
    rw [e9, h1, c0, c2, c4, ← e]
end Go.Proofs.YtembdahclmffjaaDoor.Pk
/- Cartridges over numbers alone: a cartridge that may be comes back; bytes that are taken are written again. -/
namespace Go.Proofs.YtembdahclmffjaaDoor.Pk
open Go.RowKit Go.Proofs.YtembdahclmffjaaDoorW.PrintWords Go.Proofs.YtembdahclmffjaaDoorW.PrintLast Go.Proofs.YtembdahclmffjaaDoorW.PrintMore Go.Proofs.YtembdahclmffjaaDoor.Mem
set_option linter.unusedVariables false
set_option linter.unusedSimpArgs false
/-- numbers of a cartridge are of their kinds -/
structure WfC (c : CartP) : Prop where
  code : allB c.code
  e0 : 0 ≤ c.entry
  e1 : c.entry < 65536
  ats : ∀ x ∈ c.efs, 0 ≤ x.1 ∧ x.1 < 65536
  bks : ∀ b ∈ c.bks, allB b.2
theorem bk_num {bs : List BkT} (h : ∀ i, i < bs.length → okB bs i) : ∀ i, i < bs.length → (i : Int) ≤ (bs.getD i (0, [])).1
  | 0, h0 => (h 0 h0).1
  | i + 1, h1 => by
    have h2 := bk_num h i (by omega)
    have h3 := (h (i + 1) h1).2.2.2 (by omega)
    rw [show i + 1 - 1 = i by omega] at h3
    omega
theorem bk_len {bs : List BkT} (h : ∀ i, i < bs.length → okB bs i) : bs.length ≤ 16 := by
  by_cases h0 : bs.length = 0
  · omega
  · have h1 := bk_num h (bs.length - 1) (by omega)
    have h2 := (h (bs.length - 1) (by omega)).2.1
    omega
theorem getD_at {α : Type} (l : List α) (z : α) {i : Nat} (h : i < l.length) : l.getD i z = l[i] := by
  rw [List.getD_eq_getElem?_getD, List.getElem?_eq_getElem h]; rfl
theorem secs_len (c : CartP) : (secs c).length = 2 + c.bks.length := by simp [secs]; omega
theorem bk_sum : ∀ (bs : List BkT), (∀ b ∈ bs, b.2.length ≤ 16384) → (datB (bs.map fun b => ((3 : Int), b.1, b.2))).length ≤ 16384 * bs.length
  | [], _ => by simp [datB]
  | b :: bs, h => by
    have h1 := bk_sum bs (fun x hx => h x (by simp [hx]))
    have h2 := h b (by simp)
    rw [List.map_cons, dat_cons, List.length_append, List.length_cons]
    simp only at *
    omega
theorem secs_dat {c : CartP} (h : OkC c) : (datB (secs c)).length ≤ 327680 := by
  have h1 := bk_len h.bs
  have h2 := bk_sum c.bks (fun b hb => by
    obtain ⟨i, hi, rfl⟩ := List.getElem_of_mem hb
    have h3 := (h.bs i hi).2.2.1
    rw [getD_at _ _ hi] at h3
    exact h3)
  have h3 := h.cl
  have h4 := h.el
  unfold secs
  rw [dat_cons, dat_cons, List.length_append, List.length_append]
  simp only [eff_len]
  omega
theorem sum_bd (ps : List (List Int)) : 0 ≤ sumI ps ∧ sumI ps < 4294967296 := by
  have := bits32 .xor 4294967295 (ps.flatten.foldl upI 4294967295)
  unfold sumI
  omega
section
variable {c : CartP}
theorem enc_tab (h : OkC c) : TabOK (bodyB c.entry (secs c)) := by
  have hb := bk_len h.bs
  have hl := secs_len c
  have hd := secs_dat h
  have hl2 : (secs c).length < 256 := by omega
  have hb2 : 8 + 10 * (secs c).length + (datB (secs c)).length < 4294967296 := by omega
  have hn := body_n c.entry (secs c) hl2
  refine ⟨by omega, by omega, by rw [body_len]; omega, fun j hj => ?_, fun j hj => ?_, ?_⟩
  · rw [hn] at hj
    have h1 := off_le (secs c) (j + 1)
    rw [off_succ _ j hj] at h1
    refine ⟨?_, ?_⟩
    · rw [body_frm _ _ j hj hb2, body_ats _ _ hl2 hb2 j (by omega)]
    · rw [body_siz _ _ j hj hb2, body_ats _ _ hl2 hb2 j (by omega), body_len]
      omega
  · rw [hn] at hj
    unfold rgt
    rw [body_knd _ _ j hj, body_nmb _ _ j hj]
    match j, hj with
    | 0, hj => exact ⟨rfl, fun _ => rfl, by simp [secs], fun h => by omega⟩
    | 1, hj => exact ⟨rfl, fun _ => rfl, by simp [secs], fun h => by omega⟩
    | i + 2, hj =>
      have hi : i < c.bks.length := by omega
      have e : (secs c)[i + 2] = ((3 : Int), c.bks[i].1, c.bks[i].2) := by simp [secs]
      have h2 := h.bs i hi
      unfold okB at h2
      rw [getD_at _ _ hi] at h2
      rw [e]
      refine ⟨?_, fun h => by omega, h2.2.1, fun h3 => ?_⟩
      · rw [show min (i + 2 + 1) 3 = 3 by omega]; rfl
      · obtain ⟨k, rfl⟩ : ∃ k, i = k + 1 := ⟨i - 1, by omega⟩
        rw [show k + 1 + 2 - 1 = k + 2 by omega, body_nmb _ _ (k + 2) (by omega)]
        have e2 : (secs c)[k + 2]'(by omega) = ((3 : Int), c.bks[k].1, c.bks[k].2) := by simp [secs]
        rw [e2]
        have h4 := h2.2.2.2 (by omega)
        rw [show k + 1 - 1 = k by omega, getD_at _ _ (by omega)] at h4
        exact h4
  · rw [hn, body_ats _ _ hl2 hb2 _ (Nat.le_refl _), body_len]
    unfold off
    rw [List.take_length]
    omega
theorem enc_cart (h : OkC c) (hw : WfC c) : cartOf (bodyB c.entry (secs c)) = c ∧ siz (bodyB c.entry (secs c)) 1 % 6 = 0 := by
  have hb := bk_len h.bs
  have hl := secs_len c
  have hd := secs_dat h
  have hl2 : (secs c).length < 256 := by omega
  have hb2 : 8 + 10 * (secs c).length + (datB (secs c)).length < 4294967296 := by omega
  have hn := body_n c.entry (secs c) hl2
  have s1 := body_siz c.entry (secs c) 1 (by omega) hb2
  have e1 : (secs c)[1]'(by omega) = ((2 : Int), (0 : Int), effB c.efs) := by simp [secs]
  rw [e1] at s1
  simp only [eff_len] at s1
  refine ⟨?_, by rw [s1]; omega⟩
  have hE : ∀ x ∈ c.efs, cellE x := fun x hx => by
    obtain ⟨i, hi, rfl⟩ := List.getElem_of_mem hx
    have h2 := h.es i hi
    unfold okE at h2
    rw [getD_at _ _ hi] at h2
    exact ⟨hw.ats _ hx, by omega, by omega⟩
  have d0 := body_dat c.entry (secs c) 0 (by omega) hl2 hb2
  have d1 := body_dat c.entry (secs c) 1 (by omega) hl2 hb2
  rw [e1] at d1
  have q0 : dat (bodyB c.entry (secs c)) 0 = c.code := by rw [d0]; simp [secs]
  have q2 : efsOf ((siz (bodyB c.entry (secs c)) 1).toNat / 6) (dat (bodyB c.entry (secs c)) 1) = c.efs := by
    rw [s1, d1, show ((6 * c.efs.length : Nat) : Int).toNat / 6 = c.efs.length by omega]
    exact efs_there _ hE
  have q3 : ((List.range (nS (bodyB c.entry (secs c)) - 2)).map fun i => (nmb (bodyB c.entry (secs c)) (i + 2), dat (bodyB c.entry (secs c)) (i + 2))) = c.bks := by
    rw [hn]
    apply List.ext_getElem
    · simp; omega
    · intro i h1 h2
      have e3 : (secs c)[i + 2]'(by omega) = ((3 : Int), c.bks[i].1, c.bks[i].2) := by simp [secs]
      rw [List.getElem_map, List.getElem_range, body_nmb _ _ (i + 2) (by omega), body_dat _ _ (i + 2) (by omega) hl2 hb2, e3]
  unfold cartOf
  rw [q0, q2, q3, body_entry _ _ hw.e0 hw.e1]
theorem there (h : OkC c) (hw : WfC c) : decB (encB c) = (c, 0) := by
  have hb := bk_len h.bs
  have hl := secs_len c
  have hd := secs_dat h
  have hlen := body_len c.entry (secs c)
  obtain ⟨b, hbb⟩ : ∃ b, b = bodyB c.entry (secs c) := ⟨_, rfl⟩
  have hS := sum_bd [b]
  have he : encB c = b ++ wordB (sumI [b]) := by rw [hbb]; rfl
  rw [← hbb] at hlen
  have hle : (encB c).length = b.length + 4 := by rw [he, List.length_append, word_len]
  have ht : (encB c).take ((encB c).length - 4) = b := by
    rw [hle, he, List.take_left' (by omega)]
  have hlow : low4 (encB c) ((encB c).length - 4) = sumI [b] := by
    have h1 := low4_drop (encB c) b.length 0
    rw [he, List.drop_left' rfl] at h1
    have h2 := word_low (sumI [b]) hS.1 hS.2 []
    rw [List.append_nil] at h2
    rw [hle, he, show b.length + 4 - 4 = b.length + 0 by omega, ← h1, h2]
  have hm : (encB c).take 5 = magic := by
    rw [he, List.take_append_of_le_length (by omega), hbb]
    exact body_magic _ _
  unfold decB
  rw [if_neg (fun hn => hn ⟨by omega, hm⟩), if_neg (fun hn => hn ⟨by omega, by omega, by rw [hlow, ht]⟩), ht]
  unfold decR
  obtain ⟨h1, h2⟩ := enc_cart h hw
  have h3 := enc_tab h
  rw [← hbb] at h1 h2 h3
  rw [if_neg (fun hn => hn h3), if_neg (fun hn => hn h2), h1, if_neg (fun hn => hn h)]
end
theorem secs_of {b : List Int} (hB : allB b) (hT : TabOK b) (h6 : siz b 1 % 6 = 0) : secs (cartOf b) = secL b := by
  have hlo := hT.lo
  have r0 := hT.rt 0 (by omega)
  have r1 := hT.rt 1 (by omega)
  have hd1 : allB (dat b 1) := fun x hx => hB x (List.mem_of_mem_drop (List.mem_of_mem_take hx))
  have hl1 := dat_len hB hT (j := 1) (by omega)
  have hs := (low4_bd hB (14 + 10 * 1)).1
  have hE : effB (efsOf ((siz b 1).toNat / 6) (dat b 1)) = dat b 1 := efs_back _ _ hd1 (by omega)
  apply List.ext_getElem
  · rw [secs_len, secL_len]; simp [cartOf]; omega
  · intro i h1 h2
    have e2 : (secL b)[i] = secOf b i := by simp [secL]
    rw [e2]
    rw [secL_len] at h2
    match i, h1, h2 with
    | 0, _, _ =>
      show ((1 : Int), (0 : Int), dat b 0) = _
      unfold secOf
      rw [r0.1, r0.2.1 (by omega)]; rfl
    | 1, _, _ =>
      show ((2 : Int), (0 : Int), effB (efsOf ((siz b 1).toNat / 6) (dat b 1))) = _
      unfold secOf
      rw [hE, r1.1, r1.2.1 (by omega)]; rfl
    | j + 2, h1, h2 =>
      have r2 := hT.rt (j + 2) h2
      have e3 : (secs (cartOf b))[j + 2]'h1 = ((3 : Int), nmb b (j + 2), dat b (j + 2)) := by simp [secs, cartOf]
      rw [e3]
      unfold secOf
      rw [r2.1, show min (j + 2 + 1) 3 = 3 by omega]; rfl
theorem back {r : List Int} {c : CartP} (hB : allB r) (h : decB r = (c, 0)) : encB c = r ∧ OkC c := by
  unfold decB at h
  split at h
  · simp at h
  · rename_i h1
    split at h
    · simp at h
    · rename_i h2
      have h1 := Classical.not_not.1 h1
      have h2 := Classical.not_not.1 h2
      generalize hb : r.take (r.length - 4) = b at h h2
      unfold decR at h
      split at h
      · simp at h
      · rename_i h3
        have h3 := Classical.not_not.1 h3
        split at h
        · simp at h
        · rename_i h4
          have h4 := Classical.not_not.1 h4
          split at h
          · simp at h
          · rename_i h5
            have h5 := Classical.not_not.1 h5
            obtain rfl : cartOf b = c := by simpa using h
            refine ⟨?_, h5⟩
            have hBb : allB b := fun x hx => hB x (List.mem_of_mem_take (hb ▸ hx))
            have hm : b.take 5 = magic := by
              rw [← hb, List.take_take, show min 5 (r.length - 4) = 5 by omega]; exact h1.2
            have h6 := body_back hBb hm h3
            have h7 := secs_of hBb h3 h4
            have h8 : bodyB (cartOf b).entry (secs (cartOf b)) = b := by rw [h7]; exact h6
            unfold encB
            rw [h8, ← h2.2.2, word_back hB (by omega), ← hb, List.take_of_length_le (l := r.drop (r.length - 4)) (by rw [List.length_drop]; omega)]
            exact List.take_append_drop _ _
theorem dec_err {r : List Int} {c : CartP} {e : Int} (h : decB r = (c, e)) : (e = 0 ∧ c = cartOf (r.take (r.length - 4))) ∨ (c = z0 ∧ 70 ≤ e ∧ e ≤ 73) := by
  unfold decB at h
  split at h
  · simp only [Prod.mk.injEq] at h; right; refine ⟨h.1.symm, ?_⟩; omega
  · split at h
    · simp only [Prod.mk.injEq] at h; right; refine ⟨h.1.symm, ?_⟩; omega
    · unfold decR at h
      split at h
      · simp only [Prod.mk.injEq] at h; right; refine ⟨h.1.symm, ?_⟩; omega
      · split at h
        · simp only [Prod.mk.injEq] at h; right; refine ⟨h.1.symm, ?_⟩; omega
        · split at h
          · simp only [Prod.mk.injEq] at h; right; refine ⟨h.1.symm, ?_⟩; omega
          · simp only [Prod.mk.injEq] at h; left; exact ⟨h.2.symm, h.1.symm⟩
end Go.Proofs.YtembdahclmffjaaDoor.Pk
/- The document's sum and join (wispref03.Sum, wispref03.Join): their contracts. -/
namespace Go.Proofs.YtembdahclmffjaaDoor.Pk
open Go.RowKit Go.Proofs.YtembdahclmffjaaDoorW.PrintWords Go.Proofs.YtembdahclmffjaaDoorW.PrintLast Go.Proofs.YtembdahclmffjaaDoorW.PrintMore Go.Proofs.YtembdahclmffjaaDoor.Mem
set_option linter.unusedVariables false
set_option linter.unusedSimpArgs false
theorem and_one (r : Nat) (h : r < 4294967296) : Go.bits .and .u32 (r : Int) 1 = ((r % 2 : Nat) : Int) := by
  unfold Go.bits
  rw [IntKind.wrap_u32]
  have ta : (BitVec.ofInt 32 (r : Int)).toNat = r := by simp; omega
  show (((BitVec.ofInt 32 (r : Int) &&& BitVec.ofInt 32 1).toNat : Nat) : Int) % 4294967296 = _
  rw [BitVec.toNat_and, ta, show (BitVec.ofInt 32 1).toNat = 1 by decide, Nat.and_one_is_mod]
  omega
theorem its_succ8 (k r : Nat) : Crc.its (k + 1) r = Crc.its k (Crc.stp r) := rfl
set_option maxRecDepth 100000 in
set_option maxHeartbeats 4000000 in
theorem RefSum {w : World} {A : Option Addr} {c : Nat} {xs : List Int} (hC : Kd.C (Kd.int .u8) w A xs.length xs) (hB : allB xs) :
    Calls Tryd.prog 27 #[.slice A xs.length c] w fun e w' => e = .returned (.int .u32 (sumI [xs])) ∧ w = w' := by
  obtain ⟨n, hn⟩ : ∃ n, n = xs.length := ⟨_, rfl⟩
  have hnn := Aside0.mk hn
  have hCC := Aside0.mk hC
  have hBB := Aside0.mk hB
  rw [← hn]
  have hn63 : n ≤ 9223372036854775807 := by have := hC.2.1; omega
  clear hn hC hB
  go_enter Tryd.func27, Tryd.ntmps27
  go_wp2
  go_loopg [3, 4] n (fun gk v3 v4 wr => ∃ (i r : Nat), v3 = .int .u32 (r : Int) ∧ v4 = .int .i64 (i : Int) ∧ r < 4294967296 ∧ i + gk = n ∧ wr = w ∧ Aside0 (Crc.reg r (nat (xs.drop i)) = Crc.reg 4294967295 (nat xs)))
  case atStart => exact ⟨0, 4294967295, rfl, rfl, by omega, by omega, rfl, ⟨rfl⟩⟩
  case round =>
    obtain ⟨i, r, rfl, rfl, hr, hi, rfl, hx⟩ := hrel
    cases gk with
    | zero =>
      have hd : decide (i < n) = false := decide_eq_false (by omega)
      go_wp2
      go_ret
      refine ⟨?_, rfl⟩
      have h1 := hx.out
      rw [List.drop_of_length_le (by have := hnn.out; omega)] at h1
      rw [sum_one hBB.out]
      unfold Crc.sum
      rw [← h1]
      show Ending.returned (.int .u32 (Go.bits .xor .u32 (r : Int) 4294967295)) = _
      have h9 := xor32 r 4294967295 hr (by omega)
      rw [show ((4294967295 : Nat) : Int) = 4294967295 from rfl] at h9
      rw [h9]
      rfl
    | succ k1 =>
      have hd : decide (i < n) = true := decide_eq_true (by omega)
      obtain ⟨a0, e0, hxb⟩ := Kd.at_int hCC.out (i : Int) (by omega) (by have := hnn.out; omega)
      subst e0
      rw [Int.toNat_natCast] at hxb
      have hlt : i < xs.length := by have := hnn.out; omega
      have hb := rdB hBB.out (i : Int)
      unfold isB at hb
      obtain ⟨bv, hbv⟩ := Int.eq_ofNat_of_zero_le hb.1
      have hX := hx.out
      have hdr : xs.drop i = rd xs (i : Int) :: xs.drop (i + 1) := by
        rw [List.drop_eq_getElem_cons hlt]
        congr 1
        unfold rd
        rw [Int.toNat_natCast, List.getD_eq_getElem?_getD, List.getElem?_eq_getElem hlt]; rfl
      rw [hdr, hbv, show nat ((bv : Int) :: xs.drop (i + 1)) = bv :: nat (xs.drop (i + 1)) by simp [nat], Crc.reg_cons] at hX
      rw [hbv] at hxb
      have hb256 : bv < 256 := by omega
      clear hx hdr hb hlt hbv
      have hZ := xor32 r bv hr (by omega)
      have hz0 : r ^^^ bv < 4294967296 := Nat.xor_lt_two_pow (n := 32) hr (by omega)
      have hYY : Aside0 (Crc.reg (Crc.its 8 (r ^^^ bv)) (nat (xs.drop (i + 1))) = Crc.reg 4294967295 (nat xs)) := ⟨hX⟩
      clear hX
      generalize r ^^^ bv = Z at hZ hz0 hYY
      go_wp2
      obtain ⟨wp, rfl⟩ : ∃ wp : World, wp = wr := ⟨_, rfl⟩
      go_loopg [3, 5] 8 (fun gl v3 v5 wl => ∃ (l z : Nat), v3 = .int .u32 (z : Int) ∧ v5 = .int .i64 (l : Int) ∧ z < 4294967296 ∧ l + gl = 8 ∧ wl = wp ∧ Aside0 (Crc.its gl z = Crc.its 8 Z))
      case atStart => exact ⟨0, Z, rfl, rfl, hz0, by omega, rfl, ⟨rfl⟩⟩
      case round =>
        obtain ⟨l, z, rfl, rfl, hq0, hl, rfl, hq⟩ := hrel
        cases gk with
        | zero =>
          have hd3 : decide ((l : Int) < 8) = false := decide_eq_false (by omega)
          go_wp2
          go_roundg k1
          case measure => omega
          case rel => exact ⟨i + 1, z, rfl, rfl, hq0, by omega, rfl, ⟨by rw [← hYY.out, ← hq.out]; rfl⟩⟩
        | succ l1 =>
          have hd3 : decide ((l : Int) < 8) = true := decide_eq_true (by omega)
          have hone := and_one z hq0
          have hst := Crc.stp_lt hq0
          have hqq := hq.out
          rw [its_succ8] at hqq
          have hqx := Aside0.mk hqq
          clear hq hqq
          by_cases ho : z % 2 = 1
          · have hd4 : (Go.bits .and .u32 (z : Int) 1 == 1) = true := by rw [hone, ho]; rfl
            have hs : Crc.stp z = (z / 2) ^^^ 0xedb88320 := by unfold Crc.stp; rw [if_pos ho]
            have hV := xor32 (z / 2) 0xedb88320 (by omega) (by omega)
            rw [← hs, show ((0xedb88320 : Nat) : Int) = 3988292384 from rfl, show ((z / 2 : Nat) : Int) = (z : Int) / 2 by omega] at hV
            generalize Crc.stp z = S at hV hst hqx
            clear hs hone
            go_wp2
            go_roundg l1
            case measure => omega
            case rel => exact ⟨l + 1, S, by first | rfl | rw [hV], rfl, hst, by omega, rfl, hqx⟩
          · have hd4 : (Go.bits .and .u32 (z : Int) 1 == 1) = false := by rw [hone, show z % 2 = 0 by omega]; rfl
            have hs : Crc.stp z = z / 2 := by unfold Crc.stp; rw [if_neg ho]
            clear hone
            go_wp2
            go_roundg l1
            case measure => omega
            case rel => exact ⟨l + 1, z / 2, by rw [show ((z / 2 : Nat) : Int) = (z : Int) / 2 by omega], rfl, by omega, by omega, rfl, ⟨by rw [← hs]; exact hqx.out⟩⟩
end Go.Proofs.YtembdahclmffjaaDoor.Pk
