/- What a call may have turned (Fr), and rows and boxes behind it: small lemmas of this session, over no program. -/
import Derived.Test.YtpjdgndbcjinjaaDoorWMore
import Derived.RangeFuncBox
import Derived.RangeFuncNested
namespace Go.Proofs.YtpjdgndbcjinjaaDoor.Mem
open Go.RowKit Go.Proofs.YtpjdgndbcjinjaaDoorW.PrintWords Go.Proofs.YtpjdgndbcjinjaaDoorW.PrintLast Go.Proofs.YtpjdgndbcjinjaaDoorW.PrintMore
set_option linter.unusedVariables false
/-- Every block of w but those of S is as it was. -/
structure Fr (w w' : World) (S : Nat → Prop) : Prop where
  os : w'.os = w.os
  tape : w'.tape = w.tape
  output : w'.output = w.output
  size : w.heap.size ≤ w'.heap.size
  block : ∀ k, k < w.heap.size → ¬ S k → w'.heap[k]? = w.heap[k]?
namespace Fr
variable {w w' w2 : World} {S T : Nat → Prop}
theorem refl (w : World) (S : Nat → Prop) : Fr w w S := ⟨rfl, rfl, rfl, Nat.le_refl _, fun _ _ _ => rfl⟩
theorem mono (h : Fr w w' S) (hs : ∀ k, k < w.heap.size → S k → T k) : Fr w w' T := ⟨h.os, h.tape, h.output, h.size, fun k hk ht => h.block k hk (fun hS => ht (hs k hk hS))⟩
theorem trans (h : Fr w w' S) (k : Fr w' w2 T) (hs : ∀ k, k < w.heap.size → T k → S k) : Fr w w2 S :=
  ⟨k.os.trans h.os, k.tape.trans h.tape, k.output.trans h.output, Nat.le_trans h.size k.size, fun i hi hn => (k.block i (Nat.lt_of_lt_of_le hi h.size) (fun ht => hn (hs i hi ht))).trans (h.block i hi hn)⟩
theorem of_below (h : Below w.heap.size w w') (S : Nat → Prop) : Fr w w' S := ⟨h.os, h.tape, h.output, h.size, fun k hk _ => h.block k hk⟩
theorem of_grown {row : Option Nat} (h : w.grownBy w' row) (hs : ∀ k, row = some k → k < w.heap.size → S k) : Fr w w' S :=
  ⟨h.os, h.tape, h.output, h.size, fun k hk hn => h.block k hk (fun e => hn (hs k e.symm hk))⟩
theorem alloc (h : Fr w w' S) (o : Obj) : Fr w (w'.alloc o) S := h.trans (of_below (below_alloc (Below.refl _ _) o) (fun _ => False)) (fun _ _ hf => hf.elim)
theorem drew (h : Fr w w' S) : Fr w w'.drew S := ⟨h.os, h.tape, h.output, h.size, h.block⟩
theorem drewN (h : Fr w w' S) (n : Nat) : Fr w (w'.drewN n) S := ⟨h.os, h.tape, h.output, h.size, h.block⟩
theorem setCell (h : Fr w w' S) {p : Addr} (hp : p.block < w.heap.size → S p.block) (u : Value) : Fr w (w'.setCell p u) S :=
  ⟨h.os, h.tape, h.output, Nat.le_trans h.size (by simp [World.setCell]), fun k hk hn => (Below.heap_setCell w' p u k (fun e => hn (e ▸ hp (e ▸ hk)))).trans (h.block k hk hn)⟩
theorem below (h : Fr w w' S) {B : Nat} (hB : B ≤ w.heap.size) (hs : ∀ k, k < B → ¬ S k) : Below B w w' := ⟨h.os, h.tape, h.output, h.size, fun k hk => h.block k (Nat.lt_of_lt_of_le hk hB) (hs k hk)⟩
theorem boxed (h : Fr w w' S) {B : Nat} {t : TypeId} {v : Value} (hb : Boxed w B t v) (hs : ¬ S B) : Boxed w' B t v := (h.block B hb.lt hs).trans hb
theorem heap (h : Fr w w' S) {B : Nat} {o : Obj} (hb : w.heap[B]? = some o) (hs : ¬ S B) : w'.heap[B]? = some o := (h.block B (Array.getElem?_eq_some_iff.1 hb).1 hs).trans hb
theorem row {α : Type} {d : Kd α} {e base : Nat} {ok : Nat → Prop} {v : Value} {xs : List α} (h : Fr w w' S) (hr : d.R e w base ok v xs) (hs : ∀ k, ok k → k < w.heap.size → ¬ S k) : d.R e w' base ok v xs :=
  Kd.R_step hr (fun k hk hlt => h.block k hlt (hs k hk hlt))
end Fr
/-- the same in one block's name -/
theorem heap_lt {w : World} {B : Nat} {o : Obj} (h : w.heap[B]? = some o) : B < w.heap.size := (Array.getElem?_eq_some_iff.1 h).1
theorem C_move {k : IntKind} {w w' : World} {A : Option Addr} {n : Nat} {xs : List Int} (h : Kd.C (Kd.int k) w A n xs) (hm : ∀ a, A = some a → 0 < n → w'.heap[a.block]? = w.heap[a.block]?) : Kd.C (Kd.int k) w' A n xs := by
  have hr : ReadsInt w k A n xs := Kd.reads_of_C (d := (0 : Int)) h
  refine Kd.C_of_reads (d := (0 : Int)) (h1 := fun _ => rfl) ⟨hr.1, hr.2.1, fun hn => ?_⟩
  obtain ⟨ad, e, hc⟩ := hr.2.2 hn
  refine ⟨ad, e, fun j hj => ?_⟩
  rw [← hc j hj]
  refine World.cell?_of_block ?_
  rw [show (ad.add j).block = ad.block by unfold Addr.add; split <;> rfl]
  exact hm ad e hn
end Go.Proofs.YtpjdgndbcjinjaaDoor.Mem
