/- A region that draws its order, within a round of a range over a function: by the words of the print's second file. -/
import Derived.Test.YtjphhnhloeanlaaWLast
import Derived.OrdersIn
import Derived.TacticsIn
import Derived.ControlIn
namespace Go.Proofs.Ytjphhnhloeanlaa.Rr
open Go Go.Proofs.YtjphhnhloeanlaaW.PrintLast
set_option linter.unusedVariables false
section
variable {P : Program} {ops : Array Oper} {Q : Exit → Act → World → Prop} {S : World → Prop} {ds : List Nat}
theorem rows_in {l n : Nat} {row : String} {args : Array Value} {w : World} {R : Value → World → Prop} (h : Rows P row args w R) : RowsIn (Fence.wide.inRound l) n P row args w R :=
  fun c cs _ => let ⟨v, w', r, s⟩ := h c cs; ⟨v, w', r, stepsIn_wide.2 s⟩
theorem calls_in {l n : Nat} {f : FuncId} {args : Array Value} {w : World} {R : Ending → World → Prop} (h : Calls P f args w R) : CallsIn (Fence.wide.inRound l) n P f args w R :=
  show CallsIn Fence.wide n P f args w R from callsIn_wide.2 h
theorem wp_in {l n : Nat} {o : Oper} (hd : ∀ c, o.op ≠ .defer c) {a : Act} {w : World} {K : Act → World → Prop} (h : o.wp P a w K Q) : o.wpIn (Fence.wide.inRound l) n P a w K Q := by
  refine ⟨fun _ _ => trivial, ?_⟩
  rw [show (Fence.wide.inRound l).round = some l from rfl, Oper.semAt_eq (some l) a.eval o hd]
  unfold Oper.wp at h
  generalize (execOp a.eval o).run P w = r at h
  cases r with
  | ok x w' =>
    cases x with
    | value v => exact h
    | skip => exact h
    | defer d => exact h
    | enter f args => exact ⟨fun e => (by cases e), calls_in h⟩
    | row row args => exact ⟨fun e => (by cases e), rows_in h⟩
    | _ => exact h.elim
  | halt x w' => cases x <;> first | exact h | exact h.elim
theorem ops_in {l n : Nat} (hd : ∀ (i : Nat) (o : Oper), ops[i]? = some o → ∀ c, o.op ≠ .defer c) (hno : ¬ LetsOut Q) : ∀ (s : List Nat) (a : Act) (w : World), wpOps P ops Q s a w → wpOpsIn (Fence.wide.inRound l) n P ops Q s a w
  | [], a, w, h => h
  | i :: s, a, w, h => by
    simp only [wpOps] at h
    simp only [wpOpsIn]
    cases ho : ops[i]? with
    | none => rw [ho] at h; exact ops_in hd hno s a w h
    | some o =>
      rw [ho] at h
      dsimp only at h ⊢
      by_cases c : Region.wanted o (yielded ops a.tmps) = true
      · rw [if_pos c] at h ⊢
        rcases h with h | h
        · exact wp_in (hd i o ho) (Oper.wp_mono (fun a' w' k => ops_in hd hno s a' w' k) h)
        · exact absurd h.2 hno
      · rw [if_neg c] at h ⊢
        exact ⟨fun _ _ => trivial, ops_in hd hno s _ w h⟩
def noDefer (ops : Array Oper) : Bool := ops.toList.all fun o => match o.op with
  | .defer _ => false
  | _ => true
theorem noDefer_spec (h : noDefer ops = true) (i : Nat) (o : Oper) (ho : ops[i]? = some o) (c) : o.op ≠ .defer c := by
  intro e
  have h1 := List.all_eq_true.1 h o (by
    have := Array.mem_of_getElem? ho
    simpa using this)
  rw [e] at h1
  cases h1
theorem start_round {id n m l0 : Nat} {a : Act} {w : World} (l : Array Bool) (hm : P.follows .mixedOrders = true) (hn : ops.size = n) (hl : Array.replicate n false = l) (hd : noDefer ops = true) (hno : ¬ LetsOut Q) (hS : S w.drew)
    (h : S w.drew → wpAnyLast P .any ops Q S ds n l a w.drew) : (Code.region id ops true).wpIn (Fence.wide.inRound l0) m P Q a w := by
  subst hn
  subst hl
  refine wpIn_region_draw fun t => ?_
  simp only [Region.schedule, hm, Bool.true_or, if_true]
  exact ops_in (noDefer_spec hd) hno _ _ _ (wpAny_sound _ t _ a _ (wpAny_of_last _ _ _ _ (h hS)))
/-- no way through panics -/
def noPanic (Q : Exit → Act → World → Prop) : Exit → Act → World → Prop
  | .panic _, _, _ => False
  | e, a, w => Q e a w
theorem noPanic_normal {Q : Exit → Act → World → Prop} {a : Act} {w : World} (h : Q .normal a w) : noPanic Q .normal a w := h
/-- outside of rounds, in a function that defers (or ranges over a function): no way may panic -/
theorem start_plainD {id n m : Nat} {a : Act} {w : World} (l : Array Bool) (hm : P.follows .mixedOrders = true) (hn : ops.size = n) (hl : Array.replicate n false = l) (hS : S w.drew)
    (h : S w.drew → wpAnyLast P .any ops (noPanic Q) S ds n l a w.drew) : (Code.region id ops true).wpIn Fence.wide m P Q a w :=
  wpIn_wide.2 (wp_mono (start_ l hm hn hl hS h) (fun e a w hq => by cases e <;> first | exact hq | exact hq.elim))
/-- outside of rounds -/
theorem start_plain {id n m : Nat} {a : Act} {w : World} (l : Array Bool) (hm : P.follows .mixedOrders = true) (hn : ops.size = n) (hl : Array.replicate n false = l) (hS : S w.drew)
    (h : S w.drew → wpAnyLast P .any ops Q S ds n l a w.drew) : (Code.region id ops true).wpIn Fence.wide m P Q a w := wpIn_wide.2 (start_ l hm hn hl hS h)
end
end Go.Proofs.Ytjphhnhloeanlaa.Rr
