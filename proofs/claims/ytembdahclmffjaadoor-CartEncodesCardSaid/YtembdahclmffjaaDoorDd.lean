/- cart.Decode: the walk. -/
import Derived.Test.YtembdahclmffjaaDoorZb
import Derived.Defers
import Derived.Recover
namespace Go.Proofs.YtembdahclmffjaaDoor.Pk
open Go.RowKit Go.Proofs.YtembdahclmffjaaDoorW.PrintWords Go.Proofs.YtembdahclmffjaaDoorW.PrintLast Go.Proofs.YtembdahclmffjaaDoorW.PrintMore Go.Proofs.YtembdahclmffjaaDoor.Mem
set_option linter.unusedVariables false
set_option linter.unusedSimpArgs false
/-- the world behind the deferred call that has met a panic -/
def caught (w : World) (p q : Nat) (er : Int) : World := (((((w.setCell ⟨p, 0, none⟩ (.slice none 0 0)).setCell ⟨p, 1, none⟩ (.int .u16 0)).setCell ⟨p, 2, none⟩ (.slice none 0 0)).setCell ⟨p, 3, none⟩ (.slice none 0 0))).setCell ⟨q, 0, none⟩ (.int .i64 er)
set_option maxHeartbeats 4000000 in
theorem catch_yes (p q : Nat) (er : Int) (older : List PanicEntry) (w : World) {x0 x1 x2 x3 y0 : Value} (hp : w.heap[p]? = some (.cells #[x0, x1, x2, x3] 28 (0, 0))) (hq : w.heap[q]? = some (.cells #[y0] 29 (0, 0))) (hne : p ≠ q) :
    CallsD Tryd.prog 30 #[.pointer (some ⟨p, 0, none⟩), .pointer (some ⟨q, 0, none⟩)] (.panicking ({ v := .iface 29 (.int .i64 er), recovered := false } :: older)) w fun e u' w' =>
      e = .returned (.tuple #[]) ∧ u' = .panicking ({ v := .iface 29 (.int .i64 er), recovered := true } :: older) ∧ Fr w w' (fun k => k = p ∨ k = q) ∧ w'.heap[p]? = some (.cells #[.slice none 0 0, .int .u16 0, .slice none 0 0, .slice none 0 0] 28 (0, 0)) ∧ w'.heap[q]? = some (.cells #[.int .i64 er] 29 (0, 0)) := by
  refine callsD_of_wpS Tryd.func30 rfl fun c₀ cs hu => ?_
  apply wpS_seq
  apply wpS_region
  simp [wpOpsS, go_sem, recoverD, hu, Tryd.ntmps30, Exit.thenS]
  apply wpS_seq
  apply wpS_region
  simp [wpOpsS, go_sem, Exit.thenS]
  refine wpS_cond (t := true) (by simp [Act.eval, Array.replicate]) ?_
  simp only [if_true]
  refine wpS_of_wp ?_
  have c0 : w.cell? ⟨p, 0, none⟩ = some x0 := (cellH hp).trans rfl
  have c1 : w.cell? ⟨p, 1, none⟩ = some x1 := (cellH hp).trans rfl
  have c2 : w.cell? ⟨p, 2, none⟩ = some x2 := (cellH hp).trans rfl
  have c3 : w.cell? ⟨p, 3, none⟩ = some x3 := (cellH hp).trans rfl
  have d0 : w.cell? ⟨q, 0, none⟩ = some y0 := (cellH hq).trans rfl
  have f0 : w.frozen? ⟨p, 0, none⟩ = false := by simp [World.frozen?, hp]
  have f1 : w.frozen? ⟨p, 1, none⟩ = false := by simp [World.frozen?, hp]
  have f2 : w.frozen? ⟨p, 2, none⟩ = false := by simp [World.frozen?, hp]
  have f3 : w.frozen? ⟨p, 3, none⟩ = false := by simp [World.frozen?, hp]
  have fq : w.frozen? ⟨q, 0, none⟩ = false := by simp [World.frozen?, hq]
  have hta : ∀ W : World, (Instr.typeAssert (.iface 29 (.int .i64 er)) 20 29 false).run Tryd.prog W = .ok (.int .i64 er) W := fun _ => by kernel_rfl
  show Code.wp _ _ _ { tmps := #[.pointer (some ⟨p, 0, none⟩), .pointer (some ⟨q, 0, none⟩), .iface 29 (.int .i64 er), .iface 29 (.int .i64 er), .iface 29 (.int .i64 er), .bool true, undef, undef, undef], defers := [] } w
  go_region
  have h1 := put4 hp (.slice none 0 0) (.int .u16 0) (.slice none 0 0) (.slice none 0 0)
  have hF1 := put4F w p (.slice none 0 0) (.int .u16 0) (.slice none 0 0) (.slice none 0 0)
  generalize (((w.setCell ⟨p, 0, none⟩ (.slice none 0 0)).setCell ⟨p, 1, none⟩ (.int .u16 0)).setCell ⟨p, 2, none⟩ (.slice none 0 0)).setCell ⟨p, 3, none⟩ (.slice none 0 0) = Z at h1 hF1 ⊢
  have hq1 := hF1.heap hq (fun e => hne e.symm)
  have hF2 : Fr Z (Z.setCell ⟨q, 0, none⟩ (.int .i64 er)) (fun k => k = q) := (Fr.refl Z (fun k => k = q)).setCell (p := ⟨q, 0, none⟩) (fun _ => rfl) _
  exact ⟨rfl, _, rfl, .tuple #[], by simp [results, Tryd.results30], rfl, rfl, ((hF1.mono (fun _ _ e => .inl e)).trans (hF2.mono (fun _ _ e => .inr e)) (fun _ _ e => e)).drew, hF2.heap h1 hne, setH hq1 0 (.int .i64 er)⟩
set_option maxHeartbeats 4000000 in
theorem catch_no (p q : Addr) (w : World) :
    CallsD Tryd.prog 30 #[.pointer (some p), .pointer (some q)] .returning w fun e u' w' => e = .returned (.tuple #[]) ∧ u' = .returning ∧ w' = w := by
  refine callsD_of_wpS Tryd.func30 rfl fun c₀ cs hu => ?_
  apply wpS_seq
  apply wpS_region
  simp [wpOpsS, go_sem, recoverD, hu, Tryd.ntmps30, Exit.thenS]
  apply wpS_seq
  apply wpS_region
  simp [wpOpsS, go_sem, Exit.thenS]
  refine wpS_cond (t := false) (by simp [Act.eval, Array.replicate]) ?_
  simp only [Bool.false_eq_true, if_false]
  refine wpS_of_wp (wp_skip ?_)
  cases c₀
  simp_all [bodyPostS, results, Tryd.results30]
end Go.Proofs.YtembdahclmffjaaDoor.Pk
