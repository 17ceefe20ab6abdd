/- The methods of a Writer that is nil: they do nothing. -/
import Derived.Test.YtgnjlgfnpfjjnaaDoorKn
namespace Go.Proofs.YtgnjlgfnpfjjnaaDoor.Pk
open Go.RowKit Go.Proofs.YtgnjlgfnpfjjnaaDoorW.PrintWords Go.Proofs.YtgnjlgfnpfjjnaaDoorW.PrintLast Go.Proofs.YtgnjlgfnpfjjnaaDoorW.PrintMore Go.Proofs.YtgnjlgfnpfjjnaaDoor.Mem
set_option linter.unusedVariables false
set_option linter.unusedSimpArgs false
set_option maxHeartbeats 1000000 in
theorem nBytes (w : World) (A : Option Addr) (n c : Nat) : Calls Tryd.prog 19 #[.pointer none, .slice A n c] w fun e w' => e = .returned (.tuple #[]) ∧ w = w' := by
  go_enter Tryd.func19, Tryd.ntmps19
  go_wp2
  go_end0
  exact ⟨rfl, rfl⟩
set_option maxHeartbeats 1000000 in
theorem nByte (w : World) (x : Int) : Calls Tryd.prog 17 #[.pointer none, .int .u8 x] w fun e w' => e = .returned (.tuple #[]) ∧ Below w.heap.size w w' := by
  go_enter Tryd.func17, Tryd.ntmps17
  go_wp2_with (go_at_call 19; ((with_reducible refine (nBytes _ _ _ _).mono ?_); rintro e w1 ⟨rfl, rfl⟩))
  go_end0
  exact ⟨rfl, below_alloc (Below.refl _ _) _⟩
set_option maxHeartbeats 1000000 in
theorem nDone (w : World) : Calls Tryd.prog 15 #[.pointer none] w fun e w' => e = .returned (.slice none 0 0) ∧ w = w' := by
  go_enter Tryd.func15, Tryd.ntmps15
  go_wp2
  go_ret
  exact ⟨rfl, rfl⟩
set_option maxHeartbeats 1000000 in
theorem nNumber (w : World) : Calls Tryd.prog 18 #[.pointer none, .int .i64 1] w fun e w' => e = .returned (.tuple #[]) ∧ Below w.heap.size w w' := by
  go_enter Tryd.func18, Tryd.ntmps18
  go_wp2
  go_loopg [4] 0 (fun gk v4 wr => v4 = .int .u32 1 ∧ wr = w)
  case atStart => exact ⟨rfl, rfl⟩
  case round =>
    obtain ⟨rfl, rfl⟩ := hrel
    go_wp2_with (go_at_call 17; ((with_reducible refine (nByte _ _).mono ?_); rintro e w1 ⟨rfl, hb⟩))
    go_end0
    exact ⟨rfl, hb⟩
end Go.Proofs.YtgnjlgfnpfjjnaaDoor.Pk
