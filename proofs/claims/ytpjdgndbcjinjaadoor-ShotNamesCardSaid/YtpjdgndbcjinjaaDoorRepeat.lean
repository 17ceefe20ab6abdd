/- bytes.Repeat for one byte, at most 256 times: the contract: the row that comes back is a row of the call's own, told as the greater one that its block is. -/
import Derived.Test.YtpjdgndbcjinjaaDoorFmu
import Derived.Test.YtpjdgndbcjinjaaDoorRepeatWalk
namespace Go.Proofs.YtpjdgndbcjinjaaDoor.P
open Go.RowKit Go.Proofs.YtpjdgndbcjinjaaDoorW.PrintWords Go.Proofs.YtpjdgndbcjinjaaDoorW.PrintLast Go.Proofs.YtpjdgndbcjinjaaDoorW.PrintMore Go.Proofs.YtpjdgndbcjinjaaDoor.Mine
set_option linter.unusedVariables false
theorem mul_ok : ∀ T : Nat, T < 257 → bits_Mul.f 1 (T : Int) = some (0, (T : Int)) := by decide +kernel
theorem bytes_Repeat.calls (A0 : Option Addr) (c0 : Nat) (l0 : List Int) (a1 : Int) (r : List Int) (w : World) (hr0 : Kd.C (Kd.int .u8) w A0 l0.length l0) (hc0 : l0.length ≤ c0) (h : bytes_Repeat.f l0 a1 = some r) :
    Calls Tryd.prog 30 #[.slice A0 l0.length c0, .int .i64 a1] w fun e w' => ∃ g cap, e = .returned (.slice (some ⟨g, 0, none⟩) r.length r.length) ∧ Kd.R (Kd.int .u8) 5 w' w.heap.size (fun _ => True) (.slice (some ⟨g, 0, none⟩) r.length cap) r ∧ Below w.heap.size w w' := by
  have hc : l0.length = 1 ∧ 1 ≤ a1 ∧ a1 ≤ 256 := by
    apply Classical.byContradiction; intro hn; rw [bytes_Repeat.f, if_neg hn] at h; cases h
  rw [bytes_Repeat.f, if_pos hc] at h
  obtain rfl := Option.some.inj h
  obtain ⟨h1, h2, h3⟩ := hc
  obtain ⟨T, rfl⟩ : ∃ T : Nat, a1 = (T : Int) := ⟨a1.toNat, by omega⟩
  obtain ⟨ad, rfl, hx⟩ := Kd.at_int hr0 0 (by omega) (by omega)
  rw [show ad.add (Int.toNat 0) = ad by simp [Addr.add]] at hx
  rw [h1, Int.toNat_natCast, List.length_replicate]
  refine (Repeat_walk (fun T w ha hb => bits_Mul.calls 1 T 0 T w (mul_ok T (by omega))) ad c0 (rd l0 0) T (by omega) (by omega) w hx).mono ?_
  rintro e w' ⟨rfl, cur, hg, hT, hc, hB⟩
  refine ⟨_, cur.size, rfl, ?_, hB⟩
  have hl : (List.replicate T (rd l0 0)).length = T := List.length_replicate
  refine Kd.R_of_own (h1 := fun _ => rfl) (ok := fun _ => True) ?_ (fun _ _ => trivial)
  refine ⟨by simp [encs, hl], .inr ⟨_, cur.size, cur, by rw [List.length_replicate], Nat.le_refl _, hg, by rw [hl]; exact hT.1, hT.2, by omega, ?_⟩⟩
  apply List.ext_getElem?
  intro j
  rw [hl, Nat.mul_one]
  simp only [encs, List.map_replicate, List.getElem?_replicate]
  by_cases hj : j < T
  · rw [if_pos hj, List.getElem?_take_of_lt hj]; simpa using hc j hj
  · rw [if_neg hj, List.getElem?_eq_none (by rw [List.length_take]; omega)]
end Go.Proofs.YtpjdgndbcjinjaaDoor.P
