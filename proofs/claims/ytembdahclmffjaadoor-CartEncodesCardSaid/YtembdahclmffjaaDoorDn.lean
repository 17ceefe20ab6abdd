/- cart.Decode: its contract. -/
import Derived.Test.YtembdahclmffjaaDoorDm
namespace Go.Proofs.YtembdahclmffjaaDoor.Pk
open Go.RowKit Go.Proofs.YtembdahclmffjaaDoorW.PrintWords Go.Proofs.YtembdahclmffjaaDoorW.PrintLast Go.Proofs.YtembdahclmffjaaDoorW.PrintMore Go.Proofs.YtembdahclmffjaaDoor.Mem
set_option linter.unusedVariables false
theorem decR_two (b : List Int) : (∃ er, decR b = (z0, er) ∧ er ≠ 0) ∨ ∃ cc, decR b = (cc, 0) := by
  unfold decR
  split
  · exact .inl ⟨72, rfl, by decide⟩
  · split
    · exact .inl ⟨73, rfl, by decide⟩
    · split
      · exact .inl ⟨73, rfl, by decide⟩
      · exact .inr ⟨_, rfl⟩
theorem Decode {w : World} {A : Option Addr} {c : Nat} {b : List Int} (hT : Tab w) (hC : Kd.C (Kd.int .u8) w A b.length b) (hcl : b.length ≤ c) (hB : allB b) (hl : b.length ≤ 140737488355328) :
    Calls Tryd.prog 9 #[.slice A b.length c] w (DecPost b w) := by
  by_cases h5 : b.length < 5
  · exact Dec_short h5
  · by_cases hh : b.take 5 = magic ∧ 12 ≤ b.length ∧ b.length ≤ 524288
    · obtain ⟨ad, hA, _⟩ := Kd.at_int hC 0 (by omega) (by omega)
      subst hA
      have hd : Hd w ad c b.length (b.length - 4) b := ⟨hC, hcl, hB, hh.1, hh.2.1, hh.2.2, rfl, by omega⟩
      by_cases hs : low4 b (b.length - 4) = sumI [b.take (b.length - 4)]
      · rcases decR_two (b.take (b.length - 4)) with ⟨er, he, hne⟩ | ⟨cc, he⟩
        · exact Dec_rbad hT hd hs he hne
        · exact Dec_rok hT hd hs he
      · exact Dec_sum hT hd hs
    · exact Dec_head hC hcl hB (by omega) hl hh
end Go.Proofs.YtembdahclmffjaaDoor.Pk
