/- wispref07.Decode: its contract. -/
import Derived.Test.YtembdahclmffjaaDoorRg
namespace Go.Proofs.YtembdahclmffjaaDoor.Pk
open Go.RowKit Go.Proofs.YtembdahclmffjaaDoorW.PrintWords Go.Proofs.YtembdahclmffjaaDoorW.PrintLast Go.Proofs.YtembdahclmffjaaDoorW.PrintMore Go.Proofs.YtembdahclmffjaaDoor.Mem
set_option linter.unusedVariables false
theorem RefDec {w : World} {A : Option Addr} {N cap : Nat} {r : List Int} (hC : Kd.C (Kd.int .u8) w A N r) (hn : N = r.length) (hk : N ≤ cap) (hB : allB r) (hl : N ≤ 140737488355328) :
    Calls Tryd.prog 10 #[.slice A N cap] w (RefPost r w) := by
  have h : Rh w A N cap r := ⟨hC, hn, hk, hB⟩
  by_cases h5 : N < 5
  · exact Ref_short h5 (dec_70 (fun h => by omega))
  · by_cases hm : r.take 5 = magic
    · have h5' : 5 ≤ r.length ∧ r.take 5 = magic := ⟨by omega, hm⟩
      by_cases h12 : N < 12
      · exact Ref_len1 h (by omega) hm h12 (dec_71 h5' (fun h => by omega))
      · by_cases hN : 524288 < N
        · exact Ref_len2 h (by omega) hm hN hl (dec_71 h5' (fun h => by omega))
        · have hE : (N - 4) + 4 = N := by omega
          have e4 : r.length - 4 = N - 4 := by omega
          by_cases hs : low4 r (N - 4) = sumI [r.take (N - 4)]
          · by_cases hT : 2 ≤ nS (r.take (N - 4)) ∧ nS (r.take (N - 4)) ≤ 18 ∧ 8 + 10 * nS (r.take (N - 4)) ≤ N - 4
            · exact Ref_tab h hE (by omega) hm (by omega) hs hT
            · exact Ref_cnt h hE (by omega) hm (by omega) hs hT
          · exact Ref_sum h hE (by omega) hm (by omega) hs (dec_71 h5' (fun hh => hs (by rw [← e4]; exact hh.2.2)))
    · exact Ref_magic h (by omega) hm (dec_70 (fun h => hm h.2))
end Go.Proofs.YtembdahclmffjaaDoor.Pk
