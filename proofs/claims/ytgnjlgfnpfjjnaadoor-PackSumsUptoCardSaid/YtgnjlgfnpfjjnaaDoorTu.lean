/- wisplaw03.PackTurned: the walk. -/
import Derived.Test.YtgnjlgfnpfjjnaaDoorKn
import Derived.Test.YtgnjlgfnpfjjnaaDoorTp
namespace Go.Proofs.YtgnjlgfnpfjjnaaDoor.Pk
open Go.RowKit Go.Proofs.YtgnjlgfnpfjjnaaDoorW.PrintWords Go.Proofs.YtgnjlgfnpfjjnaaDoorW.PrintLast Go.Proofs.YtgnjlgfnpfjjnaaDoorW.PrintMore Go.Proofs.YtgnjlgfnpfjjnaaDoor.Mem
set_option linter.unusedVariables false
set_option linter.unusedSimpArgs false
/-- the sum of one row -/
theorem sum_call {w : World} {A : Option Addr} {c : Nat} {xs : List Int} {S : Int} (hT : Tab w) (hl : xs.length ≤ c) (hC : Kd.C (Kd.int .u8) w A xs.length xs) (hS : sumI [xs] = S) :
    Calls Tryd.prog 10 #[.slice (some ⟨w.heap.size, 0, none⟩) 1 1] (w.alloc (.cells #[.slice A xs.length c] 23)) fun e w' => e = .returned (.int .u32 S) ∧ w.alloc (.cells #[.slice A xs.length c] 23) = w' := by
  have h := Sum (c := 1) (hT.below (below_alloc (Below.refl _ _) _)) (C_one (c := c) 23 hl hC)
  rw [hS] at h
  exact h
theorem sum_call2 {w : World} {A : Option Addr} {c : Nat} {xs : List Int} {S : Int} {o : Obj} (hT : Tab w) (hl : xs.length ≤ c) (hC : Kd.C (Kd.int .u8) w A xs.length xs) (hS : sumI [xs] = S) :
    Calls Tryd.prog 10 #[.slice (some ⟨w.heap.size + 1, 0, none⟩) 1 1] ((w.alloc o).alloc (.cells #[.slice A xs.length c] 23)) fun e w' => e = .returned (.int .u32 S) ∧ (w.alloc o).alloc (.cells #[.slice A xs.length c] 23) = w' := by
  have hb : Below w.heap.size w (w.alloc o) := below_alloc (Below.refl _ _) _
  have h := sum_call (hT.below hb) hl (Kd.C_below hC hb) hS
  rw [World.size_alloc] at h
  exact h
set_option maxRecDepth 100000 in
set_option maxHeartbeats 4000000 in
theorem Turned {w : World} {A : Option Addr} {c : Nat} {xs : List Int} (at_ bts : Int) (hb0 : 0 ≤ bts) (hb1 : bts ≤ 4294967295) (hT : Tab w) (hC : Kd.C (Kd.int .u8) w A xs.length xs) (hcl : xs.length ≤ c) (hl : xs.length ≤ 140737488351232) (hB : allB xs) :
    Calls Tryd.prog 4 #[.slice A xs.length c, .int .i64 at_, .int .u32 bts] w fun e w' => e = .returned (.bool true) ∧ Below w.heap.size w w' := by
  have hTT := Aside0.mk hT
  have hCC := Aside0.mk hC
  have hcc := Aside0.mk hcl
  have hBB := Aside0.mk hB
  obtain ⟨i0, hi, hz0, hz1, hz2⟩ := info_parts infoB
  obtain ⟨m, hm⟩ : ∃ m, m = xs.length := ⟨_, rfl⟩
  have hmm := Aside0.mk hm
  have hml : m ≤ 140737488351232 := by omega
  rw [← hm]
  clear hT hC hcl hB hl hm
  by_cases h0 : m = 0
  · have d0 : ((m : Int) == 0) = true := by rw [h0]; rfl
    have h00 := Aside0.mk h0
    clear h0
    go_enter Tryd.func4, Tryd.ntmps4
    go_wp2_with (go_at_call 13; go_must (with_reducible refine (known hTT.out).mono ?_); rintro e w1 ⟨rfl, hb⟩)
    go_ret
    exact ⟨rfl, hb⟩
  · by_cases h1 : bts = 0
    · have d0 : ((m : Int) == 0) = false := beq_eq_false_iff_ne.2 (by omega)
      subst h1
      go_enter Tryd.func4, Tryd.ntmps4
      go_wp2_with (go_at_call 13; go_must (with_reducible refine (known hTT.out).mono ?_); rintro e w1 ⟨rfl, hb⟩)
      go_ret
      exact ⟨rfl, hb⟩
    · have d0 : ((m : Int) == 0) = false := beq_eq_false_iff_ne.2 (by omega)
      have d1 : (bts == 0) = false := beq_eq_false_iff_ne.2 h1
      obtain ⟨ad, hAd, _⟩ := Kd.at_int hCC.out 0 (by omega) (by have := hmm.out; omega)
      subst hAd
      obtain ⟨t, ht⟩ : ∃ t : Int, at_.tmod (8 * (m : Int)) = t := ⟨_, rfl⟩
      have ht0 : -(8 * (m : Int)) < t ∧ t < 8 * (m : Int) := by
        have a1 := Int.tmod_lt_of_pos at_ (show 0 < 8 * (m : Int) by omega)
        have a2 := Int.lt_tmod_of_pos at_ (show 0 < 8 * (m : Int) by omega)
        omega
      have ht1 := ht0.1
      have ht2 := ht0.2
      clear ht0
      obtain ⟨N, hN⟩ := Int.eq_ofNat_of_zero_le (show 0 ≤ (t + 8 * (m : Int)) % (8 * (m : Int)) from Int.emod_nonneg _ (by omega))
      have hN8 : (N : Int) < 8 * (m : Int) := by rw [← hN]; exact Int.emod_lt_of_pos _ (by omega)
      go_enter Tryd.func4, Tryd.ntmps4
      go_wp2_with (at_builtin; refine wpList_append_own _ rfl _ _ 23 rfl w.heap.size 5 i0 (.int .u8 0) 1 1 Tryd.underlying23 hi hz0 hz1 hz2 rfl (by decide) _ _ _ rfl (World.ownsRow_made w #[] 0 (Nat.le_refl _) (Nat.zero_le _) rfl) ad m _ (xs.map (Value.int .u8)) rfl ?qc1 ?qc2 ?qc3 ?qc4 ?qc5 ?qc6 ?_)
      case qc1 => simp [hmm.out]
      case qc2 =>
        intro j u hj
        have hjn : j < xs.length := by
          have := (List.getElem?_eq_some_iff.1 hj).1
          simpa using this
        refine Go.Lib.cell?_alloc_some _ ?_
        obtain ⟨ad, e, hx⟩ := Kd.at_int hCC.out j (by omega) (by omega)
        cases e
        rw [Int.toNat_natCast] at hx
        rw [hx]
        have e : (xs.map (Value.int .u8))[j]? = some (Value.int .u8 (rd xs j)) := by simp [rd, List.getD, List.getElem?_eq_getElem hjn]
        rw [e] at hj
        exact hj
      case qc3 => intro u hu; obtain ⟨x, _, rfl⟩ := List.mem_map.1 hu; rfl
      case qc4 => unfold maxLen; omega
      case qc5 => omega
      case qc6 => simp
      intro v' w1 hown hgrow hnil
      have hbl1 : Below w.heap.size w w1 := ((Below.refl _ w).alloc (Nat.le_refl _) _).grown hgrow (by simp) (by intro k hk; simp [Value.ownBlock] at hk; omega)
      have hR1 : Kd.R (Kd.int .u8) 5 w1 w.heap.size (fun _ => True) v' xs := Kd.R_of_own (h1 := fun _ => rfl) (ok := fun _ => True) (by have h2 := hown; rw [hmm.out] at h2; (try simp at h2); exact h2) (fun _ _ => trivial)
      clear hown hgrow hnil hi hz0 hz1 hz2
      obtain ⟨g, cap, rfl, hgb, hgl⟩ := (Kd.own_of_R hR1).form (by have := hmm.out; omega)
      rw [← hmm.out] at hR1 ⊢
      go_wp2
      rw [hN]
      have hR1' := Aside0.mk hR1
      have hb1' := Aside0.mk hbl1
      clear hR1 hbl1 hN ht1 ht2 ht
      go_loopg [9, 10] 32 (fun gk v9 v10 wr => ∃ (i : Nat), v9 = .bool (tw xs N bts i).2 ∧ v10 = .int .i64 (i : Int) ∧ i + gk = 32 ∧ Aside0 (Kd.R (Kd.int .u8) 5 wr w.heap.size (fun _ => True) (.slice (some ⟨g, 0, none⟩) m cap) (tw xs N bts i).1) ∧ Aside0 (Below w.heap.size w wr))
      case atStart => exact ⟨0, rfl, rfl, by omega, hR1', hb1'⟩
      case round =>
        obtain ⟨i, rfl, rfl, hi, hR, hb⟩ := hrel
        cases gk with
        | zero =>
          have hd : decide ((i : Int) < 32) = false := decide_eq_false (by omega)
          obtain rfl : i = 32 := by omega
          have hP := tw_ok (N := N) (hBB.out) hb0 hb1 (by have := hmm.out; omega)
          generalize hcs : (tw xs N bts 32).1 = cs at hR hP
          generalize htn : (tw xs N bts 32).2 = tn at hP ⊢
          have hcl := hP.1
          obtain ⟨S1, hS1⟩ : ∃ S1, sumI [xs] = S1 := ⟨_, rfl⟩
          obtain ⟨S2, hS2⟩ : ∃ S2, sumI [cs] = S2 := ⟨_, rfl⟩
          have hP2 := hP.2
          rw [hS1, hS2] at hP2
          have hX1 : Kd.C (Kd.int .u8) wr (some ad) xs.length xs := Kd.C_below hCC.out hb.out
          have hX2 := (Kd.R_reads' hR.out).2.2
          have hT2 := hTT.out.below hb.out
          have hcapl : cs.length ≤ cap := by
            obtain ⟨A9, c9, he9, hl9, _⟩ := Kd.R_reads hR.out
            injection he9 with _ _ h3
            rw [h3]; exact hl9
          have k1 := sum_call (c := c) hT2 hcc.out hX1 hS1
          have k2 := sum_call2 (c := cap) (o := .cells #[.slice (some ad) xs.length c] 23) hT2 hcapl hX2 hS2
          rw [← hmm.out] at k1 k2
          rw [hcl, ← hmm.out] at k2
          have hk1 := Aside0.mk k1
          have hk2 := Aside0.mk k2
          clear k1 k2 hX1 hX2 hP hS1 hS2 hcs htn hcapl hcl
          have hK := Aside0.mk (fun w' (h : Below wr.heap.size wr w') => known (hT2.below h))
          clear hT2
          cases tn with
          | true =>
            have hne : (S1 != S2) = true := hP2
            clear hP2
            go_wp2_with (first | (go_at_call 10; ((with_reducible refine hk1.out.mono ?_); rintro e w3 ⟨rfl, rfl⟩; clear hk1)) | (go_at_call 10; ((with_reducible refine hk2.out.mono ?_); rintro e w3 ⟨rfl, rfl⟩)))
            have hb9 := Aside0.mk (below_alloc (below_alloc (Below.refl wr.heap.size wr) (.cells #[.slice (some ad) m c] 23)) (.cells #[.slice (some ⟨g, 0, none⟩) m cap] 23))
            go_wp2_with (go_at_call 13; go_must (with_reducible refine (hK.out _ hb9.out).mono ?_); rintro e w4 ⟨rfl, hb4⟩)
            go_ret
            exact ⟨rfl, (hb.out.trans (hb9.out.mono hb.out.size)).trans (hb4.mono (by have := hb.out.size; simp; omega))⟩
          | false =>
            have hne : (S1 != S2) = false := hP2
            clear hP2
            go_wp2_with (first | (go_at_call 10; ((with_reducible refine hk1.out.mono ?_); rintro e w3 ⟨rfl, rfl⟩; clear hk1)) | (go_at_call 10; ((with_reducible refine hk2.out.mono ?_); rintro e w3 ⟨rfl, rfl⟩)))
            have hb9 := Aside0.mk (below_alloc (below_alloc (Below.refl wr.heap.size wr) (.cells #[.slice (some ad) m c] 23)) (.cells #[.slice (some ⟨g, 0, none⟩) m cap] 23))
            go_wp2_with (go_at_call 13; go_must (with_reducible refine (hK.out _ hb9.out).mono ?_); rintro e w4 ⟨rfl, hb4⟩)
            go_ret
            exact ⟨rfl, (hb.out.trans (hb9.out.mono hb.out.size)).trans (hb4.mono (by have := hb.out.size; simp; omega))⟩
        | succ k1 =>
          have hd : decide ((i : Int) < 32) = true := decide_eq_true (by omega)
          generalize hcs : (tw xs N bts i).1 = cs at hR
          generalize htn : (tw xs N bts i).2 = tn
          have hcs' := Aside0.mk hcs
          have htn' := Aside0.mk htn
          clear hcs htn
          by_cases hk : N + i < 8 * m
          · have hd2 : decide ((N : Int) + (i : Int) < 8 * (m : Int)) = true := decide_eq_true (by omega)
            obtain ⟨q, hq⟩ := Int.eq_ofNat_of_zero_le (show 0 ≤ ((N : Int) + (i : Int)) / 8 by omega)
            have hqm : q < m := by omega
            obtain ⟨r, hr⟩ := Int.eq_ofNat_of_zero_le (show 0 ≤ ((N : Int) + (i : Int)) % 8 by omega)
            have hr8 : r < 8 := by omega
            by_cases hbit : Go.bits .and .u32 (bts / 2 ^ i) 1 = 1
            · have hd3 : (Go.bits .and .u32 (bts / 2 ^ i) 1 == 1) = true := beq_iff_eq.2 hbit
              have hce := Kd.R_celln 0 hR.out (q : Int) (by omega) (by omega)
              rw [Int.toNat_natCast] at hce
              obtain ⟨hce1, hce2⟩ := hce
              go_wp2
              go_region
              go_wp2
              go_roundg k1
              case measure => omega
              case rel =>
                have hqn : (N + i) / 8 = q := by omega
                have hrn : (N + i) % 8 = r := by omega
                have e : tw xs N bts (i + 1) = (cs.set q (Go.bits .xor .u8 (rd cs (q : Int)) (2 ^ r % 256)), true) := by
                  simp only [tw]
                  rw [if_pos ⟨by rw [← hmm.out]; exact hk, hbit⟩, hcs'.out, hqn, hrn]
                refine ⟨i + 1, by rw [e], rfl, by omega, ⟨?_⟩, ⟨below_drew1 (hb.out.setCell (p := ⟨g, q, none⟩) hgb _)⟩⟩
                rw [e]
                have h9 := Kd.R_putn hR.out (q : Int) (Go.bits .xor .u8 (rd cs (q : Int)) (2 ^ r % 256))
                rw [Int.toNat_natCast] at h9
                exact Kd.R_drew h9
            · have hd3 : (Go.bits .and .u32 (bts / 2 ^ i) 1 == 1) = false := beq_eq_false_iff_ne.2 hbit
              go_wp2
              go_roundg k1
              case measure => omega
              case rel =>
                have e : tw xs N bts (i + 1) = tw xs N bts i := by
                  simp only [tw]
                  rw [if_neg (fun h => hbit h.2)]
                exact ⟨i + 1, by rw [e, htn'.out], rfl, by omega, ⟨by rw [e, hcs'.out]; exact hR.out⟩, hb⟩
          · have hd2 : decide ((N : Int) + (i : Int) < 8 * (m : Int)) = false := decide_eq_false (by omega)
            go_wp2
            go_roundg k1
            case measure => omega
            case rel =>
              have e : tw xs N bts (i + 1) = tw xs N bts i := by
                simp only [tw]
                rw [if_neg (fun h => hk (by rw [hmm.out]; exact h.1))]
              exact ⟨i + 1, by rw [e, htn'.out], rfl, by omega, ⟨by rw [e, hcs'.out]; exact hR.out⟩, hb⟩
end Go.Proofs.YtgnjlgfnpfjjnaaDoor.Pk
