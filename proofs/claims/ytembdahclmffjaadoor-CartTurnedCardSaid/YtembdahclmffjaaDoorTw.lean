/- wisplaw07.CartTurned: the walk. (Printed by gen_tw.py.) -/
import Derived.Test.YtembdahclmffjaaDoorTx
namespace Go.Proofs.YtembdahclmffjaaDoor.Pk
open Go.RowKit Go.Proofs.YtembdahclmffjaaDoorW.PrintWords Go.Proofs.YtembdahclmffjaaDoorW.PrintLast Go.Proofs.YtembdahclmffjaaDoorW.PrintMore Go.Proofs.YtembdahclmffjaaDoor.Mem
set_option linter.unusedVariables false
set_option linter.unusedSimpArgs false
section
variable {w : World} {A0 A2 A3 : Option Addr} {n0 c0 n2 c2 n3 c3 : Nat} {y : Int} {c : CartP}
set_option maxRecDepth 100000 in
set_option maxHeartbeats 4000000 in
theorem Turn_not (hT : Tab w) (hc : CtV w (.agg #[.slice A0 n0 c0, .int .u16 y, .slice A2 n2 c2, .slice A3 n3 c3]) c) (hok : ¬ OkC c) (hefs : c.efs.length < 4611686018427387904) (hbks : c.bks.length < 4611686018427387904) (at_ by_ cut : Int) :
    Calls Tryd.prog 5 #[.agg #[.slice A0 n0 c0, .int .u16 y, .slice A2 n2 c2, .slice A3 n3 c3], .int .i64 at_, .int .u8 by_, .int .i64 cut] w fun e w' => e = .returned (.bool true) ∧ Below w.heap.size w w' := by
  have hTT := Aside0.mk hT
  have hb0 := below_alloc (Below.refl w.heap.size w) (.cells #[.slice A0 n0 c0, .int .u16 y, .slice A2 n2 c2, .slice A3 n3 c3] 28)
  have kE := Aside0.mk (kEncB (hc.below hb0) hok hefs hbks)
  have hbb := Aside0.mk hb0
  clear hT hc hok hb0
  go_enter Tryd.func5, Tryd.ntmps5
  go_wp2_with (first | (go_at_call 16; ((with_reducible refine (kE.out).mono ?_); rintro e W1 ⟨rfl, hb_⟩; have hk := Aside0.mk (hbb.out.trans (hb_.mono hbb.out.size)); clear hb_)) | (go_at_call 11; ((with_reducible refine (kNum _ _).mono ?_); rintro e W1 ⟨rfl, hb_⟩; have n0_ := Aside0.mk (hk.out.trans (hb_.mono hk.out.size)); clear hk; have hk := n0_; clear n0_ hb_)) | (go_at_call 15; ((with_reducible refine (Known (hTT.out.below hk.out)).mono ?_); rintro e W1 ⟨rfl, hb_⟩; have n0_ := Aside0.mk (hk.out.trans (hb_.mono hk.out.size)); clear hk; have hk := n0_; clear n0_ hb_)))
  go_ret
  exact ⟨rfl, hk.out⟩
set_option maxRecDepth 100000 in
set_option maxHeartbeats 4000000 in
theorem Turn_zero (hT : Tab w) (hc : CtV w (.agg #[.slice A0 n0 c0, .int .u16 y, .slice A2 n2 c2, .slice A3 n3 c3]) c) (hok : OkC c) (hwf : WfC c) (at_ cut : Int) :
    Calls Tryd.prog 5 #[.agg #[.slice A0 n0 c0, .int .u16 y, .slice A2 n2 c2, .slice A3 n3 c3], .int .i64 at_, .int .u8 0, .int .i64 cut] w fun e w' => e = .returned (.bool true) ∧ Below w.heap.size w w' := by
  have hTT := Aside0.mk hT
  have hb0 := below_alloc (Below.refl w.heap.size w) (.cells #[.slice A0 n0 c0, .int .u16 y, .slice A2 n2 c2, .slice A3 n3 c3] 28)
  have kE := Aside0.mk (kEnc (hT.below hb0) (hc.below hb0) hok hwf)
  have hbb := Aside0.mk hb0
  clear hT hc hok hb0 hwf
  go_enter Tryd.func5, Tryd.ntmps5
  go_wp2_with (first | (go_at_call 16; ((with_reducible refine (kE.out).mono ?_); rintro e W1 ⟨A, n, k, rfl, hn_, hk_, hR_, hC_, hb_⟩; have hk := Aside0.mk (hbb.out.trans (hb_.mono hbb.out.size)); clear hb_ hn_ hk_ hR_ hC_)) | (go_at_call 11; ((with_reducible refine (kNum _ _).mono ?_); rintro e W1 ⟨rfl, hb_⟩; have n0_ := Aside0.mk (hk.out.trans (hb_.mono hk.out.size)); clear hk; have hk := n0_; clear n0_ hb_)) | (go_at_call 15; ((with_reducible refine (Known (hTT.out.below hk.out)).mono ?_); rintro e W1 ⟨rfl, hb_⟩; have n0_ := Aside0.mk (hk.out.trans (hb_.mono hk.out.size)); clear hk; have hk := n0_; clear n0_ hb_)))
  go_ret
  exact ⟨rfl, hk.out⟩
set_option maxRecDepth 100000 in
set_option maxHeartbeats 8000000 in
theorem Turn_do (hT : Tab w) (hc : CtV w (.agg #[.slice A0 n0 c0, .int .u16 y, .slice A2 n2 c2, .slice A3 n3 c3]) c) (hok : OkC c) (hwf : WfC c) (at_ cut : Int) {x : Nat} (hx : x < 256) (hx0 : x ≠ 0) {xi : Int} (hxi : (x : Int) = xi) :
    Calls Tryd.prog 5 #[.agg #[.slice A0 n0 c0, .int .u16 y, .slice A2 n2 c2, .slice A3 n3 c3], .int .i64 at_, .int .u8 xi, .int .i64 cut] w fun e w' => e = .returned (.bool true) ∧ Below w.heap.size w w' := by
  have hTT := Aside0.mk hT
  have hb0 := below_alloc (Below.refl w.heap.size w) (.cells #[.slice A0 n0 c0, .int .u16 y, .slice A2 n2 c2, .slice A3 n3 c3] 28)
  have hD := there hok hwf
  have hBb := Aside0.mk (encB_B hwf hok)
  have hlen : 32 ≤ (encB c).length := enc_lo c
  have hhi := (dec_lens hD).2
  obtain ⟨bs, hbs⟩ : ∃ bs, bs = encB c := ⟨_, rfl⟩
  obtain ⟨L, hL⟩ : ∃ L, L = bs.length := ⟨_, rfl⟩
  rw [← hbs] at hlen hhi hD hBb
  rw [← hL] at hlen hhi
  have kEnc1 := Aside0.mk (kEncT (c := c) hbs hL (by omega) hb0 (hT.below hb0) (hc.below hb0) hok hwf)
  clear hc hok hwf hT hb0 hbs
  have hl47 : L ≤ 140737488351232 := by omega
  have hLL := Aside0.mk hL
  clear hL
  have q1 : decide ((L : Int) < 32) = false := decide_eq_false (by omega)
  have q2 : (L < 32) = False := eq_false (by omega)
  have q3 : (xi == 0) = false := beq_eq_false_iff_ne.2 (by omega)
  have q4 : ((L : Int) == 0) = false := beq_eq_false_iff_ne.2 (by omega)
  obtain ⟨t1, ht1⟩ : ∃ t : Int, at_.tmod (L : Int) = t := ⟨_, rfl⟩
  have hta : -(L : Int) < t1 ∧ t1 < (L : Int) := by
    have a1 := Int.tmod_lt_of_pos at_ (show 0 < (L : Int) by omega)
    have a2 := Int.lt_tmod_of_pos at_ (show 0 < (L : Int) by omega)
    omega
  obtain ⟨ht1a, ht1b⟩ := hta
  obtain ⟨k, hk0⟩ := Int.eq_ofNat_of_zero_le (show 0 ≤ (t1 + (L : Int)) % (L : Int) from Int.emod_nonneg _ (by omega))
  have hkL : (k : Int) < (L : Int) := by rw [← hk0]; exact Int.emod_lt_of_pos _ (by omega)
  obtain ⟨t2, ht2⟩ : ∃ t : Int, cut.tmod (L : Int) = t := ⟨_, rfl⟩
  have htb : -(L : Int) < t2 ∧ t2 < (L : Int) := by
    have a1 := Int.tmod_lt_of_pos cut (show 0 < (L : Int) by omega)
    have a2 := Int.lt_tmod_of_pos cut (show 0 < (L : Int) by omega)
    omega
  obtain ⟨ht2a, ht2b⟩ := htb
  obtain ⟨n, hn0⟩ := Int.eq_ofNat_of_zero_le (show 0 ≤ (t2 + (L : Int)) % (L : Int) from Int.emod_nonneg _ (by omega))
  have hnI : (n : Int) < (L : Int) := by rw [← hn0]; exact Int.emod_lt_of_pos _ (by omega)
  have hnL : n ≤ L := by omega
  have hlk : (k < L) = True := eq_true (by omega)
  have hkb : k < bs.length := by have := hLL.out; omega
  have hdt := Aside0.mk (dec_turned hBb.out hD hkb hx hx0)
  have hBy := Aside0.mk (one_turned hBb.out hkb hx hx0).2
  have htb := Aside0.mk (turn_back hBb.out hkb hx)
  have hcut := Aside0.mk (dec_cut hBb.out hD (n := n) (by have := hLL.out; omega))
  rw [hxi] at hdt hBy htb
  clear hD hkb hxi hx hx0
  obtain ⟨v, hv⟩ : ∃ v, Go.bits .xor .u8 (rd bs (k : Int)) xi = v := ⟨_, rfl⟩
  rw [hv] at hdt hBy htb
  obtain ⟨ys, hys⟩ : ∃ ys, bs.set k v = ys := ⟨_, rfl⟩
  rw [hys] at hdt hBy htb
  have hyss := Aside0.mk hys
  have hvv := Aside0.mk hv
  clear hys hv
  go_enter Tryd.func5, Tryd.ntmps5
  go_upto_region 4 with (first | (go_at_call 16; ((with_reducible refine (kEnc1.out).mono ?_); rintro e W1 ⟨g, cap, rfl, hk_⟩; have hk := Aside0.mk hk_; clear hk_)) | (go_at_call 11; ((with_reducible refine (kNum _ _).mono ?_); rintro e W1 ⟨rfl, hb_⟩; have n0_ := Aside0.mk (hk.out.step hb_); clear hk; have hk := n0_; clear n0_; (try (have n1_ := Aside0.mk (hz.out.step hb_); clear hz; have hz := n1_; clear n1_; (try clear z0_ z1_ z2_ z3_); obtain ⟨z0_, z1_, z2_, z3_⟩ := hz.out.S)); clear hb_)))
  go_upto_region 6 with (first | (go_at_call 11; ((with_reducible refine (kNum _ _).mono ?_); rintro e W1 ⟨rfl, hb_⟩; have n0_ := Aside0.mk (hk.out.step hb_); clear hk; have hk := n0_; clear n0_; (try (have n1_ := Aside0.mk (hz.out.step hb_); clear hz; have hz := n1_; clear n1_; (try clear z0_ z1_ z2_ z3_); obtain ⟨z0_, z1_, z2_, z3_⟩ := hz.out.S)); clear hb_)))
  go_upto_region 7 with (first | (go_at_call 11; ((with_reducible refine (kNum _ _).mono ?_); rintro e W1 ⟨rfl, hb_⟩; have n0_ := Aside0.mk (hk.out.step hb_); clear hk; have hk := n0_; clear n0_; (try (have n1_ := Aside0.mk (hz.out.step hb_); clear hz; have hz := n1_; clear n1_; (try clear z0_ z1_ z2_ z3_); obtain ⟨z0_, z1_, z2_, z3_⟩ := hz.out.S)); clear hb_)))
  rw [hk0]
  have hmem := Aside0.mk (And.intro ht2 (And.intro ht2a (And.intro ht2b hn0)))
  clear ht1 ht1a ht1b hk0 ht2 ht2a ht2b hn0 hnI
  have hce := Kd.R_celln 0 hk.out.R (k : Int) (by omega) (by omega)
  rw [Int.toNat_natCast] at hce
  obtain ⟨hce1, hce2⟩ := hce
  go_upto_region 8 with (first | (go_at_call 11; ((with_reducible refine (kNum _ _).mono ?_); rintro e W1 ⟨rfl, hb_⟩; have n0_ := Aside0.mk (hk.out.step hb_); clear hk; have hk := n0_; clear n0_; (try (have n1_ := Aside0.mk (hz.out.step hb_); clear hz; have hz := n1_; clear n1_; (try clear z0_ z1_ z2_ z3_); obtain ⟨z0_, z1_, z2_, z3_⟩ := hz.out.S)); clear hb_)))
  rw [show rdOf 0 bs (k : Int) = rd bs (k : Int) from rfl, hvv.out]
  have n0_ := Aside0.mk (hk.out.put k v)
  rw [hyss.out] at n0_
  clear hk hce1 hce2
  have hk := n0_
  clear n0_
  generalize W1.setCell ⟨g, k, none⟩ (.int .u8 v) = W8 at hk ⊢
  obtain ⟨er1, hDe, hDn, he1⟩ : ∃ er : Int, (decB ys).2 = er ∧ er ≠ 0 ∧ (er = 70 ∨ er = 71) := by
    rcases hdt.out with h | h
    · exact ⟨70, h, by decide, .inl rfl⟩
    · exact ⟨71, h, by decide, .inr rfl⟩
  rcases he1 with rfl | rfl
  all_goals
    go_upto_region 9 with (first | (go_at_call 9; ((with_reducible refine (hk.out.decE hTT.out hBy.out hl47 hDe hDn).mono ?_); rintro e W1 ⟨rfl, hb_⟩; have n0_ := Aside0.mk (hk.out.step hb_); clear hk; have hk := n0_; clear n0_; (try (have n1_ := Aside0.mk (hz.out.step hb_); clear hz; have hz := n1_; clear n1_; (try clear z0_ z1_ z2_ z3_); obtain ⟨z0_, z1_, z2_, z3_⟩ := hz.out.S)); clear hb_; have hb_ := below_alloc (Below.refl W1.heap.size W1) (.cells #[.slice none 0 0, .int .u16 0, .slice none 0 0, .slice none 0 0] 28); have n0_ := Aside0.mk (hk.out.step hb_); clear hk; have hk := n0_; clear n0_; have hz : Aside0 (Bx (W1.alloc (.cells #[.slice none 0 0, .int .u16 0, .slice none 0 0, .slice none 0 0] 28)) W1.heap.size _ _ _ _) := ⟨⟨World.alloc_heap_new W1 (.cells #[.slice none 0 0, .int .u16 0, .slice none 0 0, .slice none 0 0] 28)⟩⟩; obtain ⟨z0_, z1_, z2_, z3_⟩ := hz.out.S; clear hb_)))
    go_upto_region 11 with (first | (go_at_call 11; ((with_reducible refine (kNum _ _).mono ?_); rintro e W1 ⟨rfl, hb_⟩; have n0_ := Aside0.mk (hk.out.step hb_); clear hk; have hk := n0_; clear n0_; (try (have n1_ := Aside0.mk (hz.out.step hb_); clear hz; have hz := n1_; clear n1_; (try clear z0_ z1_ z2_ z3_); obtain ⟨z0_, z1_, z2_, z3_⟩ := hz.out.S)); clear hb_)) | (go_at_call 12; ((with_reducible refine (kSame (Ct0 _) (Ct0 _) (by decide) (by decide)).mono ?_); rintro e W1 ⟨rfl, hb_⟩; have n0_ := Aside0.mk (hk.out.step hb_); clear hk; have hk := n0_; clear n0_; (try (have n1_ := Aside0.mk (hz.out.step hb_); clear hz; have hz := n1_; clear n1_; (try clear z0_ z1_ z2_ z3_); obtain ⟨z0_, z1_, z2_, z3_⟩ := hz.out.S)); clear hb_)))
    have hce := Kd.R_celln 0 hk.out.R (k : Int) (by omega) (by omega)
    rw [Int.toNat_natCast] at hce
    obtain ⟨hce1, hce2⟩ := hce
    go_upto_region 12 with (first | (go_at_call 11; ((with_reducible refine (kNum _ _).mono ?_); rintro e W1 ⟨rfl, hb_⟩; have n0_ := Aside0.mk (hk.out.step hb_); clear hk; have hk := n0_; clear n0_; (try (have n1_ := Aside0.mk (hz.out.step hb_); clear hz; have hz := n1_; clear n1_; (try clear z0_ z1_ z2_ z3_); obtain ⟨z0_, z1_, z2_, z3_⟩ := hz.out.S)); clear hb_)))
    have n0_ := Aside0.mk (hk.out.put k (Go.bits .xor .u8 (rd ys (k : Int)) xi))
    rw [htb.out] at n0_
    clear hk hce1 hce2 hz z0_ z1_ z2_ z3_
    have hk := n0_
    clear n0_
    rw [show rdOf 0 ys (k : Int) = rd ys (k : Int) from rfl]
    generalize W1.setCell ⟨g, k, none⟩ (.int .u8 (Go.bits .xor .u8 (rd ys (k : Int)) xi)) = W12 at hk ⊢
    obtain ⟨ht2, ht2a, ht2b, hn0⟩ := hmem.out
    go_upto_region 13 with (first | (go_at_call 11; ((with_reducible refine (kNum _ _).mono ?_); rintro e W1 ⟨rfl, hb_⟩; have n0_ := Aside0.mk (hk.out.step hb_); clear hk; have hk := n0_; clear n0_; (try (have n1_ := Aside0.mk (hz.out.step hb_); clear hz; have hz := n1_; clear n1_; (try clear z0_ z1_ z2_ z3_); obtain ⟨z0_, z1_, z2_, z3_⟩ := hz.out.S)); clear hb_)))
    rw [hn0]
    have hcm := cut_max (some ⟨g, 0, none⟩) L cap n (by have := hk.out.C; omega)
    by_cases h12 : n < 12
    · have d1 : decide ((n : Int) < 12) = true := decide_eq_true (by omega)
      have d1' : (n < 12) = True := eq_true h12
      rcases hcut.out.1 h12 with hPe | hPe
      · have hPn : (70 : Int) ≠ 0 := by decide
        go_wp2_with (first | (go_at_call 9; ((with_reducible refine (hk.out.decPE hnL hTT.out hBb.out hl47 hPe hPn).mono ?_); rintro e W1 ⟨rfl, hb_⟩; have n0_ := Aside0.mk (hk.out.step hb_); clear hk; have hk := n0_; clear n0_; (try (have n1_ := Aside0.mk (hz0.out.step hb_); clear hz0; have hz0 := n1_; clear n1_; (try clear z0_ z1_ z2_ z3_); obtain ⟨z0_, z1_, z2_, z3_⟩ := hz0.out.S)); clear hb_; have hb_ := below_alloc (Below.refl W1.heap.size W1) (.cells #[.slice none 0 0, .int .u16 0, .slice none 0 0, .slice none 0 0] 28); have n0_ := Aside0.mk (hk.out.step hb_); clear hk; have hk := n0_; clear n0_; have hz : Aside0 (Bx (W1.alloc (.cells #[.slice none 0 0, .int .u16 0, .slice none 0 0, .slice none 0 0] 28)) W1.heap.size _ _ _ _) := ⟨⟨World.alloc_heap_new W1 (.cells #[.slice none 0 0, .int .u16 0, .slice none 0 0, .slice none 0 0] 28)⟩⟩; obtain ⟨z0_, z1_, z2_, z3_⟩ := hz.out.S; clear hb_)) | (go_at_call 11; ((with_reducible refine (kNum _ _).mono ?_); rintro e W1 ⟨rfl, hb_⟩; have n0_ := Aside0.mk (hk.out.step hb_); clear hk; have hk := n0_; clear n0_; (try (have n1_ := Aside0.mk (hz.out.step hb_); clear hz; have hz := n1_; clear n1_; (try clear z0_ z1_ z2_ z3_); obtain ⟨z0_, z1_, z2_, z3_⟩ := hz.out.S)); clear hb_)))
        go_ret
        exact ⟨rfl, hk.out.bel⟩
      · have hPn : (71 : Int) ≠ 0 := by decide
        go_wp2_with (first | (go_at_call 9; ((with_reducible refine (hk.out.decPE hnL hTT.out hBb.out hl47 hPe hPn).mono ?_); rintro e W1 ⟨rfl, hb_⟩; have n0_ := Aside0.mk (hk.out.step hb_); clear hk; have hk := n0_; clear n0_; (try (have n1_ := Aside0.mk (hz0.out.step hb_); clear hz0; have hz0 := n1_; clear n1_; (try clear z0_ z1_ z2_ z3_); obtain ⟨z0_, z1_, z2_, z3_⟩ := hz0.out.S)); clear hb_; have hb_ := below_alloc (Below.refl W1.heap.size W1) (.cells #[.slice none 0 0, .int .u16 0, .slice none 0 0, .slice none 0 0] 28); have n0_ := Aside0.mk (hk.out.step hb_); clear hk; have hk := n0_; clear n0_; have hz : Aside0 (Bx (W1.alloc (.cells #[.slice none 0 0, .int .u16 0, .slice none 0 0, .slice none 0 0] 28)) W1.heap.size _ _ _ _) := ⟨⟨World.alloc_heap_new W1 (.cells #[.slice none 0 0, .int .u16 0, .slice none 0 0, .slice none 0 0] 28)⟩⟩; obtain ⟨z0_, z1_, z2_, z3_⟩ := hz.out.S; clear hb_)) | (go_at_call 11; ((with_reducible refine (kNum _ _).mono ?_); rintro e W1 ⟨rfl, hb_⟩; have n0_ := Aside0.mk (hk.out.step hb_); clear hk; have hk := n0_; clear n0_; (try (have n1_ := Aside0.mk (hz.out.step hb_); clear hz; have hz := n1_; clear n1_; (try clear z0_ z1_ z2_ z3_); obtain ⟨z0_, z1_, z2_, z3_⟩ := hz.out.S)); clear hb_)))
        go_ret
        exact ⟨rfl, hk.out.bel⟩
    · have d1 : decide ((n : Int) < 12) = false := decide_eq_false (by omega)
      have d1' : (n < 12) = False := eq_false h12
      have hiff := hcut.out.2 (by omega)
      obtain ⟨E, hEn⟩ : ∃ E, E + 4 = n := ⟨n - 4, by omega⟩
      rw [show n - 4 = E by omega] at hiff
      obtain ⟨E1, hE1⟩ : ∃ x, x = E + 1 := ⟨_, rfl⟩
      obtain ⟨E2, hE2⟩ : ∃ x, x = E + 2 := ⟨_, rfl⟩
      obtain ⟨E3, hE3⟩ : ∃ x, x = E + 3 := ⟨_, rfl⟩
      have l0 : (E < L) = True := eq_true (by omega)
      have l1 : (E1 < L) = True := eq_true (by omega)
      have l2 : (E2 < L) = True := eq_true (by omega)
      have l3 : (E3 < L) = True := eq_true (by omega)
      have heq := Aside0.mk (And.intro hEn (And.intro hE1 (And.intro hE2 hE3)))
      have hz0 : wrap64 ((n : Int) - 4) = (E : Int) := by unfold wrap64; omega
      have hz1 : wrap64 ((n : Int) - 3) = (E1 : Int) := by unfold wrap64; omega
      have hz2 : wrap64 ((n : Int) - 2) = (E2 : Int) := by unfold wrap64; omega
      have hz3 : wrap64 ((n : Int) - 1) = (E3 : Int) := by unfold wrap64; omega
      have hwr := Aside0.mk (And.intro hz0 (And.intro hz1 (And.intro hz2 hz3)))
      clear hz0 hz1 hz2 hz3
      obtain ⟨SS, hSS⟩ : ∃ S, sumI [bs.take E] = S := ⟨_, rfl⟩
      obtain ⟨VV, hVV⟩ : ∃ V, low4 bs E = V := ⟨_, rfl⟩
      have hor := low4_or hBb.out E
      rw [hVV] at hor hiff
      rw [hSS] at hiff
      obtain ⟨u0, hu0⟩ : ∃ u, bs.getD E 0 = u := ⟨_, rfl⟩
      obtain ⟨u1, hu1⟩ : ∃ u, bs.getD (E + 1) 0 = u := ⟨_, rfl⟩
      obtain ⟨u2, hu2⟩ : ∃ u, bs.getD (E + 2) 0 = u := ⟨_, rfl⟩
      obtain ⟨u3, hu3⟩ : ∃ u, bs.getD (E + 3) 0 = u := ⟨_, rfl⟩
      have hb0_ := getB hBb.out E
      have hb1_ := getB hBb.out (E + 1)
      have hb2_ := getB hBb.out (E + 2)
      have hb3_ := getB hBb.out (E + 3)
      rw [hu0] at hb0_
      rw [hu1] at hb1_
      rw [hu2] at hb2_
      rw [hu3] at hb3_
      rw [hu0, hu1, hu2, hu3] at hor
      have hwp : Aside0 (IntKind.u32.wrap u0 = u0 ∧ IntKind.u32.wrap u1 = u1 ∧ IntKind.u32.wrap (u1 * 256) = u1 * 256 ∧ IntKind.u32.wrap u2 = u2 ∧ IntKind.u32.wrap (u2 * 65536) = u2 * 65536 ∧ IntKind.u32.wrap u3 = u3 ∧ IntKind.u32.wrap (u3 * 16777216) = u3 * 16777216) := by
        unfold isB at hb0_ hb1_ hb2_ hb3_
        exact ⟨wrap32 (by omega) (by omega), wrap32 (by omega) (by omega), wrap32 (by omega) (by omega), wrap32 (by omega) (by omega), wrap32 (by omega) (by omega), wrap32 (by omega) (by omega), wrap32 (by omega) (by omega)⟩
      have horr := Aside0.mk hor
      clear hor
      by_cases hown : VV = SS
      · have hb9 : (SS == VV) = true := beq_iff_eq.2 hown.symm
        have hn71 : (decB (bs.take n)).2 ≠ 71 := fun h => hiff.1 h hown
        rcases dec_two (bs.take n) with ⟨cc, hPd0⟩ | ⟨er, hPe, g1, g2, _⟩
        · have hPd := Aside0.mk hPd0
          clear hPd0
          go_upto_region 16 with (first | (go_at_call 9; ((with_reducible refine (hk.out.decP hnL hTT.out hBb.out hl47 hPd.out).mono ?_); rintro e W1 ⟨B0, m0, j0, z, B2, m2, j2, B3, m3, j3, rfl, ht_, hb_⟩; clear ht_; have n0_ := Aside0.mk (hk.out.step hb_); clear hk; have hk := n0_; clear n0_; (try (have n1_ := Aside0.mk (hz0.out.step hb_); clear hz0; have hz0 := n1_; clear n1_; (try clear z0_ z1_ z2_ z3_); obtain ⟨z0_, z1_, z2_, z3_⟩ := hz0.out.S)); clear hb_; have hb_ := below_alloc (Below.refl W1.heap.size W1) (.cells #[.slice B0 m0 j0, .int .u16 z, .slice B2 m2 j2, .slice B3 m3 j3] 28); have n0_ := Aside0.mk (hk.out.step hb_); clear hk; have hk := n0_; clear n0_; have hz : Aside0 (Bx (W1.alloc (.cells #[.slice B0 m0 j0, .int .u16 z, .slice B2 m2 j2, .slice B3 m3 j3] 28)) W1.heap.size _ _ _ _) := ⟨⟨World.alloc_heap_new W1 (.cells #[.slice B0 m0 j0, .int .u16 z, .slice B2 m2 j2, .slice B3 m3 j3] 28)⟩⟩; obtain ⟨z0_, z1_, z2_, z3_⟩ := hz.out.S; clear hb_)))
          generalize W1.alloc (.cells #[.slice B0 m0 j0, .int .u16 z, .slice B2 m2 j2, .slice B3 m3 j3] 28) = W16 at hk ⊢
          have hS1 := (hk.out.step (below_drew (Below.refl W16.heap.size W16))).four (E := E) (by omega)
          have hS2 := ((hk.out.step (below_drew (Below.refl W16.heap.size W16))).step (below_alloc (Below.refl W16.drew.heap.size W16.drew) (.cells #[.slice (some ⟨g, 0, none⟩) E cap] 22))).four (E := E) (by omega)
          have kS16 := Aside0.mk ((hk.out.step (below_drew (Below.refl W16.heap.size W16))).sum (E := E) (by omega) hTT.out hSS)
          have n0_ := Aside0.mk ((hk.out.step (below_drew (Below.refl W16.heap.size W16))).step (below_alloc (Below.refl W16.drew.heap.size W16.drew) (.cells #[.slice (some ⟨g, 0, none⟩) E cap] 22)))
          clear hk
          have hk := n0_
          clear n0_
          have hcE := cut_E (some ⟨g, 0, none⟩) L cap E (by omega) (by have := hk.out.C; omega)
          have hcp := hk.out.C.2.1
          have ecp : (E ≤ cap) = True := eq_true (by omega)
          rw [hu0, hu1, hu2, hu3] at hS1 hS2
          rw [← hE1, ← hE2, ← hE3] at hS1 hS2
          obtain ⟨hz0, hz1, hz2, hz3⟩ := hwr.out
          clear hEn hE1 hE2 hE3 hhi hlen hkL hnL hcp hown hiff hb0_ hb1_ hb2_ hb3_ hl47 hmem hBy hdt hyss hvv htb hcut kEnc1 hLL
          refine start_ (n := 38) (S := (fun w' => w'.cell? ⟨g, E, none⟩ = some (.int .u8 u0) ∧ w'.cell? ⟨g, E1, none⟩ = some (.int .u8 u1) ∧ w'.cell? ⟨g, E2, none⟩ = some (.int .u8 u2) ∧ w'.cell? ⟨g, E3, none⟩ = some (.int .u8 u3))) (ds := []) #[false, false, false, false, false, false, false, false, false, false, false, false, false, false, false, false, false, false, false, false, false, false, false, false, false, false, false, false, false, false, false, false, false, false, false, false, false, false] (by kernel_rfl) rfl rfl hS1 (fun hHeld => ?_)
          refine pure_ (i := 0) (N := some 109) (v := ?_) (a' := ?_) #[true, false, false, false, false, false, false, false, false, false, false, false, false, false, false, false, false, false, false, false, false, false, false, false, false, false, false, false, false, false, false, false, false, false, false, false, false, false] rfl rfl (by kernel_rfl) (fun _ _ _ h => h) (Or.inl ⟨by rfl, ?_⟩) ?_ ?_
          rotate_left
          · intro w'
            go_simp
            with_reducible rfl
          rotate_left
          · simp only [Act.put, List.setIfInBounds_toArray, List.set_cons_zero, List.set_cons_succ, i64_w, i32_w]
            rfl
          refine pure_ (i := 1) (N := some 110) (v := ?_) (a' := ?_) #[true, true, false, false, false, false, false, false, false, false, false, false, false, false, false, false, false, false, false, false, false, false, false, false, false, false, false, false, false, false, false, false, false, false, false, false, false, false] rfl rfl (by kernel_rfl) (fun _ _ _ h => h) (Or.inl ⟨by rfl, ?_⟩) ?_ ?_
          rotate_left
          · intro w'
            go_simp
            with_reducible rfl
          rotate_left
          · simp only [Act.put, List.setIfInBounds_toArray, List.set_cons_zero, List.set_cons_succ, i64_w, i32_w]
            rfl
          refine pure_ (i := 2) (N := some 111) (v := ?_) (a' := ?_) #[true, true, true, false, false, false, false, false, false, false, false, false, false, false, false, false, false, false, false, false, false, false, false, false, false, false, false, false, false, false, false, false, false, false, false, false, false, false] rfl rfl (by kernel_rfl) (fun _ _ _ h => h) (Or.inl ⟨by rfl, ?_⟩) ?_ ?_
          rotate_left
          · intro w'
            go_simp
            with_reducible rfl
          rotate_left
          · simp only [Act.put, List.setIfInBounds_toArray, List.set_cons_zero, List.set_cons_succ, i64_w, i32_w]
            rfl
          refine pure_ (i := 3) (N := some 112) (v := ?_) (a' := ?_) #[true, true, true, true, false, false, false, false, false, false, false, false, false, false, false, false, false, false, false, false, false, false, false, false, false, false, false, false, false, false, false, false, false, false, false, false, false, false] rfl rfl (by kernel_rfl) (fun _ _ _ h => h) (Or.inl ⟨by rfl, ?_⟩) ?_ ?_
          rotate_left
          · intro w'
            go_simp
            with_reducible rfl
          rotate_left
          · simp only [Act.put, List.setIfInBounds_toArray, List.set_cons_zero, List.set_cons_succ, i64_w, i32_w]
            rfl
          refine pure_ (i := 6) (N := some 115) (v := ?_) (a' := ?_) #[true, true, true, true, false, false, true, false, false, false, false, false, false, false, false, false, false, false, false, false, false, false, false, false, false, false, false, false, false, false, false, false, false, false, false, false, false, false] rfl rfl (by kernel_rfl) (fun _ _ _ h => h) (Or.inl ⟨by rfl, ?_⟩) ?_ ?_
          rotate_left
          · intro w'
            go_simp
            with_reducible rfl
          rotate_left
          · simp only [Act.put, List.setIfInBounds_toArray, List.set_cons_zero, List.set_cons_succ, i64_w, i32_w]
            rfl
          refine pure_ (i := 7) (N := some 116) (v := ?_) (a' := ?_) #[true, true, true, true, false, false, true, true, false, false, false, false, false, false, false, false, false, false, false, false, false, false, false, false, false, false, false, false, false, false, false, false, false, false, false, false, false, false] rfl rfl (by kernel_rfl) (fun _ _ _ h => h) (Or.inl ⟨by rfl, ?_⟩) ?_ ?_
          rotate_left
          · intro w'
            go_simp
            with_reducible rfl
          rotate_left
          · simp only [Act.put, List.setIfInBounds_toArray, List.set_cons_zero, List.set_cons_succ, i64_w, i32_w]
            rfl
          refine pure_ (i := 8) (N := some 117) (v := ?_) (a' := ?_) #[true, true, true, true, false, false, true, true, true, false, false, false, false, false, false, false, false, false, false, false, false, false, false, false, false, false, false, false, false, false, false, false, false, false, false, false, false, false] rfl rfl (by kernel_rfl) (fun _ _ _ h => h) (Or.inl ⟨by rfl, ?_⟩) ?_ ?_
          rotate_left
          · intro w'
            go_simp
            with_reducible rfl
          rotate_left
          · simp only [Act.put, List.setIfInBounds_toArray, List.set_cons_zero, List.set_cons_succ, i64_w, i32_w]
            rfl
          refine pure_ (i := 9) (N := some 118) (v := ?_) (a' := ?_) #[true, true, true, true, false, false, true, true, true, true, false, false, false, false, false, false, false, false, false, false, false, false, false, false, false, false, false, false, false, false, false, false, false, false, false, false, false, false] rfl rfl (by kernel_rfl) (fun _ _ _ h => h) (Or.inl ⟨by rfl, ?_⟩) ?_ ?_
          rotate_left
          · intro w'
            go_simp
            with_reducible rfl
          rotate_left
          · simp only [Act.put, List.setIfInBounds_toArray, List.set_cons_zero, List.set_cons_succ, i64_w, i32_w]
            rfl
          refine take_ (i := 10) (N := some 119) (v := ?_) (a' := ?_) #[true, true, true, true, false, false, true, true, true, true, true, false, false, false, false, false, false, false, false, false, false, false, false, false, false, false, false, false, false, false, false, false, false, false, false, false, false, false] rfl rfl (by kernel_rfl) (fun _ _ _ h => h) (Or.inl ⟨by rfl, ?_⟩) hHeld ?_ ?_
          rotate_left
          · rintro w' ⟨u0_, u1_, u2_, u3_⟩
            go_simp
            with_reducible rfl
          rotate_left
          · simp only [Act.put, List.setIfInBounds_toArray, List.set_cons_zero, List.set_cons_succ, i64_w, i32_w]
            rfl
          refine pure_ (i := 11) (N := some 120) (v := ?_) (a' := ?_) #[true, true, true, true, false, false, true, true, true, true, true, true, false, false, false, false, false, false, false, false, false, false, false, false, false, false, false, false, false, false, false, false, false, false, false, false, false, false] rfl rfl (by kernel_rfl) (fun _ _ _ h => h) (Or.inl ⟨by rfl, ?_⟩) ?_ ?_
          rotate_left
          · intro w'
            go_simp
            with_reducible rfl
          rotate_left
          · simp only [Act.put, List.setIfInBounds_toArray, List.set_cons_zero, List.set_cons_succ, i64_w, i32_w]
            rfl
          refine pure_ (i := 12) (N := some 121) (v := ?_) (a' := ?_) #[true, true, true, true, false, false, true, true, true, true, true, true, true, false, false, false, false, false, false, false, false, false, false, false, false, false, false, false, false, false, false, false, false, false, false, false, false, false] rfl rfl (by kernel_rfl) (fun _ _ _ h => h) (Or.inl ⟨by rfl, ?_⟩) ?_ ?_
          rotate_left
          · intro w'
            go_simp
            with_reducible rfl
          rotate_left
          · simp only [Act.put, List.setIfInBounds_toArray, List.set_cons_zero, List.set_cons_succ, i64_w, i32_w]
            rfl
          refine pure_ (i := 13) (N := some 122) (v := ?_) (a' := ?_) #[true, true, true, true, false, false, true, true, true, true, true, true, true, true, false, false, false, false, false, false, false, false, false, false, false, false, false, false, false, false, false, false, false, false, false, false, false, false] rfl rfl (by kernel_rfl) (fun _ _ _ h => h) (Or.inl ⟨by rfl, ?_⟩) ?_ ?_
          rotate_left
          · intro w'
            go_simp
            with_reducible rfl
          rotate_left
          · simp only [Act.put, List.setIfInBounds_toArray, List.set_cons_zero, List.set_cons_succ, i64_w, i32_w]
            rfl
          refine pure_ (i := 14) (N := some 123) (v := ?_) (a' := ?_) #[true, true, true, true, false, false, true, true, true, true, true, true, true, true, true, false, false, false, false, false, false, false, false, false, false, false, false, false, false, false, false, false, false, false, false, false, false, false] rfl rfl (by kernel_rfl) (fun _ _ _ h => h) (Or.inl ⟨by rfl, ?_⟩) ?_ ?_
          rotate_left
          · intro w'
            go_simp
            with_reducible rfl
          rotate_left
          · simp only [Act.put, List.setIfInBounds_toArray, List.set_cons_zero, List.set_cons_succ, i64_w, i32_w]
            rfl
          refine pure_ (i := 15) (N := some 124) (v := ?_) (a' := ?_) #[true, true, true, true, false, false, true, true, true, true, true, true, true, true, true, true, false, false, false, false, false, false, false, false, false, false, false, false, false, false, false, false, false, false, false, false, false, false] rfl rfl (by kernel_rfl) (fun _ _ _ h => h) (Or.inl ⟨by rfl, ?_⟩) ?_ ?_
          rotate_left
          · intro w'
            go_simp
            with_reducible rfl
          rotate_left
          · simp only [Act.put, List.setIfInBounds_toArray, List.set_cons_zero, List.set_cons_succ, i64_w, i32_w]
            rfl
          refine take_ (i := 16) (N := some 125) (v := ?_) (a' := ?_) #[true, true, true, true, false, false, true, true, true, true, true, true, true, true, true, true, true, false, false, false, false, false, false, false, false, false, false, false, false, false, false, false, false, false, false, false, false, false] rfl rfl (by kernel_rfl) (fun _ _ _ h => h) (Or.inl ⟨by rfl, ?_⟩) hHeld ?_ ?_
          rotate_left
          · rintro w' ⟨u0_, u1_, u2_, u3_⟩
            go_simp
            with_reducible rfl
          rotate_left
          · simp only [Act.put, List.setIfInBounds_toArray, List.set_cons_zero, List.set_cons_succ, i64_w, i32_w]
            rfl
          refine pure_ (i := 17) (N := some 126) (v := ?_) (a' := ?_) #[true, true, true, true, false, false, true, true, true, true, true, true, true, true, true, true, true, true, false, false, false, false, false, false, false, false, false, false, false, false, false, false, false, false, false, false, false, false] rfl rfl (by kernel_rfl) (fun _ _ _ h => h) (Or.inl ⟨by rfl, ?_⟩) ?_ ?_
          rotate_left
          · intro w'
            go_simp
            with_reducible rfl
          rotate_left
          · simp only [Act.put, List.setIfInBounds_toArray, List.set_cons_zero, List.set_cons_succ, i64_w, i32_w]
            rfl
          refine pure_ (i := 18) (N := some 127) (v := ?_) (a' := ?_) #[true, true, true, true, false, false, true, true, true, true, true, true, true, true, true, true, true, true, true, false, false, false, false, false, false, false, false, false, false, false, false, false, false, false, false, false, false, false] rfl rfl (by kernel_rfl) (fun _ _ _ h => h) (Or.inl ⟨by rfl, ?_⟩) ?_ ?_
          rotate_left
          · intro w'
            go_simp
            with_reducible rfl
          rotate_left
          · simp only [Act.put, List.setIfInBounds_toArray, List.set_cons_zero, List.set_cons_succ, i64_w, i32_w]
            rfl
          refine pure_ (i := 19) (N := some 128) (v := ?_) (a' := ?_) #[true, true, true, true, false, false, true, true, true, true, true, true, true, true, true, true, true, true, true, true, false, false, false, false, false, false, false, false, false, false, false, false, false, false, false, false, false, false] rfl rfl (by kernel_rfl) (fun _ _ _ h => h) (Or.inl ⟨by rfl, ?_⟩) ?_ ?_
          rotate_left
          · intro w'
            go_simp
            with_reducible rfl
          rotate_left
          · simp only [Act.put, List.setIfInBounds_toArray, List.set_cons_zero, List.set_cons_succ, i64_w, i32_w]
            rfl
          refine pure_ (i := 20) (N := some 129) (v := ?_) (a' := ?_) #[true, true, true, true, false, false, true, true, true, true, true, true, true, true, true, true, true, true, true, true, true, false, false, false, false, false, false, false, false, false, false, false, false, false, false, false, false, false] rfl rfl (by kernel_rfl) (fun _ _ _ h => h) (Or.inl ⟨by rfl, ?_⟩) ?_ ?_
          rotate_left
          · intro w'
            go_simp
            with_reducible rfl
          rotate_left
          · simp only [Act.put, List.setIfInBounds_toArray, List.set_cons_zero, List.set_cons_succ, i64_w, i32_w]
            rfl
          refine pure_ (i := 21) (N := some 130) (v := ?_) (a' := ?_) #[true, true, true, true, false, false, true, true, true, true, true, true, true, true, true, true, true, true, true, true, true, true, false, false, false, false, false, false, false, false, false, false, false, false, false, false, false, false] rfl rfl (by kernel_rfl) (fun _ _ _ h => h) (Or.inl ⟨by rfl, ?_⟩) ?_ ?_
          rotate_left
          · intro w'
            go_simp
            with_reducible rfl
          rotate_left
          · simp only [Act.put, List.setIfInBounds_toArray, List.set_cons_zero, List.set_cons_succ, i64_w, i32_w]
            rfl
          refine pure_ (i := 22) (N := some 131) (v := ?_) (a' := ?_) #[true, true, true, true, false, false, true, true, true, true, true, true, true, true, true, true, true, true, true, true, true, true, true, false, false, false, false, false, false, false, false, false, false, false, false, false, false, false] rfl rfl (by kernel_rfl) (fun _ _ _ h => h) (Or.inl ⟨by rfl, ?_⟩) ?_ ?_
          rotate_left
          · intro w'
            go_simp
            with_reducible rfl
          rotate_left
          · simp only [Act.put, List.setIfInBounds_toArray, List.set_cons_zero, List.set_cons_succ, i64_w, i32_w]
            rfl
          refine pure_ (i := 23) (N := some 132) (v := ?_) (a' := ?_) #[true, true, true, true, false, false, true, true, true, true, true, true, true, true, true, true, true, true, true, true, true, true, true, true, false, false, false, false, false, false, false, false, false, false, false, false, false, false] rfl rfl (by kernel_rfl) (fun _ _ _ h => h) (Or.inl ⟨by rfl, ?_⟩) ?_ ?_
          rotate_left
          · intro w'
            go_simp
            with_reducible rfl
          rotate_left
          · simp only [Act.put, List.setIfInBounds_toArray, List.set_cons_zero, List.set_cons_succ, i64_w, i32_w]
            rfl
          refine take_ (i := 24) (N := some 133) (v := ?_) (a' := ?_) #[true, true, true, true, false, false, true, true, true, true, true, true, true, true, true, true, true, true, true, true, true, true, true, true, true, false, false, false, false, false, false, false, false, false, false, false, false, false] rfl rfl (by kernel_rfl) (fun _ _ _ h => h) (Or.inl ⟨by rfl, ?_⟩) hHeld ?_ ?_
          rotate_left
          · rintro w' ⟨u0_, u1_, u2_, u3_⟩
            go_simp
            with_reducible rfl
          rotate_left
          · simp only [Act.put, List.setIfInBounds_toArray, List.set_cons_zero, List.set_cons_succ, i64_w, i32_w]
            rfl
          refine pure_ (i := 25) (N := some 134) (v := ?_) (a' := ?_) #[true, true, true, true, false, false, true, true, true, true, true, true, true, true, true, true, true, true, true, true, true, true, true, true, true, true, false, false, false, false, false, false, false, false, false, false, false, false] rfl rfl (by kernel_rfl) (fun _ _ _ h => h) (Or.inl ⟨by rfl, ?_⟩) ?_ ?_
          rotate_left
          · intro w'
            go_simp
            with_reducible rfl
          rotate_left
          · simp only [Act.put, List.setIfInBounds_toArray, List.set_cons_zero, List.set_cons_succ, i64_w, i32_w]
            rfl
          refine pure_ (i := 26) (N := some 135) (v := ?_) (a' := ?_) #[true, true, true, true, false, false, true, true, true, true, true, true, true, true, true, true, true, true, true, true, true, true, true, true, true, true, true, false, false, false, false, false, false, false, false, false, false, false] rfl rfl (by kernel_rfl) (fun _ _ _ h => h) (Or.inl ⟨by rfl, ?_⟩) ?_ ?_
          rotate_left
          · intro w'
            go_simp
            with_reducible rfl
          rotate_left
          · simp only [Act.put, List.setIfInBounds_toArray, List.set_cons_zero, List.set_cons_succ, i64_w, i32_w]
            rfl
          refine pure_ (i := 27) (N := some 136) (v := ?_) (a' := ?_) #[true, true, true, true, false, false, true, true, true, true, true, true, true, true, true, true, true, true, true, true, true, true, true, true, true, true, true, true, false, false, false, false, false, false, false, false, false, false] rfl rfl (by kernel_rfl) (fun _ _ _ h => h) (Or.inl ⟨by rfl, ?_⟩) ?_ ?_
          rotate_left
          · intro w'
            go_simp
            with_reducible rfl
          rotate_left
          · simp only [Act.put, List.setIfInBounds_toArray, List.set_cons_zero, List.set_cons_succ, i64_w, i32_w]
            rfl
          refine pure_ (i := 28) (N := some 137) (v := ?_) (a' := ?_) #[true, true, true, true, false, false, true, true, true, true, true, true, true, true, true, true, true, true, true, true, true, true, true, true, true, true, true, true, true, false, false, false, false, false, false, false, false, false] rfl rfl (by kernel_rfl) (fun _ _ _ h => h) (Or.inl ⟨by rfl, ?_⟩) ?_ ?_
          rotate_left
          · intro w'
            go_simp
            with_reducible rfl
          rotate_left
          · simp only [Act.put, List.setIfInBounds_toArray, List.set_cons_zero, List.set_cons_succ, i64_w, i32_w]
            rfl
          refine pure_ (i := 29) (N := some 138) (v := ?_) (a' := ?_) #[true, true, true, true, false, false, true, true, true, true, true, true, true, true, true, true, true, true, true, true, true, true, true, true, true, true, true, true, true, true, false, false, false, false, false, false, false, false] rfl rfl (by kernel_rfl) (fun _ _ _ h => h) (Or.inl ⟨by rfl, ?_⟩) ?_ ?_
          rotate_left
          · intro w'
            go_simp
            with_reducible rfl
          rotate_left
          · simp only [Act.put, List.setIfInBounds_toArray, List.set_cons_zero, List.set_cons_succ, i64_w, i32_w]
            rfl
          refine pure_ (i := 30) (N := some 139) (v := ?_) (a' := ?_) #[true, true, true, true, false, false, true, true, true, true, true, true, true, true, true, true, true, true, true, true, true, true, true, true, true, true, true, true, true, true, true, false, false, false, false, false, false, false] rfl rfl (by kernel_rfl) (fun _ _ _ h => h) (Or.inl ⟨by rfl, ?_⟩) ?_ ?_
          rotate_left
          · intro w'
            go_simp
            with_reducible rfl
          rotate_left
          · simp only [Act.put, List.setIfInBounds_toArray, List.set_cons_zero, List.set_cons_succ, i64_w, i32_w]
            rfl
          refine pure_ (i := 31) (N := some 140) (v := ?_) (a' := ?_) #[true, true, true, true, false, false, true, true, true, true, true, true, true, true, true, true, true, true, true, true, true, true, true, true, true, true, true, true, true, true, true, true, false, false, false, false, false, false] rfl rfl (by kernel_rfl) (fun _ _ _ h => h) (Or.inl ⟨by rfl, ?_⟩) ?_ ?_
          rotate_left
          · intro w'
            go_simp
            with_reducible rfl
          rotate_left
          · simp only [Act.put, List.setIfInBounds_toArray, List.set_cons_zero, List.set_cons_succ, i64_w, i32_w]
            rfl
          refine take_ (i := 32) (N := some 141) (v := ?_) (a' := ?_) #[true, true, true, true, false, false, true, true, true, true, true, true, true, true, true, true, true, true, true, true, true, true, true, true, true, true, true, true, true, true, true, true, true, false, false, false, false, false] rfl rfl (by kernel_rfl) (fun _ _ _ h => h) (Or.inl ⟨by rfl, ?_⟩) hHeld ?_ ?_
          rotate_left
          · rintro w' ⟨u0_, u1_, u2_, u3_⟩
            go_simp
            with_reducible rfl
          rotate_left
          · simp only [Act.put, List.setIfInBounds_toArray, List.set_cons_zero, List.set_cons_succ, i64_w, i32_w]
            rfl
          refine pure_ (i := 33) (N := some 142) (v := ?_) (a' := ?_) #[true, true, true, true, false, false, true, true, true, true, true, true, true, true, true, true, true, true, true, true, true, true, true, true, true, true, true, true, true, true, true, true, true, true, false, false, false, false] rfl rfl (by kernel_rfl) (fun _ _ _ h => h) (Or.inl ⟨by rfl, ?_⟩) ?_ ?_
          rotate_left
          · intro w'
            go_simp
            with_reducible rfl
          rotate_left
          · simp only [Act.put, List.setIfInBounds_toArray, List.set_cons_zero, List.set_cons_succ, i64_w, i32_w]
            rfl
          refine pure_ (i := 34) (N := some 143) (v := ?_) (a' := ?_) #[true, true, true, true, false, false, true, true, true, true, true, true, true, true, true, true, true, true, true, true, true, true, true, true, true, true, true, true, true, true, true, true, true, true, true, false, false, false] rfl rfl (by kernel_rfl) (fun _ _ _ h => h) (Or.inl ⟨by rfl, ?_⟩) ?_ ?_
          rotate_left
          · intro w'
            go_simp
            with_reducible rfl
          rotate_left
          · simp only [Act.put, List.setIfInBounds_toArray, List.set_cons_zero, List.set_cons_succ, i64_w, i32_w]
            rfl
          refine pure_ (i := 35) (N := some 144) (v := ?_) (a' := ?_) #[true, true, true, true, false, false, true, true, true, true, true, true, true, true, true, true, true, true, true, true, true, true, true, true, true, true, true, true, true, true, true, true, true, true, true, true, false, false] rfl rfl (by kernel_rfl) (fun _ _ _ h => h) (Or.inl ⟨by rfl, ?_⟩) ?_ ?_
          rotate_left
          · intro w'
            go_simp
            with_reducible rfl
          rotate_left
          · simp only [Act.put, List.setIfInBounds_toArray, List.set_cons_zero, List.set_cons_succ, i64_w, i32_w]
            rfl
          refine one_ (i := 4) (N := some 113) #[true, true, true, true, true, false, true, true, true, true, true, true, true, true, true, true, true, true, true, true, true, true, true, true, true, true, true, true, true, true, true, true, true, true, true, true, false, false] rfl rfl (by kernel_rfl) (by decide) (fun K hK => ?_)
          refine value_ (v := .slice (some ⟨(W16.drew).heap.size, 0, none⟩) 1 1) (w1 := (W16.drew).alloc (.cells #[.slice (some ⟨g, 0, none⟩) E cap] 22)) (by rfl) rfl (by go_simp) ?_
          refine hK.out _ _ hS2 (fun hHeld2 => ?_)
          clear hK
          refine norm_ (a' := ?_) ?_ ?_
          rotate_left
          · show Act.put _ (some 113) _ = _
            simp only [Act.put, List.setIfInBounds_toArray, List.set_cons_zero, List.set_cons_succ, i64_w, i32_w]
            rfl
          refine one_ (i := 5) (N := some 114) #[true, true, true, true, true, true, true, true, true, true, true, true, true, true, true, true, true, true, true, true, true, true, true, true, true, true, true, true, true, true, true, true, true, true, true, true, false, false] rfl rfl (by kernel_rfl) (by decide) (fun K hK => ?_)
          refine goes_ Tryd.func18 (by kernel_rfl) rfl #[.slice (some ⟨(W16.drew).heap.size, 0, none⟩) 1 1] (by rfl) rfl rfl (by first | rfl | kernel_rfl | simp [Act.eval]) ?_
          refine (kS16.out).mono ?_
          rintro e X1 ⟨rfl, rfl⟩
          refine ⟨_, rfl, hK.out _ _ hS2 (fun hHeld3 => ?_)⟩
          clear hK
          refine norm_ (a' := ?_) ?_ ?_
          rotate_left
          · show Act.put _ (some 114) _ = _
            simp only [Act.put, List.setIfInBounds_toArray, List.set_cons_zero, List.set_cons_succ, i64_w, i32_w]
            rfl
          refine pure_ (i := 36) (N := some 145) (v := ?_) (a' := ?_) #[true, true, true, true, true, true, true, true, true, true, true, true, true, true, true, true, true, true, true, true, true, true, true, true, true, true, true, true, true, true, true, true, true, true, true, true, true, false] rfl rfl (by kernel_rfl) (fun _ _ _ h => h) (Or.inl ⟨by rfl, ?_⟩) ?_ ?_
          rotate_left
          · intro w'
            go_simp
            with_reducible rfl
          rotate_left
          · simp only [Act.put, List.setIfInBounds_toArray, List.set_cons_zero, List.set_cons_succ, i64_w, i32_w]
            rfl
          refine pure_ (i := 37) (N := some 17) (v := ?_) (a' := ?_) #[true, true, true, true, true, true, true, true, true, true, true, true, true, true, true, true, true, true, true, true, true, true, true, true, true, true, true, true, true, true, true, true, true, true, true, true, true, true] rfl rfl (by kernel_rfl) (fun _ _ _ h => h) (Or.inl ⟨by rfl, ?_⟩) ?_ ?_
          rotate_left
          · intro w'
            go_simp
            with_reducible rfl
          rotate_left
          · simp only [Act.put, List.setIfInBounds_toArray, List.set_cons_zero, List.set_cons_succ, i64_w, i32_w]
            rfl
          refine done_ (by kernel_rfl) ?_
          rw [hwp.out.1, hwp.out.2.1, hwp.out.2.2.1, hwp.out.2.2.2.1, hwp.out.2.2.2.2.1, hwp.out.2.2.2.2.2.1, hwp.out.2.2.2.2.2.2, horr.out, hb9]
          go_wp2_with (first | (go_at_call 11; ((with_reducible refine (kNum _ _).mono ?_); rintro e W1 ⟨rfl, hb_⟩; have n0_ := Aside0.mk (hk.out.step hb_); clear hk; have hk := n0_; clear n0_; (try (have n1_ := Aside0.mk (hz.out.step hb_); clear hz; have hz := n1_; clear n1_; (try clear z0_ z1_ z2_ z3_); obtain ⟨z0_, z1_, z2_, z3_⟩ := hz.out.S)); clear hb_)) | (go_at_call 15; ((with_reducible refine (Known (hk.out.tab hTT.out)).mono ?_); rintro e W1 ⟨rfl, hb_⟩; have n0_ := Aside0.mk (hk.out.step hb_); clear hk; have hk := n0_; clear n0_; (try (have n1_ := Aside0.mk (hz.out.step hb_); clear hz; have hz := n1_; clear n1_; (try clear z0_ z1_ z2_ z3_); obtain ⟨z0_, z1_, z2_, z3_⟩ := hz.out.S)); clear hb_)))
          go_ret
          exact ⟨rfl, hk.out.bel⟩
        · have hPn : er ≠ 0 := by omega
          have hq71 : (er == 71) = false := beq_eq_false_iff_ne.2 (by omega)
          go_upto_region 16 with (first | (go_at_call 9; ((with_reducible refine (hk.out.decPE hnL hTT.out hBb.out hl47 hPe hPn).mono ?_); rintro e W1 ⟨rfl, hb_⟩; have n0_ := Aside0.mk (hk.out.step hb_); clear hk; have hk := n0_; clear n0_; (try (have n1_ := Aside0.mk (hz0.out.step hb_); clear hz0; have hz0 := n1_; clear n1_; (try clear z0_ z1_ z2_ z3_); obtain ⟨z0_, z1_, z2_, z3_⟩ := hz0.out.S)); clear hb_; have hb_ := below_alloc (Below.refl W1.heap.size W1) (.cells #[.slice none 0 0, .int .u16 0, .slice none 0 0, .slice none 0 0] 28); have n0_ := Aside0.mk (hk.out.step hb_); clear hk; have hk := n0_; clear n0_; have hz : Aside0 (Bx (W1.alloc (.cells #[.slice none 0 0, .int .u16 0, .slice none 0 0, .slice none 0 0] 28)) W1.heap.size _ _ _ _) := ⟨⟨World.alloc_heap_new W1 (.cells #[.slice none 0 0, .int .u16 0, .slice none 0 0, .slice none 0 0] 28)⟩⟩; obtain ⟨z0_, z1_, z2_, z3_⟩ := hz.out.S; clear hb_)))
          generalize W1.alloc (.cells #[.slice none 0 0, .int .u16 0, .slice none 0 0, .slice none 0 0] 28) = W16 at hk ⊢
          have hS1 := (hk.out.step (below_drew (Below.refl W16.heap.size W16))).four (E := E) (by omega)
          have hS2 := ((hk.out.step (below_drew (Below.refl W16.heap.size W16))).step (below_alloc (Below.refl W16.drew.heap.size W16.drew) (.cells #[.slice (some ⟨g, 0, none⟩) E cap] 22))).four (E := E) (by omega)
          have kS16 := Aside0.mk ((hk.out.step (below_drew (Below.refl W16.heap.size W16))).sum (E := E) (by omega) hTT.out hSS)
          have n0_ := Aside0.mk ((hk.out.step (below_drew (Below.refl W16.heap.size W16))).step (below_alloc (Below.refl W16.drew.heap.size W16.drew) (.cells #[.slice (some ⟨g, 0, none⟩) E cap] 22)))
          clear hk
          have hk := n0_
          clear n0_
          have hcE := cut_E (some ⟨g, 0, none⟩) L cap E (by omega) (by have := hk.out.C; omega)
          have hcp := hk.out.C.2.1
          have ecp : (E ≤ cap) = True := eq_true (by omega)
          rw [hu0, hu1, hu2, hu3] at hS1 hS2
          rw [← hE1, ← hE2, ← hE3] at hS1 hS2
          obtain ⟨hz0, hz1, hz2, hz3⟩ := hwr.out
          clear hEn hE1 hE2 hE3 hhi hlen hkL hnL hcp hown hiff hb0_ hb1_ hb2_ hb3_ hl47 hmem hBy hdt hyss hvv htb hcut kEnc1 hLL
          refine start_ (n := 38) (S := (fun w' => w'.cell? ⟨g, E, none⟩ = some (.int .u8 u0) ∧ w'.cell? ⟨g, E1, none⟩ = some (.int .u8 u1) ∧ w'.cell? ⟨g, E2, none⟩ = some (.int .u8 u2) ∧ w'.cell? ⟨g, E3, none⟩ = some (.int .u8 u3))) (ds := []) #[false, false, false, false, false, false, false, false, false, false, false, false, false, false, false, false, false, false, false, false, false, false, false, false, false, false, false, false, false, false, false, false, false, false, false, false, false, false] (by kernel_rfl) rfl rfl hS1 (fun hHeld => ?_)
          refine pure_ (i := 0) (N := some 109) (v := ?_) (a' := ?_) #[true, false, false, false, false, false, false, false, false, false, false, false, false, false, false, false, false, false, false, false, false, false, false, false, false, false, false, false, false, false, false, false, false, false, false, false, false, false] rfl rfl (by kernel_rfl) (fun _ _ _ h => h) (Or.inl ⟨by rfl, ?_⟩) ?_ ?_
          rotate_left
          · intro w'
            go_simp
            with_reducible rfl
          rotate_left
          · simp only [Act.put, List.setIfInBounds_toArray, List.set_cons_zero, List.set_cons_succ, i64_w, i32_w]
            rfl
          refine pure_ (i := 1) (N := some 110) (v := ?_) (a' := ?_) #[true, true, false, false, false, false, false, false, false, false, false, false, false, false, false, false, false, false, false, false, false, false, false, false, false, false, false, false, false, false, false, false, false, false, false, false, false, false] rfl rfl (by kernel_rfl) (fun _ _ _ h => h) (Or.inl ⟨by rfl, ?_⟩) ?_ ?_
          rotate_left
          · intro w'
            go_simp
            with_reducible rfl
          rotate_left
          · simp only [Act.put, List.setIfInBounds_toArray, List.set_cons_zero, List.set_cons_succ, i64_w, i32_w]
            rfl
          refine pure_ (i := 2) (N := some 111) (v := ?_) (a' := ?_) #[true, true, true, false, false, false, false, false, false, false, false, false, false, false, false, false, false, false, false, false, false, false, false, false, false, false, false, false, false, false, false, false, false, false, false, false, false, false] rfl rfl (by kernel_rfl) (fun _ _ _ h => h) (Or.inl ⟨by rfl, ?_⟩) ?_ ?_
          rotate_left
          · intro w'
            go_simp
            with_reducible rfl
          rotate_left
          · simp only [Act.put, List.setIfInBounds_toArray, List.set_cons_zero, List.set_cons_succ, i64_w, i32_w]
            rfl
          refine pure_ (i := 3) (N := some 112) (v := ?_) (a' := ?_) #[true, true, true, true, false, false, false, false, false, false, false, false, false, false, false, false, false, false, false, false, false, false, false, false, false, false, false, false, false, false, false, false, false, false, false, false, false, false] rfl rfl (by kernel_rfl) (fun _ _ _ h => h) (Or.inl ⟨by rfl, ?_⟩) ?_ ?_
          rotate_left
          · intro w'
            go_simp
            with_reducible rfl
          rotate_left
          · simp only [Act.put, List.setIfInBounds_toArray, List.set_cons_zero, List.set_cons_succ, i64_w, i32_w]
            rfl
          refine pure_ (i := 6) (N := some 115) (v := ?_) (a' := ?_) #[true, true, true, true, false, false, true, false, false, false, false, false, false, false, false, false, false, false, false, false, false, false, false, false, false, false, false, false, false, false, false, false, false, false, false, false, false, false] rfl rfl (by kernel_rfl) (fun _ _ _ h => h) (Or.inl ⟨by rfl, ?_⟩) ?_ ?_
          rotate_left
          · intro w'
            go_simp
            with_reducible rfl
          rotate_left
          · simp only [Act.put, List.setIfInBounds_toArray, List.set_cons_zero, List.set_cons_succ, i64_w, i32_w]
            rfl
          refine pure_ (i := 7) (N := some 116) (v := ?_) (a' := ?_) #[true, true, true, true, false, false, true, true, false, false, false, false, false, false, false, false, false, false, false, false, false, false, false, false, false, false, false, false, false, false, false, false, false, false, false, false, false, false] rfl rfl (by kernel_rfl) (fun _ _ _ h => h) (Or.inl ⟨by rfl, ?_⟩) ?_ ?_
          rotate_left
          · intro w'
            go_simp
            with_reducible rfl
          rotate_left
          · simp only [Act.put, List.setIfInBounds_toArray, List.set_cons_zero, List.set_cons_succ, i64_w, i32_w]
            rfl
          refine pure_ (i := 8) (N := some 117) (v := ?_) (a' := ?_) #[true, true, true, true, false, false, true, true, true, false, false, false, false, false, false, false, false, false, false, false, false, false, false, false, false, false, false, false, false, false, false, false, false, false, false, false, false, false] rfl rfl (by kernel_rfl) (fun _ _ _ h => h) (Or.inl ⟨by rfl, ?_⟩) ?_ ?_
          rotate_left
          · intro w'
            go_simp
            with_reducible rfl
          rotate_left
          · simp only [Act.put, List.setIfInBounds_toArray, List.set_cons_zero, List.set_cons_succ, i64_w, i32_w]
            rfl
          refine pure_ (i := 9) (N := some 118) (v := ?_) (a' := ?_) #[true, true, true, true, false, false, true, true, true, true, false, false, false, false, false, false, false, false, false, false, false, false, false, false, false, false, false, false, false, false, false, false, false, false, false, false, false, false] rfl rfl (by kernel_rfl) (fun _ _ _ h => h) (Or.inl ⟨by rfl, ?_⟩) ?_ ?_
          rotate_left
          · intro w'
            go_simp
            with_reducible rfl
          rotate_left
          · simp only [Act.put, List.setIfInBounds_toArray, List.set_cons_zero, List.set_cons_succ, i64_w, i32_w]
            rfl
          refine take_ (i := 10) (N := some 119) (v := ?_) (a' := ?_) #[true, true, true, true, false, false, true, true, true, true, true, false, false, false, false, false, false, false, false, false, false, false, false, false, false, false, false, false, false, false, false, false, false, false, false, false, false, false] rfl rfl (by kernel_rfl) (fun _ _ _ h => h) (Or.inl ⟨by rfl, ?_⟩) hHeld ?_ ?_
          rotate_left
          · rintro w' ⟨u0_, u1_, u2_, u3_⟩
            go_simp
            with_reducible rfl
          rotate_left
          · simp only [Act.put, List.setIfInBounds_toArray, List.set_cons_zero, List.set_cons_succ, i64_w, i32_w]
            rfl
          refine pure_ (i := 11) (N := some 120) (v := ?_) (a' := ?_) #[true, true, true, true, false, false, true, true, true, true, true, true, false, false, false, false, false, false, false, false, false, false, false, false, false, false, false, false, false, false, false, false, false, false, false, false, false, false] rfl rfl (by kernel_rfl) (fun _ _ _ h => h) (Or.inl ⟨by rfl, ?_⟩) ?_ ?_
          rotate_left
          · intro w'
            go_simp
            with_reducible rfl
          rotate_left
          · simp only [Act.put, List.setIfInBounds_toArray, List.set_cons_zero, List.set_cons_succ, i64_w, i32_w]
            rfl
          refine pure_ (i := 12) (N := some 121) (v := ?_) (a' := ?_) #[true, true, true, true, false, false, true, true, true, true, true, true, true, false, false, false, false, false, false, false, false, false, false, false, false, false, false, false, false, false, false, false, false, false, false, false, false, false] rfl rfl (by kernel_rfl) (fun _ _ _ h => h) (Or.inl ⟨by rfl, ?_⟩) ?_ ?_
          rotate_left
          · intro w'
            go_simp
            with_reducible rfl
          rotate_left
          · simp only [Act.put, List.setIfInBounds_toArray, List.set_cons_zero, List.set_cons_succ, i64_w, i32_w]
            rfl
          refine pure_ (i := 13) (N := some 122) (v := ?_) (a' := ?_) #[true, true, true, true, false, false, true, true, true, true, true, true, true, true, false, false, false, false, false, false, false, false, false, false, false, false, false, false, false, false, false, false, false, false, false, false, false, false] rfl rfl (by kernel_rfl) (fun _ _ _ h => h) (Or.inl ⟨by rfl, ?_⟩) ?_ ?_
          rotate_left
          · intro w'
            go_simp
            with_reducible rfl
          rotate_left
          · simp only [Act.put, List.setIfInBounds_toArray, List.set_cons_zero, List.set_cons_succ, i64_w, i32_w]
            rfl
          refine pure_ (i := 14) (N := some 123) (v := ?_) (a' := ?_) #[true, true, true, true, false, false, true, true, true, true, true, true, true, true, true, false, false, false, false, false, false, false, false, false, false, false, false, false, false, false, false, false, false, false, false, false, false, false] rfl rfl (by kernel_rfl) (fun _ _ _ h => h) (Or.inl ⟨by rfl, ?_⟩) ?_ ?_
          rotate_left
          · intro w'
            go_simp
            with_reducible rfl
          rotate_left
          · simp only [Act.put, List.setIfInBounds_toArray, List.set_cons_zero, List.set_cons_succ, i64_w, i32_w]
            rfl
          refine pure_ (i := 15) (N := some 124) (v := ?_) (a' := ?_) #[true, true, true, true, false, false, true, true, true, true, true, true, true, true, true, true, false, false, false, false, false, false, false, false, false, false, false, false, false, false, false, false, false, false, false, false, false, false] rfl rfl (by kernel_rfl) (fun _ _ _ h => h) (Or.inl ⟨by rfl, ?_⟩) ?_ ?_
          rotate_left
          · intro w'
            go_simp
            with_reducible rfl
          rotate_left
          · simp only [Act.put, List.setIfInBounds_toArray, List.set_cons_zero, List.set_cons_succ, i64_w, i32_w]
            rfl
          refine take_ (i := 16) (N := some 125) (v := ?_) (a' := ?_) #[true, true, true, true, false, false, true, true, true, true, true, true, true, true, true, true, true, false, false, false, false, false, false, false, false, false, false, false, false, false, false, false, false, false, false, false, false, false] rfl rfl (by kernel_rfl) (fun _ _ _ h => h) (Or.inl ⟨by rfl, ?_⟩) hHeld ?_ ?_
          rotate_left
          · rintro w' ⟨u0_, u1_, u2_, u3_⟩
            go_simp
            with_reducible rfl
          rotate_left
          · simp only [Act.put, List.setIfInBounds_toArray, List.set_cons_zero, List.set_cons_succ, i64_w, i32_w]
            rfl
          refine pure_ (i := 17) (N := some 126) (v := ?_) (a' := ?_) #[true, true, true, true, false, false, true, true, true, true, true, true, true, true, true, true, true, true, false, false, false, false, false, false, false, false, false, false, false, false, false, false, false, false, false, false, false, false] rfl rfl (by kernel_rfl) (fun _ _ _ h => h) (Or.inl ⟨by rfl, ?_⟩) ?_ ?_
          rotate_left
          · intro w'
            go_simp
            with_reducible rfl
          rotate_left
          · simp only [Act.put, List.setIfInBounds_toArray, List.set_cons_zero, List.set_cons_succ, i64_w, i32_w]
            rfl
          refine pure_ (i := 18) (N := some 127) (v := ?_) (a' := ?_) #[true, true, true, true, false, false, true, true, true, true, true, true, true, true, true, true, true, true, true, false, false, false, false, false, false, false, false, false, false, false, false, false, false, false, false, false, false, false] rfl rfl (by kernel_rfl) (fun _ _ _ h => h) (Or.inl ⟨by rfl, ?_⟩) ?_ ?_
          rotate_left
          · intro w'
            go_simp
            with_reducible rfl
          rotate_left
          · simp only [Act.put, List.setIfInBounds_toArray, List.set_cons_zero, List.set_cons_succ, i64_w, i32_w]
            rfl
          refine pure_ (i := 19) (N := some 128) (v := ?_) (a' := ?_) #[true, true, true, true, false, false, true, true, true, true, true, true, true, true, true, true, true, true, true, true, false, false, false, false, false, false, false, false, false, false, false, false, false, false, false, false, false, false] rfl rfl (by kernel_rfl) (fun _ _ _ h => h) (Or.inl ⟨by rfl, ?_⟩) ?_ ?_
          rotate_left
          · intro w'
            go_simp
            with_reducible rfl
          rotate_left
          · simp only [Act.put, List.setIfInBounds_toArray, List.set_cons_zero, List.set_cons_succ, i64_w, i32_w]
            rfl
          refine pure_ (i := 20) (N := some 129) (v := ?_) (a' := ?_) #[true, true, true, true, false, false, true, true, true, true, true, true, true, true, true, true, true, true, true, true, true, false, false, false, false, false, false, false, false, false, false, false, false, false, false, false, false, false] rfl rfl (by kernel_rfl) (fun _ _ _ h => h) (Or.inl ⟨by rfl, ?_⟩) ?_ ?_
          rotate_left
          · intro w'
            go_simp
            with_reducible rfl
          rotate_left
          · simp only [Act.put, List.setIfInBounds_toArray, List.set_cons_zero, List.set_cons_succ, i64_w, i32_w]
            rfl
          refine pure_ (i := 21) (N := some 130) (v := ?_) (a' := ?_) #[true, true, true, true, false, false, true, true, true, true, true, true, true, true, true, true, true, true, true, true, true, true, false, false, false, false, false, false, false, false, false, false, false, false, false, false, false, false] rfl rfl (by kernel_rfl) (fun _ _ _ h => h) (Or.inl ⟨by rfl, ?_⟩) ?_ ?_
          rotate_left
          · intro w'
            go_simp
            with_reducible rfl
          rotate_left
          · simp only [Act.put, List.setIfInBounds_toArray, List.set_cons_zero, List.set_cons_succ, i64_w, i32_w]
            rfl
          refine pure_ (i := 22) (N := some 131) (v := ?_) (a' := ?_) #[true, true, true, true, false, false, true, true, true, true, true, true, true, true, true, true, true, true, true, true, true, true, true, false, false, false, false, false, false, false, false, false, false, false, false, false, false, false] rfl rfl (by kernel_rfl) (fun _ _ _ h => h) (Or.inl ⟨by rfl, ?_⟩) ?_ ?_
          rotate_left
          · intro w'
            go_simp
            with_reducible rfl
          rotate_left
          · simp only [Act.put, List.setIfInBounds_toArray, List.set_cons_zero, List.set_cons_succ, i64_w, i32_w]
            rfl
          refine pure_ (i := 23) (N := some 132) (v := ?_) (a' := ?_) #[true, true, true, true, false, false, true, true, true, true, true, true, true, true, true, true, true, true, true, true, true, true, true, true, false, false, false, false, false, false, false, false, false, false, false, false, false, false] rfl rfl (by kernel_rfl) (fun _ _ _ h => h) (Or.inl ⟨by rfl, ?_⟩) ?_ ?_
          rotate_left
          · intro w'
            go_simp
            with_reducible rfl
          rotate_left
          · simp only [Act.put, List.setIfInBounds_toArray, List.set_cons_zero, List.set_cons_succ, i64_w, i32_w]
            rfl
          refine take_ (i := 24) (N := some 133) (v := ?_) (a' := ?_) #[true, true, true, true, false, false, true, true, true, true, true, true, true, true, true, true, true, true, true, true, true, true, true, true, true, false, false, false, false, false, false, false, false, false, false, false, false, false] rfl rfl (by kernel_rfl) (fun _ _ _ h => h) (Or.inl ⟨by rfl, ?_⟩) hHeld ?_ ?_
          rotate_left
          · rintro w' ⟨u0_, u1_, u2_, u3_⟩
            go_simp
            with_reducible rfl
          rotate_left
          · simp only [Act.put, List.setIfInBounds_toArray, List.set_cons_zero, List.set_cons_succ, i64_w, i32_w]
            rfl
          refine pure_ (i := 25) (N := some 134) (v := ?_) (a' := ?_) #[true, true, true, true, false, false, true, true, true, true, true, true, true, true, true, true, true, true, true, true, true, true, true, true, true, true, false, false, false, false, false, false, false, false, false, false, false, false] rfl rfl (by kernel_rfl) (fun _ _ _ h => h) (Or.inl ⟨by rfl, ?_⟩) ?_ ?_
          rotate_left
          · intro w'
            go_simp
            with_reducible rfl
          rotate_left
          · simp only [Act.put, List.setIfInBounds_toArray, List.set_cons_zero, List.set_cons_succ, i64_w, i32_w]
            rfl
          refine pure_ (i := 26) (N := some 135) (v := ?_) (a' := ?_) #[true, true, true, true, false, false, true, true, true, true, true, true, true, true, true, true, true, true, true, true, true, true, true, true, true, true, true, false, false, false, false, false, false, false, false, false, false, false] rfl rfl (by kernel_rfl) (fun _ _ _ h => h) (Or.inl ⟨by rfl, ?_⟩) ?_ ?_
          rotate_left
          · intro w'
            go_simp
            with_reducible rfl
          rotate_left
          · simp only [Act.put, List.setIfInBounds_toArray, List.set_cons_zero, List.set_cons_succ, i64_w, i32_w]
            rfl
          refine pure_ (i := 27) (N := some 136) (v := ?_) (a' := ?_) #[true, true, true, true, false, false, true, true, true, true, true, true, true, true, true, true, true, true, true, true, true, true, true, true, true, true, true, true, false, false, false, false, false, false, false, false, false, false] rfl rfl (by kernel_rfl) (fun _ _ _ h => h) (Or.inl ⟨by rfl, ?_⟩) ?_ ?_
          rotate_left
          · intro w'
            go_simp
            with_reducible rfl
          rotate_left
          · simp only [Act.put, List.setIfInBounds_toArray, List.set_cons_zero, List.set_cons_succ, i64_w, i32_w]
            rfl
          refine pure_ (i := 28) (N := some 137) (v := ?_) (a' := ?_) #[true, true, true, true, false, false, true, true, true, true, true, true, true, true, true, true, true, true, true, true, true, true, true, true, true, true, true, true, true, false, false, false, false, false, false, false, false, false] rfl rfl (by kernel_rfl) (fun _ _ _ h => h) (Or.inl ⟨by rfl, ?_⟩) ?_ ?_
          rotate_left
          · intro w'
            go_simp
            with_reducible rfl
          rotate_left
          · simp only [Act.put, List.setIfInBounds_toArray, List.set_cons_zero, List.set_cons_succ, i64_w, i32_w]
            rfl
          refine pure_ (i := 29) (N := some 138) (v := ?_) (a' := ?_) #[true, true, true, true, false, false, true, true, true, true, true, true, true, true, true, true, true, true, true, true, true, true, true, true, true, true, true, true, true, true, false, false, false, false, false, false, false, false] rfl rfl (by kernel_rfl) (fun _ _ _ h => h) (Or.inl ⟨by rfl, ?_⟩) ?_ ?_
          rotate_left
          · intro w'
            go_simp
            with_reducible rfl
          rotate_left
          · simp only [Act.put, List.setIfInBounds_toArray, List.set_cons_zero, List.set_cons_succ, i64_w, i32_w]
            rfl
          refine pure_ (i := 30) (N := some 139) (v := ?_) (a' := ?_) #[true, true, true, true, false, false, true, true, true, true, true, true, true, true, true, true, true, true, true, true, true, true, true, true, true, true, true, true, true, true, true, false, false, false, false, false, false, false] rfl rfl (by kernel_rfl) (fun _ _ _ h => h) (Or.inl ⟨by rfl, ?_⟩) ?_ ?_
          rotate_left
          · intro w'
            go_simp
            with_reducible rfl
          rotate_left
          · simp only [Act.put, List.setIfInBounds_toArray, List.set_cons_zero, List.set_cons_succ, i64_w, i32_w]
            rfl
          refine pure_ (i := 31) (N := some 140) (v := ?_) (a' := ?_) #[true, true, true, true, false, false, true, true, true, true, true, true, true, true, true, true, true, true, true, true, true, true, true, true, true, true, true, true, true, true, true, true, false, false, false, false, false, false] rfl rfl (by kernel_rfl) (fun _ _ _ h => h) (Or.inl ⟨by rfl, ?_⟩) ?_ ?_
          rotate_left
          · intro w'
            go_simp
            with_reducible rfl
          rotate_left
          · simp only [Act.put, List.setIfInBounds_toArray, List.set_cons_zero, List.set_cons_succ, i64_w, i32_w]
            rfl
          refine take_ (i := 32) (N := some 141) (v := ?_) (a' := ?_) #[true, true, true, true, false, false, true, true, true, true, true, true, true, true, true, true, true, true, true, true, true, true, true, true, true, true, true, true, true, true, true, true, true, false, false, false, false, false] rfl rfl (by kernel_rfl) (fun _ _ _ h => h) (Or.inl ⟨by rfl, ?_⟩) hHeld ?_ ?_
          rotate_left
          · rintro w' ⟨u0_, u1_, u2_, u3_⟩
            go_simp
            with_reducible rfl
          rotate_left
          · simp only [Act.put, List.setIfInBounds_toArray, List.set_cons_zero, List.set_cons_succ, i64_w, i32_w]
            rfl
          refine pure_ (i := 33) (N := some 142) (v := ?_) (a' := ?_) #[true, true, true, true, false, false, true, true, true, true, true, true, true, true, true, true, true, true, true, true, true, true, true, true, true, true, true, true, true, true, true, true, true, true, false, false, false, false] rfl rfl (by kernel_rfl) (fun _ _ _ h => h) (Or.inl ⟨by rfl, ?_⟩) ?_ ?_
          rotate_left
          · intro w'
            go_simp
            with_reducible rfl
          rotate_left
          · simp only [Act.put, List.setIfInBounds_toArray, List.set_cons_zero, List.set_cons_succ, i64_w, i32_w]
            rfl
          refine pure_ (i := 34) (N := some 143) (v := ?_) (a' := ?_) #[true, true, true, true, false, false, true, true, true, true, true, true, true, true, true, true, true, true, true, true, true, true, true, true, true, true, true, true, true, true, true, true, true, true, true, false, false, false] rfl rfl (by kernel_rfl) (fun _ _ _ h => h) (Or.inl ⟨by rfl, ?_⟩) ?_ ?_
          rotate_left
          · intro w'
            go_simp
            with_reducible rfl
          rotate_left
          · simp only [Act.put, List.setIfInBounds_toArray, List.set_cons_zero, List.set_cons_succ, i64_w, i32_w]
            rfl
          refine pure_ (i := 35) (N := some 144) (v := ?_) (a' := ?_) #[true, true, true, true, false, false, true, true, true, true, true, true, true, true, true, true, true, true, true, true, true, true, true, true, true, true, true, true, true, true, true, true, true, true, true, true, false, false] rfl rfl (by kernel_rfl) (fun _ _ _ h => h) (Or.inl ⟨by rfl, ?_⟩) ?_ ?_
          rotate_left
          · intro w'
            go_simp
            with_reducible rfl
          rotate_left
          · simp only [Act.put, List.setIfInBounds_toArray, List.set_cons_zero, List.set_cons_succ, i64_w, i32_w]
            rfl
          refine one_ (i := 4) (N := some 113) #[true, true, true, true, true, false, true, true, true, true, true, true, true, true, true, true, true, true, true, true, true, true, true, true, true, true, true, true, true, true, true, true, true, true, true, true, false, false] rfl rfl (by kernel_rfl) (by decide) (fun K hK => ?_)
          refine value_ (v := .slice (some ⟨(W16.drew).heap.size, 0, none⟩) 1 1) (w1 := (W16.drew).alloc (.cells #[.slice (some ⟨g, 0, none⟩) E cap] 22)) (by rfl) rfl (by go_simp) ?_
          refine hK.out _ _ hS2 (fun hHeld2 => ?_)
          clear hK
          refine norm_ (a' := ?_) ?_ ?_
          rotate_left
          · show Act.put _ (some 113) _ = _
            simp only [Act.put, List.setIfInBounds_toArray, List.set_cons_zero, List.set_cons_succ, i64_w, i32_w]
            rfl
          refine one_ (i := 5) (N := some 114) #[true, true, true, true, true, true, true, true, true, true, true, true, true, true, true, true, true, true, true, true, true, true, true, true, true, true, true, true, true, true, true, true, true, true, true, true, false, false] rfl rfl (by kernel_rfl) (by decide) (fun K hK => ?_)
          refine goes_ Tryd.func18 (by kernel_rfl) rfl #[.slice (some ⟨(W16.drew).heap.size, 0, none⟩) 1 1] (by rfl) rfl rfl (by first | rfl | kernel_rfl | simp [Act.eval]) ?_
          refine (kS16.out).mono ?_
          rintro e X1 ⟨rfl, rfl⟩
          refine ⟨_, rfl, hK.out _ _ hS2 (fun hHeld3 => ?_)⟩
          clear hK
          refine norm_ (a' := ?_) ?_ ?_
          rotate_left
          · show Act.put _ (some 114) _ = _
            simp only [Act.put, List.setIfInBounds_toArray, List.set_cons_zero, List.set_cons_succ, i64_w, i32_w]
            rfl
          refine pure_ (i := 36) (N := some 145) (v := ?_) (a' := ?_) #[true, true, true, true, true, true, true, true, true, true, true, true, true, true, true, true, true, true, true, true, true, true, true, true, true, true, true, true, true, true, true, true, true, true, true, true, true, false] rfl rfl (by kernel_rfl) (fun _ _ _ h => h) (Or.inl ⟨by rfl, ?_⟩) ?_ ?_
          rotate_left
          · intro w'
            go_simp
            with_reducible rfl
          rotate_left
          · simp only [Act.put, List.setIfInBounds_toArray, List.set_cons_zero, List.set_cons_succ, i64_w, i32_w]
            rfl
          refine pure_ (i := 37) (N := some 17) (v := ?_) (a' := ?_) #[true, true, true, true, true, true, true, true, true, true, true, true, true, true, true, true, true, true, true, true, true, true, true, true, true, true, true, true, true, true, true, true, true, true, true, true, true, true] rfl rfl (by kernel_rfl) (fun _ _ _ h => h) (Or.inl ⟨by rfl, ?_⟩) ?_ ?_
          rotate_left
          · intro w'
            go_simp
            with_reducible rfl
          rotate_left
          · simp only [Act.put, List.setIfInBounds_toArray, List.set_cons_zero, List.set_cons_succ, i64_w, i32_w]
            rfl
          refine done_ (by kernel_rfl) ?_
          rw [hwp.out.1, hwp.out.2.1, hwp.out.2.2.1, hwp.out.2.2.2.1, hwp.out.2.2.2.2.1, hwp.out.2.2.2.2.2.1, hwp.out.2.2.2.2.2.2, horr.out, hb9]
          go_wp2_with (first | (go_at_call 11; ((with_reducible refine (kNum _ _).mono ?_); rintro e W1 ⟨rfl, hb_⟩; have n0_ := Aside0.mk (hk.out.step hb_); clear hk; have hk := n0_; clear n0_; (try (have n1_ := Aside0.mk (hz.out.step hb_); clear hz; have hz := n1_; clear n1_; (try clear z0_ z1_ z2_ z3_); obtain ⟨z0_, z1_, z2_, z3_⟩ := hz.out.S)); clear hb_)) | (go_at_call 15; ((with_reducible refine (Known (hk.out.tab hTT.out)).mono ?_); rintro e W1 ⟨rfl, hb_⟩; have n0_ := Aside0.mk (hk.out.step hb_); clear hk; have hk := n0_; clear n0_; (try (have n1_ := Aside0.mk (hz.out.step hb_); clear hz; have hz := n1_; clear n1_; (try clear z0_ z1_ z2_ z3_); obtain ⟨z0_, z1_, z2_, z3_⟩ := hz.out.S)); clear hb_)))
          go_ret
          exact ⟨rfl, hk.out.bel⟩
      · have hb9 : (SS == VV) = false := beq_eq_false_iff_ne.2 (fun h => hown h.symm)
        have hPe := hiff.2 hown
        have hPn : (71 : Int) ≠ 0 := by decide
        go_upto_region 16 with (first | (go_at_call 9; ((with_reducible refine (hk.out.decPE hnL hTT.out hBb.out hl47 hPe hPn).mono ?_); rintro e W1 ⟨rfl, hb_⟩; have n0_ := Aside0.mk (hk.out.step hb_); clear hk; have hk := n0_; clear n0_; (try (have n1_ := Aside0.mk (hz0.out.step hb_); clear hz0; have hz0 := n1_; clear n1_; (try clear z0_ z1_ z2_ z3_); obtain ⟨z0_, z1_, z2_, z3_⟩ := hz0.out.S)); clear hb_; have hb_ := below_alloc (Below.refl W1.heap.size W1) (.cells #[.slice none 0 0, .int .u16 0, .slice none 0 0, .slice none 0 0] 28); have n0_ := Aside0.mk (hk.out.step hb_); clear hk; have hk := n0_; clear n0_; have hz : Aside0 (Bx (W1.alloc (.cells #[.slice none 0 0, .int .u16 0, .slice none 0 0, .slice none 0 0] 28)) W1.heap.size _ _ _ _) := ⟨⟨World.alloc_heap_new W1 (.cells #[.slice none 0 0, .int .u16 0, .slice none 0 0, .slice none 0 0] 28)⟩⟩; obtain ⟨z0_, z1_, z2_, z3_⟩ := hz.out.S; clear hb_)))
        generalize W1.alloc (.cells #[.slice none 0 0, .int .u16 0, .slice none 0 0, .slice none 0 0] 28) = W16 at hk ⊢
        have hS1 := (hk.out.step (below_drew (Below.refl W16.heap.size W16))).four (E := E) (by omega)
        have hS2 := ((hk.out.step (below_drew (Below.refl W16.heap.size W16))).step (below_alloc (Below.refl W16.drew.heap.size W16.drew) (.cells #[.slice (some ⟨g, 0, none⟩) E cap] 22))).four (E := E) (by omega)
        have kS16 := Aside0.mk ((hk.out.step (below_drew (Below.refl W16.heap.size W16))).sum (E := E) (by omega) hTT.out hSS)
        have n0_ := Aside0.mk ((hk.out.step (below_drew (Below.refl W16.heap.size W16))).step (below_alloc (Below.refl W16.drew.heap.size W16.drew) (.cells #[.slice (some ⟨g, 0, none⟩) E cap] 22)))
        clear hk
        have hk := n0_
        clear n0_
        have hcE := cut_E (some ⟨g, 0, none⟩) L cap E (by omega) (by have := hk.out.C; omega)
        have hcp := hk.out.C.2.1
        have ecp : (E ≤ cap) = True := eq_true (by omega)
        rw [hu0, hu1, hu2, hu3] at hS1 hS2
        rw [← hE1, ← hE2, ← hE3] at hS1 hS2
        obtain ⟨hz0, hz1, hz2, hz3⟩ := hwr.out
        clear hEn hE1 hE2 hE3 hhi hlen hkL hnL hcp hown hiff hb0_ hb1_ hb2_ hb3_ hl47 hmem hBy hdt hyss hvv htb hcut kEnc1 hLL
        refine start_ (n := 38) (S := (fun w' => w'.cell? ⟨g, E, none⟩ = some (.int .u8 u0) ∧ w'.cell? ⟨g, E1, none⟩ = some (.int .u8 u1) ∧ w'.cell? ⟨g, E2, none⟩ = some (.int .u8 u2) ∧ w'.cell? ⟨g, E3, none⟩ = some (.int .u8 u3))) (ds := []) #[false, false, false, false, false, false, false, false, false, false, false, false, false, false, false, false, false, false, false, false, false, false, false, false, false, false, false, false, false, false, false, false, false, false, false, false, false, false] (by kernel_rfl) rfl rfl hS1 (fun hHeld => ?_)
        refine pure_ (i := 0) (N := some 109) (v := ?_) (a' := ?_) #[true, false, false, false, false, false, false, false, false, false, false, false, false, false, false, false, false, false, false, false, false, false, false, false, false, false, false, false, false, false, false, false, false, false, false, false, false, false] rfl rfl (by kernel_rfl) (fun _ _ _ h => h) (Or.inl ⟨by rfl, ?_⟩) ?_ ?_
        rotate_left
        · intro w'
          go_simp
          with_reducible rfl
        rotate_left
        · simp only [Act.put, List.setIfInBounds_toArray, List.set_cons_zero, List.set_cons_succ, i64_w, i32_w]
          rfl
        refine pure_ (i := 1) (N := some 110) (v := ?_) (a' := ?_) #[true, true, false, false, false, false, false, false, false, false, false, false, false, false, false, false, false, false, false, false, false, false, false, false, false, false, false, false, false, false, false, false, false, false, false, false, false, false] rfl rfl (by kernel_rfl) (fun _ _ _ h => h) (Or.inl ⟨by rfl, ?_⟩) ?_ ?_
        rotate_left
        · intro w'
          go_simp
          with_reducible rfl
        rotate_left
        · simp only [Act.put, List.setIfInBounds_toArray, List.set_cons_zero, List.set_cons_succ, i64_w, i32_w]
          rfl
        refine pure_ (i := 2) (N := some 111) (v := ?_) (a' := ?_) #[true, true, true, false, false, false, false, false, false, false, false, false, false, false, false, false, false, false, false, false, false, false, false, false, false, false, false, false, false, false, false, false, false, false, false, false, false, false] rfl rfl (by kernel_rfl) (fun _ _ _ h => h) (Or.inl ⟨by rfl, ?_⟩) ?_ ?_
        rotate_left
        · intro w'
          go_simp
          with_reducible rfl
        rotate_left
        · simp only [Act.put, List.setIfInBounds_toArray, List.set_cons_zero, List.set_cons_succ, i64_w, i32_w]
          rfl
        refine pure_ (i := 3) (N := some 112) (v := ?_) (a' := ?_) #[true, true, true, true, false, false, false, false, false, false, false, false, false, false, false, false, false, false, false, false, false, false, false, false, false, false, false, false, false, false, false, false, false, false, false, false, false, false] rfl rfl (by kernel_rfl) (fun _ _ _ h => h) (Or.inl ⟨by rfl, ?_⟩) ?_ ?_
        rotate_left
        · intro w'
          go_simp
          with_reducible rfl
        rotate_left
        · simp only [Act.put, List.setIfInBounds_toArray, List.set_cons_zero, List.set_cons_succ, i64_w, i32_w]
          rfl
        refine pure_ (i := 6) (N := some 115) (v := ?_) (a' := ?_) #[true, true, true, true, false, false, true, false, false, false, false, false, false, false, false, false, false, false, false, false, false, false, false, false, false, false, false, false, false, false, false, false, false, false, false, false, false, false] rfl rfl (by kernel_rfl) (fun _ _ _ h => h) (Or.inl ⟨by rfl, ?_⟩) ?_ ?_
        rotate_left
        · intro w'
          go_simp
          with_reducible rfl
        rotate_left
        · simp only [Act.put, List.setIfInBounds_toArray, List.set_cons_zero, List.set_cons_succ, i64_w, i32_w]
          rfl
        refine pure_ (i := 7) (N := some 116) (v := ?_) (a' := ?_) #[true, true, true, true, false, false, true, true, false, false, false, false, false, false, false, false, false, false, false, false, false, false, false, false, false, false, false, false, false, false, false, false, false, false, false, false, false, false] rfl rfl (by kernel_rfl) (fun _ _ _ h => h) (Or.inl ⟨by rfl, ?_⟩) ?_ ?_
        rotate_left
        · intro w'
          go_simp
          with_reducible rfl
        rotate_left
        · simp only [Act.put, List.setIfInBounds_toArray, List.set_cons_zero, List.set_cons_succ, i64_w, i32_w]
          rfl
        refine pure_ (i := 8) (N := some 117) (v := ?_) (a' := ?_) #[true, true, true, true, false, false, true, true, true, false, false, false, false, false, false, false, false, false, false, false, false, false, false, false, false, false, false, false, false, false, false, false, false, false, false, false, false, false] rfl rfl (by kernel_rfl) (fun _ _ _ h => h) (Or.inl ⟨by rfl, ?_⟩) ?_ ?_
        rotate_left
        · intro w'
          go_simp
          with_reducible rfl
        rotate_left
        · simp only [Act.put, List.setIfInBounds_toArray, List.set_cons_zero, List.set_cons_succ, i64_w, i32_w]
          rfl
        refine pure_ (i := 9) (N := some 118) (v := ?_) (a' := ?_) #[true, true, true, true, false, false, true, true, true, true, false, false, false, false, false, false, false, false, false, false, false, false, false, false, false, false, false, false, false, false, false, false, false, false, false, false, false, false] rfl rfl (by kernel_rfl) (fun _ _ _ h => h) (Or.inl ⟨by rfl, ?_⟩) ?_ ?_
        rotate_left
        · intro w'
          go_simp
          with_reducible rfl
        rotate_left
        · simp only [Act.put, List.setIfInBounds_toArray, List.set_cons_zero, List.set_cons_succ, i64_w, i32_w]
          rfl
        refine take_ (i := 10) (N := some 119) (v := ?_) (a' := ?_) #[true, true, true, true, false, false, true, true, true, true, true, false, false, false, false, false, false, false, false, false, false, false, false, false, false, false, false, false, false, false, false, false, false, false, false, false, false, false] rfl rfl (by kernel_rfl) (fun _ _ _ h => h) (Or.inl ⟨by rfl, ?_⟩) hHeld ?_ ?_
        rotate_left
        · rintro w' ⟨u0_, u1_, u2_, u3_⟩
          go_simp
          with_reducible rfl
        rotate_left
        · simp only [Act.put, List.setIfInBounds_toArray, List.set_cons_zero, List.set_cons_succ, i64_w, i32_w]
          rfl
        refine pure_ (i := 11) (N := some 120) (v := ?_) (a' := ?_) #[true, true, true, true, false, false, true, true, true, true, true, true, false, false, false, false, false, false, false, false, false, false, false, false, false, false, false, false, false, false, false, false, false, false, false, false, false, false] rfl rfl (by kernel_rfl) (fun _ _ _ h => h) (Or.inl ⟨by rfl, ?_⟩) ?_ ?_
        rotate_left
        · intro w'
          go_simp
          with_reducible rfl
        rotate_left
        · simp only [Act.put, List.setIfInBounds_toArray, List.set_cons_zero, List.set_cons_succ, i64_w, i32_w]
          rfl
        refine pure_ (i := 12) (N := some 121) (v := ?_) (a' := ?_) #[true, true, true, true, false, false, true, true, true, true, true, true, true, false, false, false, false, false, false, false, false, false, false, false, false, false, false, false, false, false, false, false, false, false, false, false, false, false] rfl rfl (by kernel_rfl) (fun _ _ _ h => h) (Or.inl ⟨by rfl, ?_⟩) ?_ ?_
        rotate_left
        · intro w'
          go_simp
          with_reducible rfl
        rotate_left
        · simp only [Act.put, List.setIfInBounds_toArray, List.set_cons_zero, List.set_cons_succ, i64_w, i32_w]
          rfl
        refine pure_ (i := 13) (N := some 122) (v := ?_) (a' := ?_) #[true, true, true, true, false, false, true, true, true, true, true, true, true, true, false, false, false, false, false, false, false, false, false, false, false, false, false, false, false, false, false, false, false, false, false, false, false, false] rfl rfl (by kernel_rfl) (fun _ _ _ h => h) (Or.inl ⟨by rfl, ?_⟩) ?_ ?_
        rotate_left
        · intro w'
          go_simp
          with_reducible rfl
        rotate_left
        · simp only [Act.put, List.setIfInBounds_toArray, List.set_cons_zero, List.set_cons_succ, i64_w, i32_w]
          rfl
        refine pure_ (i := 14) (N := some 123) (v := ?_) (a' := ?_) #[true, true, true, true, false, false, true, true, true, true, true, true, true, true, true, false, false, false, false, false, false, false, false, false, false, false, false, false, false, false, false, false, false, false, false, false, false, false] rfl rfl (by kernel_rfl) (fun _ _ _ h => h) (Or.inl ⟨by rfl, ?_⟩) ?_ ?_
        rotate_left
        · intro w'
          go_simp
          with_reducible rfl
        rotate_left
        · simp only [Act.put, List.setIfInBounds_toArray, List.set_cons_zero, List.set_cons_succ, i64_w, i32_w]
          rfl
        refine pure_ (i := 15) (N := some 124) (v := ?_) (a' := ?_) #[true, true, true, true, false, false, true, true, true, true, true, true, true, true, true, true, false, false, false, false, false, false, false, false, false, false, false, false, false, false, false, false, false, false, false, false, false, false] rfl rfl (by kernel_rfl) (fun _ _ _ h => h) (Or.inl ⟨by rfl, ?_⟩) ?_ ?_
        rotate_left
        · intro w'
          go_simp
          with_reducible rfl
        rotate_left
        · simp only [Act.put, List.setIfInBounds_toArray, List.set_cons_zero, List.set_cons_succ, i64_w, i32_w]
          rfl
        refine take_ (i := 16) (N := some 125) (v := ?_) (a' := ?_) #[true, true, true, true, false, false, true, true, true, true, true, true, true, true, true, true, true, false, false, false, false, false, false, false, false, false, false, false, false, false, false, false, false, false, false, false, false, false] rfl rfl (by kernel_rfl) (fun _ _ _ h => h) (Or.inl ⟨by rfl, ?_⟩) hHeld ?_ ?_
        rotate_left
        · rintro w' ⟨u0_, u1_, u2_, u3_⟩
          go_simp
          with_reducible rfl
        rotate_left
        · simp only [Act.put, List.setIfInBounds_toArray, List.set_cons_zero, List.set_cons_succ, i64_w, i32_w]
          rfl
        refine pure_ (i := 17) (N := some 126) (v := ?_) (a' := ?_) #[true, true, true, true, false, false, true, true, true, true, true, true, true, true, true, true, true, true, false, false, false, false, false, false, false, false, false, false, false, false, false, false, false, false, false, false, false, false] rfl rfl (by kernel_rfl) (fun _ _ _ h => h) (Or.inl ⟨by rfl, ?_⟩) ?_ ?_
        rotate_left
        · intro w'
          go_simp
          with_reducible rfl
        rotate_left
        · simp only [Act.put, List.setIfInBounds_toArray, List.set_cons_zero, List.set_cons_succ, i64_w, i32_w]
          rfl
        refine pure_ (i := 18) (N := some 127) (v := ?_) (a' := ?_) #[true, true, true, true, false, false, true, true, true, true, true, true, true, true, true, true, true, true, true, false, false, false, false, false, false, false, false, false, false, false, false, false, false, false, false, false, false, false] rfl rfl (by kernel_rfl) (fun _ _ _ h => h) (Or.inl ⟨by rfl, ?_⟩) ?_ ?_
        rotate_left
        · intro w'
          go_simp
          with_reducible rfl
        rotate_left
        · simp only [Act.put, List.setIfInBounds_toArray, List.set_cons_zero, List.set_cons_succ, i64_w, i32_w]
          rfl
        refine pure_ (i := 19) (N := some 128) (v := ?_) (a' := ?_) #[true, true, true, true, false, false, true, true, true, true, true, true, true, true, true, true, true, true, true, true, false, false, false, false, false, false, false, false, false, false, false, false, false, false, false, false, false, false] rfl rfl (by kernel_rfl) (fun _ _ _ h => h) (Or.inl ⟨by rfl, ?_⟩) ?_ ?_
        rotate_left
        · intro w'
          go_simp
          with_reducible rfl
        rotate_left
        · simp only [Act.put, List.setIfInBounds_toArray, List.set_cons_zero, List.set_cons_succ, i64_w, i32_w]
          rfl
        refine pure_ (i := 20) (N := some 129) (v := ?_) (a' := ?_) #[true, true, true, true, false, false, true, true, true, true, true, true, true, true, true, true, true, true, true, true, true, false, false, false, false, false, false, false, false, false, false, false, false, false, false, false, false, false] rfl rfl (by kernel_rfl) (fun _ _ _ h => h) (Or.inl ⟨by rfl, ?_⟩) ?_ ?_
        rotate_left
        · intro w'
          go_simp
          with_reducible rfl
        rotate_left
        · simp only [Act.put, List.setIfInBounds_toArray, List.set_cons_zero, List.set_cons_succ, i64_w, i32_w]
          rfl
        refine pure_ (i := 21) (N := some 130) (v := ?_) (a' := ?_) #[true, true, true, true, false, false, true, true, true, true, true, true, true, true, true, true, true, true, true, true, true, true, false, false, false, false, false, false, false, false, false, false, false, false, false, false, false, false] rfl rfl (by kernel_rfl) (fun _ _ _ h => h) (Or.inl ⟨by rfl, ?_⟩) ?_ ?_
        rotate_left
        · intro w'
          go_simp
          with_reducible rfl
        rotate_left
        · simp only [Act.put, List.setIfInBounds_toArray, List.set_cons_zero, List.set_cons_succ, i64_w, i32_w]
          rfl
        refine pure_ (i := 22) (N := some 131) (v := ?_) (a' := ?_) #[true, true, true, true, false, false, true, true, true, true, true, true, true, true, true, true, true, true, true, true, true, true, true, false, false, false, false, false, false, false, false, false, false, false, false, false, false, false] rfl rfl (by kernel_rfl) (fun _ _ _ h => h) (Or.inl ⟨by rfl, ?_⟩) ?_ ?_
        rotate_left
        · intro w'
          go_simp
          with_reducible rfl
        rotate_left
        · simp only [Act.put, List.setIfInBounds_toArray, List.set_cons_zero, List.set_cons_succ, i64_w, i32_w]
          rfl
        refine pure_ (i := 23) (N := some 132) (v := ?_) (a' := ?_) #[true, true, true, true, false, false, true, true, true, true, true, true, true, true, true, true, true, true, true, true, true, true, true, true, false, false, false, false, false, false, false, false, false, false, false, false, false, false] rfl rfl (by kernel_rfl) (fun _ _ _ h => h) (Or.inl ⟨by rfl, ?_⟩) ?_ ?_
        rotate_left
        · intro w'
          go_simp
          with_reducible rfl
        rotate_left
        · simp only [Act.put, List.setIfInBounds_toArray, List.set_cons_zero, List.set_cons_succ, i64_w, i32_w]
          rfl
        refine take_ (i := 24) (N := some 133) (v := ?_) (a' := ?_) #[true, true, true, true, false, false, true, true, true, true, true, true, true, true, true, true, true, true, true, true, true, true, true, true, true, false, false, false, false, false, false, false, false, false, false, false, false, false] rfl rfl (by kernel_rfl) (fun _ _ _ h => h) (Or.inl ⟨by rfl, ?_⟩) hHeld ?_ ?_
        rotate_left
        · rintro w' ⟨u0_, u1_, u2_, u3_⟩
          go_simp
          with_reducible rfl
        rotate_left
        · simp only [Act.put, List.setIfInBounds_toArray, List.set_cons_zero, List.set_cons_succ, i64_w, i32_w]
          rfl
        refine pure_ (i := 25) (N := some 134) (v := ?_) (a' := ?_) #[true, true, true, true, false, false, true, true, true, true, true, true, true, true, true, true, true, true, true, true, true, true, true, true, true, true, false, false, false, false, false, false, false, false, false, false, false, false] rfl rfl (by kernel_rfl) (fun _ _ _ h => h) (Or.inl ⟨by rfl, ?_⟩) ?_ ?_
        rotate_left
        · intro w'
          go_simp
          with_reducible rfl
        rotate_left
        · simp only [Act.put, List.setIfInBounds_toArray, List.set_cons_zero, List.set_cons_succ, i64_w, i32_w]
          rfl
        refine pure_ (i := 26) (N := some 135) (v := ?_) (a' := ?_) #[true, true, true, true, false, false, true, true, true, true, true, true, true, true, true, true, true, true, true, true, true, true, true, true, true, true, true, false, false, false, false, false, false, false, false, false, false, false] rfl rfl (by kernel_rfl) (fun _ _ _ h => h) (Or.inl ⟨by rfl, ?_⟩) ?_ ?_
        rotate_left
        · intro w'
          go_simp
          with_reducible rfl
        rotate_left
        · simp only [Act.put, List.setIfInBounds_toArray, List.set_cons_zero, List.set_cons_succ, i64_w, i32_w]
          rfl
        refine pure_ (i := 27) (N := some 136) (v := ?_) (a' := ?_) #[true, true, true, true, false, false, true, true, true, true, true, true, true, true, true, true, true, true, true, true, true, true, true, true, true, true, true, true, false, false, false, false, false, false, false, false, false, false] rfl rfl (by kernel_rfl) (fun _ _ _ h => h) (Or.inl ⟨by rfl, ?_⟩) ?_ ?_
        rotate_left
        · intro w'
          go_simp
          with_reducible rfl
        rotate_left
        · simp only [Act.put, List.setIfInBounds_toArray, List.set_cons_zero, List.set_cons_succ, i64_w, i32_w]
          rfl
        refine pure_ (i := 28) (N := some 137) (v := ?_) (a' := ?_) #[true, true, true, true, false, false, true, true, true, true, true, true, true, true, true, true, true, true, true, true, true, true, true, true, true, true, true, true, true, false, false, false, false, false, false, false, false, false] rfl rfl (by kernel_rfl) (fun _ _ _ h => h) (Or.inl ⟨by rfl, ?_⟩) ?_ ?_
        rotate_left
        · intro w'
          go_simp
          with_reducible rfl
        rotate_left
        · simp only [Act.put, List.setIfInBounds_toArray, List.set_cons_zero, List.set_cons_succ, i64_w, i32_w]
          rfl
        refine pure_ (i := 29) (N := some 138) (v := ?_) (a' := ?_) #[true, true, true, true, false, false, true, true, true, true, true, true, true, true, true, true, true, true, true, true, true, true, true, true, true, true, true, true, true, true, false, false, false, false, false, false, false, false] rfl rfl (by kernel_rfl) (fun _ _ _ h => h) (Or.inl ⟨by rfl, ?_⟩) ?_ ?_
        rotate_left
        · intro w'
          go_simp
          with_reducible rfl
        rotate_left
        · simp only [Act.put, List.setIfInBounds_toArray, List.set_cons_zero, List.set_cons_succ, i64_w, i32_w]
          rfl
        refine pure_ (i := 30) (N := some 139) (v := ?_) (a' := ?_) #[true, true, true, true, false, false, true, true, true, true, true, true, true, true, true, true, true, true, true, true, true, true, true, true, true, true, true, true, true, true, true, false, false, false, false, false, false, false] rfl rfl (by kernel_rfl) (fun _ _ _ h => h) (Or.inl ⟨by rfl, ?_⟩) ?_ ?_
        rotate_left
        · intro w'
          go_simp
          with_reducible rfl
        rotate_left
        · simp only [Act.put, List.setIfInBounds_toArray, List.set_cons_zero, List.set_cons_succ, i64_w, i32_w]
          rfl
        refine pure_ (i := 31) (N := some 140) (v := ?_) (a' := ?_) #[true, true, true, true, false, false, true, true, true, true, true, true, true, true, true, true, true, true, true, true, true, true, true, true, true, true, true, true, true, true, true, true, false, false, false, false, false, false] rfl rfl (by kernel_rfl) (fun _ _ _ h => h) (Or.inl ⟨by rfl, ?_⟩) ?_ ?_
        rotate_left
        · intro w'
          go_simp
          with_reducible rfl
        rotate_left
        · simp only [Act.put, List.setIfInBounds_toArray, List.set_cons_zero, List.set_cons_succ, i64_w, i32_w]
          rfl
        refine take_ (i := 32) (N := some 141) (v := ?_) (a' := ?_) #[true, true, true, true, false, false, true, true, true, true, true, true, true, true, true, true, true, true, true, true, true, true, true, true, true, true, true, true, true, true, true, true, true, false, false, false, false, false] rfl rfl (by kernel_rfl) (fun _ _ _ h => h) (Or.inl ⟨by rfl, ?_⟩) hHeld ?_ ?_
        rotate_left
        · rintro w' ⟨u0_, u1_, u2_, u3_⟩
          go_simp
          with_reducible rfl
        rotate_left
        · simp only [Act.put, List.setIfInBounds_toArray, List.set_cons_zero, List.set_cons_succ, i64_w, i32_w]
          rfl
        refine pure_ (i := 33) (N := some 142) (v := ?_) (a' := ?_) #[true, true, true, true, false, false, true, true, true, true, true, true, true, true, true, true, true, true, true, true, true, true, true, true, true, true, true, true, true, true, true, true, true, true, false, false, false, false] rfl rfl (by kernel_rfl) (fun _ _ _ h => h) (Or.inl ⟨by rfl, ?_⟩) ?_ ?_
        rotate_left
        · intro w'
          go_simp
          with_reducible rfl
        rotate_left
        · simp only [Act.put, List.setIfInBounds_toArray, List.set_cons_zero, List.set_cons_succ, i64_w, i32_w]
          rfl
        refine pure_ (i := 34) (N := some 143) (v := ?_) (a' := ?_) #[true, true, true, true, false, false, true, true, true, true, true, true, true, true, true, true, true, true, true, true, true, true, true, true, true, true, true, true, true, true, true, true, true, true, true, false, false, false] rfl rfl (by kernel_rfl) (fun _ _ _ h => h) (Or.inl ⟨by rfl, ?_⟩) ?_ ?_
        rotate_left
        · intro w'
          go_simp
          with_reducible rfl
        rotate_left
        · simp only [Act.put, List.setIfInBounds_toArray, List.set_cons_zero, List.set_cons_succ, i64_w, i32_w]
          rfl
        refine pure_ (i := 35) (N := some 144) (v := ?_) (a' := ?_) #[true, true, true, true, false, false, true, true, true, true, true, true, true, true, true, true, true, true, true, true, true, true, true, true, true, true, true, true, true, true, true, true, true, true, true, true, false, false] rfl rfl (by kernel_rfl) (fun _ _ _ h => h) (Or.inl ⟨by rfl, ?_⟩) ?_ ?_
        rotate_left
        · intro w'
          go_simp
          with_reducible rfl
        rotate_left
        · simp only [Act.put, List.setIfInBounds_toArray, List.set_cons_zero, List.set_cons_succ, i64_w, i32_w]
          rfl
        refine one_ (i := 4) (N := some 113) #[true, true, true, true, true, false, true, true, true, true, true, true, true, true, true, true, true, true, true, true, true, true, true, true, true, true, true, true, true, true, true, true, true, true, true, true, false, false] rfl rfl (by kernel_rfl) (by decide) (fun K hK => ?_)
        refine value_ (v := .slice (some ⟨(W16.drew).heap.size, 0, none⟩) 1 1) (w1 := (W16.drew).alloc (.cells #[.slice (some ⟨g, 0, none⟩) E cap] 22)) (by rfl) rfl (by go_simp) ?_
        refine hK.out _ _ hS2 (fun hHeld2 => ?_)
        clear hK
        refine norm_ (a' := ?_) ?_ ?_
        rotate_left
        · show Act.put _ (some 113) _ = _
          simp only [Act.put, List.setIfInBounds_toArray, List.set_cons_zero, List.set_cons_succ, i64_w, i32_w]
          rfl
        refine one_ (i := 5) (N := some 114) #[true, true, true, true, true, true, true, true, true, true, true, true, true, true, true, true, true, true, true, true, true, true, true, true, true, true, true, true, true, true, true, true, true, true, true, true, false, false] rfl rfl (by kernel_rfl) (by decide) (fun K hK => ?_)
        refine goes_ Tryd.func18 (by kernel_rfl) rfl #[.slice (some ⟨(W16.drew).heap.size, 0, none⟩) 1 1] (by rfl) rfl rfl (by first | rfl | kernel_rfl | simp [Act.eval]) ?_
        refine (kS16.out).mono ?_
        rintro e X1 ⟨rfl, rfl⟩
        refine ⟨_, rfl, hK.out _ _ hS2 (fun hHeld3 => ?_)⟩
        clear hK
        refine norm_ (a' := ?_) ?_ ?_
        rotate_left
        · show Act.put _ (some 114) _ = _
          simp only [Act.put, List.setIfInBounds_toArray, List.set_cons_zero, List.set_cons_succ, i64_w, i32_w]
          rfl
        refine pure_ (i := 36) (N := some 145) (v := ?_) (a' := ?_) #[true, true, true, true, true, true, true, true, true, true, true, true, true, true, true, true, true, true, true, true, true, true, true, true, true, true, true, true, true, true, true, true, true, true, true, true, true, false] rfl rfl (by kernel_rfl) (fun _ _ _ h => h) (Or.inl ⟨by rfl, ?_⟩) ?_ ?_
        rotate_left
        · intro w'
          go_simp
          with_reducible rfl
        rotate_left
        · simp only [Act.put, List.setIfInBounds_toArray, List.set_cons_zero, List.set_cons_succ, i64_w, i32_w]
          rfl
        refine pure_ (i := 37) (N := some 17) (v := ?_) (a' := ?_) #[true, true, true, true, true, true, true, true, true, true, true, true, true, true, true, true, true, true, true, true, true, true, true, true, true, true, true, true, true, true, true, true, true, true, true, true, true, true] rfl rfl (by kernel_rfl) (fun _ _ _ h => h) (Or.inl ⟨by rfl, ?_⟩) ?_ ?_
        rotate_left
        · intro w'
          go_simp
          with_reducible rfl
        rotate_left
        · simp only [Act.put, List.setIfInBounds_toArray, List.set_cons_zero, List.set_cons_succ, i64_w, i32_w]
          rfl
        refine done_ (by kernel_rfl) ?_
        rw [hwp.out.1, hwp.out.2.1, hwp.out.2.2.1, hwp.out.2.2.2.1, hwp.out.2.2.2.2.1, hwp.out.2.2.2.2.2.1, hwp.out.2.2.2.2.2.2, horr.out, hb9]
        go_wp2_with (first | (go_at_call 11; ((with_reducible refine (kNum _ _).mono ?_); rintro e W1 ⟨rfl, hb_⟩; have n0_ := Aside0.mk (hk.out.step hb_); clear hk; have hk := n0_; clear n0_; (try (have n1_ := Aside0.mk (hz.out.step hb_); clear hz; have hz := n1_; clear n1_; (try clear z0_ z1_ z2_ z3_); obtain ⟨z0_, z1_, z2_, z3_⟩ := hz.out.S)); clear hb_)) | (go_at_call 15; ((with_reducible refine (Known (hk.out.tab hTT.out)).mono ?_); rintro e W1 ⟨rfl, hb_⟩; have n0_ := Aside0.mk (hk.out.step hb_); clear hk; have hk := n0_; clear n0_; (try (have n1_ := Aside0.mk (hz.out.step hb_); clear hz; have hz := n1_; clear n1_; (try clear z0_ z1_ z2_ z3_); obtain ⟨z0_, z1_, z2_, z3_⟩ := hz.out.S)); clear hb_)))
        go_ret
        exact ⟨rfl, hk.out.bel⟩
theorem TurnAll (hT : Tab w) (hc : CtV w (.agg #[.slice A0 n0 c0, .int .u16 y, .slice A2 n2 c2, .slice A3 n3 c3]) c) (hwf : WfC c) (hefs : c.efs.length ≤ 140737488351232) (hbks : c.bks.length ≤ 140737488351232) (at_ cut : Int) {by_ : Int} (hb : isB by_) :
    Calls Tryd.prog 5 #[.agg #[.slice A0 n0 c0, .int .u16 y, .slice A2 n2 c2, .slice A3 n3 c3], .int .i64 at_, .int .u8 by_, .int .i64 cut] w fun e w' => e = .returned (.bool true) ∧ Below w.heap.size w w' := by
  by_cases hok : OkC c
  · obtain ⟨x, rfl⟩ := Int.eq_ofNat_of_zero_le hb.1
    have hx : x < 256 := by have := hb.2; omega
    by_cases h0 : x = 0
    · subst h0
      exact Turn_zero hT hc hok hwf at_ cut
    · exact Turn_do hT hc hok hwf at_ cut hx h0 rfl
  · exact Turn_not hT hc hok (by omega) (by omega) at_ by_ cut
end
end Go.Proofs.YtembdahclmffjaaDoor.Pk
