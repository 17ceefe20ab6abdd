/- wispref07.Decode: the walk from the table on. (Printed by gen_rg.py.) -/
import Derived.Test.YtembdahclmffjaaDoorZc
import Derived.Lib.Hide
namespace Go.Proofs.YtembdahclmffjaaDoor.Pk
open Go.RowKit Go.Proofs.YtembdahclmffjaaDoorW.PrintWords Go.Proofs.YtembdahclmffjaaDoorW.PrintLast Go.Proofs.YtembdahclmffjaaDoorW.PrintMore Go.Proofs.YtembdahclmffjaaDoor.Mem
set_option linter.unusedVariables false
set_option linter.unusedSimpArgs false
section
variable {w : World} {A : Option Addr} {N cap : Nat} {r : List Int}
set_option maxRecDepth 100000 in
set_option maxHeartbeats 4000000 in
theorem Ref_cnt (h : Rh w A N cap r) {E : Nat} (hE : E + 4 = N) (h12 : 12 ≤ N) (hm : r.take 5 = magic) (hN : N ≤ 524288) (hsum : low4 r E = sumI [r.take E]) (hT : ¬ (2 ≤ nS (r.take E) ∧ nS (r.take E) ≤ 18 ∧ 8 + 10 * nS (r.take E) ≤ E)) :
    Calls Tryd.prog 10 #[.slice A N cap] w (RefPost r w) := by
  have hb1 := Aside0.mk (below_alloc (Below.refl w.heap.size w) (.cells #[.slice none 0 0, .int .u16 0, .slice none 0 0, .slice none 0 0] 28))
  have hq1 := World.alloc_heap_new w (.cells #[.slice none 0 0, .int .u16 0, .slice none 0 0, .slice none 0 0] 28)
  have hs := h.str (by omega) _ hb1.out
  have hs2 : ((strOfNums (r.take 5)).toList == ([87, 73, 83, 80, 1] : List UInt8)) = true := beq_iff_eq.2 ((str_magic5 h.bb).2 hm)
  generalize strOfNums (r.take 5) = S5 at hs hs2
  have cT : ∀ W : World, (Instr.slice 22 (.slice A N cap) none (some (.int .i64 5)) none).run Tryd.prog W = .ok (.slice A 5 cap) W := (cutT A N cap r 5 (by rw [← h.n]; exact h.cap) (by rw [← h.n]; omega)).1
  have hd1 : decide ((N : Int) < 5) = false := decide_eq_false (by omega)
  have hN5 : ((N : Int) < 5) = False := eq_false (by omega)
  have kS := h.sum hE _ hb1.out
  have kL := h.tail hE _ hb1.out
  obtain ⟨A4, cF, kL⟩ := kL
  obtain ⟨sm, hsm⟩ : ∃ sm, sumI [r.take E] = sm := ⟨_, rfl⟩
  have hs0 := sum_bd [r.take E]
  rw [hsm] at kS hs0
  rw [hsum, hsm] at kL
  obtain ⟨hs0, hs1⟩ := hs0
  have cE : ∀ W : World, (Instr.slice 22 (.slice A N cap) none (some (.int .i64 ((N : Int) - 4))) none).run Tryd.prog W = .ok (.slice A E cap) W := by
    rw [show (N : Int) - 4 = (E : Int) by omega]
    exact (cutT A N cap r E (by rw [← h.n]; exact h.cap) (by rw [← h.n]; omega)).1
  have kSS := Aside0.mk kS
  have kLL := Aside0.mk kL
  have hd2 : decide ((N : Int) < 12) = false := decide_eq_false (by omega)
  have hd3 : decide ((N : Int) > 524288) = false := decide_eq_false (by omega)
  clear kS kL
  obtain ⟨b, hb0⟩ : ∃ b, b = r.take E := ⟨_, rfl⟩
  have hBd : Aside0 (Bd w A N cap E b) := ⟨by rw [hb0]; exact h.bd hE⟩
  have hD := Aside0.mk (show decB r = decR b by rw [dec_R ⟨by rw [← h.n]; omega, hm⟩ ⟨by rw [← h.n]; omega, by rw [← h.n]; exact hN, by rw [← h.n, show N - 4 = E by omega]; exact hsum⟩, ← h.n, show N - 4 = E by omega, hb0])
  have h9 := getB hBd.out.bb 5
  unfold isB at h9
  obtain ⟨m, hm0⟩ : ∃ m : Nat, b.getD 5 0 = (m : Int) := Int.eq_ofNat_of_zero_le h9.1
  have hm256 : m < 256 := by omega
  have hms := Aside0.mk (show nS b = m by unfold nS; rw [hm0]; rfl)
  have hCb := hBd.out.C
  have hlenb := hBd.out.len
  rw [hlenb] at hCb
  obtain ⟨ad, eA, hx5⟩ := Kd.at_int hCb 5 (by omega) (by omega)
  subst eA
  rw [show (5 : Int).toNat = 5 from rfl, show rd b 5 = (m : Int) from hm0, show ad.add 5 = ⟨ad.block, ad.off + 5, none⟩ by simp [Addr.add]] at hx5
  have hx5' := (hb1.out.cell (World.block_lt_of_cell? w ⟨ad.block, ad.off + 5, none⟩ hx5)).trans hx5
  have hE8 : 8 ≤ E := by omega
  have hE5 : E ≤ 524288 := by omega
  rw [← hb0, hms.out] at hT
  have hdd : Aside0 (decB r = (z0, 72)) := ⟨by
    rw [hD.out]
    exact if_pos (fun hn => hT ⟨by have := hn.lo; rw [hms.out] at this; exact this, by have := hn.hi; rw [hms.out] at this; exact this, by have := hn.fit; rw [hms.out, ← hBd.out.len] at this; exact this⟩)⟩
  obtain ⟨q1, e1⟩ : ∃ q, decide ((m : Int) < 2) = q := ⟨_, rfl⟩
  obtain ⟨q2, e2⟩ : ∃ q, decide ((m : Int) > 18) = q := ⟨_, rfl⟩
  obtain ⟨q3, e3⟩ : ∃ q, decide ((8 : Int) + 10 * (m : Int) > (E : Int)) = q := ⟨_, rfl⟩
  have hq : Aside0 (q1 = true ∨ q2 = true ∨ q3 = true) := ⟨by
    rw [← e1, ← e2, ← e3]
    simp only [decide_eq_true_eq]
    omega⟩
  clear hm hsum hb0 h9 hm0 hT hCb hlenb hx5
  cases q1 <;> cases q2 <;> cases q3
  all_goals try (exfalso; rcases hq.out with h0 | h0 | h0 <;> cases h0 <;> done)
  all_goals
    go_enter Tryd.func10, Tryd.ntmps10
    go_wp2
    go_quiet (first | (go_at_call 27; with_reducible exact Calls.quiet_of_same (kSS.out _)) | (go_at_call 35; with_reducible exact Calls.quiet_of (kLL.out _)))
    go_wp2
    all_goals first | (exact ref_err hdd.out rfl rfl hq1 (pw_below_drewN hb1.out nq)) | (exfalso; have := of_decide_eq_true e3; omega)
/-- a table that does not stand -/
theorem ref_tab_bad {r b : List Int} (hD : decB r = decR b) (h : ¬ TabOK b) : decB r = (z0, 72) := by rw [hD]; exact if_pos h
set_option maxRecDepth 100000 in
set_option maxHeartbeats 4000000 in
theorem Ref_tab (h : Rh w A N cap r) {E : Nat} (hE : E + 4 = N) (h12 : 12 ≤ N) (hm : r.take 5 = magic) (hN : N ≤ 524288) (hsum : low4 r E = sumI [r.take E]) (hT : 2 ≤ nS (r.take E) ∧ nS (r.take E) ≤ 18 ∧ 8 + 10 * nS (r.take E) ≤ E) :
    Calls Tryd.prog 10 #[.slice A N cap] w (RefPost r w) := by
  have hb1 := Aside0.mk (below_alloc (Below.refl w.heap.size w) (.cells #[.slice none 0 0, .int .u16 0, .slice none 0 0, .slice none 0 0] 28))
  have hq1 := World.alloc_heap_new w (.cells #[.slice none 0 0, .int .u16 0, .slice none 0 0, .slice none 0 0] 28)
  have hs := h.str (by omega) _ hb1.out
  have hs2 : ((strOfNums (r.take 5)).toList == ([87, 73, 83, 80, 1] : List UInt8)) = true := beq_iff_eq.2 ((str_magic5 h.bb).2 hm)
  generalize strOfNums (r.take 5) = S5 at hs hs2
  have cT : ∀ W : World, (Instr.slice 22 (.slice A N cap) none (some (.int .i64 5)) none).run Tryd.prog W = .ok (.slice A 5 cap) W := (cutT A N cap r 5 (by rw [← h.n]; exact h.cap) (by rw [← h.n]; omega)).1
  have hd1 : decide ((N : Int) < 5) = false := decide_eq_false (by omega)
  have hN5 : ((N : Int) < 5) = False := eq_false (by omega)
  have kS := h.sum hE _ hb1.out
  have kL := h.tail hE _ hb1.out
  obtain ⟨A4, cF, kL⟩ := kL
  obtain ⟨sm, hsm⟩ : ∃ sm, sumI [r.take E] = sm := ⟨_, rfl⟩
  have hs0 := sum_bd [r.take E]
  rw [hsm] at kS hs0
  rw [hsum, hsm] at kL
  obtain ⟨hs0, hs1⟩ := hs0
  have cE : ∀ W : World, (Instr.slice 22 (.slice A N cap) none (some (.int .i64 ((N : Int) - 4))) none).run Tryd.prog W = .ok (.slice A E cap) W := by
    rw [show (N : Int) - 4 = (E : Int) by omega]
    exact (cutT A N cap r E (by rw [← h.n]; exact h.cap) (by rw [← h.n]; omega)).1
  have kSS := Aside0.mk kS
  have kLL := Aside0.mk kL
  have hd2 : decide ((N : Int) < 12) = false := decide_eq_false (by omega)
  have hd3 : decide ((N : Int) > 524288) = false := decide_eq_false (by omega)
  clear kS kL
  obtain ⟨b, hb0⟩ : ∃ b, b = r.take E := ⟨_, rfl⟩
  have hBd : Aside0 (Bd w A N cap E b) := ⟨by rw [hb0]; exact h.bd hE⟩
  have hD := Aside0.mk (show decB r = decR b by rw [dec_R ⟨by rw [← h.n]; omega, hm⟩ ⟨by rw [← h.n]; omega, by rw [← h.n]; exact hN, by rw [← h.n, show N - 4 = E by omega]; exact hsum⟩, ← h.n, show N - 4 = E by omega, hb0])
  have h9 := getB hBd.out.bb 5
  unfold isB at h9
  obtain ⟨m, hm0⟩ : ∃ m : Nat, b.getD 5 0 = (m : Int) := Int.eq_ofNat_of_zero_le h9.1
  have hm256 : m < 256 := by omega
  have hms := Aside0.mk (show nS b = m by unfold nS; rw [hm0]; rfl)
  have hCb := hBd.out.C
  have hlenb := hBd.out.len
  rw [hlenb] at hCb
  obtain ⟨ad, eA, hx5⟩ := Kd.at_int hCb 5 (by omega) (by omega)
  subst eA
  rw [show (5 : Int).toNat = 5 from rfl, show rd b 5 = (m : Int) from hm0, show ad.add 5 = ⟨ad.block, ad.off + 5, none⟩ by simp [Addr.add]] at hx5
  have hx5' := (hb1.out.cell (World.block_lt_of_cell? w ⟨ad.block, ad.off + 5, none⟩ hx5)).trans hx5
  have hE8 : 8 ≤ E := by omega
  have hE5 : E ≤ 524288 := by omega
  rw [← hb0, hms.out] at hT
  obtain ⟨t1, t2, t3⟩ := hT
  have hEN : ((E : Nat) : Int) = (N : Int) - 4 := by omega
  have hatlo := Aside0.mk (ats_lo hBd.out.bb)
  have hT0 := Aside0.mk (show T7 w (w.alloc (.cells #[.slice none 0 0, .int .u16 0, .slice none 0 0, .slice none 0 0] 28)) (w.alloc (.cells #[.slice none 0 0, .int .u16 0, .slice none 0 0, .slice none 0 0] 28)) b none 0 0 0 from ⟨Kd.N_nil _ _ _ _ _, rfl, Below.refl _ _, hb1.out, by rw [World.size_alloc]⟩)
  have hq2 := Aside0.mk hq1
  clear hm hsum hb0 h9 hm0 hCb hlenb hx5 hq1
  obtain ⟨w1, hw1⟩ : ∃ w1, w1 = w.alloc (.cells #[.slice none 0 0, .int .u16 0, .slice none 0 0, .slice none 0 0] 28) := ⟨_, rfl⟩
  have hww := Aside0.mk hw1
  rw [← hw1] at hT0 hq2
  clear hw1
  go_enter Tryd.func10, Tryd.ntmps10
  go_wp2
  go_quiet (first | (go_at_call 27; with_reducible exact Calls.quiet_of_same (kSS.out _)) | (go_at_call 35; with_reducible exact Calls.quiet_of (kLL.out _)))
  go_wp2
  all_goals try (exfalso; omega)
  rw [← hww.out]
  have hT1 := Aside0.mk (hT0.out.step (pw_below_drewN (Below.refl _ _) nq))
  clear hT0 hs hs2 cT cF kLL kSS hb1
  go_loopg [6, 7, 8] m (fun gk v6 v7 v8 wr => ∃ (i a : Nat) (A7 : Option Addr) (n7 c7 : Nat), v6 = .int .i64 (a : Int) ∧ v7 = .slice A7 n7 c7 ∧ v8 = .int .i64 (i : Int) ∧ i + gk = m ∧ a ≤ E ∧ Aside0 ((a : Int) = ats b i) ∧ Aside0 (∀ j, j < i → entOK b j) ∧ Aside0 (T7 w w1 wr b A7 n7 c7 i))
  case atStart => exact ⟨0, 8 + 10 * m, _, _, _, by first | rfl | (congr 1), rfl, rfl, by omega, by omega, ⟨by rw [ats, hms.out]; omega⟩, ⟨fun j hj => by omega⟩, hT1⟩
  case round =>
    clear hT1
    obtain ⟨i, a, A7, n7, c7, rfl, rfl, rfl, hi, haE, hat, hok, hT⟩ := hrel
    cases gk with
    | succ k1 =>
      have hd : decide ((i : Int) < (m : Int)) = true := decide_eq_true (by omega)
      have hd' : decide (i < m) = true := decide_eq_true (by omega)
      obtain ⟨A9, c9, A6, c6, A2, c2, hEnt⟩ := hBd.out.ent i (by omega)
      obtain ⟨a9, rfl, hcel⟩ := hEnt.cells
      have cu0 := hEnt.cut
      have cu6 := hEnt.cut6
      have cu2 := hEnt.cut2
      have k6 := Aside0.mk hEnt.low6
      have k2 := Aside0.mk hEnt.low2
      have hZ0 := low4_bd hBd.out.bb (14 + 10 * i)
      have hF0 := low4_bd hBd.out.bb (10 + 10 * i)
      obtain ⟨Z, hZ⟩ := Int.eq_ofNat_of_zero_le hZ0.1
      obtain ⟨F, hF⟩ := Int.eq_ofNat_of_zero_le hF0.1
      have hZZ := Aside0.mk (show siz b i = (Z : Int) from hZ)
      have hFF := Aside0.mk (show frm b i = (F : Int) from hF)
      rw [hZZ.out] at k6
      rw [hFF.out] at k2
      have hF1 : F < 4294967296 := by omega
      have hZ1 : Z < 4294967296 := by omega
      have hce := Aside0.mk hcel
      have him := Aside0.mk (show i < m by omega)
      clear hEnt hcel hZ0 hF0 hZ hF
      by_cases hg1 : F = a
      · by_cases hg2 : a + Z ≤ E
        · have hent : Aside0 (entOK b i) := ⟨by
            unfold entOK
            rw [hFF.out, hZZ.out, ← hat.out, ← hBd.out.len]
            omega⟩
          have e1 : ((F : Int) != (a : Int)) = false := by rw [hg1]; simp
          have e2 : decide ((Z : Int) > (N : Int) - 4 - (a : Int)) = false := decide_eq_false (by omega)
          obtain ⟨As, cs, cuS, hl1, hl2, hCs⟩ := hBd.out.sec a Z hg2
          have hK0 := getB hBd.out.bb (8 + 10 * i)
          have hD0 := getB hBd.out.bb (9 + 10 * i)
          unfold isB at hK0 hD0
          have hsec : Aside0 (secOf b i = (knd b i, nmb b i, (b.drop a).take Z)) := ⟨by rw [secOf_eq, hZZ.out, ← hat.out, Int.toNat_natCast, Int.toNat_natCast]⟩
          have hFK : Aside0 (∀ W, Below w.heap.size w W → Kd.FK kS W (fun q => q < w.heap.size + 1) (secOf b i) [.int .u8 (knd b i), .int .u8 (nmb b i), .slice As Z cs]) := ⟨fun W hb => by
            rw [hsec.out]
            have := FK_S (w := w) (W := W) (knd b i) (nmb b i) (A := As) (c := cs) (d := (b.drop a).take Z) (by omega) (by rw [← hl2]; exact hCs w (Below.refl _ _)) hb
            rw [← hl2] at this
            exact Kd.FK_mono this (fun q hq => by omega)⟩
          generalize knd b i = kd at hFK hce hK0
          generalize nmb b i = dn at hFK hce hD0
          clear hsec hl2 hCs
          have hZs : (Z : Int) ≤ 600000 := by omega
          have hwA : wrap64 ((a : Int) + (Z : Int)) = (a : Int) + (Z : Int) := by unfold wrap64; omega
          have hn7 := hT.out.n
          subst hn7
          go_wp2_with (first | (go_at_call 35; ((with_reducible refine (k6.out _ hT.out.old).mono ?_); rintro e W6 ⟨rfl, hb_⟩; have hT6 := Aside0.mk (hT.out.step hb_); clear hb_)) | (go_at_call 35; ((with_reducible refine (k2.out _ hT6.out.old).mono ?_); rintro e W2 ⟨rfl, hb_⟩; have hT2 := Aside0.mk (hT6.out.step hb_); obtain ⟨x0, x1⟩ := hce.out _ hT2.out.old; clear hb_)))
          have hTd := Aside0.mk (hT2.out.step (below_drew (Below.refl _ _)))
          have hq0 := hce.out _ hTd.out.old
          have hTa := Aside0.mk (hTd.out.step (below_alloc (Below.refl _ _) (.cells #[.int .u8 kd, .int .u8 dn, .slice As Z cs] 77)))
          clear hT2 hT6 hT x0 x1
          refine start_ (n := 17) (S := (fun w' => w'.cell? a9 = some (.int .u8 kd) ∧ w'.cell? ⟨a9.block, a9.off + 1, none⟩ = some (.int .u8 dn))) (ds := []) #[false, false, false, false, false, false, false, false, false, false, false, false, false, false, false, false, false] (by kernel_rfl) rfl rfl hq0 (fun hHeld => ?_)
          refine pure_ (i := 0) (N := some 98) (v := ?_) (a' := ?_) #[true, false, false, false, false, false, false, false, false, false, false, false, false, false, false, false, false] rfl rfl (by kernel_rfl) (fun _ _ _ h => h) (Or.inl ⟨by rfl, ?_⟩) ?_ ?_
          rotate_left
          · intro w'
            go_simp
            with_reducible rfl
          rotate_left
          · simp only [Act.put, List.setIfInBounds_toArray, List.set_cons_zero, List.set_cons_succ, i64_w, i32_w]
            rfl
          refine pure_ (i := 1) (N := some 99) (v := ?_) (a' := ?_) #[true, true, false, false, false, false, false, false, false, false, false, false, false, false, false, false, false] rfl rfl (by kernel_rfl) (fun _ _ _ h => h) (Or.inl ⟨by rfl, ?_⟩) ?_ ?_
          rotate_left
          · intro w'
            go_simp
            with_reducible rfl
          rotate_left
          · simp only [Act.put, List.setIfInBounds_toArray, List.set_cons_zero, List.set_cons_succ, i64_w, i32_w]
            rfl
          refine pure_ (i := 2) (N := some 100) (v := ?_) (a' := ?_) #[true, true, true, false, false, false, false, false, false, false, false, false, false, false, false, false, false] rfl rfl (by kernel_rfl) (fun _ _ _ h => h) (Or.inl ⟨by rfl, ?_⟩) ?_ ?_
          rotate_left
          · intro w'
            go_simp
            with_reducible rfl
          rotate_left
          · simp only [Act.put, List.setIfInBounds_toArray, List.set_cons_zero, List.set_cons_succ, i64_w, i32_w]
            rfl
          refine take_ (i := 3) (N := some 101) (v := ?_) (a' := ?_) #[true, true, true, true, false, false, false, false, false, false, false, false, false, false, false, false, false] rfl rfl (by kernel_rfl) (fun _ _ _ h => h) (Or.inl ⟨by rfl, ?_⟩) hHeld ?_ ?_
          rotate_left
          · rintro w' ⟨hS0, hS1⟩
            go_simp
            with_reducible rfl
          rotate_left
          · simp only [Act.put, List.setIfInBounds_toArray, List.set_cons_zero, List.set_cons_succ, i64_w, i32_w]
            rfl
          refine pure_ (i := 4) (N := some 102) (v := ?_) (a' := ?_) #[true, true, true, true, true, false, false, false, false, false, false, false, false, false, false, false, false] rfl rfl (by kernel_rfl) (fun _ _ _ h => h) (Or.inl ⟨by rfl, ?_⟩) ?_ ?_
          rotate_left
          · intro w'
            go_simp
            with_reducible rfl
          rotate_left
          · simp only [Act.put, List.setIfInBounds_toArray, List.set_cons_zero, List.set_cons_succ, i64_w, i32_w]
            rfl
          refine pure_ (i := 5) (N := some 103) (v := ?_) (a' := ?_) #[true, true, true, true, true, true, false, false, false, false, false, false, false, false, false, false, false] rfl rfl (by kernel_rfl) (fun _ _ _ h => h) (Or.inl ⟨by rfl, ?_⟩) ?_ ?_
          rotate_left
          · intro w'
            go_simp
            with_reducible rfl
          rotate_left
          · simp only [Act.put, List.setIfInBounds_toArray, List.set_cons_zero, List.set_cons_succ, i64_w, i32_w]
            rfl
          refine take_ (i := 6) (N := some 104) (v := ?_) (a' := ?_) #[true, true, true, true, true, true, true, false, false, false, false, false, false, false, false, false, false] rfl rfl (by kernel_rfl) (fun _ _ _ h => h) (Or.inl ⟨by rfl, ?_⟩) hHeld ?_ ?_
          rotate_left
          · rintro w' ⟨hS0, hS1⟩
            go_simp
            with_reducible rfl
          rotate_left
          · simp only [Act.put, List.setIfInBounds_toArray, List.set_cons_zero, List.set_cons_succ, i64_w, i32_w]
            rfl
          refine pure_ (i := 7) (N := some 105) (v := ?_) (a' := ?_) #[true, true, true, true, true, true, true, true, false, false, false, false, false, false, false, false, false] rfl rfl (by kernel_rfl) (fun _ _ _ h => h) (Or.inl ⟨by rfl, ?_⟩) ?_ ?_
          rotate_left
          · intro w'
            go_simp
            with_reducible rfl
          rotate_left
          · simp only [Act.put, List.setIfInBounds_toArray, List.set_cons_zero, List.set_cons_succ, i64_w, i32_w]
            rfl
          refine pure_ (i := 8) (N := some 106) (v := ?_) (a' := ?_) #[true, true, true, true, true, true, true, true, true, false, false, false, false, false, false, false, false] rfl rfl (by kernel_rfl) (fun _ _ _ h => h) (Or.inl ⟨by rfl, ?_⟩) ?_ ?_
          rotate_left
          · intro w'
            go_simp
            with_reducible rfl
          rotate_left
          · simp only [Act.put, List.setIfInBounds_toArray, List.set_cons_zero, List.set_cons_succ, i64_w, i32_w]
            rfl
          refine pure_ (i := 9) (N := some 107) (v := ?_) (a' := ?_) #[true, true, true, true, true, true, true, true, true, true, false, false, false, false, false, false, false] rfl rfl (by kernel_rfl) (fun _ _ _ h => h) (Or.inl ⟨by rfl, ?_⟩) ?_ ?_
          rotate_left
          · intro w'
            go_simp
            with_reducible rfl
          rotate_left
          · simp only [Act.put, List.setIfInBounds_toArray, List.set_cons_zero, List.set_cons_succ, i64_w, i32_w]
            rfl
          refine pure_ (i := 10) (N := some 108) (v := ?_) (a' := ?_) #[true, true, true, true, true, true, true, true, true, true, true, false, false, false, false, false, false] rfl rfl (by kernel_rfl) (fun _ _ _ h => h) (Or.inl ⟨by rfl, ?_⟩) ?_ ?_
          rotate_left
          · intro w'
            go_simp
            with_reducible rfl
          rotate_left
          · simp only [Act.put, List.setIfInBounds_toArray, List.set_cons_zero, List.set_cons_succ, i64_w, i32_w]
            rfl
          refine pure_ (i := 11) (N := some 109) (v := ?_) (a' := ?_) #[true, true, true, true, true, true, true, true, true, true, true, true, false, false, false, false, false] rfl rfl (by kernel_rfl) (fun _ _ _ h => h) (Or.inl ⟨by rfl, ?_⟩) ?_ ?_
          rotate_left
          · intro w'
            go_simp
            with_reducible rfl
          rotate_left
          · simp only [Act.put, List.setIfInBounds_toArray, List.set_cons_zero, List.set_cons_succ, i64_w, i32_w]
            rfl
          refine pure_ (i := 12) (N := some 110) (v := ?_) (a' := ?_) #[true, true, true, true, true, true, true, true, true, true, true, true, true, false, false, false, false] rfl rfl (by kernel_rfl) (fun _ _ _ h => h) (Or.inl ⟨by rfl, ?_⟩) ?_ ?_
          rotate_left
          · intro w'
            go_simp
            with_reducible rfl
          rotate_left
          · simp only [Act.put, List.setIfInBounds_toArray, List.set_cons_zero, List.set_cons_succ, i64_w, i32_w]
            rfl
          refine pure_ (i := 13) (N := some 111) (v := ?_) (a' := ?_) #[true, true, true, true, true, true, true, true, true, true, true, true, true, true, false, false, false] rfl rfl (by kernel_rfl) (fun _ _ _ h => h) (Or.inl ⟨by rfl, ?_⟩) ?_ ?_
          rotate_left
          · intro w'
            go_simp
            with_reducible rfl
          rotate_left
          · simp only [Act.put, List.setIfInBounds_toArray, List.set_cons_zero, List.set_cons_succ, i64_w, i32_w]
            rfl
          refine one_ (i := 14) (N := some 112) #[true, true, true, true, true, true, true, true, true, true, true, true, true, true, true, false, false] rfl rfl (by kernel_rfl) (by decide) (fun K hK => ?_)
          refine value_ (v := .slice (some ⟨W2.drew.heap.size, 0, none⟩) 1 1) (w1 := W2.drew.alloc (.cells #[.int .u8 kd, .int .u8 dn, .slice As Z cs] 77)) (by rfl) rfl (by go_simp) ?_
          refine hK.out _ _ (hce.out _ hTa.out.old) (fun hHeld2 => ?_)
          clear hK
          refine norm_ (a' := ?_) ?_ ?_
          rotate_left
          · show Act.put _ (some 112) _ = _
            simp only [Act.put, List.setIfInBounds_toArray, List.set_cons_zero, List.set_cons_succ, i64_w, i32_w]
            rfl
          refine one_ (i := 15) (N := some 113) #[true, true, true, true, true, true, true, true, true, true, true, true, true, true, true, true, false] rfl rfl (by kernel_rfl) (by decide) (fun K hK => ?_)
          refine Kd.N_append_step kS (w0 := W2.drew) (w.heap.size + 1) (by rfl) (.tmp 98) (.tmp 112) 75 77 (.agg #[(.int .u8 0), (.int .u8 0), (.slice none 0 0)]) 32 rfl Tryd.underlying75 (by rw [szS]; exact infoS7) (by rw [szS]; rfl) (by rw [szS]; decide) (by decide) (.slice A7 n7 c7) (secM b n7) (secOf b n7) [.int .u8 kd, .int .u8 dn, .slice As Z cs] (fun _ => True) (fun q => q < w.heap.size + 1) rfl rfl (hFK.out _ hTd.out.old) (fun k hk => ⟨trivial, fun e => by have := Kd.N_base hTd.out.N k e.symm; omega⟩) (fun _ _ => trivial) hTd.out.N (Below.refl _ _) hTd.out.sz (by rw [secM_len]; omega) ?_
          intro v9 w9 hN9 hb9 hg9 _
          obtain ⟨A9', c9', rfl⟩ := Kd.N_slice hN9
          rw [← secM_snoc] at hN9 ⊢
          rw [secM_len]
          rw [secM_len] at hN9
          have hTn := Aside0.mk (show T7 w w1 w9 b A9' (n7 + 1) c9' (n7 + 1) from ⟨hN9, rfl, hTd.out.bel.trans (hb9.mono (by have := hTd.out.w1.2; omega)), hTd.out.w1⟩)
          clear hN9 hb9 hg9
          refine hK.out _ _ (hce.out _ hTn.out.old) (fun hHeld3 => ?_)
          clear hK
          refine norm_ (a' := ?_) ?_ ?_
          rotate_left
          · show Act.put _ (some 113) _ = _
            simp only [Act.put, List.setIfInBounds_toArray, List.set_cons_zero, List.set_cons_succ, i64_w, i32_w]
            rfl
          refine pure_ (i := 16) (N := some 7) (v := ?_) (a' := ?_) #[true, true, true, true, true, true, true, true, true, true, true, true, true, true, true, true, true] rfl rfl (by kernel_rfl) (fun _ _ _ h => h) (Or.inl ⟨by rfl, ?_⟩) ?_ ?_
          rotate_left
          · intro w'
            go_simp
            with_reducible rfl
          rotate_left
          · simp only [Act.put, List.setIfInBounds_toArray, List.set_cons_zero, List.set_cons_succ, i64_w, i32_w]
            rfl
          refine done_ (by kernel_rfl) ?_
          go_wp2
          go_roundg k1
          case measure => omega
          case rel => exact ⟨n7 + 1, a + Z, _, _, _, rfl, rfl, rfl, by omega, by omega, ⟨by rw [ats, hZZ.out, ← hat.out]; omega⟩, ⟨fun j hj => by
              by_cases e : j = n7
              · rw [e]; exact hent.out
              · exact hok.out j (by omega)⟩, hTn⟩
        · have hbad : Aside0 (¬ TabOK b) := ⟨fun hn => by
            have := (hn.ent i (by rw [hms.out]; exact him.out)).2
            rw [hZZ.out, ← hat.out, ← hBd.out.len] at this
            omega⟩
          have e1 : ((F : Int) != (a : Int)) = false := by rw [hg1]; simp
          have e2 : decide ((Z : Int) > (N : Int) - 4 - (a : Int)) = true := decide_eq_true (by omega)
          go_wp2_with (first | (go_at_call 35; ((with_reducible refine (k6.out _ hT.out.old).mono ?_); rintro e W6 ⟨rfl, hb_⟩; have hT6 := Aside0.mk (hT.out.step hb_); clear hb_)) | (go_at_call 35; ((with_reducible refine (k2.out _ hT6.out.old).mono ?_); rintro e W2 ⟨rfl, hb_⟩; have hT2 := Aside0.mk (hT6.out.step hb_); obtain ⟨y0, y1, y2, y3, z0, z1, z2, z3⟩ := box4 (hT2.out.box hq2.out); clear hb_)))
          exact ref_err (ref_tab_bad hD.out hbad.out) rfl rfl (hT2.out.box hq2.out) hT2.out.old
      · have hbad : Aside0 (¬ TabOK b) := ⟨fun hn => by
          have := (hn.ent i (by rw [hms.out]; exact him.out)).1
          rw [hFF.out, ← hat.out] at this
          omega⟩
        have e1 : ((F : Int) != (a : Int)) = true := bne_iff_ne.2 (by omega)
        go_wp2_with (first | (go_at_call 35; ((with_reducible refine (k6.out _ hT.out.old).mono ?_); rintro e W6 ⟨rfl, hb_⟩; have hT6 := Aside0.mk (hT.out.step hb_); clear hb_)) | (go_at_call 35; ((with_reducible refine (k2.out _ hT6.out.old).mono ?_); rintro e W2 ⟨rfl, hb_⟩; have hT2 := Aside0.mk (hT6.out.step hb_); obtain ⟨y0, y1, y2, y3, z0, z1, z2, z3⟩ := box4 (hT2.out.box hq2.out); clear hb_)))
        exact ref_err (ref_tab_bad hD.out hbad.out) rfl rfl (hT2.out.box hq2.out) hT2.out.old
    | zero =>
      have hd : decide ((i : Int) < (m : Int)) = false := decide_eq_false (by omega)
      have hd' : decide (i < m) = false := decide_eq_false (by omega)
      obtain rfl : i = m := by omega
      have hn7 := hT.out.n
      subst hn7
      by_cases haE2 : a = E
      · have e1 : ((a : Int) != (N : Int) - 4) = false := by rw [haE2, hEN]; simp
        have hr := Kd.N_reads' hT.out.N
        have hC7 := hr.2.2
        rw [secM_len] at hC7
        have kRi : Calls Tryd.prog 36 #[.slice A7 n7 c7] wr fun e w' => e = .returned (.bool (rgtB b n7 0)) ∧ Drawn0 wr w' := by
          exact Right (k := c7) hC7 rfl (by have := hr.2.1; omega) hBd.out.bb t1 t2
        have kRR := Aside0.mk kRi
        clear hr hC7 kRi
        by_cases hrg : ∀ j, j < n7 → rgt b j
        · have hTab : Aside0 (TabOK b) := ⟨⟨by rw [hms.out]; exact t1, by rw [hms.out]; exact t2, by rw [hms.out, ← hBd.out.len]; exact t3, fun j hj => hok.out j (by rw [hms.out] at hj; exact hj), fun j hj => hrg j (by rw [hms.out] at hj; exact hj), by rw [hms.out, ← hat.out, haE2, hBd.out.len]⟩⟩
          have hR1 : Aside0 (rgtB b n7 0 = true) := ⟨rgtB_true hrg⟩
          rw [hR1.out] at kRR
          clear hrg hR1 hok
          go_upto_region 22 with (first | (go_at_call 36; ((with_reducible refine kRR.out.mono ?_); rintro e W6 ⟨rfl, hb_⟩; have hT6 := Aside0.mk (hT.out.step (drawn_below hb_)); clear hb_)))
          obtain ⟨g7, rfl, hsec⟩ := hT6.out.sec (by omega)
          obtain ⟨A0, n0, c0, hn0_, hc0, hd0_⟩ := hsec 0 (by omega)
          obtain ⟨lo, hlo⟩ : ∃ lo, low2 b 6 = lo := ⟨_, rfl⟩
          have hlob := low2_bd hBd.out.bb 6
          obtain ⟨A6, c6, cu6, hlow_⟩ := hBd.out.head (by omega)
          rw [hlo] at hlob hlow_
          obtain ⟨hlo0, hlo1⟩ := hlob
          have hd0 : Aside0 (∀ X, Below W6.heap.size W6 X → Kd.C (Kd.int .u8) X A0 n0 (dat b 0)) := ⟨fun X hb => (hd0_ X hb).2.2⟩
          have hS0 : Aside0 (∀ X, Below W6.heap.size W6 X → X.cell? ⟨g7, 2, none⟩ = some (.slice A0 n0 c0)) := ⟨fun X hb => (hd0_ X hb).2.1⟩
          have hn0 : Aside0 (n0 = (dat b 0).length ∧ n0 ≤ 600000) := ⟨hn0_, by
            have := dat_le b 0
            rw [← hBd.out.len] at this
            omega⟩
          have hwlo : IntKind.u16.wrap lo = lo := by rw [IntKind.wrap_u16]; omega
          have hn70 : 0 < n7 := by omega
          have hn71 : 1 < n7 := by omega
          have hlow := Aside0.mk hlow_
          have hold := Aside0.mk hT6.out.old
          have hbox6 := Aside0.mk (hT6.out.box hq2.out)
          have hsz6 := Aside0.mk hT6.out.sz
          have hse := Aside0.mk hsec
          have hloo := Aside0.mk hlo
          clear hn0_ hd0_ hlow_ hsec hT hlo
          refine start_ (n := 13) (S := (fun w' => w'.cell? ⟨g7, 2, none⟩ = some (.slice A0 n0 c0))) (ds := [12]) #[false, false, false, false, false, false, false, false, false, false, false, false, false] (by kernel_rfl) rfl rfl (hS0.out _ (below_drew (Below.refl _ _))) (fun hHeld => ?_)
          refine pure_ (i := 1) (N := some 127) (v := ?_) (a' := ?_) #[false, true, false, false, false, false, false, false, false, false, false, false, false] rfl rfl (by kernel_rfl) (fun _ _ _ h => h) (Or.inl ⟨by rfl, ?_⟩) ?_ ?_
          rotate_left
          · intro w'
            go_simp
            with_reducible rfl
          rotate_left
          · simp only [Act.put, List.setIfInBounds_toArray, List.set_cons_zero, List.set_cons_succ, i64_w, i32_w]
            rfl
          refine pure_ (i := 2) (N := some 128) (v := ?_) (a' := ?_) #[false, true, true, false, false, false, false, false, false, false, false, false, false] rfl rfl (by kernel_rfl) (fun _ _ _ h => h) (Or.inl ⟨by rfl, ?_⟩) ?_ ?_
          rotate_left
          · intro w'
            go_simp
            with_reducible rfl
          rotate_left
          · simp only [Act.put, List.setIfInBounds_toArray, List.set_cons_zero, List.set_cons_succ, i64_w, i32_w]
            rfl
          refine pure_ (i := 3) (N := some 129) (v := ?_) (a' := ?_) #[false, true, true, true, false, false, false, false, false, false, false, false, false] rfl rfl (by kernel_rfl) (fun _ _ _ h => h) (Or.inl ⟨by rfl, ?_⟩) ?_ ?_
          rotate_left
          · intro w'
            go_simp
            with_reducible rfl
          rotate_left
          · simp only [Act.put, List.setIfInBounds_toArray, List.set_cons_zero, List.set_cons_succ, i64_w, i32_w]
            rfl
          refine take_ (i := 4) (N := some 130) (v := ?_) (a' := ?_) #[false, true, true, true, true, false, false, false, false, false, false, false, false] rfl rfl (by kernel_rfl) (fun _ _ _ h => h) (Or.inl ⟨by rfl, ?_⟩) hHeld ?_ ?_
          rotate_left
          · rintro w' hSw
            go_simp
            with_reducible rfl
          rotate_left
          · simp only [Act.put, List.setIfInBounds_toArray, List.set_cons_zero, List.set_cons_succ, i64_w, i32_w]
            rfl
          refine pure_ (i := 6) (N := some 132) (v := ?_) (a' := ?_) #[false, true, true, true, true, false, true, false, false, false, false, false, false] rfl rfl (by kernel_rfl) (fun _ _ _ h => h) (Or.inl ⟨by rfl, ?_⟩) ?_ ?_
          rotate_left
          · intro w'
            go_simp
            with_reducible rfl
          rotate_left
          · simp only [Act.put, List.setIfInBounds_toArray, List.set_cons_zero, List.set_cons_succ, i64_w, i32_w]
            rfl
          refine pure_ (i := 7) (N := some 133) (v := ?_) (a' := ?_) #[false, true, true, true, true, false, true, true, false, false, false, false, false] rfl rfl (by kernel_rfl) (fun _ _ _ h => h) (Or.inl ⟨by rfl, ?_⟩) ?_ ?_
          rotate_left
          · intro w'
            go_simp
            with_reducible rfl
          rotate_left
          · simp only [Act.put, List.setIfInBounds_toArray, List.set_cons_zero, List.set_cons_succ, i64_w, i32_w]
            rfl
          refine join_ (σ := Value × Option Addr × Nat × Nat) 1 #[true, true, true, true, true, true, true, true, true, true, true, true, false] (fun s => [(126, s.1), (131, .slice s.2.1 n0 s.2.2.1), (134, .int .i64 lo), (135, .int .u16 lo), (136, .agg #[.slice s.2.1 n0 s.2.2.1, .int .u16 lo, .slice none 0 0, .slice none 0 0]), (11, .pointer (some ⟨s.2.2.2, 0, none⟩))]) (fun s X => Below W6.heap.size W6 X ∧ Kd.R (Kd.int .u8) 5 X W6.heap.size (fun _ => True) (.slice s.2.1 n0 s.2.2.1) (dat b 0) ∧ Bx0 X s.2.2.2 ∧ W6.heap.size ≤ s.2.2.2) ?_ ?_
          rotate_left
          · intro hCont
            have hb : Aside0 (Below W6.heap.size W6 W6.drew) := ⟨below_drew (Below.refl _ _)⟩
            clear hHeld
            have hHeld := hS0.out _ hb.out
            generalize W6.drew = u0 at hb hHeld ⊢
            refine two_ (i := 0) (j := 11) (Ni := some 126) (Nj := some 11) #[true, true, true, true, true, false, true, true, false, false, false, false, false] #[false, true, true, true, true, false, true, true, false, false, false, true, false] rfl rfl rfl rfl (by kernel_rfl) (by decide) (by decide) (fun K hK => ?_) (fun K hK => ?_)
            · refine value_ (v := .slice (some ⟨u0.heap.size, 0, none⟩) 0 0) (w1 := u0.alloc (.cells #[] 5)) (by rfl) rfl (by go_simp) ?_
              have hR := Aside0.mk (row0 u0 hb.out.size)
              have hb1_ := below_alloc (Below.refl u0.heap.size u0) (.cells #[] 5)
              have hb := Aside0.mk (hb.out.trans (hb1_.mono hb.out.size))
              clear hb1_
              obtain ⟨p0, hp0⟩ : ∃ p0, p0 = u0.heap.size := ⟨_, rfl⟩
              rw [← hp0] at hR ⊢
              clear hp0
              generalize u0.alloc (.cells #[] 5) = u1 at hb hR ⊢
              refine hK.out _ _ (hS0.out _ hb.out) (fun hHeld => ?_)
              clear hK
              refine norm_ (a' := ?_) ?_ ?_
              rotate_left
              · show Act.put _ (some 126) _ = _
                simp only [Act.put, List.setIfInBounds_toArray, List.set_cons_zero, List.set_cons_succ, i64_w, i32_w]
                rfl
              refine two_ (i := 5) (j := 11) (Ni := some 131) (Nj := some 11) #[true, true, true, true, true, true, true, true, false, false, false, false, false] #[true, true, true, true, true, false, true, true, false, false, false, true, false] rfl rfl rfl rfl (by kernel_rfl) (by decide) (by decide) (fun K hK => ?_) (fun K hK => ?_)
              · refine appB_step (w0 := W6) W6.heap.size (by rfl) (.tmp 126) (.tmp 130) rfl _ [] (dat b 0) A0 n0 c0 rfl rfl hR.out (hd0.out _ hb.out) hb.out hb.out.size (by have := hn0.out.2; simp; omega) ?_
                intro v1 u2 hR5 hb5 hg5
                rw [List.nil_append] at hR5
                have hR := Aside0.mk hR5
                have hb := Aside0.mk hb5
                obtain ⟨A1, c1, rfl⟩ := Kd.R_slice hR.out
                rw [← hn0.out.1] at hR ⊢
                clear hR5 hb5 hg5
                refine hK.out _ _ (hS0.out _ hb.out) (fun hHeld => ?_)
                clear hK
                refine norm_ (a' := ?_) ?_ ?_
                rotate_left
                · show Act.put _ (some 131) _ = _
                  simp only [Act.put, List.setIfInBounds_toArray, List.set_cons_zero, List.set_cons_succ, i64_w, i32_w]
                  rfl
                refine two_ (i := 8) (j := 11) (Ni := some 134) (Nj := some 11) #[true, true, true, true, true, true, true, true, true, false, false, false, false] #[true, true, true, true, true, true, true, true, false, false, false, true, false] rfl rfl rfl rfl (by kernel_rfl) (by decide) (by decide) (fun K hK => ?_) (fun K hK => ?_)
                · refine goes_ Tryd.func35 (by kernel_rfl) rfl #[.slice A6 2 c6] (by rfl) rfl rfl (by first | rfl | kernel_rfl | simp [Act.eval]) ?_
                  refine (hlow.out _ (hold.out.trans (hb.out.mono hold.out.size))).mono ?_
                  rintro e u3 ⟨rfl, hb8⟩
                  have hR := Aside0.mk (Kd.R_below hR.out hb8)
                  have hb := Aside0.mk (hb.out.trans (hb8.mono hb.out.size))
                  clear hb8
                  refine ⟨_, rfl, hK.out _ _ (hS0.out _ hb.out) (fun hHeld => ?_)⟩
                  clear hK
                  refine norm_ (a' := ?_) ?_ ?_
                  rotate_left
                  · show Act.put _ (some 134) _ = _
                    simp only [Act.put, List.setIfInBounds_toArray, List.set_cons_zero, List.set_cons_succ, i64_w, i32_w]
                    rfl
                  refine pure_ (i := 9) (N := some 135) (v := ?_) (a' := ?_) #[true, true, true, true, true, true, true, true, true, true, false, false, false] rfl rfl (by kernel_rfl) (fun _ _ _ h => h) (Or.inl ⟨by rfl, ?_⟩) ?_ ?_
                  rotate_left
                  · intro w'
                    go_simp
                    with_reducible rfl
                  rotate_left
                  · simp only [Act.put, List.setIfInBounds_toArray, List.set_cons_zero, List.set_cons_succ, i64_w, i32_w]
                    rfl
                  refine pure_ (i := 10) (N := some 136) (v := ?_) (a' := ?_) #[true, true, true, true, true, true, true, true, true, true, true, false, false] rfl rfl (by kernel_rfl) (fun _ _ _ h => h) (Or.inl ⟨by rfl, ?_⟩) ?_ ?_
                  rotate_left
                  · intro w'
                    go_simp
                    with_reducible rfl
                  rotate_left
                  · simp only [Act.put, List.setIfInBounds_toArray, List.set_cons_zero, List.set_cons_succ, i64_w, i32_w]
                    rfl
                  refine one_ (i := 11) (N := some 11) #[true, true, true, true, true, true, true, true, true, true, true, true, false] rfl rfl (by kernel_rfl) (by decide) (fun K hK => ?_)
                  refine value_ (v := .pointer (some ⟨u3.heap.size, 0, none⟩)) (w1 := u3.alloc (.cells #[.slice none 0 0, .int .u16 0, .slice none 0 0, .slice none 0 0] 28)) (by rfl) rfl (by go_simp) ?_
                  have hb1_ := below_alloc (Below.refl u3.heap.size u3) (.cells #[.slice none 0 0, .int .u16 0, .slice none 0 0, .slice none 0 0] 28)
                  have hx : Aside0 (Bx0 (u3.alloc (.cells #[.slice none 0 0, .int .u16 0, .slice none 0 0, .slice none 0 0] 28)) u3.heap.size) := ⟨World.alloc_heap_new u3 _⟩
                  have hgl := Aside0.mk hb.out.size
                  have hR := Aside0.mk (Kd.R_below hR.out hb1_)
                  have hb := Aside0.mk (hb.out.trans (hb1_.mono hb.out.size))
                  clear hb1_
                  obtain ⟨g, hg_⟩ : ∃ g, g = u3.heap.size := ⟨_, rfl⟩
                  rw [← hg_] at hx hgl ⊢
                  clear hg_
                  generalize u3.alloc (.cells #[.slice none 0 0, .int .u16 0, .slice none 0 0, .slice none 0 0] 28) = u4 at hb hx hR ⊢
                  refine hK.out _ _ (hS0.out _ hb.out) (fun hHeld => ?_)
                  clear hK
                  refine norm_ (a' := ?_) ?_ ?_
                  rotate_left
                  · show Act.put _ (some 11) _ = _
                    simp only [Act.put, List.setIfInBounds_toArray, List.set_cons_zero, List.set_cons_succ, i64_w, i32_w]
                    rfl
                  exact norm_ (by first | (simp only [putAll, Act.put, List.setIfInBounds_toArray, List.set_cons_zero, List.set_cons_succ]; done) | (simp only [putAll, Act.put, List.setIfInBounds_toArray, List.set_cons_zero, List.set_cons_succ]; rfl)) (hCont ((.slice (some ⟨p0, 0, none⟩) 0 0, A1, c1, g)) _ ⟨hb.out, hR.out, hx.out, hgl.out⟩)
                · refine value_ (v := .pointer (some ⟨u2.heap.size, 0, none⟩)) (w1 := u2.alloc (.cells #[.slice none 0 0, .int .u16 0, .slice none 0 0, .slice none 0 0] 28)) (by rfl) rfl (by go_simp) ?_
                  have hb1_ := below_alloc (Below.refl u2.heap.size u2) (.cells #[.slice none 0 0, .int .u16 0, .slice none 0 0, .slice none 0 0] 28)
                  have hx : Aside0 (Bx0 (u2.alloc (.cells #[.slice none 0 0, .int .u16 0, .slice none 0 0, .slice none 0 0] 28)) u2.heap.size) := ⟨World.alloc_heap_new u2 _⟩
                  have hgl := Aside0.mk hb.out.size
                  have hR := Aside0.mk (Kd.R_below hR.out hb1_)
                  have hb := Aside0.mk (hb.out.trans (hb1_.mono hb.out.size))
                  clear hb1_
                  obtain ⟨g, hg_⟩ : ∃ g, g = u2.heap.size := ⟨_, rfl⟩
                  rw [← hg_] at hx hgl ⊢
                  clear hg_
                  generalize u2.alloc (.cells #[.slice none 0 0, .int .u16 0, .slice none 0 0, .slice none 0 0] 28) = u5 at hb hx hR ⊢
                  refine hK.out _ _ (hS0.out _ hb.out) (fun hHeld => ?_)
                  clear hK
                  refine norm_ (a' := ?_) ?_ ?_
                  rotate_left
                  · show Act.put _ (some 11) _ = _
                    simp only [Act.put, List.setIfInBounds_toArray, List.set_cons_zero, List.set_cons_succ, i64_w, i32_w]
                    rfl
                  refine one_ (i := 8) (N := some 134) #[true, true, true, true, true, true, true, true, true, false, false, true, false] rfl rfl (by kernel_rfl) (by decide) (fun K hK => ?_)
                  refine goes_ Tryd.func35 (by kernel_rfl) rfl #[.slice A6 2 c6] (by rfl) rfl rfl (by first | rfl | kernel_rfl | simp [Act.eval]) ?_
                  refine (hlow.out _ (hold.out.trans (hb.out.mono hold.out.size))).mono ?_
                  rintro e u6 ⟨rfl, hb8⟩
                  have hR := Aside0.mk (Kd.R_below hR.out hb8)
                  have hx := Aside0.mk (hx.out.below hb8)
                  have hb := Aside0.mk (hb.out.trans (hb8.mono hb.out.size))
                  clear hb8
                  refine ⟨_, rfl, hK.out _ _ (hS0.out _ hb.out) (fun hHeld => ?_)⟩
                  clear hK
                  refine norm_ (a' := ?_) ?_ ?_
                  rotate_left
                  · show Act.put _ (some 134) _ = _
                    simp only [Act.put, List.setIfInBounds_toArray, List.set_cons_zero, List.set_cons_succ, i64_w, i32_w]
                    rfl
                  refine pure_ (i := 9) (N := some 135) (v := ?_) (a' := ?_) #[true, true, true, true, true, true, true, true, true, true, false, true, false] rfl rfl (by kernel_rfl) (fun _ _ _ h => h) (Or.inl ⟨by rfl, ?_⟩) ?_ ?_
                  rotate_left
                  · intro w'
                    go_simp
                    with_reducible rfl
                  rotate_left
                  · simp only [Act.put, List.setIfInBounds_toArray, List.set_cons_zero, List.set_cons_succ, i64_w, i32_w]
                    rfl
                  refine pure_ (i := 10) (N := some 136) (v := ?_) (a' := ?_) #[true, true, true, true, true, true, true, true, true, true, true, true, false] rfl rfl (by kernel_rfl) (fun _ _ _ h => h) (Or.inl ⟨by rfl, ?_⟩) ?_ ?_
                  rotate_left
                  · intro w'
                    go_simp
                    with_reducible rfl
                  rotate_left
                  · simp only [Act.put, List.setIfInBounds_toArray, List.set_cons_zero, List.set_cons_succ, i64_w, i32_w]
                    rfl
                  exact norm_ (by first | (simp only [putAll, Act.put, List.setIfInBounds_toArray, List.set_cons_zero, List.set_cons_succ]; done) | (simp only [putAll, Act.put, List.setIfInBounds_toArray, List.set_cons_zero, List.set_cons_succ]; rfl)) (hCont ((.slice (some ⟨p0, 0, none⟩) 0 0, A1, c1, g)) _ ⟨hb.out, hR.out, hx.out, hgl.out⟩)
              · refine value_ (v := .pointer (some ⟨u1.heap.size, 0, none⟩)) (w1 := u1.alloc (.cells #[.slice none 0 0, .int .u16 0, .slice none 0 0, .slice none 0 0] 28)) (by rfl) rfl (by go_simp) ?_
                have hb1_ := below_alloc (Below.refl u1.heap.size u1) (.cells #[.slice none 0 0, .int .u16 0, .slice none 0 0, .slice none 0 0] 28)
                have hx : Aside0 (Bx0 (u1.alloc (.cells #[.slice none 0 0, .int .u16 0, .slice none 0 0, .slice none 0 0] 28)) u1.heap.size) := ⟨World.alloc_heap_new u1 _⟩
                have hgl := Aside0.mk hb.out.size
                have hR := Aside0.mk (Kd.R_below hR.out hb1_)
                have hb := Aside0.mk (hb.out.trans (hb1_.mono hb.out.size))
                clear hb1_
                obtain ⟨g, hg_⟩ : ∃ g, g = u1.heap.size := ⟨_, rfl⟩
                rw [← hg_] at hx hgl ⊢
                clear hg_
                generalize u1.alloc (.cells #[.slice none 0 0, .int .u16 0, .slice none 0 0, .slice none 0 0] 28) = u7 at hb hx hR ⊢
                refine hK.out _ _ (hS0.out _ hb.out) (fun hHeld => ?_)
                clear hK
                refine norm_ (a' := ?_) ?_ ?_
                rotate_left
                · show Act.put _ (some 11) _ = _
                  simp only [Act.put, List.setIfInBounds_toArray, List.set_cons_zero, List.set_cons_succ, i64_w, i32_w]
                  rfl
                refine one_ (i := 5) (N := some 131) #[true, true, true, true, true, true, true, true, false, false, false, true, false] rfl rfl (by kernel_rfl) (by decide) (fun K hK => ?_)
                refine appB_step (w0 := W6) W6.heap.size (by rfl) (.tmp 126) (.tmp 130) rfl _ [] (dat b 0) A0 n0 c0 rfl rfl hR.out (hd0.out _ hb.out) hb.out hb.out.size (by have := hn0.out.2; simp; omega) ?_
                intro v1 u8 hR5 hb5 hg5
                have hx := Aside0.mk (hx.out.grown hR.out hg5)
                rw [List.nil_append] at hR5
                have hR := Aside0.mk hR5
                have hb := Aside0.mk hb5
                obtain ⟨A1, c1, rfl⟩ := Kd.R_slice hR.out
                rw [← hn0.out.1] at hR ⊢
                clear hR5 hb5 hg5
                refine hK.out _ _ (hS0.out _ hb.out) (fun hHeld => ?_)
                clear hK
                refine norm_ (a' := ?_) ?_ ?_
                rotate_left
                · show Act.put _ (some 131) _ = _
                  simp only [Act.put, List.setIfInBounds_toArray, List.set_cons_zero, List.set_cons_succ, i64_w, i32_w]
                  rfl
                refine one_ (i := 8) (N := some 134) #[true, true, true, true, true, true, true, true, true, false, false, true, false] rfl rfl (by kernel_rfl) (by decide) (fun K hK => ?_)
                refine goes_ Tryd.func35 (by kernel_rfl) rfl #[.slice A6 2 c6] (by rfl) rfl rfl (by first | rfl | kernel_rfl | simp [Act.eval]) ?_
                refine (hlow.out _ (hold.out.trans (hb.out.mono hold.out.size))).mono ?_
                rintro e u9 ⟨rfl, hb8⟩
                have hR := Aside0.mk (Kd.R_below hR.out hb8)
                have hx := Aside0.mk (hx.out.below hb8)
                have hb := Aside0.mk (hb.out.trans (hb8.mono hb.out.size))
                clear hb8
                refine ⟨_, rfl, hK.out _ _ (hS0.out _ hb.out) (fun hHeld => ?_)⟩
                clear hK
                refine norm_ (a' := ?_) ?_ ?_
                rotate_left
                · show Act.put _ (some 134) _ = _
                  simp only [Act.put, List.setIfInBounds_toArray, List.set_cons_zero, List.set_cons_succ, i64_w, i32_w]
                  rfl
                refine pure_ (i := 9) (N := some 135) (v := ?_) (a' := ?_) #[true, true, true, true, true, true, true, true, true, true, false, true, false] rfl rfl (by kernel_rfl) (fun _ _ _ h => h) (Or.inl ⟨by rfl, ?_⟩) ?_ ?_
                rotate_left
                · intro w'
                  go_simp
                  with_reducible rfl
                rotate_left
                · simp only [Act.put, List.setIfInBounds_toArray, List.set_cons_zero, List.set_cons_succ, i64_w, i32_w]
                  rfl
                refine pure_ (i := 10) (N := some 136) (v := ?_) (a' := ?_) #[true, true, true, true, true, true, true, true, true, true, true, true, false] rfl rfl (by kernel_rfl) (fun _ _ _ h => h) (Or.inl ⟨by rfl, ?_⟩) ?_ ?_
                rotate_left
                · intro w'
                  go_simp
                  with_reducible rfl
                rotate_left
                · simp only [Act.put, List.setIfInBounds_toArray, List.set_cons_zero, List.set_cons_succ, i64_w, i32_w]
                  rfl
                exact norm_ (by first | (simp only [putAll, Act.put, List.setIfInBounds_toArray, List.set_cons_zero, List.set_cons_succ]; done) | (simp only [putAll, Act.put, List.setIfInBounds_toArray, List.set_cons_zero, List.set_cons_succ]; rfl)) (hCont ((.slice (some ⟨p0, 0, none⟩) 0 0, A1, c1, g)) _ ⟨hb.out, hR.out, hx.out, hgl.out⟩)
            · refine value_ (v := .pointer (some ⟨u0.heap.size, 0, none⟩)) (w1 := u0.alloc (.cells #[.slice none 0 0, .int .u16 0, .slice none 0 0, .slice none 0 0] 28)) (by rfl) rfl (by go_simp) ?_
              have hb1_ := below_alloc (Below.refl u0.heap.size u0) (.cells #[.slice none 0 0, .int .u16 0, .slice none 0 0, .slice none 0 0] 28)
              have hx : Aside0 (Bx0 (u0.alloc (.cells #[.slice none 0 0, .int .u16 0, .slice none 0 0, .slice none 0 0] 28)) u0.heap.size) := ⟨World.alloc_heap_new u0 _⟩
              have hgl := Aside0.mk hb.out.size
              have hb := Aside0.mk (hb.out.trans (hb1_.mono hb.out.size))
              clear hb1_
              obtain ⟨g, hg_⟩ : ∃ g, g = u0.heap.size := ⟨_, rfl⟩
              rw [← hg_] at hx hgl ⊢
              clear hg_
              generalize u0.alloc (.cells #[.slice none 0 0, .int .u16 0, .slice none 0 0, .slice none 0 0] 28) = u10 at hb hx ⊢
              refine hK.out _ _ (hS0.out _ hb.out) (fun hHeld => ?_)
              clear hK
              refine norm_ (a' := ?_) ?_ ?_
              rotate_left
              · show Act.put _ (some 11) _ = _
                simp only [Act.put, List.setIfInBounds_toArray, List.set_cons_zero, List.set_cons_succ, i64_w, i32_w]
                rfl
              refine one_ (i := 0) (N := some 126) #[true, true, true, true, true, false, true, true, false, false, false, true, false] rfl rfl (by kernel_rfl) (by decide) (fun K hK => ?_)
              refine value_ (v := .slice (some ⟨u10.heap.size, 0, none⟩) 0 0) (w1 := u10.alloc (.cells #[] 5)) (by rfl) rfl (by go_simp) ?_
              have hR := Aside0.mk (row0 u10 hb.out.size)
              have hb1_ := below_alloc (Below.refl u10.heap.size u10) (.cells #[] 5)
              have hx := Aside0.mk (hx.out.below hb1_)
              have hb := Aside0.mk (hb.out.trans (hb1_.mono hb.out.size))
              clear hb1_
              obtain ⟨p0, hp0⟩ : ∃ p0, p0 = u10.heap.size := ⟨_, rfl⟩
              rw [← hp0] at hR ⊢
              clear hp0
              generalize u10.alloc (.cells #[] 5) = u11 at hb hR hx ⊢
              refine hK.out _ _ (hS0.out _ hb.out) (fun hHeld => ?_)
              clear hK
              refine norm_ (a' := ?_) ?_ ?_
              rotate_left
              · show Act.put _ (some 126) _ = _
                simp only [Act.put, List.setIfInBounds_toArray, List.set_cons_zero, List.set_cons_succ, i64_w, i32_w]
                rfl
              refine one_ (i := 5) (N := some 131) #[true, true, true, true, true, true, true, true, false, false, false, true, false] rfl rfl (by kernel_rfl) (by decide) (fun K hK => ?_)
              refine appB_step (w0 := W6) W6.heap.size (by rfl) (.tmp 126) (.tmp 130) rfl _ [] (dat b 0) A0 n0 c0 rfl rfl hR.out (hd0.out _ hb.out) hb.out hb.out.size (by have := hn0.out.2; simp; omega) ?_
              intro v1 u12 hR5 hb5 hg5
              have hx := Aside0.mk (hx.out.grown hR.out hg5)
              rw [List.nil_append] at hR5
              have hR := Aside0.mk hR5
              have hb := Aside0.mk hb5
              obtain ⟨A1, c1, rfl⟩ := Kd.R_slice hR.out
              rw [← hn0.out.1] at hR ⊢
              clear hR5 hb5 hg5
              refine hK.out _ _ (hS0.out _ hb.out) (fun hHeld => ?_)
              clear hK
              refine norm_ (a' := ?_) ?_ ?_
              rotate_left
              · show Act.put _ (some 131) _ = _
                simp only [Act.put, List.setIfInBounds_toArray, List.set_cons_zero, List.set_cons_succ, i64_w, i32_w]
                rfl
              refine one_ (i := 8) (N := some 134) #[true, true, true, true, true, true, true, true, true, false, false, true, false] rfl rfl (by kernel_rfl) (by decide) (fun K hK => ?_)
              refine goes_ Tryd.func35 (by kernel_rfl) rfl #[.slice A6 2 c6] (by rfl) rfl rfl (by first | rfl | kernel_rfl | simp [Act.eval]) ?_
              refine (hlow.out _ (hold.out.trans (hb.out.mono hold.out.size))).mono ?_
              rintro e u13 ⟨rfl, hb8⟩
              have hR := Aside0.mk (Kd.R_below hR.out hb8)
              have hx := Aside0.mk (hx.out.below hb8)
              have hb := Aside0.mk (hb.out.trans (hb8.mono hb.out.size))
              clear hb8
              refine ⟨_, rfl, hK.out _ _ (hS0.out _ hb.out) (fun hHeld => ?_)⟩
              clear hK
              refine norm_ (a' := ?_) ?_ ?_
              rotate_left
              · show Act.put _ (some 134) _ = _
                simp only [Act.put, List.setIfInBounds_toArray, List.set_cons_zero, List.set_cons_succ, i64_w, i32_w]
                rfl
              refine pure_ (i := 9) (N := some 135) (v := ?_) (a' := ?_) #[true, true, true, true, true, true, true, true, true, true, false, true, false] rfl rfl (by kernel_rfl) (fun _ _ _ h => h) (Or.inl ⟨by rfl, ?_⟩) ?_ ?_
              rotate_left
              · intro w'
                go_simp
                with_reducible rfl
              rotate_left
              · simp only [Act.put, List.setIfInBounds_toArray, List.set_cons_zero, List.set_cons_succ, i64_w, i32_w]
                rfl
              refine pure_ (i := 10) (N := some 136) (v := ?_) (a' := ?_) #[true, true, true, true, true, true, true, true, true, true, true, true, false] rfl rfl (by kernel_rfl) (fun _ _ _ h => h) (Or.inl ⟨by rfl, ?_⟩) ?_ ?_
              rotate_left
              · intro w'
                go_simp
                with_reducible rfl
              rotate_left
              · simp only [Act.put, List.setIfInBounds_toArray, List.set_cons_zero, List.set_cons_succ, i64_w, i32_w]
                rfl
              exact norm_ (by first | (simp only [putAll, Act.put, List.setIfInBounds_toArray, List.set_cons_zero, List.set_cons_succ]; done) | (simp only [putAll, Act.put, List.setIfInBounds_toArray, List.set_cons_zero, List.set_cons_succ]; rfl)) (hCont ((.slice (some ⟨p0, 0, none⟩) 0 0, A1, c1, g)) _ ⟨hb.out, hR.out, hx.out, hgl.out⟩)
          rintro ⟨v26, A1, c1, g⟩ X ⟨hbX, hRX, hxX, hgX⟩
          dsimp only at hRX hxX hgX
          refine norm_ (a' := ?_) ?_ ?_
          rotate_left
          · simp only [putAll, Act.put, List.setIfInBounds_toArray, List.set_cons_zero, List.set_cons_succ]
            rfl
          obtain ⟨x0, x1, x2, x3, z0, z1, z2, z3⟩ := box4 hxX
          refine last_ (i := 12) (N := none) #[true, true, true, true, true, true, true, true, true, true, true, true, true] rfl rfl (by kernel_rfl) (by decide) (fun K hK => ?_)
          refine skip_ (w1 := ((((X.setCell ⟨g, 0, none⟩ (.slice A1 n0 c1)).setCell ⟨g, 1, none⟩ (.int .u16 lo)).setCell ⟨g, 2, none⟩ (.slice none 0 0)).setCell ⟨g, 3, none⟩ (.slice none 0 0))) (by rfl) rfl (by go_simp) ?_
          refine hK.out _ _ ?_
          clear hK
          refine done_ (by kernel_rfl) ?_
          have hT9_ := setAll hxX (.slice A1 n0 c1) lo
          have hbX' := Aside0.mk hbX
          have hRX' := Aside0.mk hRX
          have hxX' := Aside0.mk hxX
          have hgX' := Aside0.mk hgX
          clear x0 x1 x2 x3 z0 z1 z2 z3 hbX hRX hxX hgX cu6 hS0 hd0 hlow hT6
          generalize ((((X.setCell ⟨g, 0, none⟩ (.slice A1 n0 c1)).setCell ⟨g, 1, none⟩ (.int .u16 lo)).setCell ⟨g, 2, none⟩ (.slice none 0 0)).setCell ⟨g, 3, none⟩ (.slice none 0 0)) = Y at hT9_ ⊢
          have hT9 := Aside0.mk hT9_
          obtain ⟨Ad, nd, cd, hnd_, hcd_, hdd_⟩ := hse.out 1 (by omega)
          have hcd := Aside0.mk hcd_
          have hdd := Aside0.mk hdd_
          have hnd : Aside0 (nd = (dat b 1).length ∧ nd ≤ 600000) := ⟨hnd_, by
            have := dat_le b 1
            rw [← hBd.out.len] at this
            omega⟩
          have hndm : nd ≤ 600000 := hnd.out.2
          obtain ⟨Kr, hKr⟩ : ∃ Kr, Kr = nd / 6 := ⟨_, rfl⟩
          clear hT9_ hnd_ hdd_ hcd_
          go_wp2
          go_loopg [12] Kr (fun gk v12 wr => ∃ (k : Nat) (A2 : Option Addr) (n2 c2 : Nat), v12 = .int .i64 (6 * (k : Int)) ∧ k + gk = Kr ∧ Aside0 (T9 X wr g (.slice A1 n0 c1) (.slice A2 n2 c2) (.slice none 0 0) (efsOf k (dat b 1)) [] lo))
          case atStart => exact ⟨0, _, _, _, rfl, by omega, hT9⟩
          case round =>
            clear hT9
            obtain ⟨k, A2, n2, c2, rfl, hk, hT9⟩ := hrel
            have q5 := (hdd.out _ (hT9.out.old9 hbX'.out hgX'.out)).2.1
            cases gk with
            | succ k1 =>
              have hd : decide ((6 * (k : Int)) + 6 ≤ (nd : Int)) = true := decide_eq_true (by omega)
              obtain ⟨Ax, cx, A2', c2', A4', c4', eAx, eCx, cu2, cu3, cu4, k6_⟩ := eff6 hnd.out.1 hcd.out (allB_dat hBd.out.bb 1) (6 * k) (by omega)
              have hX1 := low2_bd (allB_dat hBd.out.bb 1) (6 * k)
              have hX2 := low2_bd (allB_dat hBd.out.bb 1) (6 * k + 2)
              have hX3 := low2_bd (allB_dat hBd.out.bb 1) (6 * k + 4)
              have hsn := Aside0.mk (efsOf_snoc k (dat b 1))
              generalize low2 (dat b 1) (6 * k) = X1 at k6_ hX1 hsn
              generalize low2 (dat b 1) (6 * k + 2) = X2 at k6_ hX2 hsn
              generalize low2 (dat b 1) (6 * k + 4) = X3 at k6_ hX3 hsn
              obtain ⟨a1, b1⟩ := hX1
              obtain ⟨a2, b2⟩ := hX2
              obtain ⟨a3, b3⟩ := hX3
              have k6 := Aside0.mk k6_
              have hwX1 : IntKind.u16.wrap X1 = X1 := by rw [IntKind.wrap_u16]; omega
              have hkl : Aside0 (((efsOf k (dat b 1)).length + 1) * 24 ≤ 140737488355328) := ⟨by rw [efsOf_len]; omega⟩
              clear k6_
              have eAxx := Aside0.mk eAx
              have eCxx := Aside0.mk eCx
              clear eAx eCx
              go_upto_region 27 with (fail)
              all_goals try (exfalso; have := hcd.out; omega)
              rw [eAxx.out, eCxx.out]
              have hTd := Aside0.mk (hT9.out.below (below_drew (Below.refl _ _)))
              have hq0 := (hTd.out.cellU (Below.refl _ _ |>.mono hTd.out.sz) 2 rfl).1
              refine start_ (n := 17) (S := (fun w' => w'.cell? ⟨g, 2, none⟩ = some (.slice A2 n2 c2))) (ds := [16]) #[false, false, false, false, false, false, false, false, false, false, false, false, false, false, false, false, false] (by kernel_rfl) rfl rfl hq0 (fun hHeld => ?_)
              refine pure_ (i := 0) (N := some 155) (v := ?_) (a' := ?_) #[true, false, false, false, false, false, false, false, false, false, false, false, false, false, false, false, false] rfl rfl (by kernel_rfl) (fun _ _ _ h => h) (Or.inl ⟨by rfl, ?_⟩) ?_ ?_
              rotate_left
              · intro w'
                go_simp
                with_reducible rfl
              rotate_left
              · simp only [Act.put, List.setIfInBounds_toArray, List.set_cons_zero, List.set_cons_succ, i64_w, i32_w]
                rfl
              refine take_ (i := 1) (N := some 156) (v := ?_) (a' := ?_) #[true, true, false, false, false, false, false, false, false, false, false, false, false, false, false, false, false] rfl rfl (by kernel_rfl) (fun _ _ _ h => h) (Or.inl ⟨by rfl, ?_⟩) hHeld ?_ ?_
              rotate_left
              · rintro w' hSw
                go_simp
                with_reducible rfl
              rotate_left
              · simp only [Act.put, List.setIfInBounds_toArray, List.set_cons_zero, List.set_cons_succ, i64_w, i32_w]
                rfl
              refine pure_ (i := 2) (N := some 157) (v := ?_) (a' := ?_) #[true, true, true, false, false, false, false, false, false, false, false, false, false, false, false, false, false] rfl rfl (by kernel_rfl) (fun _ _ _ h => h) (Or.inl ⟨by rfl, ?_⟩) ?_ ?_
              rotate_left
              · intro w'
                go_simp
                with_reducible rfl
              rotate_left
              · simp only [Act.put, List.setIfInBounds_toArray, List.set_cons_zero, List.set_cons_succ, i64_w, i32_w]
                rfl
              refine pure_ (i := 3) (N := some 158) (v := ?_) (a' := ?_) #[true, true, true, true, false, false, false, false, false, false, false, false, false, false, false, false, false] rfl rfl (by kernel_rfl) (fun _ _ _ h => h) (Or.inl ⟨by rfl, ?_⟩) ?_ ?_
              rotate_left
              · intro w'
                go_simp
                with_reducible rfl
              rotate_left
              · simp only [Act.put, List.setIfInBounds_toArray, List.set_cons_zero, List.set_cons_succ, i64_w, i32_w]
                rfl
              refine pure_ (i := 6) (N := some 161) (v := ?_) (a' := ?_) #[true, true, true, true, false, false, true, false, false, false, false, false, false, false, false, false, false] rfl rfl (by kernel_rfl) (fun _ _ _ h => h) (Or.inl ⟨by rfl, ?_⟩) ?_ ?_
              rotate_left
              · intro w'
                go_simp
                with_reducible rfl
              rotate_left
              · simp only [Act.put, List.setIfInBounds_toArray, List.set_cons_zero, List.set_cons_succ, i64_w, i32_w]
                rfl
              refine pure_ (i := 7) (N := some 162) (v := ?_) (a' := ?_) #[true, true, true, true, false, false, true, true, false, false, false, false, false, false, false, false, false] rfl rfl (by kernel_rfl) (fun _ _ _ h => h) (Or.inl ⟨by rfl, ?_⟩) ?_ ?_
              rotate_left
              · intro w'
                go_simp
                with_reducible rfl
              rotate_left
              · simp only [Act.put, List.setIfInBounds_toArray, List.set_cons_zero, List.set_cons_succ, i64_w, i32_w]
                rfl
              refine pure_ (i := 9) (N := some 164) (v := ?_) (a' := ?_) #[true, true, true, true, false, false, true, true, false, true, false, false, false, false, false, false, false] rfl rfl (by kernel_rfl) (fun _ _ _ h => h) (Or.inl ⟨by rfl, ?_⟩) ?_ ?_
              rotate_left
              · intro w'
                go_simp
                with_reducible rfl
              rotate_left
              · simp only [Act.put, List.setIfInBounds_toArray, List.set_cons_zero, List.set_cons_succ, i64_w, i32_w]
                rfl
              refine pure_ (i := 10) (N := some 165) (v := ?_) (a' := ?_) #[true, true, true, true, false, false, true, true, false, true, true, false, false, false, false, false, false] rfl rfl (by kernel_rfl) (fun _ _ _ h => h) (Or.inl ⟨by rfl, ?_⟩) ?_ ?_
              rotate_left
              · intro w'
                go_simp
                with_reducible rfl
              rotate_left
              · simp only [Act.put, List.setIfInBounds_toArray, List.set_cons_zero, List.set_cons_succ, i64_w, i32_w]
                rfl
              refine one_ (i := 4) (N := some 159) #[true, true, true, true, true, false, true, true, false, true, true, false, false, false, false, false, false] rfl rfl (by kernel_rfl) (by decide) (fun K hK => ?_)
              refine goes_ Tryd.func35 (by kernel_rfl) rfl #[.slice Ax 2 cx] (by rfl) rfl rfl (by first | rfl | kernel_rfl | simp [Act.eval]) ?_
              refine ((k6.out _ ((hdd.out _ (hTd.out.old9 hbX'.out hgX'.out)).2.2)).1).mono ?_
              rintro e y1 ⟨rfl, hb_⟩
              have hT1 := Aside0.mk (hTd.out.below hb_)
              have hq1 := (hT1.out.cellU (Below.refl _ _ |>.mono hT1.out.sz) 2 rfl).1
              clear hb_
              refine ⟨_, rfl, hK.out _ _ hq1 (fun hHeld2 => ?_)⟩
              clear hK
              refine norm_ (a' := ?_) ?_ ?_
              rotate_left
              · show Act.put _ (some 159) _ = _
                simp only [Act.put, List.setIfInBounds_toArray, List.set_cons_zero, List.set_cons_succ, i64_w, i32_w]
                rfl
              refine pure_ (i := 5) (N := some 160) (v := ?_) (a' := ?_) #[true, true, true, true, true, true, true, true, false, true, true, false, false, false, false, false, false] rfl rfl (by kernel_rfl) (fun _ _ _ h => h) (Or.inl ⟨by rfl, ?_⟩) ?_ ?_
              rotate_left
              · intro w'
                go_simp
                with_reducible rfl
              rotate_left
              · simp only [Act.put, List.setIfInBounds_toArray, List.set_cons_zero, List.set_cons_succ, i64_w, i32_w]
                rfl
              refine one_ (i := 8) (N := some 163) #[true, true, true, true, true, true, true, true, true, true, true, false, false, false, false, false, false] rfl rfl (by kernel_rfl) (by decide) (fun K hK => ?_)
              refine goes_ Tryd.func35 (by kernel_rfl) rfl #[.slice A2' 2 c2'] (by rfl) rfl rfl (by first | rfl | kernel_rfl | simp [Act.eval]) ?_
              refine ((k6.out _ ((hdd.out _ (hT1.out.old9 hbX'.out hgX'.out)).2.2)).2.1).mono ?_
              rintro e y2 ⟨rfl, hb_⟩
              have hT2 := Aside0.mk (hT1.out.below hb_)
              have hq2 := (hT2.out.cellU (Below.refl _ _ |>.mono hT2.out.sz) 2 rfl).1
              clear hb_
              refine ⟨_, rfl, hK.out _ _ hq2 (fun hHeld3 => ?_)⟩
              clear hK
              refine norm_ (a' := ?_) ?_ ?_
              rotate_left
              · show Act.put _ (some 163) _ = _
                simp only [Act.put, List.setIfInBounds_toArray, List.set_cons_zero, List.set_cons_succ, i64_w, i32_w]
                rfl
              refine one_ (i := 11) (N := some 166) #[true, true, true, true, true, true, true, true, true, true, true, true, false, false, false, false, false] rfl rfl (by kernel_rfl) (by decide) (fun K hK => ?_)
              refine goes_ Tryd.func35 (by kernel_rfl) rfl #[.slice A4' 2 c4'] (by rfl) rfl rfl (by first | rfl | kernel_rfl | simp [Act.eval]) ?_
              refine ((k6.out _ ((hdd.out _ (hT2.out.old9 hbX'.out hgX'.out)).2.2)).2.2).mono ?_
              rintro e y3 ⟨rfl, hb_⟩
              have hT3 := Aside0.mk (hT2.out.below hb_)
              have hq3 := (hT3.out.cellU (Below.refl _ _ |>.mono hT3.out.sz) 2 rfl).1
              clear hb_
              refine ⟨_, rfl, hK.out _ _ hq3 (fun hHeld4 => ?_)⟩
              clear hK
              refine norm_ (a' := ?_) ?_ ?_
              rotate_left
              · show Act.put _ (some 166) _ = _
                simp only [Act.put, List.setIfInBounds_toArray, List.set_cons_zero, List.set_cons_succ, i64_w, i32_w]
                rfl
              refine pure_ (i := 12) (N := some 167) (v := ?_) (a' := ?_) #[true, true, true, true, true, true, true, true, true, true, true, true, true, false, false, false, false] rfl rfl (by kernel_rfl) (fun _ _ _ h => h) (Or.inl ⟨by rfl, ?_⟩) ?_ ?_
              rotate_left
              · intro w'
                go_simp
                with_reducible rfl
              rotate_left
              · simp only [Act.put, List.setIfInBounds_toArray, List.set_cons_zero, List.set_cons_succ, i64_w, i32_w]
                rfl
              refine one_ (i := 13) (N := some 168) #[true, true, true, true, true, true, true, true, true, true, true, true, true, true, false, false, false] rfl rfl (by kernel_rfl) (by decide) (fun K hK => ?_)
              refine value_ (v := .slice (some ⟨y3.heap.size, 0, none⟩) 1 1) (w1 := y3.alloc (.cells #[.int .u16 X1, .int .i64 X2, .int .i64 X3] 80)) (by rfl) rfl (by go_simp) ?_
              refine hK.out _ _ ((cellH (hT3.out.below (below_alloc (Below.refl _ _) (.cells #[.int .u16 X1, .int .i64 X2, .int .i64 X3] 80))).bx).trans rfl) (fun hHeld5 => ?_)
              clear hK
              refine norm_ (a' := ?_) ?_ ?_
              rotate_left
              · show Act.put _ (some 168) _ = _
                simp only [Act.put, List.setIfInBounds_toArray, List.set_cons_zero, List.set_cons_succ, i64_w, i32_w]
                rfl
              refine one_ (i := 14) (N := some 169) #[true, true, true, true, true, true, true, true, true, true, true, true, true, true, true, false, false] rfl rfl (by kernel_rfl) (by decide) (fun K hK => ?_)
              refine Kd.R_append_step kE (w0 := y3) X.heap.size (by rfl) (.tmp 156) (.tmp 168) 25 80 (.agg #[(.int .u16 0), (.int .i64 0), (.int .i64 0)]) 24 rfl Tryd.underlying25 (by rw [szE]; exact infoE) (by rw [szE]; rfl) (by rw [szE]; decide) (by decide) (.slice A2 n2 c2) (efsOf k (dat b 1)) (X1, X2, X3) [.int .u16 X1, .int .i64 X2, .int .i64 X3] (fun _ => True) (fun _ => False) rfl rfl (kE_mkM _ _ _ (X1, X2, X3)) (fun k hk => hk.elim) (fun _ _ => trivial) hT3.out.r2 (Below.refl _ _) hT3.out.sz hkl.out ?_
              intro v9 z1 hR9 hb9 hg9 _
              obtain ⟨A9, c9, rfl⟩ := Kd.R_slice hR9
              obtain ⟨n9, hn9⟩ : ∃ n9, n9 = (efsOf k (dat b 1) ++ [(X1, X2, X3)]).length := ⟨_, rfl⟩
              rw [← hn9] at hR9 ⊢
              clear hn9
              have hc9 := hT3.out.cellU (hb9.mono (by omega)) 2 rfl
              have qc9 := hc9.1
              have qf9 := hc9.2
              have hT5 := Aside0.mk (hT3.out.app2 hR9 hb9 hg9)
              clear hc9 hR9 hb9 hg9
              refine hK.out _ _ qc9 (fun hHeld6 => ?_)
              clear hK
              refine norm_ (a' := ?_) ?_ ?_
              rotate_left
              · show Act.put _ (some 169) _ = _
                simp only [Act.put, List.setIfInBounds_toArray, List.set_cons_zero, List.set_cons_succ, i64_w, i32_w]
                rfl
              refine pure_ (i := 15) (N := some 170) (v := ?_) (a' := ?_) #[true, true, true, true, true, true, true, true, true, true, true, true, true, true, true, true, false] rfl rfl (by kernel_rfl) (fun _ _ _ h => h) (Or.inl ⟨by rfl, ?_⟩) ?_ ?_
              rotate_left
              · intro w'
                go_simp
                with_reducible rfl
              rotate_left
              · simp only [Act.put, List.setIfInBounds_toArray, List.set_cons_zero, List.set_cons_succ, i64_w, i32_w]
                rfl
              refine last_ (i := 16) (N := none) #[true, true, true, true, true, true, true, true, true, true, true, true, true, true, true, true, true] rfl rfl (by kernel_rfl) (by decide) (fun K hK => ?_)
              refine skip_ (w1 := z1.setCell ⟨g, 2, none⟩ (.slice A9 n9 c9)) (by rfl) rfl (by go_simp) ?_
              refine hK.out _ _ ?_
              clear hK
              refine done_ (by kernel_rfl) ?_
              go_wp2
              go_roundg k1
              case measure => omega
              case rel => exact ⟨k + 1, A9, n9, c9, by first | rfl | (congr 1; omega), by omega, ⟨by rw [hsn.out]; exact hT5.out⟩⟩
            | zero =>
              have hd : decide ((6 * (k : Int)) + 6 ≤ (nd : Int)) = false := decide_eq_false (by omega)
              obtain rfl : k = Kr := by omega
              have hL2 : Aside0 ((efsOf k (dat b 1)).length ≤ 600000) := ⟨by rw [efsOf_len]; omega⟩
              have hse2 := hdd
              clear hdd
              go_wp2
              go_loopg [14] (n7 - 2) (fun gk v14 wr => ∃ (i j : Nat) (A3 : Option Addr) (n3 c3 : Nat), i = j + 2 ∧ v14 = .int .i64 (i : Int) ∧ j + gk = n7 - 2 ∧ Aside0 (T9 X wr g (.slice A1 n0 c1) (.slice A2 n2 c2) (.slice A3 n3 c3) (efsOf k (dat b 1)) (bkM b j) lo))
              case atStart => exact ⟨2, 0, _, _, _, rfl, rfl, by omega, hT9⟩
              case round =>
                clear hT9 hd q5
                obtain ⟨i, j, A3, n3, c3, hij, rfl, hj, hT9⟩ := hrel
                cases gk with
                | succ k1 =>
                  have hd : decide ((i : Int) < (n7 : Int)) = true := decide_eq_true (by omega)
                  have hd' : decide (i < n7) = true := decide_eq_true (by omega)
                  have hi7 : i < n7 := by omega
                  obtain ⟨Ai, ni, ci, hni_, hci, hsi_⟩ := hse.out i hi7
                  have hsi := Aside0.mk hsi_
                  have hni : Aside0 (ni = (dat b i).length ∧ ni ≤ 600000) := ⟨hni_, by
                    have := dat_le b i
                    rw [← hBd.out.len] at this
                    omega⟩
                  have hsn := Aside0.mk (bkM_snoc b j)
                  have hn0' := getB hBd.out.bb (9 + 10 * i)
                  unfold isB at hn0'
                  change 0 ≤ nmb b i ∧ nmb b i < 256 at hn0'
                  rw [← hij] at hsn
                  have hijj := Aside0.mk hij
                  generalize nmb b i = num at hsi hsn hn0'
                  obtain ⟨nu0, nu1⟩ := hn0'
                  have hnumw : wrap64 num = num := by unfold wrap64; omega
                  have hbl : Aside0 (((bkM b j).length + 1) * 32 ≤ 140737488355328) := ⟨by rw [bkM_len]; omega⟩
                  clear hni_ hsi_ hij
                  go_upto_region 31 with (fail)
                  have hTd := Aside0.mk (hT9.out.below (below_drew (Below.refl _ _)))
                  have hS1 : Aside0 (∀ u, T9 X u g (.slice A1 n0 c1) (.slice A2 n2 c2) (.slice A3 n3 c3) (efsOf k (dat b 1)) (bkM b j) lo → u.cell? ⟨g, 3, none⟩ = some (.slice A3 n3 c3) ∧ u.cell? ⟨g7, i * 3 + 1, none⟩ = some (.int .u8 num) ∧ u.cell? ⟨g7, i * 3 + 2, none⟩ = some (.slice Ai ni ci)) := ⟨fun u hu => ⟨(cellH hu.bx).trans rfl, (hsi.out u (hu.old9 hbX'.out hgX'.out)).1, (hsi.out u (hu.old9 hbX'.out hgX'.out)).2.1⟩⟩
                  have hq0 := hS1.out _ hTd.out
                  clear hT9
                  refine start_ (n := 20) (S := (fun w' => w'.cell? ⟨g, 3, none⟩ = some (.slice A3 n3 c3) ∧ w'.cell? ⟨g7, i * 3 + 1, none⟩ = some (.int .u8 num) ∧ w'.cell? ⟨g7, i * 3 + 2, none⟩ = some (.slice Ai ni ci))) (ds := [19]) #[false, false, false, false, false, false, false, false, false, false, false, false, false, false, false, false, false, false, false, false] (by kernel_rfl) rfl rfl hq0 (fun hHeld => ?_)
                  refine pure_ (i := 0) (N := some 177) (v := ?_) (a' := ?_) #[true, false, false, false, false, false, false, false, false, false, false, false, false, false, false, false, false, false, false, false] rfl rfl (by kernel_rfl) (fun _ _ _ h => h) (Or.inl ⟨by rfl, ?_⟩) ?_ ?_
                  rotate_left
                  · intro w'
                    go_simp
                    with_reducible rfl
                  rotate_left
                  · simp only [Act.put, List.setIfInBounds_toArray, List.set_cons_zero, List.set_cons_succ, i64_w, i32_w]
                    rfl
                  refine take_ (i := 1) (N := some 178) (v := ?_) (a' := ?_) #[true, true, false, false, false, false, false, false, false, false, false, false, false, false, false, false, false, false, false, false] rfl rfl (by kernel_rfl) (fun _ _ _ h => h) (Or.inl ⟨by rfl, ?_⟩) hHeld ?_ ?_
                  rotate_left
                  · rintro w' ⟨s0, s1, s2⟩
                    go_simp
                    with_reducible rfl
                  rotate_left
                  · simp only [Act.put, List.setIfInBounds_toArray, List.set_cons_zero, List.set_cons_succ, i64_w, i32_w]
                    rfl
                  refine pure_ (i := 2) (N := some 179) (v := ?_) (a' := ?_) #[true, true, true, false, false, false, false, false, false, false, false, false, false, false, false, false, false, false, false, false] rfl rfl (by kernel_rfl) (fun _ _ _ h => h) (Or.inl ⟨by rfl, ?_⟩) ?_ ?_
                  rotate_left
                  · intro w'
                    go_simp
                    with_reducible rfl
                  rotate_left
                  · simp only [Act.put, List.setIfInBounds_toArray, List.set_cons_zero, List.set_cons_succ, i64_w, i32_w]
                    rfl
                  refine pure_ (i := 3) (N := some 180) (v := ?_) (a' := ?_) #[true, true, true, true, false, false, false, false, false, false, false, false, false, false, false, false, false, false, false, false] rfl rfl (by kernel_rfl) (fun _ _ _ h => h) (Or.inl ⟨by rfl, ?_⟩) ?_ ?_
                  rotate_left
                  · intro w'
                    go_simp
                    with_reducible rfl
                  rotate_left
                  · simp only [Act.put, List.setIfInBounds_toArray, List.set_cons_zero, List.set_cons_succ, i64_w, i32_w]
                    rfl
                  refine pure_ (i := 4) (N := some 181) (v := ?_) (a' := ?_) #[true, true, true, true, true, false, false, false, false, false, false, false, false, false, false, false, false, false, false, false] rfl rfl (by kernel_rfl) (fun _ _ _ h => h) (Or.inl ⟨by rfl, ?_⟩) ?_ ?_
                  rotate_left
                  · intro w'
                    go_simp
                    with_reducible rfl
                  rotate_left
                  · simp only [Act.put, List.setIfInBounds_toArray, List.set_cons_zero, List.set_cons_succ, i64_w, i32_w]
                    rfl
                  refine pure_ (i := 5) (N := some 182) (v := ?_) (a' := ?_) #[true, true, true, true, true, true, false, false, false, false, false, false, false, false, false, false, false, false, false, false] rfl rfl (by kernel_rfl) (fun _ _ _ h => h) (Or.inl ⟨by rfl, ?_⟩) ?_ ?_
                  rotate_left
                  · intro w'
                    go_simp
                    with_reducible rfl
                  rotate_left
                  · simp only [Act.put, List.setIfInBounds_toArray, List.set_cons_zero, List.set_cons_succ, i64_w, i32_w]
                    rfl
                  refine take_ (i := 6) (N := some 183) (v := ?_) (a' := ?_) #[true, true, true, true, true, true, true, false, false, false, false, false, false, false, false, false, false, false, false, false] rfl rfl (by kernel_rfl) (fun _ _ _ h => h) (Or.inl ⟨by rfl, ?_⟩) hHeld ?_ ?_
                  rotate_left
                  · rintro w' ⟨s0, s1, s2⟩
                    go_simp
                    with_reducible rfl
                  rotate_left
                  · simp only [Act.put, List.setIfInBounds_toArray, List.set_cons_zero, List.set_cons_succ, i64_w, i32_w]
                    rfl
                  refine pure_ (i := 7) (N := some 184) (v := ?_) (a' := ?_) #[true, true, true, true, true, true, true, true, false, false, false, false, false, false, false, false, false, false, false, false] rfl rfl (by kernel_rfl) (fun _ _ _ h => h) (Or.inl ⟨by rfl, ?_⟩) ?_ ?_
                  rotate_left
                  · intro w'
                    go_simp
                    with_reducible rfl
                  rotate_left
                  · simp only [Act.put, List.setIfInBounds_toArray, List.set_cons_zero, List.set_cons_succ, i64_w, i32_w]
                    rfl
                  refine pure_ (i := 9) (N := some 186) (v := ?_) (a' := ?_) #[true, true, true, true, true, true, true, true, false, true, false, false, false, false, false, false, false, false, false, false] rfl rfl (by kernel_rfl) (fun _ _ _ h => h) (Or.inl ⟨by rfl, ?_⟩) ?_ ?_
                  rotate_left
                  · intro w'
                    go_simp
                    with_reducible rfl
                  rotate_left
                  · simp only [Act.put, List.setIfInBounds_toArray, List.set_cons_zero, List.set_cons_succ, i64_w, i32_w]
                    rfl
                  refine pure_ (i := 10) (N := some 187) (v := ?_) (a' := ?_) #[true, true, true, true, true, true, true, true, false, true, true, false, false, false, false, false, false, false, false, false] rfl rfl (by kernel_rfl) (fun _ _ _ h => h) (Or.inl ⟨by rfl, ?_⟩) ?_ ?_
                  rotate_left
                  · intro w'
                    go_simp
                    with_reducible rfl
                  rotate_left
                  · simp only [Act.put, List.setIfInBounds_toArray, List.set_cons_zero, List.set_cons_succ, i64_w, i32_w]
                    rfl
                  refine pure_ (i := 11) (N := some 188) (v := ?_) (a' := ?_) #[true, true, true, true, true, true, true, true, false, true, true, true, false, false, false, false, false, false, false, false] rfl rfl (by kernel_rfl) (fun _ _ _ h => h) (Or.inl ⟨by rfl, ?_⟩) ?_ ?_
                  rotate_left
                  · intro w'
                    go_simp
                    with_reducible rfl
                  rotate_left
                  · simp only [Act.put, List.setIfInBounds_toArray, List.set_cons_zero, List.set_cons_succ, i64_w, i32_w]
                    rfl
                  refine pure_ (i := 12) (N := some 189) (v := ?_) (a' := ?_) #[true, true, true, true, true, true, true, true, false, true, true, true, true, false, false, false, false, false, false, false] rfl rfl (by kernel_rfl) (fun _ _ _ h => h) (Or.inl ⟨by rfl, ?_⟩) ?_ ?_
                  rotate_left
                  · intro w'
                    go_simp
                    with_reducible rfl
                  rotate_left
                  · simp only [Act.put, List.setIfInBounds_toArray, List.set_cons_zero, List.set_cons_succ, i64_w, i32_w]
                    rfl
                  refine take_ (i := 13) (N := some 190) (v := ?_) (a' := ?_) #[true, true, true, true, true, true, true, true, false, true, true, true, true, true, false, false, false, false, false, false] rfl rfl (by kernel_rfl) (fun _ _ _ h => h) (Or.inl ⟨by rfl, ?_⟩) hHeld ?_ ?_
                  rotate_left
                  · rintro w' ⟨s0, s1, s2⟩
                    go_simp
                    with_reducible rfl
                  rotate_left
                  · simp only [Act.put, List.setIfInBounds_toArray, List.set_cons_zero, List.set_cons_succ, i64_w, i32_w]
                    rfl
                  refine one_ (i := 8) (N := some 185) #[true, true, true, true, true, true, true, true, true, true, true, true, true, true, false, false, false, false, false, false] rfl rfl (by kernel_rfl) (by decide) (fun K hK => ?_)
                  refine value_ (v := .slice (some ⟨wr.drew.heap.size, 0, none⟩) 0 0) (w1 := wr.drew.alloc (.cells #[] 5)) (by rfl) rfl (by go_simp) ?_
                  have hR1 := Aside0.mk (row0 wr.drew (Nat.le_refl _))
                  have hb1 := below_alloc (Below.refl wr.drew.heap.size wr.drew) (.cells #[] 5)
                  have hT1 := Aside0.mk (hTd.out.below hb1)
                  have hb1' := Aside0.mk hb1
                  generalize wr.drew.alloc (.cells #[] 5) = e1 at hR1 hT1 hb1' ⊢
                  clear hb1
                  refine hK.out _ _ (hS1.out _ hT1.out) (fun hHeld2 => ?_)
                  clear hK
                  refine norm_ (a' := ?_) ?_ ?_
                  rotate_left
                  · show Act.put _ (some 185) _ = _
                    simp only [Act.put, List.setIfInBounds_toArray, List.set_cons_zero, List.set_cons_succ, i64_w, i32_w]
                    rfl
                  refine one_ (i := 14) (N := some 191) #[true, true, true, true, true, true, true, true, true, true, true, true, true, true, true, false, false, false, false, false] rfl rfl (by kernel_rfl) (by decide) (fun K hK => ?_)
                  refine appB_step (w0 := wr.drew) wr.drew.heap.size (by rfl) (.tmp 185) (.tmp 190) rfl _ [] (dat b i) Ai ni ci rfl rfl hR1.out ((hsi.out _ (hT1.out.old9 hbX'.out hgX'.out)).2.2) hb1'.out hb1'.out.size (by have := hni.out.2; simp; omega) ?_
                  intro v5 e2 hR5 hb5 hg5
                  rw [List.nil_append] at hR5
                  obtain ⟨A5, c5, rfl⟩ := Kd.R_slice hR5
                  rw [← hni.out.1] at hR5 ⊢
                  have hR2 : Aside0 (Kd.R (Kd.int .u8) 5 e2 X.heap.size (fun k => wr.drew.heap.size ≤ k) (.slice A5 ni c5) (dat b i)) := ⟨Kd.R_lower (Kd.R_mono (Kd.R_bound hR5) (fun k hk => hk.2.1)) hTd.out.sz⟩
                  have hT2 := Aside0.mk (hTd.out.below hb5)
                  clear hR5 hb5 hg5
                  refine hK.out _ _ (hS1.out _ hT2.out) (fun hHeld3 => ?_)
                  clear hK
                  refine norm_ (a' := ?_) ?_ ?_
                  rotate_left
                  · show Act.put _ (some 191) _ = _
                    simp only [Act.put, List.setIfInBounds_toArray, List.set_cons_zero, List.set_cons_succ, i64_w, i32_w]
                    rfl
                  refine pure_ (i := 15) (N := some 192) (v := ?_) (a' := ?_) #[true, true, true, true, true, true, true, true, true, true, true, true, true, true, true, true, false, false, false, false] rfl rfl (by kernel_rfl) (fun _ _ _ h => h) (Or.inl ⟨by rfl, ?_⟩) ?_ ?_
                  rotate_left
                  · intro w'
                    go_simp
                    with_reducible rfl
                  rotate_left
                  · simp only [Act.put, List.setIfInBounds_toArray, List.set_cons_zero, List.set_cons_succ, i64_w, i32_w]
                    rfl
                  refine one_ (i := 16) (N := some 193) #[true, true, true, true, true, true, true, true, true, true, true, true, true, true, true, true, true, false, false, false] rfl rfl (by kernel_rfl) (by decide) (fun K hK => ?_)
                  refine value_ (v := .slice (some ⟨e2.heap.size, 0, none⟩) 1 1) (w1 := e2.alloc (.cells #[.int .i64 num, .slice A5 ni c5] 82)) (by rfl) rfl (by go_simp) ?_
                  refine hK.out _ _ (hS1.out _ (hT2.out.below (below_alloc (Below.refl _ _) _))) (fun hHeld2 => ?_)
                  clear hK
                  refine norm_ (a' := ?_) ?_ ?_
                  rotate_left
                  · show Act.put _ (some 193) _ = _
                    simp only [Act.put, List.setIfInBounds_toArray, List.set_cons_zero, List.set_cons_succ, i64_w, i32_w]
                    rfl
                  refine one_ (i := 17) (N := some 194) #[true, true, true, true, true, true, true, true, true, true, true, true, true, true, true, true, true, true, false, false] rfl rfl (by kernel_rfl) (by decide) (fun K hK => ?_)
                  refine appBkD X.heap.size (by rfl) (.tmp 178) (.tmp 193) rfl (.slice A3 n3 c3) (bkM b j) num (.slice A5 ni c5) (dat b i) wr.drew.heap.size rfl rfl hR2.out (fun k hk => Kd.R_lt hTd.out.r3 k hk) hT2.out.r3 hT2.out.sz hbl.out ?_
                  intro v9 z1 hR9 hb9 hg9
                  obtain ⟨A9, c9, rfl⟩ := Kd.R_slice hR9
                  obtain ⟨n9, hn9⟩ : ∃ n9, n9 = (bkM b j ++ [(num, dat b i)]).length := ⟨_, rfl⟩
                  rw [← hn9] at hR9 ⊢
                  clear hn9
                  have hc9 := hT2.out.cellU (hb9.mono (by omega)) 3 rfl
                  have qc9 := hc9.1
                  have qf9 := hc9.2
                  have hT5 := Aside0.mk (hT2.out.app3 hR9 hb9 hg9)
                  have hF9 : Aside0 (Below W6.heap.size W6 z1) := ⟨(hT2.out.old9 hbX'.out hgX'.out).trans (hb9.mono (by have := hbX'.out.size; omega))⟩
                  have hs9 := hsi.out z1 hF9.out
                  clear hc9 hR9 hb9 hg9
                  refine hK.out _ _ ⟨qc9, hs9.1, hs9.2.1⟩ (fun hHeld6 => ?_)
                  clear hK
                  refine norm_ (a' := ?_) ?_ ?_
                  rotate_left
                  · show Act.put _ (some 194) _ = _
                    simp only [Act.put, List.setIfInBounds_toArray, List.set_cons_zero, List.set_cons_succ, i64_w, i32_w]
                    rfl
                  refine pure_ (i := 18) (N := some 195) (v := ?_) (a' := ?_) #[true, true, true, true, true, true, true, true, true, true, true, true, true, true, true, true, true, true, true, false] rfl rfl (by kernel_rfl) (fun _ _ _ h => h) (Or.inl ⟨by rfl, ?_⟩) ?_ ?_
                  rotate_left
                  · intro w'
                    go_simp
                    with_reducible rfl
                  rotate_left
                  · simp only [Act.put, List.setIfInBounds_toArray, List.set_cons_zero, List.set_cons_succ, i64_w, i32_w]
                    rfl
                  refine last_ (i := 19) (N := none) #[true, true, true, true, true, true, true, true, true, true, true, true, true, true, true, true, true, true, true, true] rfl rfl (by kernel_rfl) (by decide) (fun K hK => ?_)
                  refine skip_ (w1 := z1.setCell ⟨g, 3, none⟩ (.slice A9 n9 c9)) (by rfl) rfl (by go_simp) ?_
                  refine hK.out _ _ ?_
                  clear hK
                  refine done_ (by kernel_rfl) ?_
                  go_wp2
                  go_roundg k1
                  case measure => omega
                  case rel => exact ⟨i + 1, j + 1, A9, n9, c9, by have := hijj.out; omega, by first | rfl | (congr 1), by omega, ⟨by rw [hsn.out]; exact hT5.out⟩⟩
                | zero =>
                  have hd : decide ((i : Int) < (n7 : Int)) = false := decide_eq_false (by omega)
                  have hd' : decide (i < n7) = false := decide_eq_false (by omega)
                  obtain rfl : i = n7 := by omega
                  have hjb : Aside0 (j = nS b - 2) := ⟨by rw [hms.out]; omega⟩
                  have hsz1 := Aside0.mk (dat_len hBd.out.bb hTab.out (j := 1) (by rw [hms.out]; omega))
                  have hold9 := Aside0.mk (hT9.out.old9 hbX'.out hgX'.out)
                  have q5 := (hse2.out _ hold9.out).2.1
                  have hcc : Aside0 (cartOf b = ⟨dat b 0, lo, efsOf k (dat b 1), bkM b j⟩) := ⟨by
                    unfold cartOf
                    rw [hloo.out, hjb.out]
                    congr 1
                    rw [show (siz b 1).toNat / 6 = k by have := hsz1.out; have := hnd.out.1; omega]⟩
                  have hCt := ref_ct hT9.out hRX'.out hxX'.out hn0.out.1 hcc.out
                  have kC := kChkR hCt (by rw [hcc.out]; have := hL2.out; show (efsOf k (dat b 1)).length < _; omega) (by rw [hcc.out]; show (bkM b j).length < _; rw [bkM_len]; omega)
                  have kCC := Aside0.mk kC
                  have hCtt := Aside0.mk hCt
                  obtain ⟨x0, x1, x2, x3, _, _, _, _⟩ := box4 hT9.out.bx
                  have hbw : Aside0 (∀ u, Below wr.heap.size wr u → Below w.heap.size w u ∧ u.heap[w.heap.size]? = some (.cells #[.slice none 0 0, .int .u16 0, .slice none 0 0, .slice none 0 0] 28 (0, 0))) := ⟨fun u hb => by
                    have s1 := hold.out.size
                    have s2 := hold9.out.size
                    exact ⟨hold.out.trans ((hold9.out.trans (hb.mono s2)).mono s1), ((hold9.out.trans (hb.mono s2)).block _ (by have := hsz6.out; omega)).trans hbox6.out⟩⟩
                  clear hCt kC hij
                  by_cases h6 : nd % 6 = 0
                  · have e6 : ((nd : Int) % 6 != 0) = false := by rw [show (nd : Int) % 6 = 0 by omega]; rfl
                    have h60 : Aside0 (siz b 1 % 6 = 0) := ⟨by have := hsz1.out; have := hnd.out.1; omega⟩
                    by_cases hoc : OkC (cartOf b)
                    · rw [chk_ok hoc] at kCC
                      have hdd : Aside0 (decB r = (cartOf b, 0)) := ⟨by rw [hD.out]; exact (if_neg (fun h => h hTab.out)).trans ((if_neg (fun h => h h60.out)).trans (if_neg (fun h => h hoc)))⟩
                      clear hoc
                      go_wp2_with (first | (go_at_call 37; ((with_reducible refine kCC.out.mono ?_); rintro e W9 ⟨rfl, hb_⟩; obtain ⟨hbe, hbx_⟩ := hbw.out _ hb_; obtain ⟨y0, y1, y2, y3, z0, z1, z2, z3⟩ := box4 hbx_; obtain ⟨x0, x1, x2, x3, _, _, _, _⟩ := box4 ((hb_.block _ (heap_lt hT9.out.bx)).trans hT9.out.bx); have hT99 := Aside0.mk (hT9.out.below hb_); have hbx9 := Aside0.mk hbx_; have hbe9 := Aside0.mk hbe; clear hb_ hbe hbx_)))
                      have hdd2 := hdd.out
                      exact ref_ret rfl rfl (put4 hbx9.out _ _ _ _) ⟨_, by rw [hdd2], by rw [hdd2]; exact ref_ct2 hT99.out hRX'.out hxX'.out hn0.out.1 hcc.out (put4F W9 w.heap.size _ _ _ _) (by have := hsz6.out; omega) hbX'.out.size (by have := hsz6.out; omega), hbe9.out.trans ((put4F W9 w.heap.size _ _ _ _).below hbe9.out.size (fun k hk e => by omega))⟩
                    · rw [chk_bad hoc] at kCC
                      have hdd : Aside0 (decB r = (z0, 73)) := ⟨by rw [hD.out]; exact (if_neg (fun h => h hTab.out)).trans ((if_neg (fun h => h h60.out)).trans (if_pos hoc))⟩
                      clear hoc
                      go_wp2_with (first | (go_at_call 37; ((with_reducible refine kCC.out.mono ?_); rintro e W9 ⟨rfl, hb_⟩; obtain ⟨hbe, hbx_⟩ := hbw.out _ hb_; obtain ⟨y0, y1, y2, y3, z0, z1, z2, z3⟩ := box4 hbx_; have hbx9 := Aside0.mk hbx_; have hbe9 := Aside0.mk hbe; clear hb_ hbe hbx_)))
                      exact ref_err hdd.out rfl rfl hbx9.out hbe9.out
                  · have e6 : ((nd : Int) % 6 != 0) = true := bne_iff_ne.2 (by omega)
                    have hdd : Aside0 (decB r = (z0, 73)) := ⟨by
                      rw [hD.out]
                      exact (if_neg (fun h => h hTab.out)).trans (if_pos (by have := hsz1.out; have := hnd.out.1; omega))⟩
                    obtain ⟨hbe, hbx_⟩ := hbw.out _ (Below.refl _ _)
                    obtain ⟨y0, y1, y2, y3, z0, z1, z2, z3⟩ := box4 hbx_
                    have hbx9 := Aside0.mk hbx_
                    have hbe9 := Aside0.mk hbe
                    clear hbe hbx_
                    go_wp2
                    exact ref_err hdd.out rfl rfl hbx9.out hbe9.out
        · have hbad : Aside0 (¬ TabOK b) := ⟨fun hn => hrg (fun j hj => hn.rt j (by rw [hms.out]; exact hj))⟩
          have hR1 : Aside0 (rgtB b n7 0 = false) := ⟨rgtB_false hrg⟩
          rw [hR1.out] at kRR
          clear hrg hR1 hok
          go_wp2_with (first | (go_at_call 36; ((with_reducible refine kRR.out.mono ?_); rintro e W6 ⟨rfl, hb_⟩; have hT6 := Aside0.mk (hT.out.step (drawn_below hb_)); obtain ⟨y0, y1, y2, y3, z0, z1, z2, z3⟩ := box4 (hT6.out.box hq2.out); clear hb_)))
          exact ref_err (ref_tab_bad hD.out hbad.out) rfl rfl (hT6.out.box hq2.out) hT6.out.old
      · have hbad : Aside0 (¬ TabOK b) := ⟨fun hn => haE2 (by
          have := hn.sum
          rw [hms.out, ← hat.out, ← hBd.out.len] at this
          omega)⟩
        have e1 : ((a : Int) != (N : Int) - 4) = true := bne_iff_ne.2 (by omega)
        obtain ⟨y0, y1, y2, y3, z0, z1, z2, z3⟩ := box4 (hT.out.box hq2.out)
        go_wp2
        exact ref_err (ref_tab_bad hD.out hbad.out) rfl rfl (hT.out.box hq2.out) hT.out.old
end
end Go.Proofs.YtembdahclmffjaaDoor.Pk
