/- cart.read: the walk. -/
import Derived.Test.YtembdahclmffjaaDoorZb
namespace Go.Proofs.YtembdahclmffjaaDoor.Pk
open Go.RowKit Go.Proofs.YtembdahclmffjaaDoorW.PrintWords Go.Proofs.YtembdahclmffjaaDoorW.PrintLast Go.Proofs.YtembdahclmffjaaDoorW.PrintMore Go.Proofs.YtembdahclmffjaaDoor.Mem
attribute [local go_sem] max2_int min2_int max_two min_two max_three min_three max_four min_four
set_option linter.unusedVariables false
set_option linter.unusedSimpArgs false
set_option maxRecDepth 100000 in
set_option maxHeartbeats 8000000 in
theorem Read {w : World} {A : Option Addr} {c : Nat} {b : List Int} (hC : Kd.C (Kd.int .u8) w A b.length b) (hBb : allB b) (h8 : 8 ≤ b.length) (hl : b.length ≤ 600000) :
    Calls Tryd.prog 34 #[.slice A b.length c] w (ReadPost b w) := by
  obtain ⟨N, hN⟩ : ∃ N, N = b.length := ⟨_, rfl⟩
  have hCC := Aside0.mk hC
  have hBB := Aside0.mk hBb
  have hNN := Aside0.mk hN
  have h5 := getB hBb 5
  unfold isB at h5
  obtain ⟨m, hm⟩ : ∃ m : Nat, b.getD 5 0 = (m : Int) := Int.eq_ofNat_of_zero_le h5.1
  have hm256 : m < 256 := by omega
  have hmS : nS b = m := by unfold nS; rw [hm]; rfl
  have hmm := Aside0.mk hm
  have hms := Aside0.mk hmS
  rw [← hN] at h8 hl ⊢
  have h8' := Aside0.mk h8
  have hW0 := Aside0.mk (below_alloc (Below.refl w.heap.size w) (.cells #[.slice none 0 0, .int .u16 0, .slice none 0 0, .slice none 0 0] 28))
  have kN := NewReader (c := c) (Kd.C_below hC hW0.out) (by omega)
  rw [← hN, World.size_alloc] at kN
  have kNN := Aside0.mk kN
  clear hC hBb hN h5 hm hmS kN
  by_cases hd : 2 ≤ m ∧ m ≤ 18 ∧ 8 + 10 * m ≤ N
  · obtain ⟨d1, d2, d3⟩ := hd
    have e3 : decide ((8 : Int) + 10 * (m : Int) ≤ (N : Int)) = true := decide_eq_true (by omega)
    go_enter Tryd.func34, Tryd.ntmps34
    go_wp2_with (first | (go_at_call 32; ((with_reducible refine kNN.out.mono ?_); rintro e w1 ⟨g, rfl, hR, hb⟩; have hgl := hR.lt; have hgb := hR.base; have hA := Aside0.mk (show At w1 (w.heap.size + 1) (fun k => w.heap.size + 1 ≤ k ∧ k < w1.heap.size) g b 0 from ⟨hR.mono (fun k hk hlt => ⟨hk, hlt⟩), hBB.out, Nat.zero_le _⟩); have hB1 := Aside0.mk (hW0.out.trans (hb.mono (by simp))); have hX1 := Aside0.mk ((hb.block w.heap.size (by simp)).trans (World.alloc_heap_new w _)); clear hR hb)) | (go_at_call 46; ((with_reducible refine (hA.out.bytes 5 5 rfl (by have := hNN.out; have := h8'.out; omega) (by have := hNN.out; omega)).mono ?_); rintro e w2 ⟨v2, rfl, _, hA2, hF2⟩; have hA2 := Aside0.mk (show At w2 (w.heap.size + 1) (fun k => w.heap.size + 1 ≤ k ∧ k < w1.heap.size) g b 5 from hA2); have hB2 := Aside0.mk (hB1.out.trans (hF2.below (B := w.heap.size) (by omega) (by omega))); have hs2 := hF2.size; have hX2 := Aside0.mk (hF2.heap hX1.out (by omega)); clear hF2)) | (go_at_call 47; ((with_reducible refine (hA2.out.byte (by have := hNN.out; have := h8'.out; omega)).mono ?_); rw [hmm.out]; rintro e w3 ⟨rfl, hA3, hF3⟩; have hA3 := Aside0.mk (show At w3 (w.heap.size + 1) (fun k => w.heap.size + 1 ≤ k ∧ k < w1.heap.size) g b 6 from hA3); have hB3 := Aside0.mk (hB2.out.trans (hF3.below (B := w.heap.size) hB2.out.size (by omega))); have hX3 := Aside0.mk (hF3.heap hX2.out (by omega)); have hs3 := hF3.size; clear hF3)) | (go_at_call 48; ((with_reducible refine (hA3.out.cell (by have := hNN.out; have := h8'.out; omega)).mono ?_); rintro e w4 ⟨rfl, hA4, hF4⟩; have hA4 := Aside0.mk (show At w4 (w.heap.size + 1) (fun k => w.heap.size + 1 ≤ k ∧ k < w1.heap.size) g b 8 from hA4); have hB4 := Aside0.mk (hB3.out.trans (hF4.below (B := w.heap.size) hB3.out.size (by omega))); have hX4 := Aside0.mk (hF4.heap hX3.out (by omega)); have hs4 := hF4.size; clear hF4)))
    go_wp2_with (go_at_call 31; ((with_reducible refine (want_yes 72 _).mono ?_); rintro e w5 ⟨rfl, rfl⟩))
    have hT0 := Aside0.mk (show T1 w (w4.alloc (.cells #[.slice none 0 0, .int .u16 (low2 b 6), .slice none 0 0, .slice none 0 0] 28)) w.heap.size w4.heap.size (w.heap.size + 1) (fun k => w.heap.size + 1 ≤ k ∧ k < w1.heap.size) g b 8 (.slice none 0 0) (.slice none 0 0) (.slice none 0 0) (.slice none 0 0) [] [] [] [] (low2 b 6) from ⟨hA4.out.below (below_alloc (Below.refl _ _) _), Kd.R_nil _ _ _ _ _, Kd.R_nil _ _ _ _ _, Kd.R_nil _ _ _ _ _, Kd.R_nil _ _ _ _ _, World.alloc_heap_new w4 _, ((below_alloc (Below.refl w4.heap.size w4) _).block _ (heap_lt hX4.out)).trans hX4.out, below_alloc hB4.out _, Nat.le_refl _, by omega, by omega, fun k hk => ⟨by omega, by omega⟩⟩)
    have hwx := Aside0.mk (⟨hs2, hs3, hs4, hgl, hgb⟩ : w1.heap.size ≤ w2.heap.size ∧ w2.heap.size ≤ w3.heap.size ∧ w3.heap.size ≤ w4.heap.size ∧ g < w1.heap.size ∧ w.heap.size + 1 ≤ g)
    clear hA hA2 hA3 hA4 hB1 hB2 hB3 hB4 hX1 hX2 hX3 hX4 hs2 hs3 hs4 hW0 kNN e3 h8'
    go_loopg [6, 7, 8, 45] m (fun gk v6 v7 v8 v45 wr => ∃ (i : Nat) (a lst : Int) (u8 u3 : Value), v8 = u8 ∧ v6 = .int .i64 a ∧ v7 = .int .i64 lst ∧ v45 = .int .i64 (i : Int) ∧ i + gk = m ∧ 0 ≤ a ∧ a ≤ (N : Int) ∧ -1 ≤ lst ∧ lst ≤ 15 ∧ Aside0 (a = ats b i) ∧ Aside0 (lst = lastI b i) ∧ Aside0 (okT b i) ∧ Aside0 (T1 w wr w.heap.size w4.heap.size (w.heap.size + 1) (fun k => w.heap.size + 1 ≤ k ∧ k < w1.heap.size) g b (8 + 10 * i) u8 (.slice none 0 0) (.slice none 0 0) u3 ((List.range i).map (siz b)) [] [] (nbk b i) (low2 b 6)))
    case atStart => exact ⟨0, 8 + 10 * (m : Int), -1, _, _, rfl, rfl, rfl, rfl, by omega, by omega, by omega, by omega, by omega, ⟨by rw [ats, hms.out]⟩, ⟨rfl⟩, ⟨fun j hj => by omega⟩, hT0⟩
    case round =>
      obtain ⟨i, a, lst, u8, u3, hu8, rfl, rfl, rfl, hi, ha0, ha1, hl0, hl1, hat, hls, hok, hT⟩ := hrel
      replace hu8 := hu8.symm
      subst hu8
      cases gk with
      | succ k1 =>
        have hd : decide ((i : Int) < (m : Int)) = true := decide_eq_true (by omega)
        have hd' : decide (i < m) = true := decide_eq_true (by omega)
        have hfit : 8 + 10 * i + 10 ≤ b.length := by have := hNN.out; omega
        have hK0 := getB hBB.out (8 + 10 * i)
        have hD0 := getB hBB.out (8 + 10 * i + 1)
        have hF0 := low4_bd hBB.out (8 + 10 * i + 1 + 1)
        have hZ0 := low4_bd hBB.out (8 + 10 * i + 1 + 1 + 4)
        unfold isB at hK0 hD0
        obtain ⟨K, hK⟩ : ∃ x, b.getD (8 + 10 * i) 0 = x := ⟨_, rfl⟩
        obtain ⟨D, hD⟩ : ∃ x, b.getD (8 + 10 * i + 1) 0 = x := ⟨_, rfl⟩
        obtain ⟨F, hF⟩ : ∃ x, low4 b (8 + 10 * i + 1 + 1) = x := ⟨_, rfl⟩
        obtain ⟨Z, hZ⟩ : ∃ x, low4 b (8 + 10 * i + 1 + 1 + 4) = x := ⟨_, rfl⟩
        rw [hK] at hK0
        rw [hD] at hD0
        rw [hF] at hF0
        rw [hZ] at hZ0
        have hkn : Aside0 (knd b i = K ∧ nmb b i = D ∧ frm b i = F ∧ siz b i = Z) := ⟨hK, by rw [← hD]; unfold nmb; rw [show 9 + 10 * i = 8 + 10 * i + 1 by omega], by rw [← hF]; unfold frm; rw [show 10 + 10 * i = 8 + 10 * i + 1 + 1 by omega], by rw [← hZ]; unfold siz; rw [show 14 + 10 * i = 8 + 10 * i + 1 + 1 + 4 by omega]⟩
        have hK' := Aside0.mk hK
        have hD' := Aside0.mk hD
        have hF' := Aside0.mk hF
        have hZ' := Aside0.mk hZ
        obtain ⟨k0, k1'⟩ := hK0
        obtain ⟨dd0, dd1⟩ := hD0
        obtain ⟨f0, f1⟩ := hF0
        obtain ⟨z0', z1⟩ := hZ0
        have hfit' := Aside0.mk hfit
        have him := Aside0.mk (show i < m by omega)
        clear hK hD hF hZ hfit
        -- the wanted kind
        obtain ⟨Wt, hWt⟩ : ∃ Wt : Int, (if (3 : Int) < (i : Int) + 1 then 3 else (i : Int) + 1) = Wt := ⟨_, rfl⟩
        have hWm : Wt = ((min (i + 1) 3 : Nat) : Int) := by rw [← hWt]; split <;> omega
        have hW256 : 0 ≤ Wt ∧ Wt ≤ 3 := by omega
        have hw0 := hW256.1
        have hw1 := hW256.2
        have hWmm := Aside0.mk hWm
        clear hWm hW256
        by_cases hgood : K = Wt ∧ F = a ∧ Z ≤ (N : Int) - a
        · obtain ⟨gK, gF, gZ⟩ := hgood
          have hent : Aside0 (entOK b i) := ⟨by
            unfold entOK
            rw [hkn.out.2.2.1, hkn.out.2.2.2, ← hat.out]
            exact ⟨gF, by have := hNN.out; omega⟩⟩
          have e3 : decide (Z ≤ (N : Int) - a) = true := decide_eq_true gZ
          subst gF
          by_cases h2i : 2 ≤ i
          · obtain rfl : Wt = 3 := by have := hWmm.out; omega
            subst gK
            have h2' := Aside0.mk h2i
            by_cases hg2 : D > lst ∧ D < 16
            · obtain ⟨g5, g6⟩ := hg2
              have e6 : decide (D < 16) = true := decide_eq_true g6
              have e5 : decide (D > lst) = true := decide_eq_true g5
              have hrg : Aside0 (rgt b i) := ⟨by
                unfold rgt
                rw [hkn.out.1, hkn.out.2.1]
                refine ⟨hWmm.out, fun h => by have := h2'.out; omega, by omega, fun h => ?_⟩
                have h9 := hls.out
                unfold lastI at h9
                rw [if_neg (by omega)] at h9
                omega⟩
              go_wp2_with (first | (go_at_call 47; ((with_reducible refine (hT.out.r.byte (by have := hfit'.out; omega)).mono ?_); rw [hK'.out]; rintro e y1 ⟨rfl, hA, hFr⟩; have hT1 := Aside0.mk (hT.out.read hA hFr); clear hA hFr)) | (go_at_call 47; ((with_reducible refine (hT1.out.r.byte (by have := hfit'.out; omega)).mono ?_); rw [hD'.out]; rintro e y2 ⟨rfl, hA, hFr⟩; have hT2 := Aside0.mk (hT1.out.read hA hFr); clear hA hFr)) | (go_at_call 33; ((with_reducible refine (hT2.out.r.word (by have := hfit'.out; omega)).mono ?_); rw [hF'.out]; rintro e y3 ⟨rfl, hA, hFr⟩; have hT3 := Aside0.mk (hT2.out.read hA hFr); clear hA hFr)) | (go_at_call 33; ((with_reducible refine (hT3.out.r.word (by have := hfit'.out; omega)).mono ?_); rw [hZ'.out]; rintro e y4 ⟨rfl, hA, hFr⟩; have hT4 := Aside0.mk (hT3.out.read hA hFr); have qb := hT4.out.cell 3 rfl; clear hA hFr)) | (go_at_call 31; ((with_reducible refine (want_yes 72 _).mono ?_); rintro e w5 ⟨rfl, rfl⟩)) | (at_builtin; (refine appBk (w4.heap.size + 1) rfl _ _ rfl u3 (nbk b i) D rfl rfl hT4.out.r3 hT4.out.lt (by have := him.out; simp [nbk]; omega) ?_); intro v9 x1 hR9 hb9 hg9; obtain ⟨A9, c9, rfl⟩ := Kd.R_slice hR9; obtain ⟨n9, hn9⟩ : ∃ n9, n9 = (nbk b i ++ [(D, ([] : List Int))]).length := ⟨_, rfl⟩; rw [← hn9] at hR9 ⊢; clear hn9; have hc9 := hT4.out.cellU hb9 3 rfl; have qc := hc9.1; have qf := hc9.2; have hT5 := Aside0.mk (hT4.out.app3 hR9 hb9 hg9); clear hc9 hR9 hb9 hg9) | (at_builtin; (refine appI (w4.heap.size + 1) rfl _ _ rfl u8 ((List.range i).map (siz b)) Z rfl (by first | rfl | (simp [World.setCell]; rfl) | simp [World.setCell]) hT5.out.r8 hT5.out.lt (by have := him.out; simp; omega) ?_); intro v8 x2 hR9 hb9 hg9; have hT6 := Aside0.mk (hT5.out.app8 hR9 hb9 hg9); clear hR9 hb9 hg9))
              go_roundg k1
              case measure => omega
              case rel =>
                refine ⟨i + 1, F + Z, D, v8, .slice A9 n9 c9, rfl, rfl, rfl, rfl, by omega, by omega, by omega, by omega, by omega, ⟨by rw [ats, hkn.out.2.2.2, ← hat.out]⟩, ⟨?_⟩, ⟨okT_snoc hok.out hent.out hrg.out⟩, ⟨?_⟩⟩
                · unfold lastI
                  rw [if_neg (by omega), show i + 1 - 1 = i by omega, hkn.out.2.1]
                · have h9 := hT6.out
                  rw [show 8 + 10 * (i + 1) = 8 + 10 * i + 1 + 1 + 4 + 4 by omega, sizes_snoc, nbk_snoc b h2'.out, hkn.out.2.1, hkn.out.2.2.2]
                  exact h9
            · have hTb : Aside0 (¬ TabOK b) := ⟨fun h => hg2 (by
                have e2 := h.rt i (by rw [hms.out]; exact him.out)
                unfold rgt at e2
                rw [hkn.out.2.1] at e2
                have h9 := hls.out
                unfold lastI at h9
                split at h9
                · omega
                · have := e2.2.2.2 (by omega)
                  omega)⟩
              obtain ⟨q6, e6⟩ : ∃ q6 : Bool, decide (D < 16) = q6 := ⟨_, rfl⟩
              have e6' := Aside0.mk e6
              cases q6
              all_goals
                go_wp2_with (first | (go_at_call 47; ((with_reducible refine (hT.out.r.byte (by have := hfit'.out; omega)).mono ?_); rw [hK'.out]; rintro e y1 ⟨rfl, hA, hFr⟩; have hT1 := Aside0.mk (hT.out.read hA hFr); clear hA hFr)) | (go_at_call 47; ((with_reducible refine (hT1.out.r.byte (by have := hfit'.out; omega)).mono ?_); rw [hD'.out]; rintro e y2 ⟨rfl, hA, hFr⟩; have hT2 := Aside0.mk (hT1.out.read hA hFr); clear hA hFr)) | (go_at_call 33; ((with_reducible refine (hT2.out.r.word (by have := hfit'.out; omega)).mono ?_); rw [hF'.out]; rintro e y3 ⟨rfl, hA, hFr⟩; have hT3 := Aside0.mk (hT2.out.read hA hFr); clear hA hFr)) | (go_at_call 33; ((with_reducible refine (hT3.out.r.word (by have := hfit'.out; omega)).mono ?_); rw [hZ'.out]; rintro e y4 ⟨rfl, hA, hFr⟩; have hT4 := Aside0.mk (hT3.out.read hA hFr); have qb := hT4.out.cell 3 rfl; clear hA hFr)) | (go_at_call 31; ((with_reducible refine (want_yes 72 _).mono ?_); rintro e w5 ⟨rfl, rfl⟩)))
                all_goals (first | (exfalso; exact hg2 ⟨by assumption, of_decide_eq_true e6'.out⟩) | (go_wp2_with (go_at_call 31; ((with_reducible refine (want_no 72 _).mono ?_); rintro e w5 ⟨rfl, rfl⟩)); exact ⟨rfl, post_bad hT4.out.bel hTb.out⟩))
          · have hwlt : Wt < 3 := by have := hWmm.out; omega
            have hk3 : (Wt == 3) = false := beq_eq_false_iff_ne.2 (by omega)
            subst gK
            have h2' : Aside0 (i < 2) := ⟨by omega⟩
            have hlst : Aside0 (lst = -1) := ⟨by have h9 := hls.out; unfold lastI at h9; rw [if_pos (by omega)] at h9; exact h9⟩
            clear h2i hwlt
            by_cases hD0 : D = 0
            · have hrg : Aside0 (rgt b i) := ⟨by
                unfold rgt
                rw [hkn.out.1, hkn.out.2.1]
                exact ⟨hWmm.out, fun _ => hD0, by omega, fun h => by have := h2'.out; omega⟩⟩
              have hDD := Aside0.mk hD0
              have e7 : (D == 0) = true := beq_iff_eq.2 hD0
              clear hD0
              go_wp2_with (first | (go_at_call 47; ((with_reducible refine (hT.out.r.byte (by have := hfit'.out; omega)).mono ?_); rw [hK'.out]; rintro e y1 ⟨rfl, hA, hFr⟩; have hT1 := Aside0.mk (hT.out.read hA hFr); clear hA hFr)) | (go_at_call 47; ((with_reducible refine (hT1.out.r.byte (by have := hfit'.out; omega)).mono ?_); rw [hD'.out]; rintro e y2 ⟨rfl, hA, hFr⟩; have hT2 := Aside0.mk (hT1.out.read hA hFr); clear hA hFr)) | (go_at_call 33; ((with_reducible refine (hT2.out.r.word (by have := hfit'.out; omega)).mono ?_); rw [hF'.out]; rintro e y3 ⟨rfl, hA, hFr⟩; have hT3 := Aside0.mk (hT2.out.read hA hFr); clear hA hFr)) | (go_at_call 33; ((with_reducible refine (hT3.out.r.word (by have := hfit'.out; omega)).mono ?_); rw [hZ'.out]; rintro e y4 ⟨rfl, hA, hFr⟩; have hT4 := Aside0.mk (hT3.out.read hA hFr); have qb := hT4.out.cell 3 rfl; clear hA hFr)) | (go_at_call 31; ((with_reducible refine (want_yes 72 _).mono ?_); rintro e w5 ⟨rfl, rfl⟩)) | (at_builtin; (refine appI (w4.heap.size + 1) rfl _ _ rfl u8 ((List.range i).map (siz b)) Z rfl (by first | rfl | (simp [World.setCell]; rfl) | simp [World.setCell]) hT4.out.r8 hT4.out.lt (by have := him.out; simp; omega) ?_); intro v8 x2 hR9 hb9 hg9; have hT6 := Aside0.mk (hT4.out.app8 hR9 hb9 hg9); clear hR9 hb9 hg9))
              go_roundg k1
              case measure => omega
              case rel =>
                refine ⟨i + 1, F + Z, lst, v8, u3, rfl, rfl, rfl, rfl, by omega, by omega, by omega, by omega, by omega, ⟨by rw [ats, hkn.out.2.2.2, ← hat.out]⟩, ⟨?_⟩, ⟨okT_snoc hok.out hent.out hrg.out⟩, ⟨?_⟩⟩
                · unfold lastI
                  rw [if_pos (by have := h2'.out; omega)]
                  exact hlst.out
                · have h9 := hT6.out
                  rw [show 8 + 10 * (i + 1) = 8 + 10 * i + 1 + 1 + 4 + 4 by omega, sizes_snoc, nbk_two b h2'.out, hkn.out.2.2.2]
                  exact h9
            · have hTb : Aside0 (¬ TabOK b) := ⟨fun h => hD0 (by
                have e2 := h.rt i (by rw [hms.out]; exact him.out)
                unfold rgt at e2
                rw [hkn.out.2.1] at e2
                exact e2.2.1 h2'.out)⟩
              have e7 : (D == 0) = false := beq_eq_false_iff_ne.2 hD0
              go_wp2_with (first | (go_at_call 47; ((with_reducible refine (hT.out.r.byte (by have := hfit'.out; omega)).mono ?_); rw [hK'.out]; rintro e y1 ⟨rfl, hA, hFr⟩; have hT1 := Aside0.mk (hT.out.read hA hFr); clear hA hFr)) | (go_at_call 47; ((with_reducible refine (hT1.out.r.byte (by have := hfit'.out; omega)).mono ?_); rw [hD'.out]; rintro e y2 ⟨rfl, hA, hFr⟩; have hT2 := Aside0.mk (hT1.out.read hA hFr); clear hA hFr)) | (go_at_call 33; ((with_reducible refine (hT2.out.r.word (by have := hfit'.out; omega)).mono ?_); rw [hF'.out]; rintro e y3 ⟨rfl, hA, hFr⟩; have hT3 := Aside0.mk (hT2.out.read hA hFr); clear hA hFr)) | (go_at_call 33; ((with_reducible refine (hT3.out.r.word (by have := hfit'.out; omega)).mono ?_); rw [hZ'.out]; rintro e y4 ⟨rfl, hA, hFr⟩; have hT4 := Aside0.mk (hT3.out.read hA hFr); have qb := hT4.out.cell 3 rfl; clear hA hFr)) | (go_at_call 31; ((with_reducible refine (want_yes 72 _).mono ?_); rintro e w5 ⟨rfl, rfl⟩)) | (go_at_call 31; ((with_reducible refine (want_no 72 _).mono ?_); rintro e w5 ⟨rfl, rfl⟩)))
              exact ⟨rfl, post_bad hT4.out.bel hTb.out⟩
        · have hTb : Aside0 (¬ TabOK b) := ⟨fun h => hgood (by
            have e1 := h.ent i (by rw [hms.out]; exact him.out)
            have e2 := h.rt i (by rw [hms.out]; exact him.out)
            unfold entOK at e1
            unfold rgt at e2
            rw [hkn.out.1, hkn.out.2.1] at e2
            rw [hkn.out.2.2.1, hkn.out.2.2.2, ← hat.out] at e1
            have := hNN.out
            have := hWmm.out
            refine ⟨by omega, by omega, by omega⟩)⟩
          obtain ⟨q3, e3⟩ : ∃ q3 : Bool, decide (Z ≤ (N : Int) - a) = q3 := ⟨_, rfl⟩
          have e3' := Aside0.mk e3
          cases q3
          all_goals
            go_wp2_with (first | (go_at_call 47; ((with_reducible refine (hT.out.r.byte (by have := hfit'.out; omega)).mono ?_); rw [hK'.out]; rintro e y1 ⟨rfl, hA, hFr⟩; have hT1 := Aside0.mk (hT.out.read hA hFr); clear hA hFr)) | (go_at_call 47; ((with_reducible refine (hT1.out.r.byte (by have := hfit'.out; omega)).mono ?_); rw [hD'.out]; rintro e y2 ⟨rfl, hA, hFr⟩; have hT2 := Aside0.mk (hT1.out.read hA hFr); clear hA hFr)) | (go_at_call 33; ((with_reducible refine (hT2.out.r.word (by have := hfit'.out; omega)).mono ?_); rw [hF'.out]; rintro e y3 ⟨rfl, hA, hFr⟩; have hT3 := Aside0.mk (hT2.out.read hA hFr); clear hA hFr)) | (go_at_call 33; ((with_reducible refine (hT3.out.r.word (by have := hfit'.out; omega)).mono ?_); rw [hZ'.out]; rintro e y4 ⟨rfl, hA, hFr⟩; have hT4 := Aside0.mk (hT3.out.read hA hFr); have qb := hT4.out.cell 3 rfl; clear hA hFr)))
            all_goals (first | (exfalso; exact hgood ⟨by first | rfl | assumption | exact eq_of_beq (by assumption), by first | rfl | assumption | exact eq_of_beq (by assumption), of_decide_eq_true e3'.out⟩) | (go_wp2_with (go_at_call 31; ((with_reducible refine (want_no 72 _).mono ?_); rintro e w5 ⟨rfl, rfl⟩)); exact ⟨rfl, post_bad hT4.out.bel hTb.out⟩))
      | zero =>
        have hd : decide ((i : Int) < (m : Int)) = false := decide_eq_false (by omega)
        have hd' : decide (i < m) = false := decide_eq_false (by omega)
        have hie : i = m := by omega
        rw [hie] at hat hok hT
        have hlen : ((List.range m).map (siz b)).length = m := by simp
        obtain ⟨g8, c8, e8, hg8, hg8l, _⟩ := Kd.R_form hT.out.r8 (by rw [hlen]; omega)
        rw [hlen] at e8
        subst e8
        clear hlen hg8l hls hie hl0 hl1
        by_cases hsum : a = (N : Int)
        · have hTab : Aside0 (TabOK b) := ⟨⟨by rw [hms.out]; omega, by rw [hms.out]; omega, by rw [hms.out, ← hNN.out]; omega, fun j hj => (hok.out j (by rw [hms.out] at hj; exact hj)).1, fun j hj => (hok.out j (by rw [hms.out] at hj; exact hj)).2, by rw [hms.out, ← hat.out, hsum, hNN.out]⟩⟩
          have e0 : (a == (N : Int)) = true := beq_iff_eq.2 hsum
          have hZ0 := low4_bd hBB.out (14 + 10 * 0)
          have hZ1 := low4_bd hBB.out (14 + 10 * 1)
          have hs0 := hT.out.size 0 (by omega)
          have hs1 := hT.out.size 1 (by omega)
          have q0 : ((List.range m).map (siz b)).getD 0 0 = siz b 0 := by rw [getD_at _ _ (by simp; omega)]; simp
          have q1 : ((List.range m).map (siz b)).getD 1 0 = siz b 1 := by rw [getD_at _ _ (by simp; omega)]; simp
          rw [q0] at hs0
          rw [q1] at hs1
          have z00 : 0 ≤ siz b 0 := hZ0.1
          have z01 : siz b 0 < 4294967296 := hZ0.2
          have z10 : 0 ≤ siz b 1 := hZ1.1
          have z11 : siz b 1 < 4294967296 := hZ1.2
          obtain ⟨S0, hS0⟩ : ∃ S0, S0 = siz b 0 := ⟨_, rfl⟩
          obtain ⟨S1, hS1⟩ : ∃ S1, S1 = siz b 1 := ⟨_, rfl⟩
          rw [← hS0] at hs0 z00 z01
          rw [← hS1] at hs1 z10 z11
          have hSS0 := Aside0.mk hS0
          have hSS1 := Aside0.mk hS1
          have hq1 : Aside0 (((List.range m).map (siz b)).getD 1 0 = S1) := ⟨by rw [q1, hSS1.out]⟩
          clear hS0 hS1 q0 q1 hZ0 hZ1 hsum
          by_cases h6 : S1 % 6 = 0
          · have h6' : Aside0 (siz b 1 % 6 = 0) := ⟨by rw [← hSS1.out]; exact h6⟩
            have e6 : (S1 % 6 == 0) = true := beq_iff_eq.2 h6
            obtain ⟨K2, hK2⟩ := Int.eq_ofNat_of_zero_le (show 0 ≤ S1 / 6 by omega)
            have a0 : ats b 0 = 8 + 10 * (m : Int) := by rw [ats, hms.out]
            have a1 : ats b 1 = 8 + 10 * (m : Int) + S0 := by rw [ats, a0, ← hSS0.out]
            have a2 : ats b 2 = 8 + 10 * (m : Int) + S0 + S1 := by rw [ats, a1, ← hSS1.out]
            have a2l : ats b 2 ≤ (N : Int) := by have h1 := ats_le hBB.out 2 (nS b) hTab.out.lo; rw [hTab.out.sum, ← hNN.out] at h1; exact h1
            obtain ⟨s0, hs0'⟩ := Int.eq_ofNat_of_zero_le z00
            have hp1 : Aside0 (8 + 10 * m + s0 + 6 * K2 ≤ b.length ∧ S1 = 6 * (K2 : Int) ∧ ats b 1 = ((8 + 10 * m + s0 : Nat) : Int) ∧ ats b 2 = ((8 + 10 * m + s0 + 6 * K2 : Nat) : Int) ∧ dat b 0 = (b.drop (8 + 10 * m)).take s0 ∧ dat b 1 = (b.drop (8 + 10 * m + s0)).take (6 * K2)) := ⟨by have := hNN.out; omega, by omega, by omega, by omega, by unfold dat; rw [a0, ← hSS0.out, hs0', show (8 + 10 * (m : Int)).toNat = 8 + 10 * m by omega, Int.toNat_natCast], by unfold dat; rw [a1, ← hSS1.out, hs0', show (8 + 10 * (m : Int) + (s0 : Int)).toNat = 8 + 10 * m + s0 by omega, show S1.toNat = 6 * K2 by omega]⟩
            have hsI := Aside0.mk hs0'
            have hS6 : Aside0 (S1.tdiv 6 = (K2 : Int)) := ⟨by rw [Int.tdiv_eq_ediv_of_nonneg z10]; exact hK2⟩
            have hq6 := hS6.out
            clear a0 a1 a2 a2l h6 hs0'
            go_wp2_with (first | (go_at_call 31; ((with_reducible refine (want_yes 72 _).mono ?_); rintro e w5 ⟨rfl, rfl⟩)) | (go_at_call 31; ((with_reducible refine (want_yes 73 _).mono ?_); rintro e w5 ⟨rfl, rfl⟩)) | (go_at_call 46; ((with_reducible refine (hT.out.r.bytes S0 s0 hsI.out (by have := hp1.out.1; omega) (by have := hNN.out; omega)).mono ?_); rintro e y1 ⟨v0, rfl, hR0, hA, hFr⟩; have hT1 := Aside0.mk (hT.out.read hA hFr); have hlt := hT.out.lt; obtain ⟨A0, c0, rfl⟩ := Kd.R_slice hR0; obtain ⟨n0, hn0⟩ : ∃ n0, n0 = ((b.drop (8 + 10 * m)).take s0).length := ⟨_, rfl⟩; rw [← hn0] at hR0 ⊢; have qc := hT1.out.cell 0 rfl; have qf := hT1.out.frozen 0; have hT2 := Aside0.mk (hT1.out.app0 (Kd.R_lower hR0 hlt)); have hs1b := hT2.out.size 1 (by omega); rw [hq1.out] at hs1b; clear hA hFr hR0 hn0)))
            have hT3 := hT2
            obtain ⟨wz, hwz⟩ : ∃ wz, wz = y1.setCell ⟨w4.heap.size, 0, none⟩ (.slice A0 n0 c0) := ⟨_, rfl⟩
            rw [← hwz] at hT3 ⊢
            clear hwz hT2 hs1b hs0 hs1 hT hT1 qc qf hK2 hq6 e6 e0 hd hd' hi ha0 ha1 hat hq1 hlt
            go_loopg [130] K2 (fun gk v130 wr => ∃ (i2 : Nat) (u2 : Value), v130 = .int .i64 (i2 : Int) ∧ i2 + gk = K2 ∧ Aside0 (T1 w wr w.heap.size w4.heap.size (w.heap.size + 1) (fun k => w.heap.size + 1 ≤ k ∧ k < w1.heap.size) g b (8 + 10 * m + s0 + 6 * i2) (.slice (some ⟨g8, 0, none⟩) m c8) (.slice A0 n0 c0) u2 u3 ((List.range m).map (siz b)) (dat b 0) (efsOf i2 (dat b 1)) (nbk b m) (low2 b 6)))
            case atStart => exact ⟨0, _, rfl, by omega, ⟨by rw [hp1.out.2.2.2.2.1]; exact hT3.out⟩⟩
            case round =>
              clear hT3
              obtain ⟨i2, u2, rfl, hi2, hT⟩ := hrel
              cases gk with
              | succ k2 =>
                have hd : decide ((i2 : Int) < (K2 : Int)) = true := decide_eq_true (by omega)
                have hd' : decide (i2 < K2) = true := decide_eq_true (by omega)
                have hpf : 8 + 10 * m + s0 + 6 * i2 + 6 ≤ b.length := by have := hp1.out.1; omega
                have hi2b : i2 ≤ 600000 := by have := hNN.out; omega
                obtain ⟨X1, hX1⟩ : ∃ x, low2 b (8 + 10 * m + s0 + 6 * i2) = x := ⟨_, rfl⟩
                obtain ⟨X2, hX2⟩ : ∃ x, low2 b (8 + 10 * m + s0 + 6 * i2 + 2) = x := ⟨_, rfl⟩
                obtain ⟨X3, hX3⟩ : ∃ x, low2 b (8 + 10 * m + s0 + 6 * i2 + 2 + 2) = x := ⟨_, rfl⟩
                have hbX2 := low2_bd hBB.out (8 + 10 * m + s0 + 6 * i2 + 2)
                have hbX3 := low2_bd hBB.out (8 + 10 * m + s0 + 6 * i2 + 2 + 2)
                rw [hX2] at hbX2
                rw [hX3] at hbX3
                obtain ⟨x20, x21⟩ := hbX2
                obtain ⟨x30, x31⟩ := hbX3
                have kC1 := Aside0.mk (fun (W : World) (h : At W (w.heap.size + 1) (fun k => w.heap.size + 1 ≤ k ∧ k < w1.heap.size) g b (8 + 10 * m + s0 + 6 * i2)) => h.cell (by omega))
                have kC2 := Aside0.mk (fun (W : World) (h : At W (w.heap.size + 1) (fun k => w.heap.size + 1 ≤ k ∧ k < w1.heap.size) g b (8 + 10 * m + s0 + 6 * i2 + 2)) => h.cell (by omega))
                have kC3 := Aside0.mk (fun (W : World) (h : At W (w.heap.size + 1) (fun k => w.heap.size + 1 ≤ k ∧ k < w1.heap.size) g b (8 + 10 * m + s0 + 6 * i2 + 2 + 2)) => h.cell (by omega))
                rw [hX1] at kC1
                rw [hX2] at kC2
                rw [hX3] at kC3
                have hefs : Aside0 (efsOf (i2 + 1) (dat b 1) = efsOf i2 (dat b 1) ++ [(X1, wrap64 X2, wrap64 X3)]) := ⟨by
                  rw [show wrap64 X2 = X2 by unfold wrap64; omega, show wrap64 X3 = X3 by unfold wrap64; omega]
                  rw [efsOf_snoc, hp1.out.2.2.2.2.2, low2_take _ _ _ (by omega), low2_take _ _ _ (by omega), low2_take _ _ _ (by omega)]
                  rw [low2_drop, low2_drop, low2_drop, hX1, ← Nat.add_assoc, hX2, show 8 + 10 * m + s0 + (6 * i2 + 4) = 8 + 10 * m + s0 + 6 * i2 + 2 + 2 by omega, hX3]⟩
                have hel : Aside0 (((efsOf i2 (dat b 1)).length + 1) * 24 ≤ 140737488355328) := ⟨by
                  have h1 : (efsOf i2 (dat b 1)).length = i2 := efsOf_len _ _
                  rw [h1]; have := hNN.out; omega⟩
                have hTd := Aside0.mk hT.out.drew
                have hq0 := hTd.out.cell 2 rfl
                clear hX1 hX2 hX3 hpf hT
                go_wp2
                refine start_ (n := 15) (S := (fun w' => w'.cell? ⟨w4.heap.size, 2, none⟩ = some u2)) (ds := [14]) #[false, false, false, false, false, false, false, false, false, false, false, false, false, false, false] (by kernel_rfl) rfl rfl hq0 (fun hHeld => ?_)
                refine pure_ (i := 0) (N := some 132) (v := ?_) (a' := ?_) #[true, false, false, false, false, false, false, false, false, false, false, false, false, false, false] rfl rfl (by kernel_rfl) (fun _ _ _ h => h) (Or.inl ⟨by rfl, ?_⟩) ?_ ?_
                rotate_left
                · intro w'
                  go_simp
                  with_reducible rfl
                rotate_left
                · simp only [Act.put, List.setIfInBounds_toArray, List.set_cons_zero, List.set_cons_succ, i64_w, i32_w]
                  rfl
                refine take_ (i := 1) (N := some 133) (v := ?_) (a' := ?_) #[true, true, false, false, false, false, false, false, false, false, false, false, false, false, false] rfl rfl (by kernel_rfl) (fun _ _ _ h => h) (Or.inl ⟨by rfl, ?_⟩) hHeld ?_ ?_
                rotate_left
                · rintro w' hSw
                  go_simp
                  with_reducible rfl
                rotate_left
                · simp only [Act.put, List.setIfInBounds_toArray, List.set_cons_zero, List.set_cons_succ, i64_w, i32_w]
                  rfl
                refine pure_ (i := 2) (N := some 134) (v := ?_) (a' := ?_) #[true, true, true, false, false, false, false, false, false, false, false, false, false, false, false] rfl rfl (by kernel_rfl) (fun _ _ _ h => h) (Or.inl ⟨by rfl, ?_⟩) ?_ ?_
                rotate_left
                · intro w'
                  go_simp
                  with_reducible rfl
                rotate_left
                · simp only [Act.put, List.setIfInBounds_toArray, List.set_cons_zero, List.set_cons_succ, i64_w, i32_w]
                  rfl
                refine pure_ (i := 4) (N := some 136) (v := ?_) (a' := ?_) #[true, true, true, false, true, false, false, false, false, false, false, false, false, false, false] rfl rfl (by kernel_rfl) (fun _ _ _ h => h) (Or.inl ⟨by rfl, ?_⟩) ?_ ?_
                rotate_left
                · intro w'
                  go_simp
                  with_reducible rfl
                rotate_left
                · simp only [Act.put, List.setIfInBounds_toArray, List.set_cons_zero, List.set_cons_succ, i64_w, i32_w]
                  rfl
                refine pure_ (i := 7) (N := some 139) (v := ?_) (a' := ?_) #[true, true, true, false, true, false, false, true, false, false, false, false, false, false, false] rfl rfl (by kernel_rfl) (fun _ _ _ h => h) (Or.inl ⟨by rfl, ?_⟩) ?_ ?_
                rotate_left
                · intro w'
                  go_simp
                  with_reducible rfl
                rotate_left
                · simp only [Act.put, List.setIfInBounds_toArray, List.set_cons_zero, List.set_cons_succ, i64_w, i32_w]
                  rfl
                refine one_ (i := 3) (N := some 135) #[true, true, true, true, true, false, false, true, false, false, false, false, false, false, false] rfl rfl (by kernel_rfl) (by decide) (fun K hK => ?_)
                refine goes_ Tryd.func48 (by kernel_rfl) rfl #[.pointer (some ⟨g, 0, none⟩)] (by rfl) rfl rfl (by first | rfl | kernel_rfl | simp [Act.eval]) ?_
                refine (kC1.out _ hTd.out.r).mono ?_
                rintro e y1 ⟨rfl, hA, hFr⟩
                have hT1 := Aside0.mk (hTd.out.read hA hFr)
                have hq1 := hT1.out.cell 2 rfl
                clear hA hFr
                refine ⟨_, rfl, hK.out _ _ hq1 (fun hHeld2 => ?_)⟩
                clear hK
                refine norm_ (a' := ?_) ?_ ?_
                rotate_left
                · show Act.put _ (some 135) _ = _
                  simp only [Act.put, List.setIfInBounds_toArray, List.set_cons_zero, List.set_cons_succ, i64_w, i32_w]
                  rfl
                refine one_ (i := 5) (N := some 137) #[true, true, true, true, true, true, false, true, false, false, false, false, false, false, false] rfl rfl (by kernel_rfl) (by decide) (fun K hK => ?_)
                refine goes_ Tryd.func48 (by kernel_rfl) rfl #[.pointer (some ⟨g, 0, none⟩)] (by rfl) rfl rfl (by first | rfl | kernel_rfl | simp [Act.eval]) ?_
                refine (kC2.out _ hT1.out.r).mono ?_
                rintro e y2 ⟨rfl, hA, hFr⟩
                have hT2 := Aside0.mk (hT1.out.read hA hFr)
                have hq2 := hT2.out.cell 2 rfl
                clear hA hFr
                refine ⟨_, rfl, hK.out _ _ hq2 (fun hHeld3 => ?_)⟩
                clear hK
                refine norm_ (a' := ?_) ?_ ?_
                rotate_left
                · show Act.put _ (some 137) _ = _
                  simp only [Act.put, List.setIfInBounds_toArray, List.set_cons_zero, List.set_cons_succ, i64_w, i32_w]
                  rfl
                refine pure_ (i := 6) (N := some 138) (v := ?_) (a' := ?_) #[true, true, true, true, true, true, true, true, false, false, false, false, false, false, false] rfl rfl (by kernel_rfl) (fun _ _ _ h => h) (Or.inl ⟨by rfl, ?_⟩) ?_ ?_
                rotate_left
                · intro w'
                  go_simp
                  with_reducible rfl
                rotate_left
                · simp only [Act.put, List.setIfInBounds_toArray, List.set_cons_zero, List.set_cons_succ, i64_w, i32_w]
                  rfl
                refine one_ (i := 8) (N := some 140) #[true, true, true, true, true, true, true, true, true, false, false, false, false, false, false] rfl rfl (by kernel_rfl) (by decide) (fun K hK => ?_)
                refine goes_ Tryd.func48 (by kernel_rfl) rfl #[.pointer (some ⟨g, 0, none⟩)] (by rfl) rfl rfl (by first | rfl | kernel_rfl | simp [Act.eval]) ?_
                refine (kC3.out _ hT2.out.r).mono ?_
                rintro e y3 ⟨rfl, hA, hFr⟩
                have hT3 := Aside0.mk (hT2.out.read hA hFr)
                have hq3 := hT3.out.cell 2 rfl
                clear hA hFr
                refine ⟨_, rfl, hK.out _ _ hq3 (fun hHeld4 => ?_)⟩
                clear hK
                refine norm_ (a' := ?_) ?_ ?_
                rotate_left
                · show Act.put _ (some 140) _ = _
                  simp only [Act.put, List.setIfInBounds_toArray, List.set_cons_zero, List.set_cons_succ, i64_w, i32_w]
                  rfl
                refine pure_ (i := 9) (N := some 141) (v := ?_) (a' := ?_) #[true, true, true, true, true, true, true, true, true, true, false, false, false, false, false] rfl rfl (by kernel_rfl) (fun _ _ _ h => h) (Or.inl ⟨by rfl, ?_⟩) ?_ ?_
                rotate_left
                · intro w'
                  go_simp
                  with_reducible rfl
                rotate_left
                · simp only [Act.put, List.setIfInBounds_toArray, List.set_cons_zero, List.set_cons_succ, i64_w, i32_w]
                  rfl
                refine pure_ (i := 10) (N := some 142) (v := ?_) (a' := ?_) #[true, true, true, true, true, true, true, true, true, true, true, false, false, false, false] rfl rfl (by kernel_rfl) (fun _ _ _ h => h) (Or.inl ⟨by rfl, ?_⟩) ?_ ?_
                rotate_left
                · intro w'
                  go_simp
                  with_reducible rfl
                rotate_left
                · simp only [Act.put, List.setIfInBounds_toArray, List.set_cons_zero, List.set_cons_succ, i64_w, i32_w]
                  rfl
                refine one_ (i := 11) (N := some 143) #[true, true, true, true, true, true, true, true, true, true, true, true, false, false, false] rfl rfl (by kernel_rfl) (by decide) (fun K hK => ?_)
                refine value_ (v := .slice (some ⟨y3.heap.size, 0, none⟩) 1 1) (w1 := y3.alloc (.cells #[.int .u16 X1, .int .i64 (wrap64 X2), .int .i64 (wrap64 X3)] 80)) (by rfl) rfl (by go_simp) ?_
                refine hK.out _ _ ((hT3.out.below (below_alloc (Below.refl _ _) _)).cell 2 rfl) (fun hHeld5 => ?_)
                clear hK
                refine norm_ (a' := ?_) ?_ ?_
                rotate_left
                · show Act.put _ (some 143) _ = _
                  simp only [Act.put, List.setIfInBounds_toArray, List.set_cons_zero, List.set_cons_succ, i64_w, i32_w]
                  rfl
                refine one_ (i := 12) (N := some 144) #[true, true, true, true, true, true, true, true, true, true, true, true, true, false, false] rfl rfl (by kernel_rfl) (by decide) (fun K hK => ?_)
                refine Kd.R_append_step kE (w0 := y3) (w4.heap.size + 1) (by rfl) (.tmp 133) (.tmp 143) 25 80 (.agg #[(.int .u16 0), (.int .i64 0), (.int .i64 0)]) 24 rfl Tryd.underlying25 (by rw [szE]; exact infoE) (by rw [szE]; rfl) (by rw [szE]; decide) (by decide) u2 (efsOf i2 (dat b 1)) (X1, wrap64 X2, wrap64 X3) [.int .u16 X1, .int .i64 (wrap64 X2), .int .i64 (wrap64 X3)] (fun _ => True) (fun _ => False) rfl rfl (kE_mkM _ _ _ (X1, wrap64 X2, wrap64 X3)) (fun k hk => hk.elim) (fun _ _ => trivial) hT3.out.r2 (Below.refl _ _) hT3.out.lt (by have := hel.out; omega) ?_
                intro v9 z1 hR9 hb9 hg9 _
                obtain ⟨A9, c9, rfl⟩ := Kd.R_slice hR9
                obtain ⟨n9, hn9⟩ : ∃ n9, n9 = (efsOf i2 (dat b 1) ++ [(X1, wrap64 X2, wrap64 X3)]).length := ⟨_, rfl⟩
                rw [← hn9] at hR9 ⊢
                clear hn9
                have hc9 := hT3.out.cellU hb9 2 rfl
                have qc9 := hc9.1
                have qf9 := hc9.2
                have hT5 := Aside0.mk (hT3.out.app2 hR9 hb9 hg9)
                clear hc9 hR9 hb9 hg9
                refine hK.out _ _ qc9 (fun hHeld6 => ?_)
                clear hK
                refine norm_ (a' := ?_) ?_ ?_
                rotate_left
                · show Act.put _ (some 144) _ = _
                  simp only [Act.put, List.setIfInBounds_toArray, List.set_cons_zero, List.set_cons_succ, i64_w, i32_w]
                  rfl
                refine pure_ (i := 13) (N := some 145) (v := ?_) (a' := ?_) #[true, true, true, true, true, true, true, true, true, true, true, true, true, true, false] rfl rfl (by kernel_rfl) (fun _ _ _ h => h) (Or.inl ⟨by rfl, ?_⟩) ?_ ?_
                rotate_left
                · intro w'
                  go_simp
                  with_reducible rfl
                rotate_left
                · simp only [Act.put, List.setIfInBounds_toArray, List.set_cons_zero, List.set_cons_succ, i64_w, i32_w]
                  rfl
                refine last_ (i := 14) (N := none) #[true, true, true, true, true, true, true, true, true, true, true, true, true, true, true] rfl rfl (by kernel_rfl) (by decide) (fun K hK => ?_)
                refine skip_ (w1 := z1.setCell ⟨w4.heap.size, 2, none⟩ (.slice A9 n9 c9)) (by rfl) rfl (by go_simp) ?_
                refine hK.out _ _ ?_
                clear hK
                refine done_ (by kernel_rfl) ?_
                go_wp2
                go_roundg k2
                case measure => omega
                case rel => exact ⟨i2 + 1, .slice A9 n9 c9, rfl, by omega, ⟨by rw [hefs.out, show 8 + 10 * m + s0 + 6 * (i2 + 1) = 8 + 10 * m + s0 + 6 * i2 + 2 + 2 + 2 by omega]; exact hT5.out⟩⟩
              | zero =>
                have hd : decide ((i2 : Int) < (K2 : Int)) = false := decide_eq_false (by omega)
                have hd' : decide (i2 < K2) = false := decide_eq_false (by omega)
                have hie2 : i2 = K2 := by omega
                rw [hie2] at hT
                obtain ⟨A3, c3, e3⟩ := Kd.R_slice hT.out.r3
                obtain ⟨n3, hn3⟩ : ∃ n3, n3 = (nbk b m).length := ⟨_, rfl⟩
                rw [← hn3] at e3
                subst e3
                obtain ⟨A2, c2, e2⟩ := Kd.R_slice hT.out.r2
                obtain ⟨n2, hn2⟩ : ∃ n2, n2 = (efsOf K2 (dat b 1)).length := ⟨_, rfl⟩
                rw [← hn2] at e2
                subst e2
                obtain ⟨g3, V0, hT2⟩ := T2.of hT.out (by omega)
                have hB0 := Aside0.mk hT2
                have qc3 := hB0.out.cellB 3 rfl
                have hn3m := hT2.n3m
                have hats2 : Aside0 ((8 + 10 * m + s0 + 6 * K2) = (ats b 2).toNat) := ⟨by rw [hp1.out.2.2.2.1]; rfl⟩
                rw [hats2.out] at hB0
                clear hie2 hn3 hn2 hT hT2
                go_wp2
                clear hi2 hd hd' qc3
                go_loopg [150] n3 (fun gk v150 wr => ∃ (j : Nat) (V : Nat → Value), v150 = .int .i64 (j : Int) ∧ j + gk = n3 ∧ Aside0 (T2 w wr w.heap.size w4.heap.size (w.heap.size + 1) (fun k => w.heap.size + 1 ≤ k ∧ k < w1.heap.size) g b (ats b (j + 2)).toNat g8 m c8 (.slice A0 n0 c0) (.slice A2 n2 c2) A3 n3 c3 g3 (dat b 0) (efsOf K2 (dat b 1)) V j (low2 b 6)))
                case atStart => exact ⟨0, V0, rfl, by omega, hB0⟩
                case round =>
                  clear hB0
                  obtain ⟨j, V, rfl, hj, hB⟩ := hrel
                  cases gk with
                  | succ k3 =>
                    have hjlt : j < n3 := by omega
                    have hd : decide ((j : Int) < (n3 : Int)) = true := decide_eq_true (by omega)
                    have hd' : decide (j < n3) = true := decide_eq_true (by omega)
                    obtain rfl : A3 = some ⟨g3, 0, none⟩ := hB.out.a3 (by omega)
                    have hz := low4_bd hBB.out (14 + 10 * (j + 2))
                    obtain ⟨sj, hsj⟩ := Int.eq_ofNat_of_zero_le (show 0 ≤ siz b (j + 2) from hz.1)
                    have ha3 : ats b (j + 3) = ats b (j + 2) + siz b (j + 2) := by rw [show j + 3 = (j + 2) + 1 by omega, ats]
                    have hal := ats_le hBB.out (j + 3) (nS b) (by rw [hms.out]; omega)
                    rw [hTab.out.sum] at hal
                    have hlo := ats_lo hBB.out (j + 2)
                    obtain ⟨pj, hpj⟩ : ∃ pj, pj = (ats b (j + 2)).toNat := ⟨_, rfl⟩
                    have hfj : Aside0 (pj + sj ≤ b.length) := ⟨by omega⟩
                    have hpn : Aside0 ((ats b (j + 1 + 2)).toNat = pj + sj) := ⟨by rw [show j + 1 + 2 = j + 3 by omega]; omega⟩
                    have hdt : Aside0 (dat b (j + 2) = (b.drop pj).take sj) := ⟨by unfold dat; rw [← hpj, hsj, Int.toNat_natCast]⟩
                    have hsz := Aside0.mk hsj
                    rw [← hpj] at hB
                    have hsl : sj ≤ 600000 := by have := hNN.out; omega
                    have hBd := Aside0.mk hB.out.drew
                    have hq0 := hBd.out.held hjlt hsz.out
                    have hjb : j ≤ 600000 := by omega
                    have hold := Aside0.mk (fun (k q : Nat) (hk : k < j) (e : (V k).ownBlock = some q) => Kd.R_lt (hBd.out.rows k hk) q e)
                    have hold0 := Aside0.mk (fun (q : Nat) (e : (Value.slice A0 n0 c0).ownBlock = some q) => Kd.R_lt hBd.out.r0 q e)
                    have hltd := Aside0.mk hBd.out.lt
                    have hw3 : 0 ≤ 2 + (j : Int) := by omega
                    have hw4 : 2 + (j : Int) < (m : Int) := by omega
                    have hw5 : (2 + (j : Int)).toNat = 2 + j := by omega
                    have hlb : Aside0 (b.length ≤ 140737488351232) := ⟨by have := hNN.out; omega⟩
                    clear hz hsj ha3 hal hlo hpj hB
                    have hw2 : wrap64 (2 + (j : Int)) = 2 + (j : Int) := by unfold wrap64; omega
                    go_wp2
                    refine start_ (n := 13) (S := (fun w' => w'.cell? ⟨w4.heap.size, 3, none⟩ = some (.slice (some ⟨g3, 0, none⟩) n3 c3) ∧ w'.cell? ⟨g8, 2 + j, none⟩ = some (.int .i64 (sj : Int)))) (ds := [12]) #[false, false, false, false, false, false, false, false, false, false, false, false, false] (by kernel_rfl) rfl rfl hq0 (fun hHeld => ?_)
                    refine pure_ (i := 0) (N := some 153) (v := ?_) (a' := ?_) #[true, false, false, false, false, false, false, false, false, false, false, false, false] rfl rfl (by kernel_rfl) (fun _ _ _ h => h) (Or.inl ⟨by rfl, ?_⟩) ?_ ?_
                    rotate_left
                    · intro w'
                      go_simp
                      with_reducible rfl
                    rotate_left
                    · simp only [Act.put, List.setIfInBounds_toArray, List.set_cons_zero, List.set_cons_succ, i64_w, i32_w]
                      rfl
                    refine take_ (i := 1) (N := some 154) (v := ?_) (a' := ?_) #[true, true, false, false, false, false, false, false, false, false, false, false, false] rfl rfl (by kernel_rfl) (fun _ _ _ h => h) (Or.inl ⟨by rfl, ?_⟩) hHeld ?_ ?_
                    rotate_left
                    · rintro w' ⟨hS0, hS1⟩
                      go_simp
                      with_reducible rfl
                    rotate_left
                    · simp only [Act.put, List.setIfInBounds_toArray, List.set_cons_zero, List.set_cons_succ, i64_w, i32_w]
                      rfl
                    refine pure_ (i := 2) (N := some 155) (v := ?_) (a' := ?_) #[true, true, true, false, false, false, false, false, false, false, false, false, false] rfl rfl (by kernel_rfl) (fun _ _ _ h => h) (Or.inl ⟨by rfl, ?_⟩) ?_ ?_
                    rotate_left
                    · intro w'
                      go_simp
                      with_reducible rfl
                    rotate_left
                    · simp only [Act.put, List.setIfInBounds_toArray, List.set_cons_zero, List.set_cons_succ, i64_w, i32_w]
                      rfl
                    refine pure_ (i := 3) (N := some 156) (v := ?_) (a' := ?_) #[true, true, true, true, false, false, false, false, false, false, false, false, false] rfl rfl (by kernel_rfl) (fun _ _ _ h => h) (Or.inl ⟨by rfl, ?_⟩) ?_ ?_
                    rotate_left
                    · intro w'
                      go_simp
                      with_reducible rfl
                    rotate_left
                    · simp only [Act.put, List.setIfInBounds_toArray, List.set_cons_zero, List.set_cons_succ, i64_w, i32_w]
                      rfl
                    refine pure_ (i := 4) (N := some 157) (v := ?_) (a' := ?_) #[true, true, true, true, true, false, false, false, false, false, false, false, false] rfl rfl (by kernel_rfl) (fun _ _ _ h => h) (Or.inl ⟨by rfl, ?_⟩) ?_ ?_
                    rotate_left
                    · intro w'
                      go_simp
                      with_reducible rfl
                    rotate_left
                    · simp only [Act.put, List.setIfInBounds_toArray, List.set_cons_zero, List.set_cons_succ, i64_w, i32_w]
                      rfl
                    refine pure_ (i := 5) (N := some 158) (v := ?_) (a' := ?_) #[true, true, true, true, true, true, false, false, false, false, false, false, false] rfl rfl (by kernel_rfl) (fun _ _ _ h => h) (Or.inl ⟨by rfl, ?_⟩) ?_ ?_
                    rotate_left
                    · intro w'
                      go_simp
                      with_reducible rfl
                    rotate_left
                    · simp only [Act.put, List.setIfInBounds_toArray, List.set_cons_zero, List.set_cons_succ, i64_w, i32_w]
                      rfl
                    refine pure_ (i := 6) (N := some 159) (v := ?_) (a' := ?_) #[true, true, true, true, true, true, true, false, false, false, false, false, false] rfl rfl (by kernel_rfl) (fun _ _ _ h => h) (Or.inl ⟨by rfl, ?_⟩) ?_ ?_
                    rotate_left
                    · intro w'
                      go_simp
                      with_reducible rfl
                    rotate_left
                    · simp only [Act.put, List.setIfInBounds_toArray, List.set_cons_zero, List.set_cons_succ, i64_w, i32_w]
                      rfl
                    refine pure_ (i := 7) (N := some 160) (v := ?_) (a' := ?_) #[true, true, true, true, true, true, true, true, false, false, false, false, false] rfl rfl (by kernel_rfl) (fun _ _ _ h => h) (Or.inl ⟨by rfl, ?_⟩) ?_ ?_
                    rotate_left
                    · intro w'
                      go_simp
                      with_reducible rfl
                    rotate_left
                    · simp only [Act.put, List.setIfInBounds_toArray, List.set_cons_zero, List.set_cons_succ, i64_w, i32_w]
                      rfl
                    refine take_ (i := 8) (N := some 161) (v := ?_) (a' := ?_) #[true, true, true, true, true, true, true, true, true, false, false, false, false] rfl rfl (by kernel_rfl) (fun _ _ _ h => h) (Or.inl ⟨by rfl, ?_⟩) hHeld ?_ ?_
                    rotate_left
                    · rintro w' ⟨hS0, hS1⟩
                      go_simp
                      with_reducible rfl
                    rotate_left
                    · simp only [Act.put, List.setIfInBounds_toArray, List.set_cons_zero, List.set_cons_succ, i64_w, i32_w]
                      rfl
                    refine one_ (i := 9) (N := some 162) #[true, true, true, true, true, true, true, true, true, true, false, false, false] rfl rfl (by kernel_rfl) (by decide) (fun K hK => ?_)
                    refine goes_ Tryd.func46 (by kernel_rfl) rfl #[.pointer (some ⟨g, 0, none⟩), .int .i64 (sj : Int)] (by rfl) rfl rfl (by first | rfl | kernel_rfl | simp [Act.eval]) ?_
                    refine (hBd.out.r.bytes (sj : Int) sj rfl hfj.out hlb.out).mono ?_
                    rintro e y1 ⟨v5, rfl, hR5, hA, hFr⟩
                    obtain ⟨A5, c5, rfl⟩ := Kd.R_slice hR5
                    obtain ⟨n5, hn5⟩ : ∃ n5, n5 = ((b.drop pj).take sj).length := ⟨_, rfl⟩
                    rw [← hn5] at hR5 ⊢
                    clear hn5
                    have hB1 := Aside0.mk (hBd.out.read hA hFr)
                    have hq1 := hB1.out.held hjlt hsz.out
                    have hu := hB1.out.slot hjlt
                    have qs5 := hu.1
                    have qf5 := hu.2
                    have hR6 := Aside0.mk hR5
                    clear hA hFr hR5
                    refine ⟨_, rfl, hK.out _ _ hq1 (fun hHeld2 => ?_)⟩
                    clear hK
                    refine norm_ (a' := ?_) ?_ ?_
                    rotate_left
                    · show Act.put _ (some 162) _ = _
                      simp only [Act.put, List.setIfInBounds_toArray, List.set_cons_zero, List.set_cons_succ, i64_w, i32_w]
                      rfl
                    refine pure_ (i := 10) (N := some 163) (v := ?_) (a' := ?_) #[true, true, true, true, true, true, true, true, true, true, true, false, false] rfl rfl (by kernel_rfl) (fun _ _ _ h => h) (Or.inl ⟨by rfl, ?_⟩) ?_ ?_
                    rotate_left
                    · intro w'
                      go_simp
                      with_reducible rfl
                    rotate_left
                    · simp only [Act.put, List.setIfInBounds_toArray, List.set_cons_zero, List.set_cons_succ, i64_w, i32_w]
                      rfl
                    refine pure_ (i := 11) (N := some 164) (v := ?_) (a' := ?_) #[true, true, true, true, true, true, true, true, true, true, true, true, false] rfl rfl (by kernel_rfl) (fun _ _ _ h => h) (Or.inl ⟨by rfl, ?_⟩) ?_ ?_
                    rotate_left
                    · intro w'
                      go_simp
                      with_reducible rfl
                    rotate_left
                    · simp only [Act.put, List.setIfInBounds_toArray, List.set_cons_zero, List.set_cons_succ, i64_w, i32_w]
                      rfl
                    refine last_ (i := 12) (N := none) #[true, true, true, true, true, true, true, true, true, true, true, true, true] rfl rfl (by kernel_rfl) (by decide) (fun K hK => ?_)
                    refine skip_ (w1 := y1.setCell ⟨g3, j * 2 + 1, none⟩ (.slice A5 n5 c5)) (by rfl) rfl (by go_simp) ?_
                    refine hK.out _ _ ?_
                    clear hK
                    refine done_ (by kernel_rfl) ?_
                    clear hw2 hw3 hw4 hw5
                    go_wp2
                    go_roundg k3
                    case measure => omega
                    case rel =>
                      refine ⟨j + 1, fun k => if k = j then .slice A5 n5 c5 else V k, rfl, by omega, ⟨?_⟩⟩
                      rw [hpn.out]
                      refine hB1.out.lay hjlt (base := wr.drew.heap.size) ?_ hltd.out hold.out hold0.out
                      rw [hdt.out]
                      exact hR6.out
                  | zero =>
                    have hd : decide ((j : Int) < (n3 : Int)) = false := decide_eq_false (by omega)
                    have hd' : decide (j < n3) = false := decide_eq_false (by omega)
                    have hje : j = n3 := by omega
                    rw [hje] at hB
                    obtain ⟨ecrt, hIC, hOw⟩ := hB.out.own hms.out (K2 := K2) (by have := hp1.out.2.1; have := hSS1.out; omega)
                    have hbk : (cartOf b).bks.length ≤ c3 ∧ (cartOf b).bks.length ≤ 9223372036854775807 := by
                      have h1 : (cartOf b).bks.length = nS b - 2 := by simp [cartOf]
                      have h2 := hB.out.n3m
                      have h3 := hB.out.n3c
                      rw [h1, hms.out]
                      exact ⟨by omega, by omega⟩
                    have hel : (cartOf b).efs.length < 4611686018427387904 := by
                      have h1 : (cartOf b).efs.length = (siz b 1).toNat / 6 := efsOf_len _ _
                      have := hSS1.out
                      omega
                    have kCk := Check hIC hel (by have h1 : (cartOf b).bks.length = nS b - 2 := by simp [cartOf]
                                                  rw [h1, hms.out]; omega)
                    rw [ecrt] at kCk
                    have kC := Aside0.mk kCk
                    have q0 := hB.out.cellB 0 rfl
                    have q1 := hB.out.cellB 1 rfl
                    have q2 := hB.out.cellB 2 rfl
                    have q3 := hB.out.cellB 3 rfl
                    have hOW := Aside0.mk hOw
                    have hecrt := Aside0.mk ecrt
                    have hbkk := Aside0.mk hbk
                    have hltb := hB.out.lt
                    clear hje hj hIC hOw ecrt hbk hel kCk
                    by_cases hokc : OkC (cartOf b)
                    · have hoo := Aside0.mk hokc
                      rw [chk_ok hokc] at kC
                      clear hokc
                      go_wp2_with (first | (go_at_call 17; ((with_reducible refine kC.out.mono ?_); rintro e w8 ⟨rfl, hb8⟩; have hb8' := Aside0.mk hb8; clear hb8; refine Hid.out ?_)))
                      refine Lib.hid ?_
                      have hb8 := hb8'.out
                      have hX8 := Aside0.mk ((hb8.block _ hltb).trans hB.out.bx)
                      have hY8 := Aside0.mk ((hb8.block _ (heap_lt hB.out.tx)).trans hB.out.tx)
                      have hO8 := Aside0.mk (hOW.out.fr (Fr.of_below hb8 (fun _ => False)) (fun _ _ h => h.elim))
                      have hB8 := Aside0.mk (hB.out.bel.trans (hb8.mono hB.out.bel.size))
                      have p0 : w8.cell? ⟨w4.heap.size, 0, none⟩ = some (.slice A0 n0 c0) := (cellH hX8.out).trans rfl
                      have p1 : w8.cell? ⟨w4.heap.size, 1, none⟩ = some (.int .u16 (low2 b 6)) := (cellH hX8.out).trans rfl
                      have p2 : w8.cell? ⟨w4.heap.size, 2, none⟩ = some (.slice A2 n2 c2) := (cellH hX8.out).trans rfl
                      have p3 : w8.cell? ⟨w4.heap.size, 3, none⟩ = some (.slice A3 n3 c3) := (cellH hX8.out).trans rfl
                      have t0 : w8.cell? ⟨w.heap.size, 0, none⟩ = some (.slice none 0 0) := (cellH hY8.out).trans rfl
                      have t1 : w8.cell? ⟨w.heap.size, 1, none⟩ = some (.int .u16 0) := (cellH hY8.out).trans rfl
                      have t2 : w8.cell? ⟨w.heap.size, 2, none⟩ = some (.slice none 0 0) := (cellH hY8.out).trans rfl
                      have t3 : w8.cell? ⟨w.heap.size, 3, none⟩ = some (.slice none 0 0) := (cellH hY8.out).trans rfl
                      have tf : ∀ o, w8.frozen? ⟨w.heap.size, o, none⟩ = false := fun o => by simp [World.frozen?, hY8.out]
                      have tf0 := tf 0
                      have tf1 := tf 1
                      have tf2 := tf 2
                      have tf3 := tf 3
                      clear hb8 tf
                      go_wp2_with (go_at_call 31; ((with_reducible refine (want_yes 73 _).mono ?_); rintro e w5 ⟨rfl, rfl⟩))
                      have hY9 := put4 hY8.out (.slice A0 n0 c0) (.int .u16 (low2 b 6)) (.slice A2 n2 c2) (.slice A3 n3 c3)
                      have hF9 := put4F w8 w.heap.size (.slice A0 n0 c0) (.int .u16 (low2 b 6)) (.slice A2 n2 c2) (.slice A3 n3 c3)
                      obtain ⟨Y, hY⟩ : ∃ Y, Y = (((w8.setCell ⟨w.heap.size, 0, none⟩ (.slice A0 n0 c0)).setCell ⟨w.heap.size, 1, none⟩ (.int .u16 (low2 b 6))).setCell ⟨w.heap.size, 2, none⟩ (.slice A2 n2 c2)).setCell ⟨w.heap.size, 3, none⟩ (.slice A3 n3 c3) := ⟨_, rfl⟩
                      rw [← hY] at hY9 hF9 ⊢
                      have y0 : Y.cell? ⟨w.heap.size, 0, none⟩ = some (.slice A0 n0 c0) := (cellH hY9).trans rfl
                      have y1 : Y.cell? ⟨w.heap.size, 1, none⟩ = some (.int .u16 (low2 b 6)) := (cellH hY9).trans rfl
                      have y2 : Y.cell? ⟨w.heap.size, 2, none⟩ = some (.slice A2 n2 c2) := (cellH hY9).trans rfl
                      have y3 : Y.cell? ⟨w.heap.size, 3, none⟩ = some (.slice A3 n3 c3) := (cellH hY9).trans rfl
                      refine bodyPost_ret (v := .agg #[.slice A0 n0 c0, .int .u16 (low2 b 6), .slice A2 n2 c2, .slice A3 n3 c3]) (by simp [results, Tryd.results34, go_sem, y0, y1, y2, y3]) rfl ?_
                      have hgw := hB.out.gw
                      have hrg := hB.out.rg
                      have hO9 := hO8.out.fr hF9 (fun k _ e => by omega)
                      rw [← hecrt.out]
                      exact post_good (hB8.out.trans (hF9.below hB8.out.size (fun k hk e => by omega))) hTab.out h6'.out hoo.out ⟨⟨_, _, _, _, _, _, _, _, _, by omega, rfl, hO9.isC hbkk.out.1 hbkk.out.2, hO9⟩⟩
                    · have hoo := Aside0.mk hokc
                      rw [chk_bad hokc] at kC
                      clear hokc
                      go_wp2_with (first | (go_at_call 17; ((with_reducible refine kC.out.mono ?_); rintro e w8 ⟨rfl, hb8⟩; have hB8 := Aside0.mk (hB.out.bel.trans (hb8.mono hB.out.bel.size)); clear hb8)) | (go_at_call 31; ((with_reducible refine (want_no 73 _).mono ?_); rintro e w5 ⟨rfl, rfl⟩)))
                      exact ⟨rfl, post_badC hB8.out hTab.out h6'.out hoo.out⟩
          · have h6' : Aside0 (siz b 1 % 6 ≠ 0) := ⟨by rw [← hSS1.out]; exact h6⟩
            have e6 : (S1 % 6 == 0) = false := beq_eq_false_iff_ne.2 h6
            go_wp2_with (first | (go_at_call 31; ((with_reducible refine (want_yes 72 _).mono ?_); rintro e w5 ⟨rfl, rfl⟩)) | (go_at_call 31; ((with_reducible refine (want_no 73 _).mono ?_); rintro e w5 ⟨rfl, rfl⟩)))
            exact ⟨rfl, post_bad6 hT.out.bel hTab.out h6'.out⟩
        · have hTb : Aside0 (¬ TabOK b) := ⟨fun h => hsum (by have h9 := h.sum; rw [hms.out, ← hat.out, ← hNN.out] at h9; exact h9)⟩
          have e0 : (a == (N : Int)) = false := beq_eq_false_iff_ne.2 hsum
          go_wp2_with (go_at_call 31; ((with_reducible refine (want_no 72 _).mono ?_); rintro e w5 ⟨rfl, rfl⟩))
          exact ⟨rfl, post_bad hT.out.bel hTb.out⟩
  · have hTb : Aside0 (¬ TabOK b) := ⟨fun h => hd (by have h1 := h.lo; have h2 := h.hi; have h3 := h.fit; rw [hms.out] at h1 h2 h3; have := hNN.out; omega)⟩
    obtain ⟨q3, e3⟩ : ∃ q3 : Bool, decide ((8 : Int) + 10 * (m : Int) ≤ (N : Int)) = q3 := ⟨_, rfl⟩
    have e3' := Aside0.mk e3
    cases q3
    all_goals
      go_enter Tryd.func34, Tryd.ntmps34
      go_wp2_with (first | (go_at_call 32; ((with_reducible refine kNN.out.mono ?_); rintro e w1 ⟨g, rfl, hR, hb⟩; have hgl := hR.lt; have hgb := hR.base; have hA := Aside0.mk (show At w1 (w.heap.size + 1) (fun k => w.heap.size + 1 ≤ k ∧ k < w1.heap.size) g b 0 from ⟨hR.mono (fun k hk hlt => ⟨hk, hlt⟩), hBB.out, Nat.zero_le _⟩); have hB1 := Aside0.mk (hW0.out.trans (hb.mono (by simp))); have hX1 := Aside0.mk ((hb.block w.heap.size (by simp)).trans (World.alloc_heap_new w _)); clear hR hb)) | (go_at_call 46; ((with_reducible refine (hA.out.bytes 5 5 rfl (by have := hNN.out; have := h8'.out; omega) (by have := hNN.out; omega)).mono ?_); rintro e w2 ⟨v2, rfl, _, hA2, hF2⟩; have hA2 := Aside0.mk (show At w2 (w.heap.size + 1) (fun k => w.heap.size + 1 ≤ k ∧ k < w1.heap.size) g b 5 from hA2); have hB2 := Aside0.mk (hB1.out.trans (hF2.below (B := w.heap.size) (by omega) (by omega))); have hs2 := hF2.size; have hX2 := Aside0.mk (hF2.heap hX1.out (by omega)); clear hF2)) | (go_at_call 47; ((with_reducible refine (hA2.out.byte (by have := hNN.out; have := h8'.out; omega)).mono ?_); rw [hmm.out]; rintro e w3 ⟨rfl, hA3, hF3⟩; have hA3 := Aside0.mk (show At w3 (w.heap.size + 1) (fun k => w.heap.size + 1 ≤ k ∧ k < w1.heap.size) g b 6 from hA3); have hB3 := Aside0.mk (hB2.out.trans (hF3.below (B := w.heap.size) hB2.out.size (by omega))); have hX3 := Aside0.mk (hF3.heap hX2.out (by omega)); have hs3 := hF3.size; clear hF3)) | (go_at_call 48; ((with_reducible refine (hA3.out.cell (by have := hNN.out; have := h8'.out; omega)).mono ?_); rintro e w4 ⟨rfl, hA4, hF4⟩; have hA4 := Aside0.mk (show At w4 (w.heap.size + 1) (fun k => w.heap.size + 1 ≤ k ∧ k < w1.heap.size) g b 8 from hA4); have hB4 := Aside0.mk (hB3.out.trans (hF4.below (B := w.heap.size) hB3.out.size (by omega))); have hX4 := Aside0.mk (hF4.heap hX3.out (by omega)); have hs4 := hF4.size; clear hF4)))
      all_goals (first | (exfalso; (try have := of_decide_eq_true e3'.out); omega) | (go_wp2_with (go_at_call 31; ((with_reducible refine (want_no 72 _).mono ?_); rintro e w5 ⟨rfl, rfl⟩)); exact ⟨rfl, post_bad (below_alloc hB4.out _) hTb.out⟩))
end Go.Proofs.YtembdahclmffjaaDoor.Pk
