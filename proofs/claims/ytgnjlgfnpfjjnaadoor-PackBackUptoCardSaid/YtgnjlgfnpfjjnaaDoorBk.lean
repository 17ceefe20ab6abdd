/- wisplaw03.PackBack: the walk. -/
import Derived.Test.YtgnjlgfnpfjjnaaDoorPt
import Derived.Test.YtgnjlgfnpfjjnaaDoorBm
import Derived.Test.YtgnjlgfnpfjjnaaDoorKn
import Derived.Deep.RegionHeld3
import Derived.Deep.DeepCutAuto
import Derived.Deep.CutBlock
namespace Go.Proofs.YtgnjlgfnpfjjnaaDoor.Pk
open Go.RowKit Go.Proofs.YtgnjlgfnpfjjnaaDoorW.PrintWords Go.Proofs.YtgnjlgfnpfjjnaaDoorW.PrintLast Go.Proofs.YtgnjlgfnpfjjnaaDoorW.PrintMore Go.Proofs.YtgnjlgfnpfjjnaaDoor.Mem
set_option linter.unusedVariables false
set_option linter.unusedSimpArgs false
theorem IsR.lower {W : World} {B B' g : Nat} {ok : Nat → Prop} {xs : List Int} {err : Int} (h : IsR W B ok g xs err) (hB : B' ≤ B) : IsR W B' ok g xs err := by
  obtain ⟨A, c, h1, h2, h3⟩ := h
  exact ⟨A, c, h1, Nat.le_trans hB h2, h3⟩
set_option maxRecDepth 100000 in
set_option maxHeartbeats 4000000 in
theorem Back {w : World} {A : Option Addr} {c : Nat} {ss : List PutT} {A1 A2 : Option Addr} {n1 c1 n2 c2 : Nat} (hT : Tab w) (hC : Kd.C kPut w A ss.length ss) (hl : (ss.map fun p => p.2.2.length + 5).sum ≤ 1000000000) (hn : ss.length ≤ 1000000000)
    (hA : ∀ w', Below w.heap.size w w' → Calls Tryd.prog 30 #[.slice A1 n1 c1, .slice A2 n2 c2] w' fun e w'' => e = .returned (.bool true) ∧ Below w'.heap.size w' w'') :
    Calls Tryd.prog 7 #[.slice A ss.length c, .slice A1 n1 c1, .slice A2 n2 c2] w fun e w' => e = .returned (.bool true) ∧ Below w.heap.size w w' := by
  have hTT := Aside0.mk hT
  have hCC := Aside0.mk hC
  have hLL := Aside0.mk hl
  have hAA := Aside0.mk hA
  obtain ⟨n, hn0⟩ : ∃ n, n = ss.length := ⟨_, rfl⟩
  have hnn := Aside0.mk hn0
  have hn63 : n ≤ 1000000000 := by omega
  rw [← hn0]
  have hW0 := Aside0.mk (IsW.new w w.heap.size (Nat.le_refl _))
  have hb0 := Aside0.mk (below_alloc (Below.refl w.heap.size w) (.cells #[.slice none 0 0] 36))
  obtain ⟨N, hN⟩ : ∃ N, N = min n 60 := ⟨_, rfl⟩
  have hNn : N ≤ n ∧ N ≤ 60 ∧ (N = n ∨ N = 60) := by omega
  have hN3 := Aside0.mk hNn
  clear hT hC hl hn hn0 hA hN hNn
  go_enter Tryd.func7, Tryd.ntmps7
  go_upto_block 0 with fail
  go_cut [7] (fun s7 wx => s7 = .pointer (some ⟨w.heap.size, 0, none⟩) ∧ Aside0 (IsW wx w.heap.size (fun k => w.heap.size ≤ k) w.heap.size (laysI (ss.take N))) ∧ Aside0 (Below w.heap.size w wx))
  case first =>
    go_wp2
    go_loopg [8] N (fun gk v8 wr => ∃ (i : Nat), v8 = .int .i64 (i : Int) ∧ i + gk = N ∧ Aside0 (IsW wr w.heap.size (fun k => w.heap.size ≤ k) w.heap.size (laysI (ss.take i))) ∧ Aside0 (Below w.heap.size w wr))
    case atStart => exact ⟨0, rfl, by omega, ⟨hW0.out.mono (fun k h _ _ => h.elim)⟩, hb0⟩
    case round =>
      obtain ⟨i, rfl, hi, hW, hb⟩ := hrel
      cases gk with
      | succ k1 =>
        have hN4 := hN3.out
        have hd : decide (i < n) = true := decide_eq_true (by omega)
        have hd2 : decide ((i : Int) < 60) = true := decide_eq_true (by omega)
        have hd3 : (i : Int) < 60 := by omega
        have hd4 : i < n := by omega
        clear hN4
        have hlt : i < ss.length := by have := hnn.out; have := hN3.out; omega
        obtain ⟨ad, A3, c3, e0, hx0, hx1, hx2, hl3, hC3⟩ := at_Put hCC.out i hlt rfl
        subst e0
        have hy0 := cell_below hb.out hx0
        have hy1 := cell_below hb.out hx1
        have hy2 := cell_below hb.out hx2
        have hL := lay (g := w.heap.size) (xs := laysI (ss.take i)) (bs := ss[i].2.2) ss[i].1 ss[i].2.1 hb.out (fun k h => h) (hW.out.mono (fun k _ h1 h2 => ⟨h1, h2⟩)) hC3 hl3 (by have h1 := tot_le hlt; have h2 := hLL.out; omega)
        have hsz := hb.out.size
        have hL2 := hL.mono (R' := fun e w' => (∃ v, e = .returned v) ∧ IsW w' w.heap.size (fun k => w.heap.size ≤ k) w.heap.size (laysI (ss.take (i + 1))) ∧ Below w.heap.size w w') (fun e w' ⟨A', c', he, _, _, hW', _, hb'⟩ => ⟨⟨_, he⟩, by rw [laysI_take hlt]; exact hW'.mono (fun k _ h _ => h), hb'⟩)
        generalize ss[i] = p at hy0 hy1 hy2 hL2
        have hLy := Aside0.mk hL2
        clear hlt hx0 hx1 hx2 hl3 hC3 hL hL2
        go_wp2_with (go_at_call 14; ((with_reducible refine hLy.out.mono ?_); rintro e w2 ⟨⟨v, rfl⟩, hW2, hb2⟩; have h2 := Aside0.mk hW2; have h3 := Aside0.mk hb2; clear hW2 hb2))
        go_roundg k1
        case measure => omega
        case rel => exact ⟨i + 1, rfl, by omega, h2, h3⟩
      | zero =>
        have hW1 := hW.out
        rw [show i = N by omega] at hW1
        have hWN := Aside0.mk hW1
        clear hW1 hW
        rcases (show (decide (i < n) = false) ∨ (decide (i < n) = true ∧ decide ((i : Int) < 60) = false ∧ ¬ (i : Int) < 60) by
          have := hN3.out
          by_cases h : i < n
          · exact .inr ⟨decide_eq_true h, decide_eq_false (by omega), by omega⟩
          · exact .inl (decide_eq_false h)) with hd | ⟨hd, hd2, hd3⟩
        all_goals go_wp2
        all_goals go_meet
        all_goals exact ⟨rfl, hWN, hb⟩
  case rest =>
    obtain ⟨rfl, hWN, hb1⟩ := hcut
    have hTl : (laysI (ss.take N)).length ≤ 1000000000 := by
      have h1 := laysI_len (ss.take N)
      have h2 : (ss.map fun p => p.2.2.length + 5).sum = ((ss.take N).map fun p => p.2.2.length + 5).sum + ((ss.drop N).map fun p => p.2.2.length + 5).sum := by
        rw [← List.sum_append, ← List.map_append, List.take_append_drop]
      have := hLL.out
      omega
    have hTL := Aside0.mk hTl
    have hs1 := hb1.out.size
    clear hTl
    go_wp2_with (first | (go_at_call 15; ((with_reducible refine (Done hWN.out (by have := hTL.out; omega)).mono ?_); rintro e w2 ⟨v, rfl, hR, hb2⟩; obtain ⟨A4, c4, rfl, hl4, hC4⟩ := Kd.R_reads hR; have hC5 := Aside0.mk hC4; have h3 := Aside0.mk (hb1.out.trans (hb2.mono hs1)); have hs2 := h3.out.size; clear hR hC4 hb2 hl4)) | (go_at_call 20; ((with_reducible refine (NewReader (c := c4) hC5.out (by have := hTL.out; omega)).mono ?_); rintro e w3 ⟨gr, rfl, hR, hb2⟩; have hR3 := Aside0.mk hR; have h4 := Aside0.mk (h3.out.trans (hb2.mono hs2)); have hgr := hR.base; clear hR hb2)))
    go_loopg [10] N (fun gk v10 wq => ∃ (j : Nat), v10 = .int .i64 (j : Int) ∧ j + gk = N ∧ Aside0 (IsR wq w.heap.size (fun k => w.heap.size ≤ k) gr (laysI ((ss.take N).drop j)) 0) ∧ Aside0 (Below w.heap.size w wq))
    case atStart => exact ⟨0, rfl, by omega, ⟨(hR3.out.lower hs2).mono (fun k h _ => Nat.le_trans hs2 h)⟩, h4⟩
    case round =>
      obtain ⟨j, rfl, hj, hR, hb⟩ := hrel
      cases gk with
      | zero =>
        have hR1 := hR.out
        rw [show j = N by omega, List.drop_of_length_le (by rw [List.length_take]; omega), show laysI [] = [] from rfl] at hR1
        have hRz := Aside0.mk hR1
        have kL : Calls Tryd.prog 24 #[.pointer (some ⟨gr, 0, none⟩)] wr fun e w' => e = .returned (.int .i64 0) ∧ wr = w' := RLeft hR1
        have kLL := Aside0.mk kL
        have kAA := Aside0.mk (hAA.out wr hb.out)
        have kK := Aside0.mk (fun w' (h : Below w.heap.size w w') => known (hTT.out.below h))
        have hdis : (decide (j < n) = false) ∨ (decide (j < n) = true ∧ decide ((j : Int) < 60) = false ∧ ¬ (j : Int) < 60) := by
          have := hN3.out
          by_cases h : j < n
          · exact .inr ⟨decide_eq_true h, decide_eq_false (by omega), by omega⟩
          · exact .inl (decide_eq_false h)
        clear hR1 kL
        rcases hdis with kd | ⟨kd, kd2, kd3⟩
        all_goals
          go_wp2_with (first | (go_at_call 24; ((with_reducible refine kLL.out.mono ?_); rintro e w4 ⟨rfl, rfl⟩)) | (go_at_call 23; ((with_reducible refine (RErr hRz.out).mono ?_); rintro e w4 ⟨rfl, rfl⟩)) | (go_at_call 22; ((with_reducible refine (num _ _).mono ?_); rintro e w5 ⟨rfl, rfl⟩)) | (go_at_call 30; ((with_reducible refine kAA.out.mono ?_); rintro e w4 ⟨rfl, hb4⟩; have hb5 := Aside0.mk (hb.out.trans (hb4.mono hb.out.size)); clear hb4)) | (go_at_call 13; ((with_reducible refine (kK.out _ hb5.out).mono ?_); rintro e w5 ⟨rfl, hb6⟩)))
          go_ret
          exact ⟨rfl, hb5.out.trans (hb6.mono hb5.out.size)⟩
      | succ k1 =>
        have hN4 := hN3.out
        have hlt : j < ss.length := by have := hnn.out; omega
        have kd : decide (j < n) = true := decide_eq_true (by omega)
        have kd2 : decide ((j : Int) < 60) = true := decide_eq_true (by omega)
        have kd3 : (j : Int) < 60 := by omega
        have kd4 : j < n := by omega
        obtain ⟨ad, A5, c5, e0, hx0, hx1, hx2, hl3, hC3⟩ := at_Put hCC.out j hlt rfl
        have hdr := laysI_drop (N := N) hlt (by omega)
        have hR1 := hR.out
        rw [hdr] at hR1
        subst e0
        have hy0 := cell_below hb.out hx0
        have hy1 := cell_below hb.out hx1
        have hy2 := cell_below hb.out hx2
        clear hx0 hx1 hx2 hdr hR hN4
        have hrl0 : ss[j].1 = 4 → (ss[j].2.2 ++ laysI ((ss.take N).drop (j + 1))).length ≤ 140737488351232 := fun h4 => by
          have h1 : (laysI (ss.take N)).length = (laysI ((ss.take N).take j)).length + (laysI ((ss.take N).drop j)).length := by rw [← List.length_append]; unfold laysI; rw [← List.flatten_append, ← List.map_append, List.take_append_drop]
          rw [laysI_drop hlt (by omega), h4] at h1
          have h2 := hTL.out
          have h3 : putI 4 ss[j].2.1 ss[j].2.2 = ss[j].2.2 := rfl
          rw [h3] at h1
          omega
        generalize ss[j] = p at hy0 hy1 hy2 hR1 hl3 hC3 hrl0
        clear hlt
        obtain ⟨kind, nn, bs⟩ := p
        simp only at hy0 hy1 hy2 hR1 hl3 hC3 hrl0
        obtain ⟨rest, hrest⟩ : ∃ rest, laysI ((ss.take N).drop (j + 1)) = rest := ⟨_, rfl⟩
        rw [hrest] at hR1 hrl0
        have hrr := Aside0.mk hrest
        clear hrest
        have hR2 := Aside0.mk hR1
        clear hR1
        obtain ⟨N8, hN8⟩ : ∃ N, nn % 256 = N := ⟨_, rfl⟩
        obtain ⟨N16, hN16⟩ : ∃ N, nn % 65536 = N := ⟨_, rfl⟩
        obtain ⟨N32, hN32⟩ : ∃ N, nn % 4294967296 = N := ⟨_, rfl⟩
        have q8 : IntKind.u8.wrap nn = N8 := by rw [IntKind.wrap_u8]; exact hN8
        have q16 : IntKind.u16.wrap nn = N16 := by rw [IntKind.wrap_u16]; exact hN16
        have q32 : IntKind.u32.wrap nn = N32 := by rw [IntKind.wrap_u32]; exact hN32
        have r0 : 0 ≤ N32 := by omega
        have r1 : N32 < 4294967296 := by omega
        have q64 : IntKind.i64.wrap N32 = N32 := by rw [IntKind.wrap_i64]; omega
        have e64 : (N32 == IntKind.i64.wrap N32) = true := by rw [q64]; simp
        have e8 : (N8 == N8) = true := by simp
        have e16 : (N16 == N16) = true := by simp
        have e32 : (N32 == N32) = true := by simp
        have est : ((strOfNums bs).toList == (strOfNums bs).toList) = true := by simp
        have hN88 := Aside0.mk hN8
        have hN166 := Aside0.mk hN16
        have hN322 := Aside0.mk hN32
        have hCw := Aside0.mk hC3
        have hrl : Aside0 (kind = 4 → (bs ++ rest).length ≤ 140737488351232) := ⟨hrl0⟩
        clear hN8 hN16 hN32 hC3 hrl0
        have hgrl := hR2.out.lt
        have hgne : wr.heap.size ≠ gr := by omega
        have hgr2 := hR2.out.base
        by_cases h1 : kind = 1
        · have hd1 : (kind == 1) = true := beq_iff_eq.2 h1
          have hp1 : Aside0 (putI kind nn bs = lowI 1 (nn % 18446744073709551616)) := ⟨by rw [h1]; rfl⟩
          clear h1
          go_wp2
          obtain ⟨W1, hW1⟩ : ∃ W1, W1 = wr.alloc (.cells #[.int .i64 kind, .int .i64 nn, .slice A5 bs.length c5] 39) := ⟨_, rfl⟩
          rw [← hW1]
          have hbb : Below wr.heap.size wr W1.drew := by rw [hW1]; exact below_drew (below_alloc (Below.refl _ _) _)
          have hbx : W1.drew.heap[wr.heap.size]? = some (.cells #[.int .i64 kind, .int .i64 nn, .slice A5 bs.length c5] 39 (0, 0)) := by rw [hW1]; exact World.alloc_heap_new _ _
          clear hW1
          have hbxx := Aside0.mk hbx
          have hbn := Aside0.mk (hb.out.trans (hbb.mono hb.out.size))
          obtain ⟨hq0, hq1, hq2⟩ := box3 hbx
          have hRk := hR2.out.below hbb
          rw [hp1.out] at hRk
          have hK := back1 nn hRk
          rw [hN88.out] at hK
          have hKK := Aside0.mk hK
          clear hRk hK hbb hbx
          go_region_held3 (fun w' => w'.cell? ⟨wr.heap.size, 1, none⟩ = some (.int .i64 nn)) (first | exact hq1 | exact hh1) (first | (go_at_call 25; ((with_reducible refine hKK.out.mono ?_); rintro e w2 ⟨rfl, hR3, hF3⟩; have h5 := Aside0.mk hR3; have h6 := Aside0.mk (hbn.out.trans (hF3.below (B := w.heap.size) (hbn.out.size) (by intro k hk he; omega))); have hh := box3 (hF3.heap hbxx.out hgne); obtain ⟨_, hh1, _⟩ := hh; clear hR3 hF3)))
          all_goals go_wp2
          all_goals (go_roundg k1; (case measure => omega); (case rel => exact ⟨j + 1, rfl, by omega, ⟨by rw [hrr.out]; exact h5.out⟩, h6⟩))
        · by_cases h2 : kind = 2
          · have hd1 : (kind == 1) = false := beq_eq_false_iff_ne.2 (by omega)
            have hd2 : (kind == 2) = true := beq_iff_eq.2 h2
            have hp1 : Aside0 (putI kind nn bs = lowI 2 (nn % 18446744073709551616)) := ⟨by rw [h2]; rfl⟩
            clear h2
            clear h1
            go_wp2
            obtain ⟨W1, hW1⟩ : ∃ W1, W1 = wr.alloc (.cells #[.int .i64 kind, .int .i64 nn, .slice A5 bs.length c5] 39) := ⟨_, rfl⟩
            rw [← hW1]
            have hbb : Below wr.heap.size wr W1.drew := by rw [hW1]; exact below_drew (below_alloc (Below.refl _ _) _)
            have hbx : W1.drew.heap[wr.heap.size]? = some (.cells #[.int .i64 kind, .int .i64 nn, .slice A5 bs.length c5] 39 (0, 0)) := by rw [hW1]; exact World.alloc_heap_new _ _
            clear hW1
            have hbxx := Aside0.mk hbx
            have hbn := Aside0.mk (hb.out.trans (hbb.mono hb.out.size))
            obtain ⟨hq0, hq1, hq2⟩ := box3 hbx
            have hRk := hR2.out.below hbb
            rw [hp1.out] at hRk
            have hK := back2 nn hRk
            rw [hN166.out] at hK
            have hKK := Aside0.mk hK
            clear hRk hK hbb hbx
            go_region_held3 (fun w' => w'.cell? ⟨wr.heap.size, 1, none⟩ = some (.int .i64 nn)) (first | exact hq1 | exact hh1) (first | (go_at_call 28; ((with_reducible refine hKK.out.mono ?_); rintro e w2 ⟨rfl, hR3, hF3⟩; have h5 := Aside0.mk hR3; have h6 := Aside0.mk (hbn.out.trans (hF3.below (B := w.heap.size) (hbn.out.size) (by intro k hk he; omega))); have hh := box3 (hF3.heap hbxx.out hgne); obtain ⟨_, hh1, _⟩ := hh; clear hR3 hF3)))
            all_goals go_wp2
            all_goals (go_roundg k1; (case measure => omega); (case rel => exact ⟨j + 1, rfl, by omega, ⟨by rw [hrr.out]; exact h5.out⟩, h6⟩))
          · by_cases h3 : kind = 3
            · have hd1 : (kind == 1) = false := beq_eq_false_iff_ne.2 (by omega)
              have hd2 : (kind == 2) = false := beq_eq_false_iff_ne.2 (by omega)
              have hd3 : (kind == 3) = true := beq_iff_eq.2 h3
              have hp1 : Aside0 (putI kind nn bs = lowI 4 (nn % 18446744073709551616)) := ⟨by rw [h3]; rfl⟩
              clear h3
              clear h1 h2
              go_wp2
              obtain ⟨W1, hW1⟩ : ∃ W1, W1 = wr.alloc (.cells #[.int .i64 kind, .int .i64 nn, .slice A5 bs.length c5] 39) := ⟨_, rfl⟩
              rw [← hW1]
              have hbb : Below wr.heap.size wr W1.drew := by rw [hW1]; exact below_drew (below_alloc (Below.refl _ _) _)
              have hbx : W1.drew.heap[wr.heap.size]? = some (.cells #[.int .i64 kind, .int .i64 nn, .slice A5 bs.length c5] 39 (0, 0)) := by rw [hW1]; exact World.alloc_heap_new _ _
              clear hW1
              have hbxx := Aside0.mk hbx
              have hbn := Aside0.mk (hb.out.trans (hbb.mono hb.out.size))
              obtain ⟨hq0, hq1, hq2⟩ := box3 hbx
              have hRk := hR2.out.below hbb
              rw [hp1.out] at hRk
              have hK := back3 nn hRk
              rw [hN322.out] at hK
              have hKK := Aside0.mk hK
              clear hRk hK hbb hbx
              go_region_held3 (fun w' => w'.cell? ⟨wr.heap.size, 1, none⟩ = some (.int .i64 nn)) (first | exact hq1 | exact hh1) (first | (go_at_call 29; ((with_reducible refine hKK.out.mono ?_); rintro e w2 ⟨rfl, hR3, hF3⟩; have h5 := Aside0.mk hR3; have h6 := Aside0.mk (hbn.out.trans (hF3.below (B := w.heap.size) (hbn.out.size) (by intro k hk he; omega))); have hh := box3 (hF3.heap hbxx.out hgne); obtain ⟨_, hh1, _⟩ := hh; clear hR3 hF3)))
              all_goals go_wp2
              all_goals (go_roundg k1; (case measure => omega); (case rel => exact ⟨j + 1, rfl, by omega, ⟨by rw [hrr.out]; exact h5.out⟩, h6⟩))
            · by_cases h4 : kind = 4
              · have hd1 : (kind == 1) = false := beq_eq_false_iff_ne.2 (by omega)
                have hd2 : (kind == 2) = false := beq_eq_false_iff_ne.2 (by omega)
                have hd3 : (kind == 3) = false := beq_eq_false_iff_ne.2 (by omega)
                have hd4 : (kind == 4) = true := beq_iff_eq.2 h4
                have hp1 : Aside0 (putI kind nn bs = bs) := ⟨by rw [h4]; rfl⟩
                have hrl4 := Aside0.mk (hrl.out h4)
                clear h4
                clear h1 h2 h3
                go_wp2
                obtain ⟨W1, hW1⟩ : ∃ W1, W1 = wr.alloc (.cells #[.int .i64 kind, .int .i64 nn, .slice A5 bs.length c5] 39) := ⟨_, rfl⟩
                rw [← hW1]
                have hbb : Below wr.heap.size wr W1.drew := by rw [hW1]; exact below_drew (below_alloc (Below.refl _ _) _)
                have hbx : W1.drew.heap[wr.heap.size]? = some (.cells #[.int .i64 kind, .int .i64 nn, .slice A5 bs.length c5] 39 (0, 0)) := by rw [hW1]; exact World.alloc_heap_new _ _
                clear hW1
                have hbxx := Aside0.mk hbx
                have hbn := Aside0.mk (hb.out.trans (hbb.mono hb.out.size))
                obtain ⟨hq0, hq1, hq2⟩ := box3 hbx
                have hRk := hR2.out.below hbb
                rw [hp1.out] at hRk
                have hK := back4 hRk hrl4.out
                have hKK := Aside0.mk hK
                have hstr := Kd.C_string (P := Tryd.prog) (c := c5) Tryd.underlying23 Tryd.underlying5 Tryd.underlying9 (Kd.C_below hCw.out hbn.out)
                clear hRk hK hbb hbx
                go_region_with (go_at_call 26; ((with_reducible refine hKK.out.mono ?_); rintro e w2 ⟨v, rfl, hV, hR3, hF3⟩; have h5 := Aside0.mk hR3; have h6 := Aside0.mk (hbn.out.trans (hF3.below (B := w.heap.size) (hbn.out.size) (by intro k hk he; omega))); have hh := box3 (hF3.heap hbxx.out hgne); obtain ⟨_, hh1, hh2⟩ := hh; obtain ⟨A6, c6, rfl, _, hC6⟩ := Kd.R_reads hV; have hstr2 := Kd.C_string (P := Tryd.prog) (c := c6) Tryd.underlying23 Tryd.underlying5 Tryd.underlying9 hC6; have hstr3 := Kd.C_string (P := Tryd.prog) (c := c5) Tryd.underlying23 Tryd.underlying5 Tryd.underlying9 (Kd.C_below hCw.out h6.out); clear hV hC6; clear hR3 hF3))
                all_goals go_wp2
                all_goals (go_roundg k1; (case measure => omega); (case rel => exact ⟨j + 1, rfl, by omega, ⟨by rw [hrr.out]; exact h5.out⟩, h6⟩))
              · by_cases h5 : kind = 5
                · have hd1 : (kind == 1) = false := beq_eq_false_iff_ne.2 (by omega)
                  have hd2 : (kind == 2) = false := beq_eq_false_iff_ne.2 (by omega)
                  have hd3 : (kind == 3) = false := beq_eq_false_iff_ne.2 (by omega)
                  have hd4 : (kind == 4) = false := beq_eq_false_iff_ne.2 (by omega)
                  have hd5 : (kind == 5) = true := beq_iff_eq.2 h5
                  have hp1 : Aside0 (putI kind nn bs = numOf nn) := ⟨by rw [h5]; rfl⟩
                  clear h5
                  clear h1 h2 h3 h4
                  go_wp2
                  obtain ⟨W1, hW1⟩ : ∃ W1, W1 = wr.alloc (.cells #[.int .i64 kind, .int .i64 nn, .slice A5 bs.length c5] 39) := ⟨_, rfl⟩
                  rw [← hW1]
                  have hbb : Below wr.heap.size wr W1.drew := by rw [hW1]; exact below_drew (below_alloc (Below.refl _ _) _)
                  have hbx : W1.drew.heap[wr.heap.size]? = some (.cells #[.int .i64 kind, .int .i64 nn, .slice A5 bs.length c5] 39 (0, 0)) := by rw [hW1]; exact World.alloc_heap_new _ _
                  clear hW1
                  have hbxx := Aside0.mk hbx
                  have hbn := Aside0.mk (hb.out.trans (hbb.mono hb.out.size))
                  obtain ⟨hq0, hq1, hq2⟩ := box3 hbx
                  have hRk := hR2.out.below hbb
                  rw [hp1.out] at hRk
                  have hK := back5 nn hRk
                  rw [hN322.out] at hK
                  have hKK := Aside0.mk hK
                  clear hRk hK hbb hbx
                  go_region_held3 (fun w' => w'.cell? ⟨wr.heap.size, 1, none⟩ = some (.int .i64 nn)) (first | exact hq1 | exact hh1) (first | (go_at_call 27; ((with_reducible refine hKK.out.mono ?_); rintro e w2 ⟨rfl, hR3, hF3⟩; have h5 := Aside0.mk hR3; have h6 := Aside0.mk (hbn.out.trans (hF3.below (B := w.heap.size) (hbn.out.size) (by intro k hk he; omega))); have hh := box3 (hF3.heap hbxx.out hgne); obtain ⟨_, hh1, _⟩ := hh; clear hR3 hF3)))
                  all_goals go_wp2
                  all_goals (go_roundg k1; (case measure => omega); (case rel => exact ⟨j + 1, rfl, by omega, ⟨by rw [hrr.out]; exact h5.out⟩, h6⟩))
                · have hd1 : (kind == 1) = false := beq_eq_false_iff_ne.2 h1
                  have hd2 : (kind == 2) = false := beq_eq_false_iff_ne.2 h2
                  have hd3 : (kind == 3) = false := beq_eq_false_iff_ne.2 h3
                  have hd4 : (kind == 4) = false := beq_eq_false_iff_ne.2 h4
                  have hd5 : (kind == 5) = false := beq_eq_false_iff_ne.2 h5
                  have hp1 : Aside0 (putI kind nn bs = []) := ⟨by unfold putI; rw [if_neg h1, if_neg h2, if_neg h3, if_neg h4, if_neg h5]⟩
                  clear h1 h2 h3 h4 h5
                  go_wp2
                  go_roundg k1
                  case measure => omega
                  case rel =>
                    have hbb := below_alloc (Below.refl wr.heap.size wr) (.cells #[.int .i64 kind, .int .i64 nn, .slice A5 bs.length c5] 39)
                    have hRk := hR2.out.below hbb
                    rw [hp1.out] at hRk
                    exact ⟨j + 1, rfl, by omega, ⟨by rw [hrr.out]; exact hRk⟩, ⟨hb.out.trans (hbb.mono hb.out.size)⟩⟩
end Go.Proofs.YtgnjlgfnpfjjnaaDoor.Pk
