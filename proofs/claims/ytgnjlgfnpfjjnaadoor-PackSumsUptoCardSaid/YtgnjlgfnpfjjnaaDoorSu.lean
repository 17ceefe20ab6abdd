/- wisplaw03.PackSums: the walk. -/
import Derived.Test.YtgnjlgfnpfjjnaaDoorKn
import Derived.Test.YtgnjlgfnpfjjnaaDoorJn
import Derived.Test.YtgnjlgfnpfjjnaaDoorTu
namespace Go.Proofs.YtgnjlgfnpfjjnaaDoor.Pk
open Go.RowKit Go.Proofs.YtgnjlgfnpfjjnaaDoorW.PrintWords Go.Proofs.YtgnjlgfnpfjjnaaDoorW.PrintLast Go.Proofs.YtgnjlgfnpfjjnaaDoorW.PrintMore Go.Proofs.YtgnjlgfnpfjjnaaDoor.Mem
set_option linter.unusedVariables false
set_option linter.unusedSimpArgs false
theorem infoL : (Tryd.prog.info? 23).map (fun i => (i.zero, i.size, i.bytes)) = some (some (.slice none 0 0), 1, 24) := by kernel_rfl
theorem flat_one (xs : List Int) : [xs].flatten = xs := by simp
theorem sumI_one (ps : List (List Int)) : sumI [ps.flatten] = sumI ps := by unfold sumI; rw [flat_one]
set_option maxRecDepth 100000 in
set_option maxHeartbeats 4000000 in
theorem Sums {w : World} {A : Option Addr} {c : Nat} {ps : List (List Int)} (hT : Tab w) (hC : Kd.C (Kd.slice 5 (Kd.int .u8)) w A ps.length ps) (hB : allB ps.flatten) (hl : ps.flatten.length ≤ 1000000000) (hn : ps.length ≤ 1000000000) :
    Calls Tryd.prog 3 #[.slice A ps.length c] w fun e w' => e = .returned (.bool true) ∧ Below w.heap.size w w' := by
  have hTT := Aside0.mk hT
  have hCC := Aside0.mk hC
  have hBB := Aside0.mk hB
  have hLL := Aside0.mk hl
  obtain ⟨n, hn0⟩ : ∃ n, n = ps.length := ⟨_, rfl⟩
  have hnn := Aside0.mk hn0
  have hn63 : n ≤ 1000000000 := by omega
  rw [← hn0]
  clear hT hC hB hl hn hn0
  have each : Aside0 (∀ i (h : i < ps.length), ps[i].length ≤ 1000000000) := ⟨fun i h => by
    have h1 : ps.flatten.length = (ps.take i).flatten.length + ((ps.drop i).flatten).length := by rw [← List.length_append, ← List.flatten_append, List.take_append_drop]
    rw [List.drop_eq_getElem_cons h, List.flatten_cons, List.length_append] at h1
    have := hLL.out
    omega⟩
  go_enter Tryd.func3, Tryd.ntmps3
  go_wp2
  go_loopg [3, 11] n (fun gk v3 v11 wr => ∃ (i : Nat) (v : Value), v3 = v ∧ v11 = .int .i64 (i : Int) ∧ i + gk = n ∧ Aside0 (Kd.R mr 23 wr w.heap.size (fun _ => True) v (ps.take i)) ∧ Aside0 (Below w.heap.size w wr))
  case atStart => exact ⟨0, _, rfl, rfl, by omega, ⟨Kd.R_nil _ _ _ _ _⟩, ⟨Below.refl _ _⟩⟩
  case round =>
    obtain ⟨i, v3, hv3, rfl, hi, hR, hb⟩ := hrel
    replace hv3 := hv3.symm
    subst hv3
    cases gk with
    | succ k1 =>
      have hd : decide (i < n) = true := decide_eq_true (by omega)
      obtain ⟨a0, cc, e0, hnil, hK, hx0c⟩ := Kd.C_get (Kd.C_below hCC.out hb.out) [] (i : Int) (by omega) (by have := hnn.out; omega)
      subst e0
      obtain ⟨A1, c1, rfl, hl1, hC1⟩ := hK
      have hx1c := hx0c 0 _ rfl
      rw [Int.toNat_natCast, show (Kd.slice 5 (Kd.int .u8)).sz = 1 from rfl, Nat.mul_one, Nat.add_zero] at hx1c
      clear hx0c
      have hlt : i < ps.length := by have := hnn.out; omega
      have hpi : ps.getD i [] = ps[i] := by rw [List.getD_eq_getElem?_getD, List.getElem?_eq_getElem hlt]; rfl
      simp only [Int.toNat_natCast] at hC1 hx1c
      rw [hpi] at hC1 hx1c
      have htk : ps.take (i + 1) = ps.take i ++ [ps[i]] := List.take_succ_eq_append_getElem hlt
      have hle := each.out i hlt
      clear hpi hl1 hnil
      generalize ps[i] = p at hC1 hx1c htk hle
      have hCC1 := Aside0.mk hC1
      have htkk := Aside0.mk htk
      have hle1 : Aside0 (p.length ≤ 140737488351232) := ⟨by omega⟩
      have hs := hb.out.size
      clear hlt hC1 htk hle
      have hile : Aside0 (((ps.take i).length + 1) * 24 ≤ 140737488355328) := ⟨by rw [List.length_take]; omega⟩
      go_wp2_with (first | (go_at_call 8; (refine (Roomy hCC1.out hle1.out).mono ?_; rintro e w2 ⟨g, cap, rfl, hM, hb2⟩; have hb3 := Aside0.mk (hb.out.trans (hb2.mono hs)); have hR3 := Aside0.mk (Kd.R_below hR.out hb2); have hM3 := Aside0.mk (hM.lower hs); have hs3 := hb3.out.size; have hge := Aside0.mk (fun k (hk : v3.ownBlock = some k) => (Nat.ne_of_lt (Nat.lt_of_lt_of_le (Kd.R_lt hR.out k hk) hM.base))); clear hM hb2)) | (at_builtin; refine Kd.R_append mr (w0 := w) w.heap.size rfl _ _ 22 23 (.slice none 0 0) 24 rfl Tryd.underlying22 infoL rfl (by decide) (by decide) v3 (ps.take i) p [.slice (some ⟨g, 0, none⟩) p.length cap] (fun _ => True) (fun k => k = g) rfl rfl ⟨g, cap, rfl, hM3.out, rfl⟩ (fun k hk => ⟨trivial, fun e => hge.out k e.symm (by rw [hk])⟩) (fun _ _ => trivial) hR3.out hb3.out hs3 hile.out ?_; intro v1 w1 ho hbl _ _; have ho1 := Aside0.mk ho; have hb1 := Aside0.mk hbl; clear ho hbl))
      go_roundg k1
      case measure => omega
      case rel => exact ⟨i + 1, v1, rfl, rfl, by omega, ⟨by rw [htkk.out]; exact ho1.out⟩, hb1⟩
    | zero =>
      have hd : decide (i < n) = false := decide_eq_false (by omega)
      have hRr := hR.out
      rw [List.take_of_length_le (by have := hnn.out; omega)] at hRr
      obtain ⟨A3, c3, rfl, hl3, hC3⟩ := Kd.R_reads hRr
      have hCm := Aside0.mk hC3
      have hCp := Aside0.mk (Kd.C_below hCC.out hb.out)
      have hTp := Aside0.mk (hTT.out.below hb.out)
      have hs := hb.out.size
      have hLj : Aside0 (ps.flatten.length ≤ 140737488351232) := ⟨by have := hLL.out; omega⟩
      obtain ⟨S, hS⟩ : ∃ S, sumI ps = S := ⟨_, rfl⟩
      obtain ⟨ys, hys⟩ : ∃ ys, ps.flatten = ys := ⟨_, rfl⟩
      have hS1 : sumI [ys] = S := by rw [← hys, sumI_one, hS]
      have hBY := Aside0.mk hBB.out
      rw [hys] at hBY
      have hne : (S != S) = false := by simp
      have hSS := Aside0.mk hS
      have hSS1 := Aside0.mk hS1
      have hm : ps.length = n := hnn.out.symm
      have hmm := Aside0.mk hm
      rw [hm]
      have hKn := Aside0.mk (fun w' (h : Below w.heap.size w w') => known (hTT.out.below h))
      have hJ := Join (c := c) hCp.out hLj.out
      rw [hm, hys] at hJ
      have hJJ := Aside0.mk hJ
      clear hR hRr hC3 hS hS1 hm hJ hys
      go_wp2_with (first | (go_at_call 9; ((with_reducible refine hJJ.out.mono ?_); rintro e w2 ⟨u, rfl, hU, hb2⟩; obtain ⟨A4, c4, rfl, hl4, hC4⟩ := Kd.R_reads hU; have hC4' := Aside0.mk hC4; have hT2 := Aside0.mk (hTp.out.below hb2); have hm2 := Aside0.mk (Kd.C_below hCm.out hb2); have hb3 := Aside0.mk (hb.out.trans (hb2.mono hs)); have k1 := Sum (c := c3) hT2.out (mr_C hm2.out); rw [hSS.out, hmm.out] at k1; have kk1 := Aside0.mk k1; have k2 := RefSum (c := c4) hC4'.out hBY.out; rw [hSS1.out] at k2; have kk2 := Aside0.mk k2; have k3 := sum_call (c := c4) hT2.out hl4 hC4'.out hSS1.out; have kk3 := Aside0.mk k3; have k4 := RefSum (c := c4) (Kd.C_below hC4'.out (below_alloc (Below.refl _ _) (.cells #[.slice A4 ys.length c4] 23))) hBY.out; rw [hSS1.out] at k4; have kk4 := Aside0.mk k4; clear k1 k2 k3 k4 hU hC4 hb2 hl4)) | (go_at_call 10; ((with_reducible refine kk1.out.mono ?_); rintro e w3 ⟨rfl, rfl⟩; clear kk1)) | (go_at_call 11; ((with_reducible refine kk2.out.mono ?_); rintro e w3 ⟨rfl, rfl⟩; clear kk2)) | (go_at_call 10; ((with_reducible refine kk3.out.mono ?_); rintro e w3 ⟨rfl, rfl⟩; clear kk3)) | (go_at_call 11; ((with_reducible refine kk4.out.mono ?_); rintro e w3 ⟨rfl, rfl⟩; clear kk4)))
      have hb9 := Aside0.mk (hb3.out.trans ((below_alloc (Below.refl w2.heap.size w2) (.cells #[.slice A4 ys.length c4] 23)).mono hb3.out.size))
      have hm9 := Aside0.mk (Kd.C_below hm2.out (below_alloc (Below.refl w2.heap.size w2) (.cells #[.slice A4 ys.length c4] 23)))
      rw [hmm.out] at hm9
      go_loopg [38] n (fun gj v38 wq => ∃ (j : Nat), v38 = .int .i64 (j : Int) ∧ j + gj = n ∧ Aside0 (Below w.heap.size w wq) ∧ Aside0 (Kd.C mr wq A3 n ps))
      case atStart => exact ⟨0, rfl, by omega, hb9, hm9⟩
      case round =>
        obtain ⟨j, rfl, hj, hb, hM⟩ := hrel
        cases gk with
        | zero =>
          have hd2 : decide (j < n) = false := decide_eq_false (by omega)
          go_wp2_with (go_at_call 13; (with_reducible refine (hKn.out _ hb.out).mono ?_); rintro e w4 ⟨rfl, hb4⟩)
          go_ret
          exact ⟨rfl, hb.out.trans (hb4.mono hb.out.size)⟩
        | succ j1 =>
          have hd2 : decide (j < n) = true := decide_eq_true (by omega)
          obtain ⟨a1, cc, e1, hnil, hK, hx0c⟩ := Kd.C_get (Kd.C_below hCC.out hb.out) [] (j : Int) (by omega) (by have := hnn.out; omega)
          subst e1
          obtain ⟨A1, c1, rfl, hl1, hC1⟩ := hK
          have hx1c := hx0c 0 _ rfl
          rw [Int.toNat_natCast, show (Kd.slice 5 (Kd.int .u8)).sz = 1 from rfl, Nat.mul_one, Nat.add_zero] at hx1c
          obtain ⟨a3, cc, e3, hnil3, hK3, hy0c⟩ := Kd.C_get hM.out [] (j : Int) (by omega) (by omega)
          subst e3
          obtain ⟨g, cap, rfl, hcap, hA⟩ := hK3
          have hy1c := hy0c 0 _ rfl
          rw [Int.toNat_natCast, show mr.sz = 1 from rfl, Nat.mul_one, Nat.add_zero] at hy1c
          clear hx0c hy0c hnil hnil3 hl1
          have hlt : j < ps.length := by have := hnn.out; omega
          have hpi : ps.getD j [] = ps[j] := by rw [List.getD_eq_getElem?_getD, List.getElem?_eq_getElem hlt]; rfl
          simp only [Int.toNat_natCast] at hC1 hx1c hA hcap hy1c
          rw [hpi] at hC1 hx1c hA hcap hy1c
          have hle := each.out j hlt
          clear hpi
          generalize ps[j] = p at hC1 hx1c hA hcap hy1c hle
          clear hlt
          have hW := Aside0.mk (AsWasC (c := c1) hA hcap hC1 (by omega))
          have hb2 := Aside0.mk (below_drew hb.out)
          have hM2 := Aside0.mk (Kd.C_below hM.out (below_drew (Below.refl _ _)))
          clear hA hcap hC1 hle
          go_wp2_with (go_at_call 12; (with_reducible refine hW.out.mono ?_); rintro e w4 ⟨rfl, rfl⟩)
          go_roundg j1
          case measure => omega
          case rel => exact ⟨j + 1, rfl, by omega, hb2, hM2⟩
end Go.Proofs.YtgnjlgfnpfjjnaaDoor.Pk
