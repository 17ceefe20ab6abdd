/- The document's own reader: its Number takes what the program's takes. -/
import Derived.Test.YtgnjlgfnpfjjnaaDoorQr
namespace Go.Proofs.YtgnjlgfnpfjjnaaDoor.Pk
open Go.RowKit Go.Proofs.YtgnjlgfnpfjjnaaDoorW.PrintWords Go.Proofs.YtgnjlgfnpfjjnaaDoorW.PrintLast Go.Proofs.YtgnjlgfnpfjjnaaDoorW.PrintMore Go.Proofs.YtgnjlgfnpfjjnaaDoor.Mem
set_option linter.unusedVariables false
set_option linter.unusedSimpArgs false
/-- how many of the first k bytes, from the first on, bid to go on -/
def cn : Nat → List Int → Nat
  | 0, _ => 0
  | _ + 1, [] => 0
  | k + 1, b :: l => if b ≥ 128 then cn k l + 1 else 0
/-- seven bits a byte, the lowest first -/
def v7 : List Int → Int
  | [] => 0
  | b :: l => b % 128 + 128 * v7 l
theorem cn_le : ∀ k l, cn k l ≤ k ∧ cn k l ≤ l.length
  | 0, l => by simp [cn]
  | k + 1, [] => by simp [cn]
  | k + 1, b :: l => by
    have := cn_le k l
    simp only [cn, List.length_cons]
    split <;> omega
theorem v7_pos : ∀ l, 0 ≤ v7 l
  | [] => by simp [v7]
  | b :: l => by have := v7_pos l; simp only [v7]; omega
theorem v7_lt {l : List Int} (hl : l.length ≤ 5) : 0 ≤ v7 l ∧ v7 l < 34359738368 := by
  refine ⟨v7_pos l, ?_⟩
  match l, hl with
  | [], _ => simp [v7]
  | [a], _ => simp [v7]; omega
  | [a, b], _ => simp [v7]; omega
  | [a, b, c], _ => simp [v7]; omega
  | [a, b, c, d], _ => simp [v7]; omega
  | [a, b, c, d, e], _ => simp [v7]; omega
/-- the program's way is the document's -/
theorem numR_cn : ∀ (k i : Nat) (l : List Int) (x : Int), i + k = 5 → allB l → 0 ≤ x → x < 2 ^ (7 * i) →
    numR k i l x = if cn k l = k then (0, 31, 0) else if cn k l = l.length then (0, 30, 0) else
      if (rd l (cn k l : Int) = 0 ∧ 0 < i + cn k l) ∨ (x + v7 (l.take (cn k l + 1)) * 2 ^ (7 * i)) / 4294967296 ≠ 0 then (0, 31, 0) else (x + v7 (l.take (cn k l + 1)) * 2 ^ (7 * i), 0, i + cn k l + 1)
  | 0, i, l, x, hi, hl, h0, hx => by simp [numR, cn]
  | k + 1, i, [], x, hi, hl, h0, hx => by simp [numR, cn]
  | k + 1, i, b :: t, x, hi, hl, h0, hx => by
    have hb := hl b (by simp)
    have hbb := hb
    unfold isB at hbb
    have ho := orN_val (i := i) (by omega) hb h0 hx
    rw [numR_step ho]
    have hm : b % 128 * 2 ^ (7 * i) ≤ 127 * 2 ^ (7 * i) := Int.mul_le_mul_of_nonneg_right (by omega) (Int.le_of_lt (two_pow_pos _))
    have hm0 : 0 ≤ b % 128 * 2 ^ (7 * i) := Int.mul_nonneg (by omega) (Int.le_of_lt (two_pow_pos _))
    by_cases hc : b ≥ 128
    · rw [if_pos hc]
      have h1 := numR_cn k (i + 1) t (x + b % 128 * 2 ^ (7 * i)) (by omega) (fun z hz => hl z (by simp [hz])) (by omega) (by rw [pow7]; omega)
      rw [h1]
      have e1 : cn (k + 1) (b :: t) = cn k t + 1 := by simp only [cn]; rw [if_pos hc]
      rw [e1]
      have e2 : rd (b :: t) ((cn k t + 1 : Nat) : Int) = rd t (cn k t : Int) := by
        unfold rd; rw [Int.toNat_natCast, Int.toNat_natCast]; rfl
      have e3 : x + v7 ((b :: t).take (cn k t + 1 + 1)) * 2 ^ (7 * i) = x + b % 128 * 2 ^ (7 * i) + v7 (t.take (cn k t + 1)) * 2 ^ (7 * (i + 1)) := by
        rw [List.take_succ_cons, pow7]
        simp only [v7]
        rw [Int.add_mul, Int.mul_comm 128 (v7 _), Int.mul_assoc]
        omega
      rw [e2, e3, List.length_cons]
      by_cases c1 : cn k t = k
      · rw [if_pos c1, if_pos (by omega)]
      · rw [if_neg c1, if_neg (show ¬ cn k t + 1 = k + 1 by omega)]
        by_cases c2 : cn k t = t.length
        · rw [if_pos c2, if_pos (by omega)]
        · rw [if_neg c2, if_neg (show ¬ cn k t + 1 = t.length + 1 by omega)]
          simp only [show 0 < i + 1 + cn k t ↔ 0 < i + (cn k t + 1) by omega, show i + 1 + cn k t + 1 = i + (cn k t + 1) + 1 by omega]
    · rw [if_neg hc]
      have e1 : cn (k + 1) (b :: t) = 0 := by simp only [cn]; rw [if_neg hc]
      have c1 : ¬ 0 = k + 1 := by omega
      have c2 : ¬ 0 = (b :: t).length := by simp
      rw [e1, if_neg c1, if_neg c2]
      have e2 : rd (b :: t) ((0 : Nat) : Int) = b := rfl
      have e3 : v7 ((b :: t).take (0 + 1)) = b % 128 := by simp [v7]
      rw [e2, e3]
      rfl
theorem numF_cn {xs : List Int} (h : allB xs) : numF xs 0 = if cn 5 xs = 5 then (0, 31, 0) else if cn 5 xs = xs.length then (0, 30, 0) else
      if (rd xs (cn 5 xs : Int) = 0 ∧ 0 < cn 5 xs) ∨ v7 (xs.take (cn 5 xs + 1)) / 4294967296 ≠ 0 then (0, 31, 0) else (v7 (xs.take (cn 5 xs + 1)), 0, cn 5 xs + 1) := by
  have h1 := numR_cn 5 0 xs 0 rfl h (by decide) (by decide)
  unfold numF
  rw [if_pos rfl, h1]
  simp
theorem cn_step {xs : List Int} {n k : Nat} (hlt : n < xs.length) : cn (k + 1) (xs.drop n) = if rd xs (n : Int) ≥ 128 then cn k (xs.drop (n + 1)) + 1 else 0 := by
  rw [List.drop_eq_getElem_cons hlt]
  have e : rd xs (n : Int) = xs[n] := by unfold rd; rw [Int.toNat_natCast, List.getD_eq_getElem?_getD, List.getElem?_eq_getElem hlt]; rfl
  rw [e]
  rfl
theorem v7_from {l : List Int} {j : Nat} (h : j < l.length) : v7 (l.drop j) = 128 * v7 (l.drop (j + 1)) + rd l (j : Int) % 128 := by
  rw [List.drop_eq_getElem_cons h]
  have e : rd l (j : Int) = l[j] := by unfold rd; rw [Int.toNat_natCast, List.getD_eq_getElem?_getD, List.getElem?_eq_getElem h]; rfl
  rw [e]
  simp only [v7]
  omega
theorem qnum_bad {w : World} {B g : Nat} {ok : Nat → Prop} {xs : List Int} {e : Int} (h : IsQ w B ok g xs 0) (hx : numF xs 0 = (0, e, 0)) :
    Ending.returned (Value.int .i64 0) = .returned (.int .i64 (numF xs 0).1) ∧ IsQ (w.setCell ⟨g, 1, none⟩ (.int .i64 e)) B ok g (xs.drop (numF xs 0).2.2) (numF xs 0).2.1 ∧ Fr w (w.setCell ⟨g, 1, none⟩ (.int .i64 e)) (fun k => k = g) := by
  rw [hx]
  obtain ⟨h1, h2⟩ := h.fail e
  exact ⟨rfl, h1, h2⟩
theorem qnum_ok {w : World} {B g i m c : Nat} {ok : Nat → Prop} {xs : List Int} {a0 : Addr} {A2 : Option Addr} {Y : Int} (hb : Box2 w g 50 (.slice (some a0) xs.length c) (.int .i64 0)) (hC : Kd.C (Kd.int .u8) w (some a0) xs.length xs) (hl : xs.length ≤ c) (hL : Lies ok g (some a0) xs.length)
    (hB : B ≤ g) (hm : m = xs.length) (hi : i < m) (hA : A2 = (if c = i + 1 then some a0 else some (a0.add (i + 1)))) (hx : numF xs 0 = (Y, (0 : Int), i + 1)) :
    Ending.returned (Value.int .i64 Y) = .returned (.int .i64 (numF xs 0).1) ∧ IsQ (w.setCell ⟨g, 0, none⟩ (.slice A2 (m - (i + 1)) (c - (i + 1)))) B ok g (xs.drop (numF xs 0).2.2) (numF xs 0).2.1 ∧ Fr w (w.setCell ⟨g, 0, none⟩ (.slice A2 (m - (i + 1)) (c - (i + 1)))) (fun k => k = g) := by
  rw [hx]
  have hF : Fr w (w.setCell ⟨g, 0, none⟩ (.slice A2 (m - (i + 1)) (c - (i + 1)))) (fun q => q = g) := (Fr.refl w (fun q => q = g)).setCell (p := ⟨g, 0, none⟩) (fun _ => rfl) _
  have hkl : i + 1 ≤ xs.length := by omega
  have hC2 : Kd.C (Kd.int .u8) w A2 (xs.drop (i + 1)).length (xs.drop (i + 1)) := by
    have h3 := Kd.C_drop hC hkl hl
    simp only [show (Kd.int .u8).sz = 1 from rfl, Nat.mul_one, Option.map_some] at h3
    rw [hA]; exact h3
  have hL2 : Lies ok g A2 (xs.drop (i + 1)).length := fun a ha hn => by
    have hx : 0 < xs.length := by omega
    rw [hA] at ha
    split at ha
    · exact hL a ha hx
    · cases ha
      rw [show (a0.add (i + 1)).block = a0.block by unfold Addr.add; split <;> rfl]
      exact hL a0 rfl hx
  refine ⟨rfl, ⟨A2, c - (i + 1), ?_, hB, by show (xs.drop (i + 1)).length ≤ c - (i + 1); rw [List.length_drop]; omega, C_move hC2 (fun a ha hn => hF.block _ (IsR.C_lt hC2 ha hn) (hL2 a ha hn).2), hL2⟩, hF⟩
  have hb2 := hb.set0 (.slice A2 (m - (i + 1)) (c - (i + 1)))
  rw [List.length_drop, ← hm]; exact hb2
set_option maxRecDepth 100000 in
set_option maxHeartbeats 4000000 in
theorem QNumber {w : World} {B g : Nat} {ok : Nat → Prop} {xs : List Int} {err : Int} (hR : IsQ w B ok g xs err) (hlen : xs.length ≤ 140737488351232) (hB : allB xs) :
    Calls Tryd.prog 38 #[.pointer (some ⟨g, 0, none⟩)] w fun e w' => e = .returned (.int .i64 (numF xs err).1) ∧ IsQ w' B ok g (xs.drop (numF xs err).2.2) (numF xs err).2.1 ∧ Fr w w' (fun k => k = g) := by
  have hRR := Aside0.mk hR
  by_cases he : err = 0
  · subst he
    obtain ⟨A, c, hb, hBg, hl, hC, hL⟩ := id hR
    have hF := Aside0.mk (numF_cn hB)
    have hBB := Aside0.mk hB
    clear hR hB
    obtain ⟨m, hm⟩ : ∃ m, m = xs.length := ⟨_, rfl⟩
    have hmm := Aside0.mk hm
    have h0 := hb.cell0
    have f0 := hb.frozen 0
    have f1 := hb.frozen 1
    have h1 := hb.cell1
    rw [← hm] at h0 hlen
    have hCC := Aside0.mk hC
    have hll := Aside0.mk hl
    have hLL := Aside0.mk hL
    have hbb := Aside0.mk hb
    clear hb hC hL hm hl
    obtain ⟨i0, hi, _, hz1, _⟩ := info_parts infoB
    go_enter Tryd.func38, Tryd.ntmps38
    go_wp2
    go_loopg [3] 5 (fun gk v3 wr => ∃ (n : Nat), v3 = .int .i64 (n : Int) ∧ n + gk = 5 ∧ n ≤ m ∧ wr = w ∧ Aside0 (cn 5 xs = n + cn gk (xs.drop n)))
    case atStart => exact ⟨0, rfl, by omega, by omega, rfl, ⟨by simp⟩⟩
    case round =>
      obtain ⟨n, rfl, hn5, hnm, rfl, hcn⟩ := hrel
      cases gk with
      | zero =>
        have hn : n = 5 := by omega
        subst hn
        have hx := hF.out
        rw [if_pos (by have h := hcn.out; simp [cn] at h; exact h)] at hx
        have hfin := Aside0.mk (qnum_bad hRR.out hx)
        clear hx
        go_wp2
        go_loopg [4, 5] 0 (fun gk v4 v5 wr2 => v4 = .int .u64 0 ∧ v5 = .int .i64 5 ∧ wr2 = wr)
        case atStart => exact ⟨rfl, rfl, rfl⟩
        case round =>
          obtain ⟨rfl, rfl, rfl⟩ := hrel
          go_wp2
          go_ret
          exact hfin.out
      | succ k1 =>
        have hd : decide ((n : Int) < 5) = true := decide_eq_true (by omega)
        by_cases hnm2 : n = m
        · have hd2 : decide (n < m) = false := decide_eq_false (by omega)
          have hd3 : ((n : Int) == (m : Int)) = true := beq_iff_eq.2 (by omega)
          have hx := hF.out
          have hc0 : cn 5 xs = n := by
            have h := hcn.out
            rw [List.drop_of_length_le (by have := hmm.out; omega)] at h
            simpa [cn] using h
          rw [hc0, if_neg (by omega), if_pos (by have := hmm.out; omega)] at hx
          have hfin := Aside0.mk (qnum_bad hRR.out hx)
          clear hx hc0 hnm2
          go_wp2
          go_ret
          exact hfin.out
        · have hd2 : decide (n < m) = true := decide_eq_true (by omega)
          have hd3 : ((n : Int) == (m : Int)) = false := beq_eq_false_iff_ne.2 (by omega)
          obtain ⟨a0, e0, hx0⟩ := Kd.at_int hCC.out (n : Int) (by omega) (by have := hmm.out; omega)
          subst e0
          rw [Int.toNat_natCast] at hx0
          have hcs := cn_step (xs := xs) (n := n) (k := k1) (by have := hmm.out; omega)
          have hcc := hcn.out
          rw [hcs] at hcc
          have hbv := rd_B hBB.out (j := n) (by have := hmm.out; omega)
          obtain ⟨bv, hbe⟩ : ∃ bv, bv = rd xs (n : Int) := ⟨_, rfl⟩
          rw [← hbe] at hx0 hcc hbv
          obtain ⟨hb0, hb1⟩ : 0 ≤ bv ∧ bv < 256 := hbv
          have hbee := Aside0.mk hbe
          clear hcs hcn hbe
          have hnlt : n < m := by omega
          by_cases hb8 : bv ≥ 128
          · rw [if_pos hb8] at hcc
            have hc2 := Aside0.mk hcc
            have hd4 : decide (bv ≥ 128) = true := decide_eq_true hb8
            clear hcc hnm2
            go_wp2
            go_roundg k1
            case measure => omega
            case rel => exact ⟨n + 1, rfl, by omega, by omega, rfl, ⟨by rw [hc2.out]; omega⟩⟩
          · rw [if_neg hb8, Nat.add_zero] at hcc
            have hc2 := Aside0.mk hcc
            have hd4 : decide (bv ≥ 128) = false := decide_eq_false hb8
            clear hcc hnm2
            go_wp2
            obtain ⟨T, hT⟩ : ∃ T, T = xs.take (n + 1) := ⟨_, rfl⟩
            have hTl : T.length = n + 1 := by rw [hT, List.length_take]; have := hmm.out; omega
            have hTT := Aside0.mk hT
            have hTll := Aside0.mk hTl
            have hrT : ∀ j : Nat, j < n + 1 → rd T (j : Int) = rd xs (j : Int) := fun j hj => by
              rw [hTT.out]; unfold rd; rw [Int.toNat_natCast, List.getD_eq_getElem?_getD, List.getD_eq_getElem?_getD, List.getElem?_take_of_lt hj]
            have hrTT := Aside0.mk hrT
            clear hT hTl hrT
            go_loopg [4, 5] (n + 1) (fun gk v4 v5 wr2 => ∃ (x : Int), v4 = .int .u64 x ∧ v5 = .int .i64 ((gk : Int) - 1) ∧ gk ≤ n + 1 ∧ wr2 = wr ∧ 0 ≤ x ∧ x < 34359738368 ∧ Aside0 (x = v7 (T.drop gk)))
            case atStart => exact ⟨0, rfl, by simp, Nat.le_refl _, rfl, by omega, by omega, ⟨by rw [List.drop_of_length_le (by have := hTll.out; omega)]; rfl⟩⟩
            case round =>
              obtain ⟨x, rfl, rfl, hgk, rfl, hx0', hx1', hx⟩ := hrel
              cases gk with
              | succ k2 =>
                have hd6 : ((k2 : Int) + 1 - 1) = (k2 : Int) := by omega
                obtain ⟨a1, e1, hy⟩ := Kd.at_int hCC.out (k2 : Int) (by omega) (by have := hmm.out; omega)
                cases e1
                rw [Int.toNat_natCast] at hy
                have hv1 := v7_from (l := T) (j := k2) (by have := hTll.out; omega)
                rw [hrTT.out k2 (by omega)] at hv1
                have hb9 := rd_B hBB.out (j := k2) (by have := hmm.out; omega)
                have hv2 := Aside0.mk hv1
                generalize rd xs (k2 : Int) = cv at hy hv2 hb9
                obtain ⟨hc0, hc1⟩ : 0 ≤ cv ∧ cv < 256 := hb9
                clear hv1
                go_wp2
                have hxx : 128 * x + cv % 128 = v7 (T.drop k2) := by have h := hx.out; have h2 := hv2.out; omega
                have hlt := v7_lt (l := T.drop k2) (by rw [List.length_drop]; have := hTll.out; omega)
                rw [← hxx] at hlt
                go_roundg k2
                case measure => omega
                case rel => exact ⟨128 * x + cv % 128, rfl, rfl, by omega, rfl, hlt.1, hlt.2, ⟨hxx⟩⟩
              | zero =>
                have hxv := hx.out
                rw [List.drop_zero, hTT.out] at hxv
                have hX := hF.out
                rw [hc2.out, if_neg (by omega), if_neg (by have := hmm.out; omega), ← hbee.out, ← hxv] at hX
                have hd7 : ((n : Int) == 5) = false := beq_eq_false_iff_ne.2 (by omega)
                have hq : ∀ W : World, (Instr.slice 23 (.slice (some a0) m c) (some (.int .i64 ((n : Int) + 1))) none none).run Tryd.prog W = .ok (.slice (if c = n + 1 then some a0 else some (a0.add (n + 1))) (m - (n + 1)) (c - (n + 1))) W := fun W => by
                  have := cut_from (P := Tryd.prog) 23 5 .i64 Tryd.underlying23 hi 1 hz1 (some a0) m c ((n : Int) + 1) (by omega) (by have := hll.out; have := hmm.out; omega) W
                  rw [show ((n : Int) + 1).toNat = n + 1 by omega] at this
                  simpa using this
                obtain ⟨A2, hA2⟩ : ∃ A2, A2 = (if c = n + 1 then some a0 else some (a0.add (n + 1))) := ⟨_, rfl⟩
                rw [← hA2] at hq
                have hAA := Aside0.mk hA2
                clear hA2 hxv hx
                have hq63 : IntKind.i64.wrap x = x := by rw [IntKind.wrap_i64]; omega
                by_cases hz : (bv = 0 ∧ 0 < n) ∨ x / 4294967296 ≠ 0
                · rw [if_pos hz] at hX
                  have hfin := Aside0.mk (qnum_bad hRR.out hX)
                  clear hX
                  by_cases hn0 : n = 0
                  · subst hn0
                    have hx9 : decide (x > 4294967295) = true := decide_eq_true (by omega)
                    clear hz hq
                    go_wp2
                    go_ret
                    exact hfin.out
                  · have hn1 : decide ((n : Int) > 0) = true := decide_eq_true (by omega)
                    have hn2 : decide (0 < n) = true := decide_eq_true (by omega)
                    by_cases hbz : bv = 0
                    · have hb7 : (bv == 0) = true := beq_iff_eq.2 hbz
                      clear hz hq
                      go_wp2
                      go_ret
                      exact hfin.out
                    · have hb7 : (bv == 0) = false := beq_eq_false_iff_ne.2 hbz
                      have hx9 : decide (x > 4294967295) = true := decide_eq_true (by omega)
                      clear hz hq
                      go_wp2
                      go_ret
                      exact hfin.out
                · rw [if_neg hz] at hX
                  have hfin := Aside0.mk (qnum_ok hbb.out hCC.out hll.out hLL.out hBg hmm.out hnlt hAA.out hX)
                  clear hX
                  have hx9 : decide (x > 4294967295) = false := decide_eq_false (by omega)
                  by_cases hn0 : n = 0
                  · subst hn0
                    have hq0 : ∀ W : World, (Instr.slice 23 (.slice (some a0) m c) (some (.int .i64 1)) none none).run Tryd.prog W = .ok (.slice A2 (m - 1) (c - 1)) W := fun W => hq W
                    clear hz hq
                    go_wp2
                    go_ret
                    exact hfin.out
                  · have hn1 : decide ((n : Int) > 0) = true := decide_eq_true (by omega)
                    have hn2 : decide (0 < n) = true := decide_eq_true (by omega)
                    have hbz : ¬ bv = 0 := fun h => hz (.inl ⟨h, by omega⟩)
                    have hb7 : (bv == 0) = false := beq_eq_false_iff_ne.2 hbz
                    clear hz
                    go_wp2
                    go_ret
                    exact hfin.out
  · have e0 : (err == 0) = false := beq_eq_false_iff_ne.2 he
    have e1 : (err != 0) = true := bne_iff_ne.2 he
    have hee := Aside0.mk he
    obtain ⟨A, c, hb, _⟩ := hR
    have h1 := hb.cell1
    clear he hb
    go_enter Tryd.func38, Tryd.ntmps38
    go_wp2
    go_ret
    have t : numF xs err = (0, err, 0) := if_neg hee.out
    rw [t]
    exact ⟨rfl, hRR.out, Fr.refl _ _⟩
end Go.Proofs.YtgnjlgfnpfjjnaaDoor.Pk
