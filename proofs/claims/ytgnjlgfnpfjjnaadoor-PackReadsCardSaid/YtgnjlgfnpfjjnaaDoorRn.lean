/- The reader's Number, and the sum over parts: contracts. -/
import Derived.Test.YtgnjlgfnpfjjnaaDoorRd
namespace Go.Proofs.YtgnjlgfnpfjjnaaDoor.Pk
open Go.RowKit Go.Proofs.YtgnjlgfnpfjjnaaDoorW.PrintWords Go.Proofs.YtgnjlgfnpfjjnaaDoorW.PrintLast Go.Proofs.YtgnjlgfnpfjjnaaDoorW.PrintMore Go.Proofs.YtgnjlgfnpfjjnaaDoor.Mem
set_option linter.unusedVariables false
set_option linter.unusedSimpArgs false
def orN (i : Nat) (b x : Int) : Int := Go.bits .or .i64 x (wrap64 (wrap64 (Go.bits .and .u8 b 127) * 2 ^ (7 * i)))
/-- a number: its value, the error, how many bytes are taken -/
def numR : Nat → Nat → List Int → Int → Int × Int × Nat
  | 0, _, _, _ => (0, 31, 0)
  | _ + 1, _, [], _ => (0, 30, 0)
  | k + 1, i, b :: l, x => if b ≥ 128 then numR k (i + 1) l (orN i b x) else if (b = 0 ∧ 0 < i) ∨ orN i b x / 4294967296 ≠ 0 then (0, 31, 0) else (orN i b x, 0, i + 1)
def numF (xs : List Int) (err : Int) : Int × Int × Nat := if err = 0 then numR 5 0 xs 0 else (0, err, 0)
theorem numR_step {k i : Nat} {b x Y : Int} {l : List Int} (h : orN i b x = Y) : numR (k + 1) i (b :: l) x = if b ≥ 128 then numR k (i + 1) l Y else if (b = 0 ∧ 0 < i) ∨ Y / 4294967296 ≠ 0 then (0, 31, 0) else (Y, 0, i + 1) := by
  subst h; rfl
theorem num_bad {w : World} {B g : Nat} {ok : Nat → Prop} {xs : List Int} {e : Int} (h : IsR w B ok g xs 0) (hx : (0, e, 0) = numR 5 0 xs 0) :
    Ending.returned (Value.int .i64 0) = .returned (.int .i64 (numF xs 0).1) ∧ IsR (w.setCell ⟨g, 1, none⟩ (.int .i64 e)) B ok g (xs.drop (numF xs 0).2.2) (numF xs 0).2.1 ∧ Fr w (w.setCell ⟨g, 1, none⟩ (.int .i64 e)) (fun k => k = g) := by
  have t : numF xs 0 = (0, e, 0) := (if_pos rfl).trans hx.symm
  rw [t]
  obtain ⟨h1, h2⟩ := h.fail e
  exact ⟨rfl, h1, h2⟩
theorem num_ok {w : World} {B g i m c : Nat} {ok : Nat → Prop} {xs : List Int} {a0 : Addr} {A2 : Option Addr} {Y : Int} (hb : Box2 w g 56 (.slice (some a0) xs.length c) (.int .i64 0)) (hC : Kd.C (Kd.int .u8) w (some a0) xs.length xs) (hl : xs.length ≤ c) (hL : Lies ok g (some a0) xs.length)
    (hB : B ≤ g) (hm : m = xs.length) (hi : i < m) (hA : A2 = (if c = i + 1 then some a0 else some (a0.add (i + 1)))) (hx : (Y, (0 : Int), i + 1) = numR 5 0 xs 0) :
    Ending.returned (Value.int .i64 Y) = .returned (.int .i64 (numF xs 0).1) ∧ IsR (w.setCell ⟨g, 0, none⟩ (.slice A2 (m - (i + 1)) (c - (i + 1)))) B ok g (xs.drop (numF xs 0).2.2) (numF xs 0).2.1 ∧ Fr w (w.setCell ⟨g, 0, none⟩ (.slice A2 (m - (i + 1)) (c - (i + 1)))) (fun k => k = g) := by
  have t : numF xs 0 = (Y, 0, i + 1) := (if_pos rfl).trans hx.symm
  rw [t]
  have hF : Fr w (w.setCell ⟨g, 0, none⟩ (.slice A2 (m - (i + 1)) (c - (i + 1)))) (fun q => q = g) := (Fr.refl w (fun q => q = g)).setCell (p := ⟨g, 0, none⟩) (fun _ => rfl) _
  have hkl : i + 1 ≤ xs.length := by omega
  have hC2 : Kd.C (Kd.int .u8) w A2 (xs.drop (i + 1)).length (xs.drop (i + 1)) := by
    have h3 := Kd.C_drop hC hkl hl
    simp only [show (Kd.int .u8).sz = 1 from rfl, Nat.mul_one, Option.map_some] at h3
    rw [hA]; exact h3
  have hL2 : Lies ok g A2 (xs.drop (i + 1)).length := fun a ha hn => by
    have hx : 0 < xs.length := by omega
    rw [hA] at ha
    split at ha
    · exact hL a ha hx
    · cases ha
      rw [show (a0.add (i + 1)).block = a0.block by unfold Addr.add; split <;> rfl]
      exact hL a0 rfl hx
  refine ⟨rfl, ⟨A2, c - (i + 1), ?_, hB, by show (xs.drop (i + 1)).length ≤ c - (i + 1); rw [List.length_drop]; omega, C_move hC2 (fun a ha hn => hF.block _ (IsR.C_lt hC2 ha hn) (hL2 a ha hn).2), hL2⟩, hF⟩
  have hb2 := hb.set0 (.slice A2 (m - (i + 1)) (c - (i + 1)))
  rw [List.length_drop, ← hm]; exact hb2
set_option maxRecDepth 100000 in
set_option maxHeartbeats 4000000 in
theorem RNumber {w : World} {B g : Nat} {ok : Nat → Prop} {xs : List Int} {err : Int} (hR : IsR w B ok g xs err) :
    Calls Tryd.prog 27 #[.pointer (some ⟨g, 0, none⟩)] w fun e w' => e = .returned (.int .i64 (numF xs err).1) ∧ IsR w' B ok g (xs.drop (numF xs err).2.2) (numF xs err).2.1 ∧ Fr w w' (fun k => k = g) := by
  have hRR := Aside0.mk hR
  by_cases he : err = 0
  · subst he
    obtain ⟨A, c, hb, hB, hl, hC, hL⟩ := id hR
    clear hR
    obtain ⟨m, hm⟩ : ∃ m, m = xs.length := ⟨_, rfl⟩
    have hmm := Aside0.mk hm
    have h0 := hb.cell0
    have f0 := hb.frozen 0
    have f1 := hb.frozen 1
    have h1 := hb.cell1
    rw [← hm] at h0
    have hCC := Aside0.mk hC
    have hll := Aside0.mk hl
    have hLL := Aside0.mk hL
    have hbb := Aside0.mk hb
    clear hb hC hL hm hl
    obtain ⟨i0, hi, _, hz1, _⟩ := info_parts infoB
    go_enter Tryd.func27, Tryd.ntmps27
    go_wp2_with (go_at_call 41; go_must (with_reducible refine (good hRR.out).mono ?_); rintro e w1 ⟨rfl, rfl⟩)
    go_loopg [3, 9] 5 (fun gk v3 v9 wr => ∃ (i : Nat) (x : Int), v3 = .int .i64 x ∧ v9 = .int .i64 (i : Int) ∧ i + gk = 5 ∧ i ≤ m ∧ wr = w ∧ Aside0 (numR gk i (xs.drop i) x = numR 5 0 xs 0))
    case atStart => exact ⟨0, 0, rfl, rfl, by omega, by omega, rfl, ⟨rfl⟩⟩
    case round =>
      obtain ⟨i, x, rfl, rfl, hi5, him, rfl, hx⟩ := hrel
      cases gk with
      | zero =>
        have hd : decide ((i : Int) < 5) = false := decide_eq_false (by omega)
        go_wp2
        go_ret
        exact num_bad hRR.out hx.out
      | succ k1 =>
        have hd : decide ((i : Int) < 5) = true := decide_eq_true (by omega)
        by_cases him2 : i = m
        · subst him2
          go_wp2
          go_ret
          refine num_bad hRR.out ?_
          rw [← hx.out, List.drop_of_length_le (by have := hmm.out; omega)]
          rfl
        · have hd2 : ((i : Int) == (m : Int)) = false := beq_eq_false_iff_ne.2 (by omega)
          obtain ⟨a0, e0, hx0⟩ := Kd.at_int hCC.out (i : Int) (by omega) (by have := hmm.out; omega)
          subst e0
          rw [Int.toNat_natCast] at hx0
          have hlt : i < xs.length := by have := hmm.out; omega
          have hdr : xs.drop i = rd xs (i : Int) :: xs.drop (i + 1) := by
            rw [List.drop_eq_getElem_cons hlt]
            congr 1
            unfold rd
            rw [Int.toNat_natCast, List.getD_eq_getElem?_getD, List.getElem?_eq_getElem hlt]; rfl
          have hX := hx.out
          rw [hdr] at hX
          clear hx hdr hlt
          generalize rd xs (i : Int) = bv at hx0 hX
          have hilt : i < m := by omega
          obtain ⟨Y, hY⟩ : ∃ Y, bits .or .i64 x (wrap64 (wrap64 (bits .and .u8 bv 127) * 2 ^ (7 * i))) = Y := ⟨_, rfl⟩
          rw [numR_step hY] at hX
          by_cases hb8 : bv ≥ 128
          · rw [if_pos hb8] at hX
            have hx := Aside0.mk hX
            clear hX
            have hd3 : decide (bv ≥ 128) = true := decide_eq_true hb8
            go_wp2
            go_roundg k1
            case measure => omega
            case rel => exact ⟨i + 1, Y, rfl, rfl, by omega, by omega, rfl, hx⟩
          · rw [if_neg hb8] at hX
            have hd3 : decide (bv ≥ 128) = false := decide_eq_false hb8
            have hq : ∀ W : World, (Instr.slice 23 (.slice (some a0) m c) (some (.int .i64 ((i : Int) + 1))) none none).run Tryd.prog W = .ok (.slice (if c = i + 1 then some a0 else some (a0.add (i + 1))) (m - (i + 1)) (c - (i + 1))) W := fun W => by
              have := cut_from (P := Tryd.prog) 23 5 .i64 Tryd.underlying23 hi 1 hz1 (some a0) m c ((i : Int) + 1) (by omega) (by omega) W
              rw [show ((i : Int) + 1).toNat = i + 1 by omega] at this
              simpa using this
            obtain ⟨A2, hA2⟩ : ∃ A2, A2 = (if c = i + 1 then some a0 else some (a0.add (i + 1))) := ⟨_, rfl⟩
            rw [← hA2] at hq
            have hAA := Aside0.mk hA2
            clear hA2
            by_cases hz : (bv = 0 ∧ 0 < i) ∨ Y / 4294967296 ≠ 0
            · rw [if_pos hz] at hX
              have hx := Aside0.mk hX
              clear hX
              have hzz := Aside0.mk hz
              clear hz
              have hfin := num_bad hRR.out hx.out
              have hfF := Aside0.mk hfin
              clear hfin
              by_cases hb0 : bv = 0
              · by_cases hi0 : i = 0
                · have hz3 := hzz.out
                  subst hi0
                  have hz2 : Y / 4294967296 ≠ 0 := hz3.resolve_left (fun h => by omega)
                  clear hq hz3
                  rw [show a0.add 0 = a0 by simp [Addr.add]] at hx0
                  rw [Nat.mul_zero, Int.pow_zero, Int.mul_one] at hY
                  subst hb0
                  have hz4 : (Y / 4294967296 != 0) = true := bne_iff_ne.2 hz2
                  clear hz2
                  go_wp2
                  go_ret
                  exact hfF.out
                · have hi1 : decide ((i : Int) > 0) = true := decide_eq_true (by omega)
                  go_wp2
                  go_ret
                  exact hfF.out
              · have hb1 : (bv == 0) = false := beq_eq_false_iff_ne.2 hb0
                have hz2 : Y / 4294967296 ≠ 0 := hzz.out.resolve_left (fun h => hb0 h.1)
                have hz4 : (Y / 4294967296 != 0) = true := bne_iff_ne.2 hz2
                clear hz2 hb0
                go_wp2
                go_ret
                exact hfF.out
            · rw [if_neg hz] at hX
              have hx := Aside0.mk hX
              clear hX
              have hz1' : ¬ (bv = 0 ∧ 0 < i) := fun h => hz (.inl h)
              have hz2 : Y / 4294967296 = 0 := Classical.byContradiction fun h => hz (.inr h)
              clear hz
              have hq0 : ∀ W : World, (Instr.slice 23 (.slice (some a0) m c) (some (.int .i64 1)) none none).run Tryd.prog W = .ok (.slice (if c = 1 then some a0 else some (a0.add 1)) (m - 1) (c - 1)) W := fun W => by
                have := cut_from (P := Tryd.prog) 23 5 .i64 Tryd.underlying23 hi 1 hz1 (some a0) m c 1 (by omega) (by omega) W
                simpa using this
              obtain ⟨A3, hA3⟩ : ∃ A3, A3 = (if c = 1 then some a0 else some (a0.add 1)) := ⟨_, rfl⟩
              rw [← hA3] at hq0
              have hAB := Aside0.mk hA3
              clear hA3
              have hfin := num_ok (i := i) hbb.out hCC.out hll.out hLL.out hB hmm.out hilt hAA.out hx.out
              have hfF := Aside0.mk hfin
              clear hfin
              by_cases hb0 : bv = 0
              · have hi0 : i = 0 := Classical.byContradiction fun h => hz1' ⟨hb0, by omega⟩
                subst hi0
                have hA23 : A2 = A3 := hAA.out.trans hAB.out.symm
                clear hq hz1'
                rw [show a0.add 0 = a0 by simp [Addr.add]] at hx0
                rw [Nat.mul_zero, Int.pow_zero, Int.mul_one] at hY
                subst hb0
                go_wp2
                go_ret
                have h9 := hfF.out
                rw [hA23] at h9
                exact h9
              · have hb1 : (bv == 0) = false := beq_eq_false_iff_ne.2 hb0
                clear hz1' hq0 hb0
                go_wp2
                go_ret
                exact hfF.out
  · have e0 : (err == 0) = false := beq_eq_false_iff_ne.2 he
    have hee := Aside0.mk he
    clear he hR
    go_enter Tryd.func27, Tryd.ntmps27
    go_wp2_with (go_at_call 41; go_must (with_reducible refine (good hRR.out).mono ?_); rintro e w1 ⟨rfl, rfl⟩; rw [e0])
    go_ret
    have t : numF xs err = (0, err, 0) := if_neg hee.out
    rw [t]
    exact ⟨rfl, hRR.out, Fr.refl _ _⟩
end Go.Proofs.YtgnjlgfnpfjjnaaDoor.Pk
