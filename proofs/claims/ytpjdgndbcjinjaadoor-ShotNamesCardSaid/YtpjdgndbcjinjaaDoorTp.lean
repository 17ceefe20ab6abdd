/- wisplaw03.PackTurned over numbers alone: what the loop turns is a burst of at most 32 bits. -/
import Derived.Test.YtpjdgndbcjinjaaDoorCs
namespace Go.Proofs.YtpjdgndbcjinjaaDoor.Pk
open Go.RowKit Go.Proofs.YtpjdgndbcjinjaaDoorW.PrintWords Go.Proofs.YtpjdgndbcjinjaaDoorW.PrintLast Go.Proofs.YtpjdgndbcjinjaaDoorW.PrintMore Go.Proofs.YtpjdgndbcjinjaaDoor.Mem
set_option linter.unusedVariables false
set_option linter.unusedSimpArgs false
/-- what the loop has turned behind i rounds -/
def tw (xs : List Int) (N : Nat) (bts : Int) : Nat → List Int × Bool
  | 0 => (xs, false)
  | i + 1 => if N + i < 8 * xs.length ∧ Go.bits .and .u32 (bts / 2 ^ i) 1 = 1 then ((tw xs N bts i).1.set ((N + i) / 8) (Go.bits .xor .u8 (rd (tw xs N bts i).1 (((N + i) / 8 : Nat) : Int)) (2 ^ ((N + i) % 8) % 256)), true) else tw xs N bts i
theorem xor8 (a b : Nat) (ha : a < 256) (hb : b < 256) : Go.bits .xor .u8 a b = ((a ^^^ b : Nat) : Int) := by
  unfold Go.bits
  rw [IntKind.wrap_u8]
  have ta : (BitVec.ofInt 8 (a : Int)).toNat = a := by simp; omega
  have tb : (BitVec.ofInt 8 (b : Int)).toNat = b := by simp; omega
  show (((BitVec.ofInt 8 (a : Int) ^^^ BitVec.ofInt 8 (b : Int)).toNat : Nat) : Int) % 256 = _
  rw [BitVec.toNat_xor, ta, tb]
  have : a ^^^ b < 256 := Nat.xor_lt_two_pow (n := 8) ha hb
  omega
theorem and1 (a : Nat) (ha : a < 4294967296) : Go.bits .and .u32 a 1 = ((a % 2 : Nat) : Int) := by
  unfold Go.bits
  rw [IntKind.wrap_u32]
  have ta : (BitVec.ofInt 32 (a : Int)).toNat = a := by simp; omega
  have tb : (BitVec.ofInt 32 (1 : Int)).toNat = 1 := by decide
  show (((BitVec.ofInt 32 (a : Int) &&& BitVec.ofInt 32 (1 : Int)).toNat : Nat) : Int) % 4294967296 = _
  rw [BitVec.toNat_and, ta, tb, Nat.and_one_is_mod]
  omega
theorem pow8 : ∀ r : Nat, r < 8 → ((2 : Int) ^ r % 256) = ((2 ^ r : Nat) : Int) ∧ 2 ^ r < 256 := by decide
theorem nat_getD {l : List Int} {q : Nat} (hq : q < l.length) (h : allB l) : rd l (q : Int) = (((nat l).getD q 0 : Nat) : Int) := by
  have hb := h l[q] (List.getElem_mem hq)
  unfold isB at hb
  unfold rd nat
  rw [Int.toNat_natCast, List.getD_eq_getElem?_getD, List.getD_eq_getElem?_getD, List.getElem?_map, List.getElem?_eq_getElem hq]
  simp only [Option.map_some, Option.getD_some]
  omega
theorem nat_set (l : List Int) (q : Nat) (v : Nat) : nat (l.set q (v : Int)) = (nat l).set q v := by
  unfold nat; rw [List.map_set, Int.toNat_natCast]
theorem allB_set {l : List Int} {q : Nat} {v : Int} (h : allB l) (hv : isB v) : allB (l.set q v) := fun x hx => by
  rcases List.mem_or_eq_of_mem_set hx with h1 | h1
  · exact h x h1
  · rw [h1]; exact hv
theorem mod_step (b i : Nat) : b % 2 ^ (i + 1) = b % 2 ^ i + 2 ^ i * (b / 2 ^ i % 2) := by
  rw [Nat.pow_succ, Nat.mod_mul]
theorem mul_xor (N a b : Nat) : 2 ^ N * (a ^^^ b) = (2 ^ N * a) ^^^ (2 ^ N * b) := by
  apply Nat.eq_of_testBit_eq
  intro i
  rw [Nat.testBit_two_pow_mul, Nat.testBit_xor, Nat.testBit_xor, Nat.testBit_two_pow_mul, Nat.testBit_two_pow_mul]
  by_cases hi : N ≤ i <;> simp [hi]
theorem tw_inv {xs : List Int} {N b : Nat} (hB : allB xs) (hb : b < 4294967296) (hN : N < 8 * xs.length) : ∀ i, i ≤ 32 →
    (tw xs N (b : Int) i).1.length = xs.length ∧ allB (tw xs N (b : Int) i).1 ∧ Crc.num (nat (tw xs N (b : Int) i).1) = Crc.num (nat xs) ^^^ (2 ^ N * (b % 2 ^ (min i (8 * xs.length - N)))) ∧ (tw xs N (b : Int) i).2 = decide (b % 2 ^ (min i (8 * xs.length - N)) ≠ 0) := by
  intro i
  induction i with
  | zero => intro _; refine ⟨rfl, hB, ?_, ?_⟩ <;> simp [tw, Nat.mod_one]
  | succ i ih =>
    intro hi
    obtain ⟨h1, h2, h3, h4⟩ := ih (by omega)
    have hand : Go.bits .and .u32 ((b : Int) / 2 ^ i) 1 = ((b / 2 ^ i % 2 : Nat) : Int) := by
      rw [show ((b : Int) / 2 ^ i) = ((b / 2 ^ i : Nat) : Int) by norm_cast]
      exact and1 _ (Nat.lt_of_le_of_lt (Nat.div_le_self _ _) hb)
    simp only [tw]
    rw [hand]
    by_cases hk : N + i < 8 * xs.length
    · have e1 : min i (8 * xs.length - N) = i := by omega
      have e2 : min (i + 1) (8 * xs.length - N) = i + 1 := by omega
      rw [e1] at h3 h4
      rw [e2, mod_step]
      have hq : (N + i) / 8 < (tw xs N (b : Int) i).1.length := by rw [h1]; omega
      obtain ⟨hp1, hp2⟩ := pow8 ((N + i) % 8) (by omega)
      have hget := nat_getD hq h2
      have hnl := nat_len (tw xs N (b : Int) i).1
      have hnb := natB h2
      clear ih
      generalize tw xs N (b : Int) i = p at *
      obtain ⟨cs, tn⟩ := p
      dsimp only at *
      have ha : (nat cs).getD ((N + i) / 8) 0 < 256 := by
        rw [List.getD_eq_getElem?_getD, List.getElem?_eq_getElem (by omega)]
        exact hnb _ (List.getElem_mem _)
      have hlt : b % 2 ^ i < 2 ^ i := Nat.mod_lt _ (Nat.two_pow_pos i)
      rcases Nat.mod_two_eq_zero_or_one (b / 2 ^ i) with hz | hz
      · rw [hz, if_neg (fun h => by simp at h)]
        simp only [Nat.mul_zero, Nat.add_zero]
        exact ⟨h1, h2, h3, h4⟩
      · rw [hz, if_pos ⟨hk, rfl⟩, hp1, hget, xor8 _ _ ha hp2]
        have hv : (nat cs).getD ((N + i) / 8) 0 ^^^ 2 ^ ((N + i) % 8) < 256 := Nat.xor_lt_two_pow (n := 8) ha hp2
        refine ⟨by rw [List.length_set]; exact h1, allB_set h2 ⟨by omega, by omega⟩, ?_, ?_⟩
        · have h5 := Crc.num_set (nat cs) ((N + i) / 8) (2 ^ ((N + i) % 8)) (by omega) hnb hp2
          dsimp only
          rw [nat_set, h5, h3, Nat.xor_assoc]
          congr 1
          rw [← Nat.pow_add, show 8 * ((N + i) / 8) + (N + i) % 8 = N + i by omega, Nat.mul_one]
          have h6 := Crc.add_xor 1 hlt
          rw [Nat.mul_one] at h6
          rw [h6, mul_xor, ← Nat.pow_add]
        · dsimp only
          have : 0 < 2 ^ i := Nat.two_pow_pos i
          rw [eq_comm, decide_eq_true_eq]
          omega
    · have e1 : min i (8 * xs.length - N) = min (i + 1) (8 * xs.length - N) := by omega
      rw [if_neg (fun h => hk h.1), ← e1]
      exact ⟨h1, h2, h3, h4⟩
theorem tw_ok {xs : List Int} {N : Nat} {bts : Int} (hB : allB xs) (hb0 : 0 ≤ bts) (hb1 : bts ≤ 4294967295) (hN : N < 8 * xs.length) : (tw xs N bts 32).1.length = xs.length ∧ (sumI [xs] != sumI [(tw xs N bts 32).1]) = (tw xs N bts 32).2 := by
  obtain ⟨b, rfl⟩ := Int.eq_ofNat_of_zero_le hb0
  obtain ⟨h1, h2, h3, h4⟩ := tw_inv (N := N) hB (show b < 4294967296 by omega) hN 32 (Nat.le_refl _)
  refine ⟨h1, ?_⟩
  rw [sum_one hB, sum_one h2, h4]
  have hE : b % 2 ^ (min 32 (8 * xs.length - N)) < 4294967296 := Nat.lt_of_le_of_lt (Nat.mod_le _ _) (by omega)
  generalize b % 2 ^ (min 32 (8 * xs.length - N)) = E at h3 hE ⊢
  have hl : (nat xs).length = (nat (tw xs N (b : Int) 32).1).length := by rw [nat_len, nat_len, h1]
  by_cases h0 : E = 0
  · subst h0
    rw [Nat.mul_zero, Nat.xor_zero] at h3
    have e : Crc.sum (nat xs) = Crc.sum (nat (tw xs N (b : Int) 32).1) := by
      unfold Crc.sum
      rw [Crc.reg_num _ _ (natB hB), Crc.reg_num _ _ (natB h2), h3, hl]
    rw [e]; simp
  · have hne := Crc.burst (n := N) hl (natB hB) (natB h2) (by rw [nat_len]; omega) hE h0 h3
    rw [decide_eq_true h0]
    simp only [bne_iff_ne, ne_eq]
    omega
end Go.Proofs.YtpjdgndbcjinjaaDoor.Pk
