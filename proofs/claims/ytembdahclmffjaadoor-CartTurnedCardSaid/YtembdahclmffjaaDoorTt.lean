/- CartTurned, plainly: one byte turned, a beginning cut off. -/
import Derived.Test.YtembdahclmffjaaDoorZa
import Derived.Test.YtembdahclmffjaaDoorTp
namespace Go.Proofs.YtembdahclmffjaaDoor.Pk
open Go.RowKit Go.Proofs.YtembdahclmffjaaDoorW.PrintWords
set_option linter.unusedVariables false
set_option linter.unusedSimpArgs false
theorem one_turned {xs : List Int} {k x : Nat} (hB : allB xs) (hk : k < xs.length) (hx : x < 256) (h0 : x ≠ 0) : sumI [xs] ≠ sumI [xs.set k (Go.bits .xor .u8 (rd xs (k : Int)) (x : Int))] ∧ allB (xs.set k (Go.bits .xor .u8 (rd xs (k : Int)) (x : Int))) := by
  have hr := nat_getD hk hB
  have hlt : (nat xs).getD k 0 < 256 := by
    have := rdB hB (k : Int)
    rw [hr] at this
    unfold isB at this
    omega
  have hv : Go.bits .xor .u8 (rd xs (k : Int)) (x : Int) = (((nat xs).getD k 0 ^^^ x : Nat) : Int) := by rw [hr]; exact xor8 _ _ hlt hx
  have hx2 : (nat xs).getD k 0 ^^^ x < 256 := Nat.xor_lt_two_pow (n := 8) hlt hx
  have hB2 : allB (xs.set k (Go.bits .xor .u8 (rd xs (k : Int)) (x : Int))) := allB_set hB (by rw [hv]; unfold isB; omega)
  refine ⟨?_, hB2⟩
  have hset : nat (xs.set k (Go.bits .xor .u8 (rd xs (k : Int)) (x : Int))) = (nat xs).set k ((nat xs).getD k 0 ^^^ x) := by rw [hv]; exact nat_set xs k _
  have hnum := Crc.num_set (nat xs) k x (by rw [nat_len]; exact hk) (natB hB) hx
  have hne := Crc.burst (l := nat xs) (m := nat (xs.set k (Go.bits .xor .u8 (rd xs (k : Int)) (x : Int)))) (n := 8 * k) (E := x) (by rw [nat_len, nat_len, List.length_set]) (natB hB) (natB hB2) (by rw [nat_len]; omega) (by omega) h0 (by rw [hset]; exact hnum)
  rw [sum_one hB, sum_one hB2]
  omega
theorem getD_set_ne (l : List Int) (k i : Nat) (v : Int) (h : i ≠ k) : (l.set k v).getD i 0 = l.getD i 0 := by
  rw [List.getD_eq_getElem?_getD, List.getD_eq_getElem?_getD, List.getElem?_set_ne (by omega)]
theorem xor_ne_self {a x : Int} (ha : isB a) (hx : 0 < x) (hx2 : x < 256) : Go.bits .xor .u8 a x ≠ a := by
  obtain ⟨m, rfl⟩ := Int.eq_ofNat_of_zero_le ha.1
  obtain ⟨y, rfl⟩ := Int.eq_ofNat_of_zero_le (Int.le_of_lt hx)
  have hm : m < 256 := by have := ha.2; omega
  rw [xor8 m y hm (by omega)]
  intro h
  have h1 : m ^^^ y = m := by omega
  have h2 : m ^^^ (m ^^^ y) = m ^^^ m := by rw [h1]
  rw [← Nat.xor_assoc, Nat.xor_self, Nat.zero_xor] at h2
  omega
theorem dec_ok_of {b : List Int} {c : CartP} (h : decB b = (c, 0)) : b.take 5 = magic ∧ 12 ≤ b.length ∧ b.length ≤ 524288 ∧ low4 b (b.length - 4) = sumI [b.take (b.length - 4)] := by
  unfold decB at h
  split at h
  · simp at h
  · split at h
    · simp at h
    · rename_i h1 h2
      have h1 := Classical.not_not.1 h1
      have h2 := Classical.not_not.1 h2
      exact ⟨h1.2, h2.1, h2.2.1, h2.2.2⟩
theorem low4_inj {a b : List Int} {i : Nat} (ha : allB a) (hb : allB b) (h : low4 a i = low4 b i) : a.getD i 0 = b.getD i 0 ∧ a.getD (i + 1) 0 = b.getD (i + 1) 0 ∧ a.getD (i + 2) 0 = b.getD (i + 2) 0 ∧ a.getD (i + 3) 0 = b.getD (i + 3) 0 := by
  have a0 := getB ha i; have a1 := getB ha (i + 1); have a2 := getB ha (i + 2); have a3 := getB ha (i + 3)
  have b0 := getB hb i; have b1 := getB hb (i + 1); have b2 := getB hb (i + 2); have b3 := getB hb (i + 3)
  unfold isB at a0 a1 a2 a3 b0 b1 b2 b3
  unfold low4 at h
  refine ⟨?_, ?_, ?_, ?_⟩ <;> omega
theorem dec_turned {b : List Int} {c : CartP} (hB : allB b) (h : decB b = (c, 0)) {k x : Nat} (hk : k < b.length) (hx : x < 256) (h0 : x ≠ 0) : (decB (b.set k (Go.bits .xor .u8 (rd b (k : Int)) (x : Int)))).2 = 70 ∨ (decB (b.set k (Go.bits .xor .u8 (rd b (k : Int)) (x : Int)))).2 = 71 := by
  obtain ⟨hm, hlo, hhi, hs⟩ := dec_ok_of h
  obtain ⟨v, hv⟩ : ∃ v, Go.bits .xor .u8 (rd b (k : Int)) (x : Int) = v := ⟨_, rfl⟩
  obtain ⟨_, hB2⟩ := one_turned hB hk hx h0
  have hvne : v ≠ b.getD k 0 := by
    rw [← hv]
    have h1 : rd b (k : Int) = b.getD k 0 := by unfold rd; rw [Int.toNat_natCast]
    rw [h1]
    exact xor_ne_self (getB hB k) (by omega) (by omega)
  rw [hv] at hB2 ⊢
  have hl : (b.set k v).length = b.length := List.length_set
  unfold decB
  by_cases c1 : ¬ (5 ≤ (b.set k v).length ∧ (b.set k v).take 5 = magic)
  · rw [if_pos c1]; exact .inl rfl
  · rw [if_neg c1]
    right
    rw [if_pos]
    rintro ⟨_, _, h3⟩
    have hm2 := (Classical.not_not.1 c1).2
    rw [hl] at h3
    obtain ⟨E, hE⟩ : ∃ E, b.length = E + 4 := ⟨b.length - 4, by omega⟩
    rw [hE, Nat.add_sub_cancel] at h3 hs
    by_cases c2 : k < E
    · have e1 : low4 (b.set k v) E = low4 b E := by
        unfold low4
        rw [getD_set_ne _ _ _ _ (by omega), getD_set_ne _ _ _ _ (by omega), getD_set_ne _ _ _ _ (by omega), getD_set_ne _ _ _ _ (by omega)]
      have e2 : (b.set k v).take E = (b.take E).set k v := by rw [List.take_set]
      have e3 : rd (b.take E) (k : Int) = rd b (k : Int) := by
        unfold rd
        rw [Int.toNat_natCast, List.getD_eq_getElem?_getD, List.getD_eq_getElem?_getD, List.getElem?_take, if_pos c2]
      have h9 := (one_turned (xs := b.take E) (fun y hy => hB y (List.mem_of_mem_take hy)) (k := k) (by rw [List.length_take]; omega) hx h0).1
      rw [e3, hv] at h9
      rw [e1, e2, hs] at h3
      exact h9 h3
    · have e2 : (b.set k v).take E = b.take E := by
        apply List.ext_getElem?
        intro i
        rw [List.getElem?_take, List.getElem?_take]
        by_cases hi : i < E
        · rw [if_pos hi, if_pos hi, List.getElem?_set_ne (by omega)]
        · rw [if_neg hi, if_neg hi]
      rw [e2, ← hs] at h3
      have h4 := low4_inj hB2 hB h3
      have hkk : (b.set k v).getD k 0 = v := by
        rw [List.getD_eq_getElem?_getD, List.getElem?_set_self hk]; rfl
      have hj : (b.set k v).getD k 0 = b.getD k 0 := by
        have hk4 : k = E ∨ k = E + 1 ∨ k = E + 2 ∨ k = E + 3 := by omega
        rcases hk4 with rfl | rfl | rfl | rfl
        · exact h4.1
        · exact h4.2.1
        · exact h4.2.2.1
        · exact h4.2.2.2
      rw [hkk] at hj
      exact hvne hj
theorem turn_back {b : List Int} (hB : allB b) {k x : Nat} (hk : k < b.length) (hx : x < 256) : (b.set k (Go.bits .xor .u8 (rd b (k : Int)) (x : Int))).set k (Go.bits .xor .u8 (rd (b.set k (Go.bits .xor .u8 (rd b (k : Int)) (x : Int))) (k : Int)) (x : Int)) = b := by
  have h1 : rd b (k : Int) = b[k] := by unfold rd; rw [Int.toNat_natCast, List.getD_eq_getElem?_getD, List.getElem?_eq_getElem hk]; rfl
  have h2 : ∀ v, rd (b.set k v) (k : Int) = v := fun v => by unfold rd; rw [Int.toNat_natCast, List.getD_eq_getElem?_getD, List.getElem?_set_self hk]; rfl
  rw [h2, List.set_set, h1]
  have hb := hB _ (List.getElem_mem hk)
  obtain ⟨m, hm⟩ := Int.eq_ofNat_of_zero_le hb.1
  have hm2 : m < 256 := by have := hb.2; omega
  have e : Go.bits .xor .u8 (Go.bits .xor .u8 b[k] (x : Int)) (x : Int) = b[k] := by
    rw [hm, xor8 m x hm2 hx, xor8 _ x (Nat.xor_lt_two_pow (n := 8) hm2 hx) hx, Nat.xor_assoc, Nat.xor_self, Nat.xor_zero]
  rw [e]
  exact List.set_getElem_self hk
theorem dec_cut {b : List Int} {c : CartP} (hB : allB b) (h : decB b = (c, 0)) {n : Nat} (hn : n ≤ b.length) :
    (n < 12 → (decB (b.take n)).2 = 70 ∨ (decB (b.take n)).2 = 71) ∧ (12 ≤ n → ((decB (b.take n)).2 = 71 ↔ low4 b (n - 4) ≠ sumI [b.take (n - 4)])) := by
  obtain ⟨hm, hlo, hhi, hs⟩ := dec_ok_of h
  have hl : (b.take n).length = n := by rw [List.length_take]; omega
  refine ⟨fun h1 => ?_, fun h1 => ?_⟩
  · unfold decB
    by_cases c1 : ¬ (5 ≤ (b.take n).length ∧ (b.take n).take 5 = magic)
    · rw [if_pos c1]; exact .inl rfl
    · rw [if_neg c1, if_pos (fun hh => by have := hh.1; omega)]; exact .inr rfl
  · have e1 : (b.take n).take 5 = magic := by rw [List.take_take, Nat.min_eq_left (by omega)]; exact hm
    have e2 : low4 (b.take n) (n - 4) = low4 b (n - 4) := by
      have q : ∀ i, i < n → (b.take n).getD i 0 = b.getD i 0 := fun i hi => by
        rw [List.getD_eq_getElem?_getD, List.getD_eq_getElem?_getD, List.getElem?_take, if_pos hi]
      unfold low4
      rw [q _ (by omega), q _ (by omega), q _ (by omega), q _ (by omega)]
    have e3 : (b.take n).take (n - 4) = b.take (n - 4) := by rw [List.take_take, Nat.min_eq_left (by omega)]
    unfold decB
    rw [if_neg (fun hh => hh ⟨by omega, e1⟩), hl, e2, e3]
    by_cases c2 : low4 b (n - 4) = sumI [b.take (n - 4)]
    · rw [if_neg (fun hh => hh ⟨h1, by omega, c2⟩)]
      refine ⟨fun hh => ?_, fun hh => absurd c2 hh⟩
      exfalso
      revert hh
      unfold decR
      split
      · simp
      · split
        · simp
        · split
          · simp
          · simp
    · rw [if_pos (fun hh => c2 hh.2.2)]
      exact ⟨fun _ => c2, fun _ => rfl⟩
end Go.Proofs.YtembdahclmffjaaDoor.Pk
