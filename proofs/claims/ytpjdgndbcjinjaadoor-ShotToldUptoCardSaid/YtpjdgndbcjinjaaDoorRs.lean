/- The document's sum (wispref03.Sum): its contract. -/
import Derived.Test.YtpjdgndbcjinjaaDoorCs
namespace Go.Proofs.YtpjdgndbcjinjaaDoor.Pk
open Go.RowKit Go.Proofs.YtpjdgndbcjinjaaDoorW.PrintWords Go.Proofs.YtpjdgndbcjinjaaDoorW.PrintLast Go.Proofs.YtpjdgndbcjinjaaDoorW.PrintMore Go.Proofs.YtpjdgndbcjinjaaDoor.Mem
set_option linter.unusedVariables false
set_option linter.unusedSimpArgs false
theorem and_one (r : Nat) (h : r < 4294967296) : Go.bits .and .u32 (r : Int) 1 = ((r % 2 : Nat) : Int) := by
  unfold Go.bits
  rw [IntKind.wrap_u32]
  have ta : (BitVec.ofInt 32 (r : Int)).toNat = r := by simp; omega
  show (((BitVec.ofInt 32 (r : Int) &&& BitVec.ofInt 32 1).toNat : Nat) : Int) % 4294967296 = _
  rw [BitVec.toNat_and, ta, show (BitVec.ofInt 32 1).toNat = 1 by decide, Nat.and_one_is_mod]
  omega
theorem its_succ8 (k r : Nat) : Crc.its (k + 1) r = Crc.its k (Crc.stp r) := rfl
set_option maxRecDepth 100000 in
set_option maxHeartbeats 4000000 in
theorem RefSum {w : World} {A : Option Addr} {c : Nat} {xs : List Int} (hC : Kd.C (Kd.int .u8) w A xs.length xs) (hB : allB xs) :
    Calls Tryd.prog 28 #[.slice A xs.length c] w fun e w' => e = .returned (.int .u32 (sumI [xs])) ∧ w = w' := by
  obtain ⟨n, hn⟩ : ∃ n, n = xs.length := ⟨_, rfl⟩
  have hnn := Aside0.mk hn
  have hCC := Aside0.mk hC
  have hBB := Aside0.mk hB
  rw [← hn]
  have hn63 : n ≤ 9223372036854775807 := by have := hC.2.1; omega
  clear hn hC hB
  go_enter Tryd.func28, Tryd.ntmps28
  go_wp2
  go_loopg [3, 4] n (fun gk v3 v4 wr => ∃ (i r : Nat), v3 = .int .u32 (r : Int) ∧ v4 = .int .i64 (i : Int) ∧ r < 4294967296 ∧ i + gk = n ∧ wr = w ∧ Aside0 (Crc.reg r (nat (xs.drop i)) = Crc.reg 4294967295 (nat xs)))
  case atStart => exact ⟨0, 4294967295, rfl, rfl, by omega, by omega, rfl, ⟨rfl⟩⟩
  case round =>
    obtain ⟨i, r, rfl, rfl, hr, hi, rfl, hx⟩ := hrel
    cases gk with
    | zero =>
      have hd : decide (i < n) = false := decide_eq_false (by omega)
      go_wp2
      go_ret
      refine ⟨?_, rfl⟩
      have h1 := hx.out
      rw [List.drop_of_length_le (by have := hnn.out; omega)] at h1
      rw [sum_one hBB.out]
      unfold Crc.sum
      rw [← h1]
      show Ending.returned (.int .u32 (Go.bits .xor .u32 (r : Int) 4294967295)) = _
      have h9 := xor32 r 4294967295 hr (by omega)
      rw [show ((4294967295 : Nat) : Int) = 4294967295 from rfl] at h9
      rw [h9]
      rfl
    | succ k1 =>
      have hd : decide (i < n) = true := decide_eq_true (by omega)
      obtain ⟨a0, e0, hxb⟩ := Kd.at_int hCC.out (i : Int) (by omega) (by have := hnn.out; omega)
      subst e0
      rw [Int.toNat_natCast] at hxb
      have hlt : i < xs.length := by have := hnn.out; omega
      have hb := rdB hBB.out (i : Int)
      unfold isB at hb
      obtain ⟨bv, hbv⟩ := Int.eq_ofNat_of_zero_le hb.1
      have hX := hx.out
      have hdr : xs.drop i = rd xs (i : Int) :: xs.drop (i + 1) := by
        rw [List.drop_eq_getElem_cons hlt]
        congr 1
        unfold rd
        rw [Int.toNat_natCast, List.getD_eq_getElem?_getD, List.getElem?_eq_getElem hlt]; rfl
      rw [hdr, hbv, show nat ((bv : Int) :: xs.drop (i + 1)) = bv :: nat (xs.drop (i + 1)) by simp [nat], Crc.reg_cons] at hX
      rw [hbv] at hxb
      have hb256 : bv < 256 := by omega
      clear hx hdr hb hlt hbv
      have hZ := xor32 r bv hr (by omega)
      have hz0 : r ^^^ bv < 4294967296 := Nat.xor_lt_two_pow (n := 32) hr (by omega)
      have hYY : Aside0 (Crc.reg (Crc.its 8 (r ^^^ bv)) (nat (xs.drop (i + 1))) = Crc.reg 4294967295 (nat xs)) := ⟨hX⟩
      clear hX
      generalize r ^^^ bv = Z at hZ hz0 hYY
      go_wp2
      obtain ⟨wp, rfl⟩ : ∃ wp : World, wp = wr := ⟨_, rfl⟩
      go_loopg [3, 5] 8 (fun gl v3 v5 wl => ∃ (l z : Nat), v3 = .int .u32 (z : Int) ∧ v5 = .int .i64 (l : Int) ∧ z < 4294967296 ∧ l + gl = 8 ∧ wl = wp ∧ Aside0 (Crc.its gl z = Crc.its 8 Z))
      case atStart => exact ⟨0, Z, rfl, rfl, hz0, by omega, rfl, ⟨rfl⟩⟩
      case round =>
        obtain ⟨l, z, rfl, rfl, hq0, hl, rfl, hq⟩ := hrel
        cases gk with
        | zero =>
          have hd3 : decide ((l : Int) < 8) = false := decide_eq_false (by omega)
          go_wp2
          go_roundg k1
          case measure => omega
          case rel => exact ⟨i + 1, z, rfl, rfl, hq0, by omega, rfl, ⟨by rw [← hYY.out, ← hq.out]; rfl⟩⟩
        | succ l1 =>
          have hd3 : decide ((l : Int) < 8) = true := decide_eq_true (by omega)
          have hone := and_one z hq0
          have hst := Crc.stp_lt hq0
          have hqq := hq.out
          rw [its_succ8] at hqq
          have hqx := Aside0.mk hqq
          clear hq hqq
          by_cases ho : z % 2 = 1
          · have hd4 : (Go.bits .and .u32 (z : Int) 1 == 1) = true := by rw [hone, ho]; rfl
            have hs : Crc.stp z = (z / 2) ^^^ 0xedb88320 := by unfold Crc.stp; rw [if_pos ho]
            have hV := xor32 (z / 2) 0xedb88320 (by omega) (by omega)
            rw [← hs, show ((0xedb88320 : Nat) : Int) = 3988292384 from rfl, show ((z / 2 : Nat) : Int) = (z : Int) / 2 by omega] at hV
            generalize Crc.stp z = S at hV hst hqx
            clear hs hone
            go_wp2
            go_roundg l1
            case measure => omega
            case rel => exact ⟨l + 1, S, by first | rfl | rw [hV], rfl, hst, by omega, rfl, hqx⟩
          · have hd4 : (Go.bits .and .u32 (z : Int) 1 == 1) = false := by rw [hone, show z % 2 = 0 by omega]; rfl
            have hs : Crc.stp z = z / 2 := by unfold Crc.stp; rw [if_neg ho]
            clear hone
            go_wp2
            go_roundg l1
            case measure => omega
            case rel => exact ⟨l + 1, z / 2, by rw [show ((z / 2 : Nat) : Int) = (z : Int) / 2 by omega], rfl, by omega, by omega, rfl, ⟨by rw [← hs]; exact hqx.out⟩⟩
end Go.Proofs.YtpjdgndbcjinjaaDoor.Pk
