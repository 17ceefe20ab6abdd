/- The document's sum and join (wispref03.Sum, wispref03.Join): their contracts. -/
import Derived.Test.YtgnjlgfnpfjjnaaDoorRo
import Derived.Test.YtgnjlgfnpfjjnaaDoorCs
namespace Go.Proofs.YtgnjlgfnpfjjnaaDoor.Pk
open Go.RowKit Go.Proofs.YtgnjlgfnpfjjnaaDoorW.PrintWords Go.Proofs.YtgnjlgfnpfjjnaaDoorW.PrintLast Go.Proofs.YtgnjlgfnpfjjnaaDoorW.PrintMore Go.Proofs.YtgnjlgfnpfjjnaaDoor.Mem
set_option linter.unusedVariables false
set_option linter.unusedSimpArgs false
theorem and_one (r : Nat) (h : r < 4294967296) : Go.bits .and .u32 (r : Int) 1 = ((r % 2 : Nat) : Int) := by
  unfold Go.bits
  rw [IntKind.wrap_u32]
  have ta : (BitVec.ofInt 32 (r : Int)).toNat = r := by simp; omega
  show (((BitVec.ofInt 32 (r : Int) &&& BitVec.ofInt 32 1).toNat : Nat) : Int) % 4294967296 = _
  rw [BitVec.toNat_and, ta, show (BitVec.ofInt 32 1).toNat = 1 by decide, Nat.and_one_is_mod]
  omega
theorem its_succ8 (k r : Nat) : Crc.its (k + 1) r = Crc.its k (Crc.stp r) := rfl
set_option maxRecDepth 100000 in
set_option maxHeartbeats 4000000 in
theorem RefSum {w : World} {A : Option Addr} {c : Nat} {xs : List Int} (hC : Kd.C (Kd.int .u8) w A xs.length xs) (hB : allB xs) :
    Calls Tryd.prog 11 #[.slice A xs.length c] w fun e w' => e = .returned (.int .u32 (sumI [xs])) ∧ w = w' := by
  obtain ⟨n, hn⟩ : ∃ n, n = xs.length := ⟨_, rfl⟩
  have hnn := Aside0.mk hn
  have hCC := Aside0.mk hC
  have hBB := Aside0.mk hB
  rw [← hn]
  have hn63 : n ≤ 9223372036854775807 := by have := hC.2.1; omega
  clear hn hC hB
  go_enter Tryd.func11, Tryd.ntmps11
  go_wp2
  go_loopg [3, 4] n (fun gk v3 v4 wr => ∃ (i r : Nat), v3 = .int .u32 (r : Int) ∧ v4 = .int .i64 (i : Int) ∧ r < 4294967296 ∧ i + gk = n ∧ wr = w ∧ Aside0 (Crc.reg r (nat (xs.drop i)) = Crc.reg 4294967295 (nat xs)))
  case atStart => exact ⟨0, 4294967295, rfl, rfl, by omega, by omega, rfl, ⟨rfl⟩⟩
  case round =>
    obtain ⟨i, r, rfl, rfl, hr, hi, rfl, hx⟩ := hrel
    cases gk with
    | zero =>
      have hd : decide (i < n) = false := decide_eq_false (by omega)
      go_wp2
      go_ret
      refine ⟨?_, rfl⟩
      have h1 := hx.out
      rw [List.drop_of_length_le (by have := hnn.out; omega)] at h1
      rw [sum_one hBB.out]
      unfold Crc.sum
      rw [← h1]
      show Ending.returned (.int .u32 (Go.bits .xor .u32 (r : Int) 4294967295)) = _
      have h9 := xor32 r 4294967295 hr (by omega)
      rw [show ((4294967295 : Nat) : Int) = 4294967295 from rfl] at h9
      rw [h9]
      rfl
    | succ k1 =>
      have hd : decide (i < n) = true := decide_eq_true (by omega)
      obtain ⟨a0, e0, hxb⟩ := Kd.at_int hCC.out (i : Int) (by omega) (by have := hnn.out; omega)
      subst e0
      rw [Int.toNat_natCast] at hxb
      have hlt : i < xs.length := by have := hnn.out; omega
      have hb := rdB hBB.out (i : Int)
      unfold isB at hb
      obtain ⟨bv, hbv⟩ := Int.eq_ofNat_of_zero_le hb.1
      have hX := hx.out
      have hdr : xs.drop i = rd xs (i : Int) :: xs.drop (i + 1) := by
        rw [List.drop_eq_getElem_cons hlt]
        congr 1
        unfold rd
        rw [Int.toNat_natCast, List.getD_eq_getElem?_getD, List.getElem?_eq_getElem hlt]; rfl
      rw [hdr, hbv, show nat ((bv : Int) :: xs.drop (i + 1)) = bv :: nat (xs.drop (i + 1)) by simp [nat], Crc.reg_cons] at hX
      rw [hbv] at hxb
      have hb256 : bv < 256 := by omega
      clear hx hdr hb hlt hbv
      have hZ := xor32 r bv hr (by omega)
      have hz0 : r ^^^ bv < 4294967296 := Nat.xor_lt_two_pow (n := 32) hr (by omega)
      have hYY : Aside0 (Crc.reg (Crc.its 8 (r ^^^ bv)) (nat (xs.drop (i + 1))) = Crc.reg 4294967295 (nat xs)) := ⟨hX⟩
      clear hX
      generalize r ^^^ bv = Z at hZ hz0 hYY
      go_wp2
      obtain ⟨wp, rfl⟩ : ∃ wp : World, wp = wr := ⟨_, rfl⟩
      go_loopg [3, 5] 8 (fun gl v3 v5 wl => ∃ (l z : Nat), v3 = .int .u32 (z : Int) ∧ v5 = .int .i64 (l : Int) ∧ z < 4294967296 ∧ l + gl = 8 ∧ wl = wp ∧ Aside0 (Crc.its gl z = Crc.its 8 Z))
      case atStart => exact ⟨0, Z, rfl, rfl, hz0, by omega, rfl, ⟨rfl⟩⟩
      case round =>
        obtain ⟨l, z, rfl, rfl, hq0, hl, rfl, hq⟩ := hrel
        cases gk with
        | zero =>
          have hd3 : decide ((l : Int) < 8) = false := decide_eq_false (by omega)
          go_wp2
          go_roundg k1
          case measure => omega
          case rel => exact ⟨i + 1, z, rfl, rfl, hq0, by omega, rfl, ⟨by rw [← hYY.out, ← hq.out]; rfl⟩⟩
        | succ l1 =>
          have hd3 : decide ((l : Int) < 8) = true := decide_eq_true (by omega)
          have hone := and_one z hq0
          have hst := Crc.stp_lt hq0
          have hqq := hq.out
          rw [its_succ8] at hqq
          have hqx := Aside0.mk hqq
          clear hq hqq
          by_cases ho : z % 2 = 1
          · have hd4 : (Go.bits .and .u32 (z : Int) 1 == 1) = true := by rw [hone, ho]; rfl
            have hs : Crc.stp z = (z / 2) ^^^ 0xedb88320 := by unfold Crc.stp; rw [if_pos ho]
            have hV := xor32 (z / 2) 0xedb88320 (by omega) (by omega)
            rw [← hs, show ((0xedb88320 : Nat) : Int) = 3988292384 from rfl, show ((z / 2 : Nat) : Int) = (z : Int) / 2 by omega] at hV
            generalize Crc.stp z = S at hV hst hqx
            clear hs hone
            go_wp2
            go_roundg l1
            case measure => omega
            case rel => exact ⟨l + 1, S, by first | rfl | rw [hV], rfl, hst, by omega, rfl, hqx⟩
          · have hd4 : (Go.bits .and .u32 (z : Int) 1 == 1) = false := by rw [hone, show z % 2 = 0 by omega]; rfl
            have hs : Crc.stp z = z / 2 := by unfold Crc.stp; rw [if_neg ho]
            clear hone
            go_wp2
            go_roundg l1
            case measure => omega
            case rel => exact ⟨l + 1, z / 2, by rw [show ((z / 2 : Nat) : Int) = (z : Int) / 2 by omega], rfl, by omega, by omega, rfl, ⟨by rw [← hs]; exact hqx.out⟩⟩
set_option maxHeartbeats 4000000 in
theorem Join {w : World} {A : Option Addr} {c : Nat} {ps : List (List Int)} (hC : Kd.C (Kd.slice 5 (Kd.int .u8)) w A ps.length ps) (hl : ps.flatten.length ≤ 140737488351232) :
    Calls Tryd.prog 9 #[.slice A ps.length c] w fun e w' => ∃ v, e = .returned v ∧ Kd.R (Kd.int .u8) 5 w' w.heap.size (fun _ => True) v ps.flatten ∧ Below w.heap.size w w' := by
  obtain ⟨n, hn⟩ : ∃ n, n = ps.length := ⟨_, rfl⟩
  have hnn := Aside0.mk hn
  have hCC := Aside0.mk hC
  have hLL := Aside0.mk hl
  rw [← hn]
  have hn63 : n ≤ 9223372036854775807 := by have := hC.2.1; omega
  clear hn hC hl
  go_enter Tryd.func9, Tryd.ntmps9
  go_wp2
  go_loopg [3, 4] n (fun gk v3 v4 wr => ∃ (i : Nat) (v : Value), v3 = v ∧ v4 = .int .i64 (i : Int) ∧ i + gk = n ∧ Aside0 (Kd.R (Kd.int .u8) 5 wr w.heap.size (fun _ => True) v (ps.take i).flatten) ∧ Aside0 (Below w.heap.size w wr))
  case atStart => exact ⟨0, _, rfl, rfl, by omega, ⟨Kd.R_nil _ _ _ _ _⟩, ⟨Below.refl _ _⟩⟩
  case round =>
    obtain ⟨i, v3, hv3, rfl, hi, hR, hb⟩ := hrel
    replace hv3 := hv3.symm
    subst hv3
    cases gk with
    | zero =>
      have hd : decide (i < n) = false := decide_eq_false (by omega)
      go_wp2
      go_ret
      refine ⟨v3, rfl, ?_, hb.out⟩
      have h1 := hR.out
      rwa [List.take_of_length_le (by have := hnn.out; omega)] at h1
    | succ k1 =>
      have hd : decide (i < n) = true := decide_eq_true (by omega)
      obtain ⟨a0, cc, e0, hnil, hK, hx0c⟩ := Kd.C_get (Kd.C_below hCC.out hb.out) [] (i : Int) (by omega) (by have := hnn.out; omega)
      subst e0
      obtain ⟨A1, c1, rfl, hl1, hC1⟩ := hK
      have hx1c := hx0c 0 _ rfl
      rw [Int.toNat_natCast, show (Kd.slice 5 (Kd.int .u8)).sz = 1 from rfl, Nat.mul_one, Nat.add_zero] at hx1c
      clear hx0c
      have hlt : i < ps.length := by have := hnn.out; omega
      have hpi : ps.getD i [] = ps[i] := by rw [List.getD_eq_getElem?_getD, List.getElem?_eq_getElem hlt]; rfl
      simp only [Int.toNat_natCast] at hC1 hx1c
      rw [hpi] at hC1 hx1c
      have htk : (ps.take (i + 1)).flatten = (ps.take i).flatten ++ ps[i] := by rw [List.take_succ_eq_append_getElem hlt, List.flatten_append]; simp
      have hlen : (ps.take i).flatten.length + ps[i].length ≤ 140737488355328 := by
        have h1 : ps.flatten.length = (ps.take (i + 1)).flatten.length + (ps.drop (i + 1)).flatten.length := by rw [← List.length_append, ← List.flatten_append, List.take_append_drop]
        rw [htk, List.length_append] at h1
        have := hLL.out
        omega
      clear hpi hl1 hnil
      generalize ps[i] = p at hC1 hx1c htk hlen
      have hCC1 := Aside0.mk hC1
      have htkk := Aside0.mk htk
      have hle := Aside0.mk hlen
      have hs := hb.out.size
      clear hlt hC1 htk hlen
      go_wp2_with (at_builtin; refine appB (w0 := w) w.heap.size v3 _ p A1 p.length c1 rfl _ _ rfl rfl rfl hR.out hCC1.out hb.out hs hle.out ?_; intro v1 w1 ho hbl; have ho1 := Aside0.mk ho; have hb1 := Aside0.mk hbl; clear ho hbl)
      go_roundg k1
      case measure => omega
      case rel => exact ⟨i + 1, v1, rfl, rfl, by omega, ⟨by rw [htkk.out]; exact ho1.out⟩, hb1⟩
end Go.Proofs.YtgnjlgfnpfjjnaaDoor.Pk
