/- The program's sum is the CRC of the bytes as natural numbers. -/
import Derived.Test.YtpjdgndbcjinjaaDoorSm
import Derived.Test.YtpjdgndbcjinjaaDoorCrc
namespace Go.Proofs.YtpjdgndbcjinjaaDoor.Pk
open Go.RowKit Go.Proofs.YtpjdgndbcjinjaaDoorW.PrintWords Go.Proofs.YtpjdgndbcjinjaaDoorW.PrintLast Go.Proofs.YtpjdgndbcjinjaaDoorW.PrintMore Go.Proofs.YtpjdgndbcjinjaaDoor.Mem
set_option linter.unusedVariables false
set_option linter.unusedSimpArgs false
def isB (x : Int) : Prop := 0 ≤ x ∧ x < 256
def allB (l : List Int) : Prop := ∀ x ∈ l, isB x
theorem wfB {x : Int} (h : (Lit.int .u8 x).wf = true) : isB x := by
  have h2 : (decide ((0 : Int) ≤ x) && decide (x ≤ 255)) = true := h
  simp only [Bool.and_eq_true, decide_eq_true_eq] at h2
  exact ⟨h2.1, by omega⟩
theorem rdB {l : List Int} (h : allB l) (i : Int) : isB (rd l i) := by
  unfold rd
  rw [List.getD_eq_getElem?_getD]
  cases hq : l[i.toNat]? with
  | none => exact ⟨by decide, by decide⟩
  | some x => exact h x (List.mem_of_getElem? hq)
theorem xor32 (a b : Nat) (ha : a < 4294967296) (hb : b < 4294967296) : Go.bits .xor .u32 a b = ((a ^^^ b : Nat) : Int) := by
  unfold Go.bits
  rw [IntKind.wrap_u32]
  have ta : (BitVec.ofInt 32 (a : Int)).toNat = a := by simp; omega
  have tb : (BitVec.ofInt 32 (b : Int)).toNat = b := by simp; omega
  show (((BitVec.ofInt 32 (a : Int) ^^^ BitVec.ofInt 32 (b : Int)).toNat : Nat) : Int) % 4294967296 = _
  rw [BitVec.toNat_xor, ta, tb]
  have : a ^^^ b < 4294967296 := Nat.xor_lt_two_pow (n := 32) ha hb
  omega
def nat (l : List Int) : List Nat := l.map Int.toNat
theorem natB {l : List Int} (h : allB l) : ∀ b ∈ nat l, b < 256 := by
  intro b hb
  obtain ⟨x, hx, rfl⟩ := List.mem_map.1 hb
  have := h x hx
  unfold isB at this
  omega
theorem nat_len (l : List Int) : (nat l).length = l.length := by simp [nat]
theorem tabs : ∀ i : Nat, i < 16 → rd tabI (i : Int) = ((Crc.tab.getD i 0 : Nat) : Int) := by decide +kernel
theorem tab_lt : ∀ i : Nat, i < 16 → Crc.tab.getD i 0 < 4294967296 := by decide +kernel
theorem st4_nat (r : Nat) (h : r < 4294967296) : st4 (r : Int) = ((Crc.its 4 r : Nat) : Int) := by
  unfold st4
  rw [show (r : Int) % 16 = ((r % 16 : Nat) : Int) by omega, show (r : Int) / 16 = ((r / 16 : Nat) : Int) by omega, tabs _ (by omega), xor32 _ _ (tab_lt _ (by omega)) (by omega), Crc.nibble]
theorem upI_nat (r b : Nat) (h : r < 4294967296) (hb : b < 256) : upI (r : Int) (b : Int) = ((Crc.upd r b : Nat) : Int) := by
  unfold upI
  rw [show (b : Int) % 4294967296 = (b : Int) by omega, xor32 r b h (by omega)]
  have h1 : r ^^^ b < 4294967296 := Nat.xor_lt_two_pow (n := 32) h (by omega)
  have e : Crc.upd r b = Crc.its 4 (Crc.its 4 (r ^^^ b)) := by
    unfold Crc.upd
    exact Crc.its_add 4 4 _
  rw [e]
  generalize r ^^^ b = q at h1 ⊢
  rw [st4_nat q h1, st4_nat _ (Crc.its_lt 4 h1)]
theorem fold_nat (l : List Int) : ∀ (r : Nat), r < 4294967296 → allB l → l.foldl upI (r : Int) = ((Crc.reg r (nat l) : Nat) : Int) := by
  induction l with
  | nil => intro r _ _; show (r : Int) = ((Crc.reg r [] : Nat) : Int); rw [Crc.reg_nil]
  | cons x l ih =>
    intro r h hb
    have hx := hb x (by simp)
    unfold isB at hx
    obtain ⟨b, rfl⟩ := Int.eq_ofNat_of_zero_le hx.1
    have e : nat ((b : Int) :: l) = b :: nat l := by simp [nat]
    rw [List.foldl_cons, upI_nat r b h (by omega), e, Crc.reg_cons]
    exact ih _ (Crc.upd_lt h (by omega)) (fun y hy => hb y (by simp [hy]))
theorem sumI_nat {ps : List (List Int)} (h : allB ps.flatten) : sumI ps = ((Crc.sum (nat ps.flatten) : Nat) : Int) := by
  unfold sumI Crc.sum
  have hf := fold_nat ps.flatten 4294967295 (by omega) h
  have hf2 : List.foldl upI 4294967295 ps.flatten = ((Crc.reg 4294967295 (nat ps.flatten) : Nat) : Int) := hf
  rw [hf2]
  have hr : Crc.reg 4294967295 (nat ps.flatten) < 4294967296 := Crc.reg_lt _ (by omega) (natB h)
  generalize Crc.reg 4294967295 (nat ps.flatten) = R at hr ⊢
  have h9 := xor32 4294967295 R (by omega) hr
  rw [show ((4294967295 : Nat) : Int) = 4294967295 from rfl] at h9
  rw [h9, Nat.xor_comm]
theorem sum_one {xs : List Int} (h : allB xs) : sumI [xs] = ((Crc.sum (nat xs) : Nat) : Int) := by
  have e : [xs].flatten = xs := by simp
  have := sumI_nat (ps := [xs]) (by rw [e]; exact h)
  rwa [e] at this
end Go.Proofs.YtpjdgndbcjinjaaDoor.Pk
