/- The worked example over numbers alone: what fixed answers (door seat). -/
import Derived.Test.YtpjdgndbcjinjaaDoorFx
import Derived.Test.YtpjdgndbcjinjaaDoorMem
namespace Go.Proofs.YtpjdgndbcjinjaaDoor.P
open Go.RowKit Go.Proofs.YtpjdgndbcjinjaaDoorW.PrintWords Go.Proofs.YtpjdgndbcjinjaaDoorW.PrintLast Go.Proofs.YtpjdgndbcjinjaaDoorW.PrintMore Go.Proofs.YtpjdgndbcjinjaaDoor.Mine
set_option linter.unusedVariables false
set_option linter.unusedSimpArgs false
theorem wrapI {i : Int} (h0 : 0 ≤ i) (h1 : i < 100000) : wrap64 i = i := by unfold wrap64; omega
theorem tmod_ok {i n : Int} (h0 : 0 ≤ i) (hn : 0 < n) : 0 ≤ Int.tmod i n ∧ Int.tmod i n < n := ⟨Int.tmod_nonneg _ h0, Int.tmod_lt_of_pos _ hn⟩
theorem mod_ok (i : Nat) : Int.tmod (i : Int) 64 = ((i % 64 : Nat) : Int) := by
  rw [Int.tmod_eq_emod_of_nonneg (Int.natCast_nonneg i)]; omega
/-! ### the worked example -/
def artTail : Nat → Nat → List Int
  | 0, _ => []
  | n + 1, i => [46, 46] ++ ((if i % 64 = 63 then [10] else []) ++ artTail n (i + 1))
theorem dots : bytesOf (⟨#[46, 46]⟩ : ByteArray) = [46, 46] := by decide +kernel
theorem Art_zero (s acc : List Int) (i k : Nat) (hs : s.length = 3072) (hi : i < 3072) (ha : acc.length ≤ 3 * i) (h : rd s i = 0) :
    shot_Art.l0 (k + 1) acc s 3072 (i : Int) = shot_Art.l0 k (acc ++ ([46, 46] ++ (if i % 64 = 63 then [10] else []))) s 3072 ((i + 1 : Nat) : Int) := by
  rw [shot_Art.l0, if_pos (show (i : Int) < 3072 by omega), if_pos (Int.natCast_nonneg i), if_pos (show (i : Int) < (s.length : Int) by omega), if_pos h, if_pos (show acc.length + 2 < 140737488355328 by omega), Option.bind_some, dots, mod_ok, wrapI (i := (i : Int) + 1) (by omega) (by omega)]
  by_cases h63 : i % 64 = 63
  · rw [if_pos (by omega), if_pos (by simp; omega), if_pos h63, List.append_assoc]; rfl
  · rw [if_neg (by omega), if_neg h63, List.append_nil]; rfl
theorem Art_zeros (s : List Int) (hs : s.length = 3072) : ∀ (n q i : Nat) (acc : List Int), i + n = 3072 → acc.length ≤ 3 * i → (∀ j : Nat, i ≤ j → j < 3072 → rd s j = 0) →
    shot_Art.l0 (n + 1 + q) acc s 3072 (i : Int) = some (strOfNums (acc ++ artTail n i), 0)
  | 0, q, i, acc, hi, ha, hz => by
    rw [show 0 + 1 + q = q + 1 by omega, shot_Art.l0, if_neg (by omega)]; simp [artTail]
  | n + 1, q, i, acc, hi, ha, hz => by
    rw [show n + 1 + 1 + q = (n + 1 + q) + 1 by omega, Art_zero s acc i _ hs (by omega) ha (hz i (Nat.le_refl _) (by omega)),
      Art_zeros s hs n q (i + 1) _ (by omega) (by split <;> simp <;> omega) (fun j hj => hz j (by omega))]
    simp only [artTail, List.append_assoc]
def ex : List Int := (List.replicate 3072 0).set 1 171
theorem ex_len : ex.length = 3072 := by rw [ex, List.length_set, List.length_replicate]
theorem ex_zero (j : Nat) (h : j ≠ 1) (hj : j < 3072) : rd ex j = 0 := by
  simp only [rd, Int.toNat_natCast, ex, List.getD_eq_getElem?_getD]
  rw [List.getElem?_set_ne (fun e => h e.symm), List.getElem?_replicate, if_pos hj]; rfl
theorem ex_one : rd ex 1 = 171 := by
  show ((List.replicate 3072 (0 : Int)).set 1 171).getD 1 0 = 171
  rw [List.getD_eq_getElem?_getD, List.getElem?_set_self (by rw [List.length_replicate]; omega)]; rfl
def exArt : List Int := [46, 46, 97, 98] ++ artTail 3070 2
theorem exB1 : bt (⟨#[48, 49, 50, 51, 52, 53, 54, 55, 56, 57, 97, 98, 99, 100, 101, 102]⟩ : ByteArray) ((171 : Int) / 16) = 97 := by decide +kernel
theorem exB2 : bt (⟨#[48, 49, 50, 51, 52, 53, 54, 55, 56, 57, 97, 98, 99, 100, 101, 102]⟩ : ByteArray) (Go.bits .and .u8 (171 : Int) 15) = 98 := by decide +kernel
theorem Art_one (k : Nat) : shot_Art.l0 (k + 1) [46, 46] ex 3072 1 = shot_Art.l0 k [46, 46, 97, 98] ex 3072 2 := by
  have hl := ex_len
  rw [shot_Art.l0, if_pos (by decide), if_pos (by decide), if_pos (show (1 : Int) < (ex.length : Int) by omega), ex_one, if_neg (by decide), if_pos (by decide +kernel), if_pos (by decide +kernel), if_pos (by decide +kernel), if_pos (by decide +kernel), Option.bind_some, exB1, exB2, if_pos (by decide), Option.bind_some, if_neg (by decide), wrapI (i := (1 : Int) + 1) (by decide) (by decide)]
  rfl
theorem Art_ex (q : Nat) : shot_Art.f (3073 + q) ex = some (strOfNums exArt, 0) := by
  have hl := ex_len
  have e1 : shot_screen.f ex = some true := by rw [shot_screen.f, hl]; rfl
  have h0 := Art_zero ex [] 0 (3071 + 1 + q) hl (by omega) (by simp) (ex_zero 0 (by omega) (by omega))
  have h2 := Art_zeros ex hl 3070 q 2 [46, 46, 97, 98] (by omega) (by simp) (fun j hj hj2 => ex_zero j (by omega) hj2)
  rw [shot_Art.f, e1, Option.bind_some, if_pos rfl, hl, show 3073 + q = (3071 + 1 + q) + 1 by omega]
  refine h0.trans ?_
  rw [show 3071 + 1 + q = (3071 + q) + 1 by omega]
  refine (Art_one (3071 + q)).trans ?_
  rw [show 3071 + q = 3070 + 1 + q by omega]
  exact h2
theorem exSize : (strOfNums exArt).size = 6192 := by decide +kernel
theorem exHead : ((strOfNums exArt).extract 0 6).toList = [46, 46, 97, 98, 46, 46] := by decide +kernel
theorem exLine : bt (strOfNums exArt) 128 = 10 := by decide +kernel
def exPack : List Int := packOf (runsOf 3072 ex)
theorem exP1 : exPack.length = 28 := by decide +kernel
theorem exP2 : (strOfNums (exPack.take 6)).toList = ([0, 0, 0, 171, 255, 0] : List UInt8) := by decide +kernel
theorem exP3 : rd exPack 26 = 253 := by decide +kernel
theorem ex_eq : (List.replicate 3072 (0 : Int)).set (1 : Int).toNat 171 = ex := rfl
theorem fixed_ok (q : Nat) : wisplaw20_fixed.f (3073 + q) = some true := by
  have hP : shot_Pack.f ex = some (exPack, 0) := by
    have h := ex_len
    unfold shot_Pack.f exPack
    rw [if_pos h, h]
  have hA := Art_ex q
  have hA1 := exSize
  have hA2 := exHead
  have hA3 := exLine
  have hQ1 := exP1
  have hQ2 := exP2
  have hQ3 := exP3
  have hzs := ex_eq
  have hzl : (List.replicate 3072 (0 : Int)).length = 3072 := List.length_replicate
  unfold wisplaw20_fixed.f
  generalize List.replicate 3072 (0 : Int) = z at *
  generalize ex = x at *
  generalize strOfNums exArt = A at *
  generalize exPack = Q at *
  refine (if_pos (by omega)).trans ?_
  rw [Option.bind_some, if_pos (show (1 : Int) < (z.length : Int) by omega), Option.bind_some, hzs, hA, Option.bind_some, hP, Option.bind_some]
  rw [if_pos rfl, if_pos rfl, if_pos (show (A.size : Int) = 6192 by omega), if_pos (show (0 : Nat) ≤ 6 by omega), if_pos (show (6 : Int) ≤ (A.size : Int) by omega), if_pos hA2, if_pos (show (128 : Int) < (A.size : Int) by omega), if_pos hA3,
    if_pos (show (Q.length : Int) = 28 by omega), if_pos (show (6 : Int) ≤ (Q.length : Int) by omega), if_pos hQ2, if_pos (show (26 : Int) < (Q.length : Int) by omega), hQ3]
  rfl
theorem fixed_at (W : World) : Calls Tryd.prog 7 #[] W fun e w' => e = .returned (.bool true) ∧ Below W.heap.size W w' := wisplaw20_fixed.calls 3073 true W (fixed_ok 0)
end Go.Proofs.YtpjdgndbcjinjaaDoor.P
