/- wisplaw20.ShotNames: what the calls answer at the law's own screens. -/
import Derived.Test.YtpjdgndbcjinjaaDoorNm
import Derived.Test.YtpjdgndbcjinjaaDoorRv
import Derived.Test.YtpjdgndbcjinjaaDoorTo
namespace Go.Proofs.YtpjdgndbcjinjaaDoor.Pn
open Go.RowKit Go.Proofs.YtpjdgndbcjinjaaDoorW.PrintWords Go.Proofs.YtpjdgndbcjinjaaDoorW.PrintLast Go.Proofs.YtpjdgndbcjinjaaDoorW.PrintMore Go.Proofs.YtpjdgndbcjinjaaDoor.Mem Go.Proofs.YtpjdgndbcjinjaaDoor.P
open Go.Proofs.YtpjdgndbcjinjaaDoor.Ap (RB CB)
set_option linter.unusedVariables false
set_option linter.unusedSimpArgs false
abbrev RC (W : World) (B : Nat) (v : Value) (l : List S51) : Prop := k51.R 51 W B (fun _ => True) v l
section
variable {W : World} {A A' : Option Addr} {n c n' c' : Nat} {zs ys l : List Int} {cs : List S51} {s : ByteArray} {e : Int}
theorem Un_at (hC : CB W A n zs) (hn : n = zs.length) (hc : n ≤ c) (hB : allB zs) (hl : n ≤ 140737488351232) (hs : unA zs = (l, e)) : Calls Tryd.prog 14 #[.slice A n c] W fun e' w' => ∃ v, e' = .returned (.tuple #[v, .int .i64 e]) ∧ RB w' W.heap.size v l ∧ Below W.heap.size W w' := by
  subst hn
  exact shot_Unpack.calls (zs.length + 2) A c zs l e W hC hc (by rw [Unpack_any zs hB hl _ (Nat.le_refl _), hs])
theorem Diff_at (hC : CB W A n zs) (hn : n = zs.length) (hc : n ≤ c) (hC' : CB W A' n' ys) (hn' : n' = ys.length) (hc' : n' ≤ c') (hs : diffA zs ys = (cs, e)) : Calls Tryd.prog 15 #[.slice A n c, .slice A' n' c'] W fun e' w' => ∃ v, e' = .returned (.tuple #[v, .int .i64 e]) ∧ RC w' W.heap.size v cs ∧ Below W.heap.size W w' := by
  subst hn hn'
  exact shot_Diff.calls 3074 A c zs A' c' ys cs e W hC hc hC' hc' (by rw [Diff_any zs ys 3074 (Nat.le_refl _), hs])
theorem Apply_at (hC : CB W A n zs) (hn : n = zs.length) (hc : n ≤ c) (hC' : k51.C W A' n' cs) (hn' : n' = cs.length) (hc' : n' ≤ c') (hl : cs.length ≤ 4611686018427387900) (hs : applyA zs cs = (l, e)) : Calls Tryd.prog 16 #[.slice A n c, .slice A' n' c'] W fun e' w' => ∃ v, e' = .returned (.tuple #[v, .int .i64 e]) ∧ RB w' W.heap.size v l ∧ Below W.heap.size W w' := by
  subst hn hn'
  exact shot_Apply.calls (cs.length + 1) A c zs A' c' cs l e W hC hc hC' hc' (by rw [Apply_any zs cs hl _ (Nat.le_refl _), hs])
theorem Art_at (hC : CB W A n zs) (hn : n = zs.length) (hc : n ≤ c) (hB : allB zs) (hs : artA zs = (s, e)) : Calls Tryd.prog 17 #[.slice A n c] W fun e' w' => e' = .returned (.tuple #[.string s, .int .i64 e]) ∧ Below W.heap.size W w' := by
  subst hn
  exact shot_Art.calls 3073 A c zs s e W hC hc (by rw [Art_any zs hB 3073 (Nat.le_refl _), hs])
theorem Read_at (W : World) {t : ByteArray} {l : List Int} (hs : readA t = (l, e)) : Calls Tryd.prog 18 #[.string t] W fun e' w' => ∃ v, e' = .returned (.tuple #[v, .int .i64 e]) ∧ RB w' W.heap.size v l ∧ Below W.heap.size W w' :=
  shot_Read.calls 6300 t l e W (by rw [Read_any t 6300 (Nat.le_refl _), hs])
end
/-! ### the law's own screens -/
def zero : List Int := List.replicate 3072 0
def other : List Int := zero.set 1 171
def pkd (i : Nat) : List Int := (List.replicate i [255, 0]).flatten
theorem pkd_len (i : Nat) : (pkd i).length = 2 * i := by simp [pkd]; omega
theorem pkd_succ (i : Nat) : pkd (i + 1) = pkd i ++ [255, 0] := by simp [pkd, List.replicate_succ', List.flatten_append]
theorem zero_len : zero.length = 3072 := List.length_replicate
theorem other_len : other.length = 3072 := by rw [other, List.length_set, zero_len]
theorem isB0 : isB 0 := by unfold isB; omega
theorem zeroB : allB zero := fun x hx => by rw [List.eq_of_mem_replicate hx]; exact isB0
theorem litB : ∀ l : List Int, (l.all fun x => decide (0 ≤ x) && decide (x < 256)) = true → allB l := fun l h x hx => by
  have := List.all_eq_true.1 h x hx
  unfold isB
  simpa using this
theorem pkdB : allB (pkd 12) := litB _ (by decide +kernel)
theorem pkdB22 : allB ((pkd 12).take 22) := litB _ (by decide +kernel)
theorem pkdB2 : allB ([254, 0, 0, 0] ++ (pkd 12).drop 2) := litB _ (by decide +kernel)
theorem un1 : unA (pkd 12) = (zero, 0) := by decide +kernel
theorem un2 : unA ((pkd 12).take 22) = ([], 2) := by decide +kernel
theorem un3 : unA ([254, 0, 0, 0] ++ (pkd 12).drop 2) = ([], 2) := by decide +kernel
theorem un4 : unA [] = ([], 2) := by decide +kernel
theorem zero_rd (j : Nat) : rd zero (j : Int) = 0 := by
  unfold rd zero
  rw [Int.toNat_natCast, List.getD_eq_getElem?_getD]
  by_cases h : j < 3072
  · rw [List.getElem?_replicate, if_pos h]; rfl
  · rw [List.getElem?_eq_none (by rw [List.length_replicate]; omega)]; rfl
theorem dl_tail : ∀ n i : Nat, 2 ≤ i → i + n = 3072 → dl zero ex n i = []
  | 0, i, _, _ => rfl
  | n + 1, i, h, hi => by
    simp only [dl]
    rw [if_pos (by rw [zero_rd, ex_zero i (by omega) (by omega)]), dl_tail n (i + 1) (by omega) (by omega)]
theorem df0 : dl zero other 3072 0 = [⟨1, 0, 0, 171⟩] := by
  show dl zero ex (3070 + 1 + 1) 0 = _
  rw [dl, if_pos (show rd zero ((0 : Nat) : Int) = rd ex ((0 : Nat) : Int) by rw [zero_rd, ex_zero 0 (by decide) (by decide)]), dl, if_neg (show ¬ rd zero ((0 + 1 : Nat) : Int) = rd ex ((0 + 1 : Nat) : Int) by rw [zero_rd]; exact fun h => absurd (h.trans ex_one) (by decide)), dl_tail 3070 (0 + 1 + 1) (by omega) (by omega)]
  unfold chg
  rw [zero_rd]
  have e : rd ex ((0 + 1 : Nat) : Int) = 171 := ex_one
  rw [e]; rfl
theorem df : diffA zero other = ([⟨1, 0, 0, 171⟩], 0) := by
  unfold diffA
  rw [if_pos ⟨zero_len, other_len⟩, df0]
theorem ap1 : applyA other [⟨1, 0, 0, 171⟩] = ([], 2) := by decide +kernel
theorem ap2 : applyA other [⟨1, 0, 171, 0⟩] = (zero, 0) := by decide +kernel
theorem ap3 : applyA zero [⟨64, 0, 0, 1⟩] = ([], 2) := by decide +kernel
theorem ap4 : applyA zero [⟨0, 48, 0, 1⟩] = ([], 2) := by decide +kernel
theorem art1 : artA (zero.drop 1) = (⟨#[]⟩, 2) := by unfold artA; rw [if_neg (by rw [List.length_drop, zero_len]; decide)]
theorem read1 : readA ⟨#[]⟩ = ([], 2) := by unfold readA; rw [if_neg (fun h => absurd h.1 (by decide))]
theorem tn1 : strOfNums (Pk.tnsB [(0, 440, 9), (12, 65535, 0)]) = ⟨#[48, 32, 52, 52, 48, 32, 57, 10, 49, 50, 32, 54, 53, 53, 51, 53, 32, 48, 10]⟩ := by kernel_rfl
theorem tnW1 : Pk.TnW [(0, 440, 9), (12, 65535, 0)] := by
  intro t ht
  simp only [List.mem_cons, List.not_mem_nil, or_false] at ht
  unfold Pk.isB
  rcases ht with rfl | rfl <;> decide
end Go.Proofs.YtpjdgndbcjinjaaDoor.Pn
