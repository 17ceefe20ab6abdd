/- Screens, changes and the worked example over numbers alone: what Diff, Apply, screen and fixed answer. -/
import Derived.Test.YtpjdgndbcjinjaaPx3
import Derived.Test.YtpjdgndbcjinjaaPx4
namespace Go.Proofs.Ytpjdgndbcjinjaa.P
open Go.RowKit Go.Proofs.YtpjdgndbcjinjaaW.PrintWords Go.Proofs.YtpjdgndbcjinjaaW.PrintLast Go.Proofs.YtpjdgndbcjinjaaW.PrintMore Go.Proofs.Ytpjdgndbcjinjaa.Mine
set_option linter.unusedVariables false
set_option linter.unusedSimpArgs false
/-! ### plain facts -/
theorem wrapI {i : Int} (h0 : 0 ≤ i) (h1 : i < 100000) : wrap64 i = i := by unfold wrap64; omega
theorem tmod_ok {i n : Int} (h0 : 0 ≤ i) (hn : 0 < n) : 0 ≤ Int.tmod i n ∧ Int.tmod i n < n := ⟨Int.tmod_nonneg _ h0, Int.tmod_lt_of_pos _ hn⟩

theorem screen_l0 (x0 : List Int) : ∀ (m q : Nat) (x3 : List Int) (i : Nat), x3.length = 3072 → i + m = 3072 → ∃ s, wisplaw20_screen.l0 (m + 1 + q) x0 x3 (i : Int) = some s ∧ s.length = 3072
  | m, q, x3, i, hl, hi => by
    rw [show m + 1 + q = (m + q) + 1 by omega]
    by_cases hx : (x0.length : Int) > 0
    · cases m with
      | zero =>
        refine ⟨x3, ?_, hl⟩
        rw [wisplaw20_screen.l0, if_neg (by omega)]
      | succ m =>
        have ht := tmod_ok (i := (i : Int)) (Int.natCast_nonneg i) hx
        obtain ⟨s, hs, hls⟩ := screen_l0 x0 m q (x3.set i (rd x0 (Int.tmod i (x0.length : Int)))) (i + 1) (by simpa using hl) (by omega)
        refine ⟨s, ?_, hls⟩
        rw [wisplaw20_screen.l0, if_pos (show (i : Int) < (x3.length : Int) by omega), if_pos hx, if_neg (show ¬ (x0.length : Int) = 0 by omega), if_pos ht.1, if_pos ht.2, if_pos (Int.natCast_nonneg i), wrapI (i := (i : Int) + 1) (by omega) (by omega), Int.toNat_natCast]
        rw [show m + 1 + q = m + q + 1 by omega] at hs ⊢
        exact hs
    · refine ⟨x3, ?_, hl⟩
      rw [wisplaw20_screen.l0]
      by_cases h : (i : Int) < (x3.length : Int)
      · rw [if_pos h, if_neg hx]
      · rw [if_neg h]

/-- a pixel that differs, as a change -/
def chg (a b : List Int) (i : Nat) : S42 := ⟨((i % 64 : Nat) : Int), ((i / 64 : Nat) : Int), rd a i, rd b i⟩
def dl (a b : List Int) : Nat → Nat → List S42
  | 0, _ => []
  | n + 1, i => if rd a i = rd b i then dl a b n (i + 1) else chg a b i :: dl a b n (i + 1)
theorem dl_len (a b : List Int) : ∀ n i, (dl a b n i).length ≤ n
  | 0, _ => by simp [dl]
  | n + 1, i => by
    have := dl_len a b n (i + 1)
    simp only [dl]; split <;> simp <;> omega
theorem dl_self (a : List Int) : ∀ n i, dl a a n i = []
  | 0, _ => rfl
  | n + 1, i => by simp only [dl]; simp [dl_self a n (i + 1)]
def swp (c : S42) : S42 := ⟨c.f0, c.f1, c.f3, c.f2⟩
theorem dl_swap (a b : List Int) : ∀ n i, dl b a n i = (dl a b n i).map swp
  | 0, _ => rfl
  | n + 1, i => by
    simp only [dl]
    by_cases h : rd a i = rd b i
    · rw [if_pos h, if_pos h.symm, dl_swap a b n (i + 1)]
    · rw [if_neg h, if_neg (fun e => h e.symm), dl_swap a b n (i + 1)]; rfl
theorem mod_ok (i : Nat) : Int.tmod (i : Int) 64 = ((i % 64 : Nat) : Int) := by
  rw [Int.tmod_eq_emod_of_nonneg (Int.natCast_nonneg i)]; omega
theorem div_ok (i : Nat) (h : i < 3072) : wrap64 (Int.tdiv (i : Int) 64) = ((i / 64 : Nat) : Int) := by
  rw [Int.tdiv_eq_ediv_of_nonneg (Int.natCast_nonneg i), wrapI (by omega) (by omega)]; omega

theorem Diff_l0 (a b : List Int) (ha : a.length = 3072) (hb : b.length = 3072) : ∀ (n q i : Nat) (acc : List S42), i + n = 3072 → acc.length ≤ i →
    shot_Diff.l0 (n + 1 + q) a b acc 3072 (i : Int) = some (acc ++ dl a b n i, 0)
  | 0, q, i, acc, hi, hl => by
    rw [show 0 + 1 + q = q + 1 by omega, shot_Diff.l0, if_neg (by omega)]; simp [dl]
  | n + 1, q, i, acc, hi, hl => by
    have ih := fun acc' => Diff_l0 a b ha hb n q (i + 1) acc' (by omega)
    rw [show n + 1 + 1 + q = (n + 1 + q) + 1 by omega, shot_Diff.l0, if_pos (show (i : Int) < 3072 by omega), if_pos (Int.natCast_nonneg i), if_pos (show (i : Int) < (a.length : Int) by omega), if_pos (show (i : Int) < (b.length : Int) by omega), wrapI (i := (i : Int) + 1) (by omega) (by omega)]
    by_cases h : rd a i = rd b i
    · rw [if_pos h]
      have := ih acc (by omega)
      simp only [dl]; rw [if_pos h]; exact this
    · rw [if_neg h, if_pos (show acc.length < 5864062014805 by omega), mod_ok, div_ok i (by omega)]
      have := ih (acc ++ [chg a b i]) (by simp; omega)
      simp only [dl]; rw [if_neg h]
      rw [List.append_assoc] at this
      exact this
theorem Diff_f (a b : List Int) (ha : a.length = 3072) (hb : b.length = 3072) (q : Nat) : shot_Diff.f (3074 + q) a b = some (dl a b 3072 0, 0) := by
  have h := Diff_l0 a b ha hb 3072 q 0 [] (by omega) (by simp)
  have e1 : shot_screen.f a = some true := by rw [shot_screen.f, ha]; rfl
  have e2 : shot_screen.f b = some true := by rw [shot_screen.f, hb]; rfl
  rw [shot_Diff.f, e1, Option.bind_some, if_pos rfl, e2, Option.bind_some, show 3074 + q = (3073 + q) + 1 by omega, shot_Diff.j0, if_neg (by decide), ha]
  exact h
theorem rdT_at (p q : List S42) (c : S42) : rd_T42 (p ++ c :: q) (p.length : Int) = c := by simp [rd_T42]
/-- the first i pixels are the second screen's -/
def mix (a b : List Int) (i : Nat) : List Int := b.take i ++ a.drop i
theorem mix_len {a b : List Int} (ha : a.length = 3072) (hb : b.length = 3072) (i : Nat) (hi : i ≤ 3072) : (mix a b i).length = 3072 := by
  simp [mix, ha, hb]; omega
theorem mix_rd {a b : List Int} (ha : a.length = 3072) (hb : b.length = 3072) (i : Nat) (hi : i < 3072) : rd (mix a b i) i = rd a i := by
  have h1 : (b.take i).length = i := by simp [hb]; omega
  simp only [rd, Int.toNat_natCast, mix, List.getD_eq_getElem?_getD]
  rw [List.getElem?_append_right (by omega), h1, Nat.sub_self, List.getElem?_drop, Nat.add_zero]
theorem mix_set {a b : List Int} (ha : a.length = 3072) (hb : b.length = 3072) (i : Nat) (hi : i < 3072) : (mix a b i).set i (rd b i) = mix a b (i + 1) := by
  have h1 : (b.take i).length = i := by simp [hb]; omega
  simp only [mix]
  rw [List.set_append_right _ _ (by omega), h1, Nat.sub_self, List.drop_eq_getElem_cons (show i < a.length by omega), List.set_cons_zero, List.take_add_one,
    show b[i]?.toList = [b[i]'(by omega)] by rw [List.getElem?_eq_getElem (show i < b.length by omega)]; rfl]
  have hrd : rd b i = b[i]'(by omega) := by simp only [rd, Int.toNat_natCast, List.getD_eq_getElem?_getD]; rw [List.getElem?_eq_getElem (show i < b.length by omega)]; rfl
  rw [hrd, List.append_assoc]; rfl
theorem mix_next {a b : List Int} (ha : a.length = 3072) (hb : b.length = 3072) (i : Nat) (hi : i < 3072) (h : rd a i = rd b i) : mix a b i = mix a b (i + 1) := by
  rw [← mix_set ha hb i hi, ← h, ← mix_rd ha hb i hi]
  have hl := mix_len ha hb i (by omega)
  have hrd : rd (mix a b i) i = (mix a b i)[i]'(by omega) := by simp only [rd, Int.toNat_natCast, List.getD_eq_getElem?_getD]; rw [List.getElem?_eq_getElem (show i < (mix a b i).length by omega)]; rfl
  rw [hrd, List.set_getElem_self]
theorem at_ok (i : Nat) (hi : i < 3072) : wrap64 (wrap64 (((i / 64 : Nat) : Int) * 64) + ((i % 64 : Nat) : Int)) = (i : Int) := by
  rw [wrapI (i := ((i / 64 : Nat) : Int) * 64) (by omega) (by omega), wrapI (by omega) (by omega)]; omega
theorem at_ok' (i : Nat) (hi : i < 3072) : wrap64 (wrap64 (64 * ((i / 64 : Nat) : Int)) + ((i % 64 : Nat) : Int)) = (i : Int) := by
  rw [Int.mul_comm]; exact at_ok i hi

/-- one change that is right is done -/
theorem Apply_step {x : List Int} {l p t : List S42} {i : Nat} {o n : Int} (hx : x.length = 3072) (hi : i < 3072) (hl : l = p ++ (⟨((i % 64 : Nat) : Int), ((i / 64 : Nat) : Int), o, n⟩ : S42) :: t) (hs : l.length ≤ 5000) (k : Nat) :
    shot_Apply.l0 (k + 1) x l (l.length : Int) (p.length : Int) = if rd x i = o then shot_Apply.l0 k (x.set i n) l (l.length : Int) ((p.length + 1 : Nat) : Int) else some ([], 2) := by
  have hlen : l.length = p.length + (t.length + 1) := by rw [hl]; simp
  have hc : rd_T42 l (p.length : Int) = ⟨((i % 64 : Nat) : Int), ((i / 64 : Nat) : Int), o, n⟩ := by rw [hl]; exact rdT_at p t _
  rw [shot_Apply.l0, if_pos (by omega), if_pos (Int.natCast_nonneg _), if_pos (by omega), hc]
  simp only [at_ok i hi]
  rw [if_neg (by omega), if_neg (by omega), if_neg (by omega), if_neg (by omega), if_pos (by omega), if_pos (by omega), wrapI (i := (p.length : Int) + 1) (by omega) (by omega), Int.toNat_natCast]
  rfl
theorem Apply_l0 (a b : List Int) (ha : a.length = 3072) (hb : b.length = 3072) (q : Nat) : ∀ (n i : Nat) (l p : List S42), i + n = 3072 → l = p ++ dl a b n i → p.length ≤ i →
    shot_Apply.l0 ((dl a b n i).length + 1 + q) (mix a b i) l (l.length : Int) (p.length : Int) = some (b, 0)
  | 0, i, l, p, hi, hl, hp => by
    rw [show dl a b 0 i = [] from rfl] at hl ⊢
    rw [List.append_nil] at hl
    subst hl
    obtain rfl : i = 3072 := by omega
    rw [show ([] : List S42).length + 1 + q = q + 1 by simp; omega, shot_Apply.l0, if_neg (by omega)]
    simp [mix, List.take_of_length_le (Nat.le_of_eq hb), List.drop_eq_nil_of_le (Nat.le_of_eq ha)]
  | n + 1, i, l, p, hi, hl, hp => by
    have ih := fun l' p' => Apply_l0 a b ha hb q n (i + 1) l' p' (by omega)
    simp only [dl] at hl ⊢
    by_cases h : rd a i = rd b i
    · rw [if_pos h] at hl ⊢
      rw [mix_next ha hb i (by omega) h]
      exact ih l p hl (by omega)
    · rw [if_neg h] at hl ⊢
      have hdl := dl_len a b n (i + 1)
      have hs : l.length ≤ 5000 := by rw [hl]; simp; omega
      rw [List.length_cons, show (dl a b n (i + 1)).length + 1 + 1 + q = ((dl a b n (i + 1)).length + 1 + q) + 1 by omega,
        Apply_step (mix_len ha hb i (by omega)) (by omega) hl hs, if_pos (mix_rd ha hb i (by omega)), mix_set ha hb i (by omega)]
      have := ih l (p ++ [chg a b i]) (by rw [hl]; simp) (by simp; omega)
      simpa using this
theorem Apply_f (a b : List Int) (ha : a.length = 3072) (hb : b.length = 3072) (k : Nat) (hk : 3073 ≤ k) : shot_Apply.f k a (dl a b 3072 0) = some (b, 0) := by
  have hdl := dl_len a b 3072 0
  have h := Apply_l0 a b ha hb (k - ((dl a b 3072 0).length + 1)) 3072 0 (dl a b 3072 0) [] (by omega) rfl (by simp)
  rw [show (dl a b 3072 0).length + 1 + (k - ((dl a b 3072 0).length + 1)) = k by omega, show mix a b 0 = a by simp [mix]] at h
  have e1 : shot_screen.f a = some true := by rw [shot_screen.f, ha]; rfl
  rw [shot_Apply.f, e1, Option.bind_some, if_pos rfl, bytes_Clone.f, if_pos (by omega), Option.bind_some]
  exact h
/-- the first change done twice -/
theorem Apply_twice (a b : List Int) (ha : a.length = 3072) (i : Nat) (hi : i < 3072) (hne : rd a i ≠ rd b i) (t : List S42) (ht : t.length ≤ 3072) (k : Nat) :
    shot_Apply.f (k + 2) a (chg a b i :: chg a b i :: t) = some ([], 2) := by
  have e1 : shot_screen.f a = some true := by rw [shot_screen.f, ha]; rfl
  rw [shot_Apply.f, e1, Option.bind_some, if_pos rfl, bytes_Clone.f, if_pos (by omega), Option.bind_some]
  have s1 := Apply_step (x := a) (l := chg a b i :: chg a b i :: t) (p := []) (t := chg a b i :: t) (i := i) (o := rd a i) (n := rd b i) ha hi rfl (by simp; omega) (k + 1)
  have s2 := Apply_step (x := a.set i (rd b i)) (l := chg a b i :: chg a b i :: t) (p := [chg a b i]) (t := t) (i := i) (o := rd a i) (n := rd b i) (by simpa using ha) hi rfl (by simp; omega) k
  rw [if_pos rfl] at s1
  rw [if_neg] at s2
  · exact s1.trans s2
  · simp only [rd, Int.toNat_natCast] at hne ⊢
    rw [show (a.set i (b.getD i 0)).getD i 0 = b.getD i 0 by simp [List.getD_eq_getElem?_getD, List.getElem?_set, ha, hi]]
    exact fun e => hne e.symm
/-! ### the worked example -/
def artTail : Nat → Nat → List Int
  | 0, _ => []
  | n + 1, i => [46, 46] ++ ((if i % 64 = 63 then [10] else []) ++ artTail n (i + 1))
theorem dots : bytesOf (⟨#[46, 46]⟩ : ByteArray) = [46, 46] := by decide +kernel
theorem Art_zero (s acc : List Int) (i k : Nat) (hs : s.length = 3072) (hi : i < 3072) (ha : acc.length ≤ 3 * i) (h : rd s i = 0) :
    shot_Art.l0 (k + 1) acc s 3072 (i : Int) = shot_Art.l0 k (acc ++ ([46, 46] ++ (if i % 64 = 63 then [10] else []))) s 3072 ((i + 1 : Nat) : Int) := by
  rw [shot_Art.l0, if_pos (show (i : Int) < 3072 by omega), if_pos (Int.natCast_nonneg i), if_pos (show (i : Int) < (s.length : Int) by omega), if_pos h, if_pos (show acc.length + 2 < 140737488355328 by omega), Option.bind_some, dots, mod_ok, wrapI (i := (i : Int) + 1) (by omega) (by omega)]
  by_cases h63 : i % 64 = 63
  · rw [if_pos (by omega), if_pos (by simp; omega), if_pos h63, List.append_assoc]; rfl
  · rw [if_neg (by omega), if_neg h63, List.append_nil]; rfl
theorem Art_zeros (s : List Int) (hs : s.length = 3072) : ∀ (n q i : Nat) (acc : List Int), i + n = 3072 → acc.length ≤ 3 * i → (∀ j : Nat, i ≤ j → j < 3072 → rd s j = 0) →
    shot_Art.l0 (n + 1 + q) acc s 3072 (i : Int) = some (strOfNums (acc ++ artTail n i), 0)
  | 0, q, i, acc, hi, ha, hz => by
    rw [show 0 + 1 + q = q + 1 by omega, shot_Art.l0, if_neg (by omega)]; simp [artTail]
  | n + 1, q, i, acc, hi, ha, hz => by
    rw [show n + 1 + 1 + q = (n + 1 + q) + 1 by omega, Art_zero s acc i _ hs (by omega) ha (hz i (Nat.le_refl _) (by omega)),
      Art_zeros s hs n q (i + 1) _ (by omega) (by split <;> simp <;> omega) (fun j hj => hz j (by omega))]
    simp only [artTail, List.append_assoc]
def ex : List Int := (List.replicate 3072 0).set 1 171
theorem ex_len : ex.length = 3072 := by rw [ex, List.length_set, List.length_replicate]
theorem ex_zero (j : Nat) (h : j ≠ 1) (hj : j < 3072) : rd ex j = 0 := by
  simp only [rd, Int.toNat_natCast, ex, List.getD_eq_getElem?_getD]
  rw [List.getElem?_set_ne (fun e => h e.symm), List.getElem?_replicate, if_pos hj]; rfl
theorem ex_one : rd ex 1 = 171 := by
  show ((List.replicate 3072 (0 : Int)).set 1 171).getD 1 0 = 171
  rw [List.getD_eq_getElem?_getD, List.getElem?_set_self (by rw [List.length_replicate]; omega)]; rfl
def exArt : List Int := [46, 46, 97, 98] ++ artTail 3070 2
theorem exB1 : bt (⟨#[48, 49, 50, 51, 52, 53, 54, 55, 56, 57, 97, 98, 99, 100, 101, 102]⟩ : ByteArray) ((171 : Int) / 16) = 97 := by decide +kernel
theorem exB2 : bt (⟨#[48, 49, 50, 51, 52, 53, 54, 55, 56, 57, 97, 98, 99, 100, 101, 102]⟩ : ByteArray) (Go.bits .and .u8 (171 : Int) 15) = 98 := by decide +kernel
theorem Art_one (k : Nat) : shot_Art.l0 (k + 1) [46, 46] ex 3072 1 = shot_Art.l0 k [46, 46, 97, 98] ex 3072 2 := by
  have hl := ex_len
  rw [shot_Art.l0, if_pos (by decide), if_pos (by decide), if_pos (show (1 : Int) < (ex.length : Int) by omega), ex_one, if_neg (by decide), if_pos (by decide +kernel), if_pos (by decide +kernel), if_pos (by decide +kernel), if_pos (by decide +kernel), Option.bind_some, exB1, exB2, if_pos (by decide), Option.bind_some, if_neg (by decide), wrapI (i := (1 : Int) + 1) (by decide) (by decide)]
  rfl
theorem Art_ex (q : Nat) : shot_Art.f (3073 + q) ex = some (strOfNums exArt, 0) := by
  have hl := ex_len
  have e1 : shot_screen.f ex = some true := by rw [shot_screen.f, hl]; rfl
  have h0 := Art_zero ex [] 0 (3071 + 1 + q) hl (by omega) (by simp) (ex_zero 0 (by omega) (by omega))
  have h2 := Art_zeros ex hl 3070 q 2 [46, 46, 97, 98] (by omega) (by simp) (fun j hj hj2 => ex_zero j (by omega) hj2)
  rw [shot_Art.f, e1, Option.bind_some, if_pos rfl, hl, show 3073 + q = (3071 + 1 + q) + 1 by omega]
  refine h0.trans ?_
  rw [show 3071 + 1 + q = (3071 + q) + 1 by omega]
  refine (Art_one (3071 + q)).trans ?_
  rw [show 3071 + q = 3070 + 1 + q by omega]
  exact h2
theorem exSize : (strOfNums exArt).size = 6192 := by decide +kernel
theorem exHead : ((strOfNums exArt).extract 0 6).toList = [46, 46, 97, 98, 46, 46] := by decide +kernel
theorem exLine : bt (strOfNums exArt) 128 = 10 := by decide +kernel
def exPack : List Int := packOf (runsOf 3072 ex)
theorem exP1 : exPack.length = 28 := by decide +kernel
theorem exP2 : (strOfNums (exPack.take 6)).toList = ([0, 0, 0, 171, 255, 0] : List UInt8) := by decide +kernel
theorem exP3 : rd exPack 26 = 253 := by decide +kernel
theorem ex_eq : (List.replicate 3072 (0 : Int)).set (1 : Int).toNat 171 = ex := rfl
theorem fixed_ok (q : Nat) : wisplaw20_fixed.f (3073 + q) = some true := by
  have hP : shot_Pack.f ex = some (exPack, 0) := by
    have h := ex_len
    unfold shot_Pack.f exPack
    rw [if_pos h, h]
  have hA := Art_ex q
  have hA1 := exSize
  have hA2 := exHead
  have hA3 := exLine
  have hQ1 := exP1
  have hQ2 := exP2
  have hQ3 := exP3
  have hzs := ex_eq
  have hzl : (List.replicate 3072 (0 : Int)).length = 3072 := List.length_replicate
  unfold wisplaw20_fixed.f
  generalize List.replicate 3072 (0 : Int) = z at *
  generalize ex = x at *
  generalize strOfNums exArt = A at *
  generalize exPack = Q at *
  refine (if_pos (by omega)).trans ?_
  rw [Option.bind_some, if_pos (show (1 : Int) < (z.length : Int) by omega), Option.bind_some, hzs, hA, Option.bind_some, hP, Option.bind_some]
  rw [if_pos rfl, if_pos rfl, if_pos (show (A.size : Int) = 6192 by omega), if_pos (show (0 : Nat) ≤ 6 by omega), if_pos (show (6 : Int) ≤ (A.size : Int) by omega), if_pos hA2, if_pos (show (128 : Int) < (A.size : Int) by omega), if_pos hA3,
    if_pos (show (Q.length : Int) = 28 by omega), if_pos (show (6 : Int) ≤ (Q.length : Int) by omega), if_pos hQ2, if_pos (show (26 : Int) < (Q.length : Int) by omega), hQ3]
  rfl
end Go.Proofs.Ytpjdgndbcjinjaa.P
