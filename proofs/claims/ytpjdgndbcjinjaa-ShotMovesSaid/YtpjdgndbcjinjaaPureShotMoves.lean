/- The statement ShotMoves over numbers alone: what differs leads there and back. -/
import Derived.Test.YtpjdgndbcjinjaaPx5
import Derived.Test.YtpjdgndbcjinjaaShotMath
namespace Go.Proofs.Ytpjdgndbcjinjaa.Pure
open Go.Proofs.Ytpjdgndbcjinjaa.P
open Go.RowKit Go.Proofs.YtpjdgndbcjinjaaW.PrintWords Go.Proofs.YtpjdgndbcjinjaaW.PrintLast Go.Proofs.YtpjdgndbcjinjaaW.PrintMore Go.Proofs.Ytpjdgndbcjinjaa.Mine
set_option linter.unusedVariables false
set_option linter.unusedSimpArgs false
/-! ### the loops of the statement -/
theorem Moves_l0 (a b : List Int) (l m : List S42) (last : Int) (k : Nat) (ha : a.length = 3072) (hb : b.length = 3072) : ∀ (n i c : Nat), i + n = 3072 → c ≤ i →
    wisplaw20_ShotMoves.l0 (n + 1 + k) a b l m last (c : Int) (i : Int) = wisplaw20_ShotMoves.l1 k a l m last ((c + (dl a b n i).length : Nat) : Int) 0
  | 0, i, c, hi, hc => by
    rw [show 0 + 1 + k = k + 1 by omega, wisplaw20_ShotMoves.l0, if_neg (by omega)]; simp [dl]
  | n + 1, i, c, hi, hc => by
    have ih := fun c' hc' => Moves_l0 a b l m last k ha hb n (i + 1) c' (by omega) hc'
    rw [show n + 1 + 1 + k = (n + 1 + k) + 1 by omega, wisplaw20_ShotMoves.l0, if_pos (show (i : Int) < 3072 by omega), if_pos (Int.natCast_nonneg i), if_pos (show (i : Int) < (a.length : Int) by omega), if_pos (show (i : Int) < (b.length : Int) by omega), wrapI (i := (i : Int) + 1) (by omega) (by omega)]
    by_cases h : rd a i = rd b i
    · rw [if_pos h]
      simp only [dl]; rw [if_pos h]
      exact ih c (by omega)
    · rw [if_neg h, wrapI (i := (c : Int) + 1) (by omega) (by omega)]
      simp only [dl]; rw [if_neg h]
      have := ih (c + 1) (by omega)
      rw [List.length_cons, show c + ((dl a b n (i + 1)).length + 1) = c + 1 + (dl a b n (i + 1)).length by omega]
      exact this
/-- the end of the second loop: the first change done twice is refused -/
theorem Moves_end (a b : List Int) (ha : a.length = 3072) (m : List S42) (last : Int) (q : Nat) (hl : (dl a b 3072 0).length = m.length) :
    wisplaw20_ShotMoves.l1 (q + 3) a (dl a b 3072 0) m last ((dl a b 3072 0).length : Int) ((dl a b 3072 0).length : Int) = some true := by
  rw [show q + 3 = (q + 2) + 1 by omega, wisplaw20_ShotMoves.l1, if_neg (by omega)]
  have hdl := dl_len a b 3072 0
  have hfirst : ∀ n i, i + n = 3072 → ∀ c t, dl a b n i = c :: t → ∃ j : Nat, j < 3072 ∧ rd a j ≠ rd b j ∧ c = chg a b j := by
    intro n
    induction n with
    | zero => intro i _ c t h; cases h
    | succ n ih =>
      intro i hi c t h
      simp only [dl] at h
      by_cases e : rd a i = rd b i
      · rw [if_pos e] at h; exact ih (i + 1) (by omega) c t h
      · rw [if_neg e] at h; injection h with h1 h2; exact ⟨i, by omega, e, h1.symm⟩
  cases hd : dl a b 3072 0 with
  | nil => simp
  | cons c t =>
    obtain ⟨j, hj, hne, rfl⟩ := hfirst 3072 0 (by omega) _ _ hd
    rw [hd] at hdl
    simp only [List.length_cons] at hdl
    have h0 : rd_T42 (chg a b j :: t) 0 = chg a b j := rfl
    rw [if_pos (by first | (simp; done) | (simp; omega)), if_pos (by first | (simp; done) | (simp; omega)), Option.bind_some, h0, if_pos (by first | (simp; done) | (simp; omega))]
    have := Apply_twice a b ha j hj hne t (by omega) q
    rw [show ([(⟨(chg a b j).f0, (chg a b j).f1, (chg a b j).f2, (chg a b j).f3⟩ : S42)] ++ chg a b j :: t) = chg a b j :: chg a b j :: t from rfl, this, Option.bind_some, if_pos rfl]
    simp
theorem Moves_l1 (a b : List Int) (q : Nat) (L : List S42) (hend : ∀ last q, wisplaw20_ShotMoves.l1 (q + 3) a L (L.map swp) last (L.length : Int) (L.length : Int) = some true) : ∀ (n i : Nat) (p : List S42) (last : Int), i + n = 3072 → L = p ++ dl a b n i → last < i → p.length ≤ i →
    wisplaw20_ShotMoves.l1 ((dl a b n i).length + 3 + q) a (L) ((L).map swp) last ((L).length : Int) (p.length : Int) = some true
  | 0, i, p, last, hi, hl, hlast, hp => by
    rw [show dl a b 0 i = [] from rfl, List.append_nil] at hl
    rw [show dl a b 0 i = [] from rfl, show ([] : List S42).length + 3 + q = q + 3 by simp; omega, show (p.length : Int) = ((L).length : Int) by rw [hl]]
    exact hend last q
  | n + 1, i, p, last, hi, hl, hlast, hp => by
    by_cases h : rd a i = rd b i
    · have e : dl a b (n + 1) i = dl a b n (i + 1) := by simp only [dl]; rw [if_pos h]
      rw [e] at hl ⊢
      exact Moves_l1 a b q L hend n (i + 1) p last (by omega) hl (by omega) (by omega)
    · have e : dl a b (n + 1) i = chg a b i :: dl a b n (i + 1) := by simp only [dl]; rw [if_neg h]
      rw [e] at hl ⊢
      have ih := Moves_l1 a b q L hend n (i + 1) (p ++ [chg a b i]) (i : Int) (by omega) (by rw [hl]; simp) (by omega) (by simp; omega)
      have hdl := dl_len a b n (i + 1)
      have hlen : (L).length = p.length + ((dl a b n (i + 1)).length + 1) := by rw [hl]; simp
      have hc : rd_T42 (L) (p.length : Int) = chg a b i := by rw [hl]; exact rdT_at p _ _
      have hm : rd_T42 ((L).map swp) (p.length : Int) = swp (chg a b i) := by
        rw [hl, List.map_append, List.map_cons, show (p.length : Int) = ((p.map swp).length : Int) by simp]; exact rdT_at _ _ _
      rw [List.length_cons, show (dl a b n (i + 1)).length + 1 + 3 + q = ((dl a b n (i + 1)).length + 3 + q) + 1 by omega, wisplaw20_ShotMoves.l1, if_pos (by omega), if_pos (Int.natCast_nonneg _), hc, hm]
      have hat := at_ok' i (by omega)
      simp only [chg, swp, hat]
      refine (if_neg (by omega)).trans ?_
      refine (if_neg (by omega)).trans ?_
      refine (if_neg (by omega)).trans ?_
      refine (if_neg h).trans ?_
      refine (if_pos (by rw [List.length_map]; omega)).trans ?_
      refine (if_neg (by simp)).trans ?_
      rw [wrapI (i := (p.length : Int) + 1) (by omega) (by omega)]
      rw [List.length_append] at ih
      exact ih
theorem ShotMoves : wisplaw20_ShotMoves.Pure := by
  intro l0 l1 _ _ _ _ _ _
  obtain ⟨a, hsa, ha⟩ := screen_l0 l0 3072 9000 (List.replicate 3072 0) 0 List.length_replicate (by omega)
  obtain ⟨b, hsb, hb⟩ := screen_l0 l1 3072 9000 (List.replicate 3072 0) 0 List.length_replicate (by omega)
  refine ⟨3072 + 1 + 9000, ?_⟩
  have fa : wisplaw20_screen.f (3072 + 1 + 9000) l0 = some a := by rw [wisplaw20_screen.f, if_pos (by decide)]; exact hsa
  have fb : wisplaw20_screen.f (3072 + 1 + 9000) l1 = some b := by rw [wisplaw20_screen.f, if_pos (by decide)]; exact hsb
  have d1 := Diff_f a b ha hb 8999
  have d2 := Diff_f b a hb ha 8999
  have d3 := Diff_f a a ha ha 8999
  have a1 := Apply_f a b ha hb (3072 + 1 + 9000) (by decide)
  have a2 := Apply_f b a hb ha (3072 + 1 + 9000) (by decide)
  have fx := fixed_ok 9000
  rw [show 3074 + 8999 = 3072 + 1 + 9000 from rfl] at d1 d2 d3
  rw [show 3073 + 9000 = 3072 + 1 + 9000 from rfl] at fx
  rw [dl_self] at d3
  have hsw := dl_swap a b 3072 0
  have hlen : ((dl a b 3072 0).length : Int) = ((dl b a 3072 0).length : Int) := by rw [hsw, List.length_map]
  have hend : ∀ last q, wisplaw20_ShotMoves.l1 (q + 3) a (dl a b 3072 0) ((dl a b 3072 0).map swp) last ((dl a b 3072 0).length : Int) ((dl a b 3072 0).length : Int) = some true := fun last q => Moves_end a b ha _ last q (by simp)
  have hM1 := Moves_l1 a b (8999 - ((dl a b 3072 0).length + 3)) (dl a b 3072 0) hend 3072 0 [] (-1) (by omega) rfl (by decide) (by simp)
  have hdl := dl_len a b 3072 0
  rw [show (dl a b 3072 0).length + 3 + (8999 - ((dl a b 3072 0).length + 3)) = 8999 by omega] at hM1
  have hM0 := Moves_l0 a b (dl a b 3072 0) ((dl a b 3072 0).map swp) (-1) 8999 ha hb 3072 0 0 (by omega) (by omega)
  rw [Nat.zero_add] at hM0
  have hJ : wisplaw20_ShotMoves.j0 (3072 + 1 + 9000) a b (dl a b 3072 0) (dl b a 3072 0) (!true) = some true := by
    rw [show 3072 + 1 + 9000 = (3072 + 1 + 8999) + 1 from rfl, wisplaw20_ShotMoves.j0, if_neg (by decide), hsw]
    exact hM0.trans hM1
  generalize hK : 3072 + 1 + 9000 = K at *
  generalize dl a b 3072 0 = L at *
  generalize dl b a 3072 0 = M at *
  rw [wisplaw20_ShotMoves.f, fa, Option.bind_some, fb, Option.bind_some, d1, Option.bind_some, d2, Option.bind_some, d3, Option.bind_some, a1, Option.bind_some, a2, Option.bind_some]
  rw [if_pos rfl, if_pos rfl, if_pos rfl, if_pos rfl, if_pos rfl, if_pos (show ((([] : List S42), (0 : Int)).1.length : Int) = 0 from rfl), if_pos hlen, if_pos rfl, if_pos rfl, fx, Option.bind_some]
  exact hJ
end Go.Proofs.Ytpjdgndbcjinjaa.Pure
