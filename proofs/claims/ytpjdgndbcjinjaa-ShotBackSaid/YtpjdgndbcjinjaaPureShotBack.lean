/- The statement ShotBack over numbers alone: a screen's text and its runs lead back to it; what is taken is what is made. -/
import Derived.Test.YtpjdgndbcjinjaaPx8
import Derived.Test.YtpjdgndbcjinjaaShotBackMath
namespace Go.Proofs.Ytpjdgndbcjinjaa.Pure
open Go.Proofs.Ytpjdgndbcjinjaa.P
open Go.RowKit Go.Proofs.YtpjdgndbcjinjaaW.PrintWords Go.Proofs.YtpjdgndbcjinjaaW.PrintLast Go.Proofs.YtpjdgndbcjinjaaW.PrintMore Go.Proofs.Ytpjdgndbcjinjaa.Mine
set_option linter.unusedVariables false
set_option linter.unusedSimpArgs false
theorem SB_j2 (k : Nat) (b out : List Int) (e : Int) (hb : allB b) (ho : allB out) (h : e = 0 → out.length = 3072 ∧ pk out = b) : wisplaw20_ShotBack.j2 (k + 1) b out e = some true := by
  rw [wisplaw20_ShotBack.j2]
  by_cases he : e = 0
  · obtain ⟨h1, h2⟩ := h he
    rw [if_pos he, Pack_f h1, Option.bind_some, if_pos rfl, h2, if_pos rfl]
  · rw [if_neg he]
theorem SB_j1 (k : Nat) (hk : 3073 ≤ k) (t : ByteArray) (b o1 o2 : List Int) (e1 e2 : Int) (hb : allB b) (ho1 : allB o1) (ho : allB o2) (h1 : e1 = 0 → o1.length = 3072 ∧ (artOf o1).toList = t.toList) (h : e2 = 0 → o2.length = 3072 ∧ pk o2 = b) :
    wisplaw20_ShotBack.j1 (k + 1) t b o1 e1 o2 e2 false = some true := by
  obtain ⟨q, rfl⟩ : ∃ q, k = q + 1 := ⟨k - 1, by omega⟩
  rw [wisplaw20_ShotBack.j1, if_neg (by decide)]
  by_cases he : e1 = 0
  · obtain ⟨h2, h3⟩ := h1 he
    rw [if_pos he, Art_f o1 ho1 h2 _ (by omega), Option.bind_some, if_pos rfl, if_pos h3]
    exact SB_j2 q b o2 e2 hb ho h
  · rw [if_neg he]
    exact SB_j2 q b o2 e2 hb ho h
theorem SB_j0 (k : Nat) (t : ByteArray) (b : List Int) (hb : allB b) (hL : b.length ≤ 140737488351232) (hk : 6300 ≤ k) (hk2 : b.length + 2 ≤ k) : wisplaw20_ShotBack.j0 (k + 1) t b false = some true := by
  obtain ⟨q, rfl⟩ : ∃ q, k = q + 1 := ⟨k - 1, by omega⟩
  rw [wisplaw20_ShotBack.j0, if_neg (by decide), Read_f t _ (by omega), Option.bind_some, Unpack_f b hb hL _ (by omega)]
  unfold fin
  rw [Option.bind_some]
  have hu := unF_B b.length b [] (Nat.le_refl _) hb (fun y hy => by simp at hy)
  have nilB : allB [] := fun y hy => by simp at hy
  generalize unF b [] = o2 at hu ⊢
  have z2 : ((2 : Int) = 0) = False := by decide
  by_cases c1 : t.size = 6192 ∧ (artOf (rdL t)).toList = t.toList
  · rw [if_pos c1]
    by_cases c2 : o2.length = 3072 ∧ pk o2 = b
    · rw [if_pos c2, if_pos rfl, if_pos rfl]
      exact SB_j1 q (by omega) t b _ _ _ _ hb (rdL_B t) hu (fun _ => ⟨rdL_len t, c1.2⟩) (fun _ => c2)
    · rw [if_neg c2, if_pos rfl, if_neg (by decide), if_pos rfl]
      exact SB_j1 q (by omega) t b _ _ _ _ hb (rdL_B t) nilB (fun _ => ⟨rdL_len t, c1.2⟩) (fun e => by cases e)
  · rw [if_neg c1]
    by_cases c2 : o2.length = 3072 ∧ pk o2 = b
    · rw [if_pos c2, if_neg (by decide), if_pos rfl, if_pos (show ((([] : List Int).length : Nat) : Int) = 0 from rfl), if_pos rfl]
      exact SB_j1 q (by omega) t b _ _ _ _ hb nilB hu (fun e => by cases e) (fun _ => c2)
    · rw [if_neg c2, if_neg (by decide), if_pos rfl, if_pos (show ((([] : List Int).length : Nat) : Int) = 0 from rfl), if_neg (by decide), if_pos rfl]
      exact SB_j1 q (by omega) t b _ _ _ _ hb nilB nilB (fun e => by cases e) (fun e => by cases e)
theorem ShotBack : wisplaw20_ShotBack.Pure := by
  intro l0 a1 l2 _ _ hw0 _ _ hL2 hw2
  have hb0 : allB l0 := fun x hx => wfB (hw0 x hx)
  have hb2 : allB l2 := fun x hx => wfB (hw2 x hx)
  have hzl : (List.replicate 3072 (0 : Int)).length = 3072 := List.length_replicate
  have hzb : allB (List.replicate 3072 (0 : Int)) := fun y hy => by rw [List.eq_of_mem_replicate hy]; exact ⟨by decide, by decide⟩
  obtain ⟨z, hz⟩ : ∃ z : List Int, z = List.replicate 3072 0 := ⟨_, rfl⟩
  rw [← hz] at hzl hzb
  refine ⟨6400 + l2.length + 1, ?_⟩
  obtain ⟨q, hq⟩ : ∃ q, 3072 + 1 + q = 6400 + l2.length + 1 := ⟨6400 + l2.length - 3072, by omega⟩
  obtain ⟨s, hs, hsl, hsb⟩ := screen_B l0 hb0 3072 q z 0 hzl hzb rfl
  rw [hq] at hs
  have e0 : wisplaw20_screen.f (6400 + l2.length + 1) l0 = some s := by
    unfold wisplaw20_screen.f
    rw [← hz]
    exact (if_pos (by omega)).trans hs
  have hF := fixed_ok (6400 + l2.length + 1 - 3073)
  rw [show 3073 + (6400 + l2.length + 1 - 3073) = 6400 + l2.length + 1 by omega] at hF
  have hA := Art_f s hsb hsl (6400 + l2.length + 1) (by omega)
  have hR := Read_back s hsb hsl (6400 + l2.length + 1) (by omega)
  have hU := Unpack_back s hsb hsl (6400 + l2.length + 1) (by omega)
  have hp := pk_len hsl
  have hz := art_size s
  have hJ := SB_j0 (6400 + l2.length) a1 l2 hb2 (by omega) (by omega) (by omega)
  rw [wisplaw20_ShotBack.f, e0, Option.bind_some, hA, Option.bind_some, Pack_f hsl, Option.bind_some, hR, Option.bind_some, hU, Option.bind_some]
  rw [if_pos rfl, if_pos rfl, if_pos rfl, if_pos rfl, if_pos rfl, if_pos rfl]
  dsimp only
  rw [if_pos (by omega), if_neg (by omega), if_neg (by omega), hF, Option.bind_some]
  exact hJ
end Go.Proofs.Ytpjdgndbcjinjaa.Pure
