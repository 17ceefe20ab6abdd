/- The statement TokenPlaces over numbers and lists alone. -/
import Derived.Test.YtembdahclmffjaaTg
import Derived.Test.YtembdahclmffjaaTp
namespace Go.Proofs.Ytembdahclmffjaa.Pure
set_option linter.unusedSimpArgs false
set_option linter.unusedVariables false
open Go.RowKit Go.Proofs.Ytembdahclmffjaa.P Go.Proofs.YtembdahclmffjaaW.PrintWords Go.Proofs.YtembdahclmffjaaW.PrintLast Go.Proofs.YtembdahclmffjaaW.PrintMore
set_option maxRecDepth 100000 in
theorem fixed_300p : wisplaw09_fixed.f 300 = some true := by decide +kernel
theorem fixed_upp : ∀ d, wisplaw09_fixed.f (300 + d) = some true
  | 0 => fixed_300p
  | d + 1 => wisplaw09_fixed.mono (300 + d) true (fixed_upp d)
theorem fixed_okp (k : Nat) (hk : 300 ≤ k) : wisplaw09_fixed.f k = some true := by
  have := fixed_upp (k - 300)
  rwa [show 300 + (k - 300) = k by omega] at this
theorem scan_head {s : ByteArray} {m : Nat} {T : List S30} (hz : s.size ≤ 65536) (h : Goes s 0 m T) (hm : m ≤ s.size) (k : Nat) (hk : 5000000 < k) : token_Scan.f k (s.extract 0 m) = some (T, 0, 0, 0) := by
  have hs := size_head s m hm
  rw [Scan_eq _ k hk]
  unfold scanA
  rw [if_neg (by omega), Goes_head h hm _ (by omega)]
  simp [fin1]
theorem end_head (s : ByteArray) (m : Nat) (hz : s.size ≤ 65536) (hm : m ≤ s.size) (k : Nat) (hk : 5000000 < k) : token_End.f k (s.extract 0 m) = some (pos s m) := by
  have hs := size_head s m hm
  rw [End_eq _ (by omega) k hk, hs, pos_head s m m hm (Nat.le_refl _)]
theorem rd_mid (A T : List S30) (t : S30) : rd_T30 (A ++ t :: T) (A.length : Int) = t := by
  simp [rd_T30, rdOf, List.getD_eq_getElem?_getD]
theorem places_l0 (s : ByteArray) (hz : s.size ≤ 3000) (L : List S30) (hL : L.length ≤ 65536) : ∀ (T A : List S30) (m d k : Nat), L = A ++ T → M s d m = (T, none) → Goes s 0 m A → m ≤ s.size → 5100000 + 4 * T.length < k →
    wisplaw09_TokenPlaces.l0 k s L (m : Int) (A.length : Int) 0 0 = some true
  | [], A, m, d, k, hA, hM, hG, hm, hk => by
    obtain ⟨k, rfl⟩ : ∃ q, k = q + 2 := ⟨k - 2, by omega⟩
    rw [List.append_nil] at hA
    subst hA
    rw [wisplaw09_TokenPlaces.l0, if_neg (by omega), wisplaw09_TokenPlaces.j3, if_neg (by simp)]
    rfl
  | t :: T, A, m, d, k, hA, hM, hG, hm, hk => by
    simp only [List.length_cons] at hk
    obtain ⟨k, rfl⟩ : ∃ q, k = q + 3 := ⟨k - 3, by omega⟩
    have hlen : A.length < L.length := by rw [hA]; simp
    rw [wisplaw09_TokenPlaces.l0, if_pos (by omega)]
    by_cases c : (A.length : Int) < 200
    · obtain ⟨a, e, d', k1, k2, k3, k4, k5, k6, k7, k8⟩ := M_cons s d m t T none hM
      have hsz : t.f1.size = e - a := by rw [k5, ByteArray.size_extract]; omega
      have hw : Aside0 (wrap64 ((a : Int) + (t.f1.size : Int)) = (e : Int)) := ⟨by rw [hsz, wrap64_u (by omega) (by omega)]; omega⟩
      have hw1 : Aside0 (wrap64 ((A.length : Int) + 1) = ((A.length + 1 : Nat) : Int)) := ⟨by rw [wrap64_u (by omega) (by omega)]; omega⟩
      have z0 : ¬ (a : Int) < (m : Int) := by omega
      have z1 : ¬ (t.f1.size : Int) < 1 := by omega
      have z2 : ¬ (t.f1.size : Int) > 31 := by omega
      have z3 : ¬ (e : Int) > (s.size : Int) := by omega
      have z4 : (0 : Int) ≤ (a : Int) := by omega
      have z5 : (a : Int) ≤ (e : Int) := by omega
      have z6 : (e : Int) ≤ (s.size : Int) := by omega
      have z7 : (a : Int) ≤ (s.size : Int) := by omega
      have z8 : (0 : Int) ≤ (e : Int) := by omega
      have z9 : (A.length : Int) < ((A ++ [t]).length : Int) := by rw [List.length_append, List.length_singleton]; omega
      have z10 : (A.length : Int) < (L.length : Int) := by omega
      have z11 : (0 : Int) ≤ (A.length : Int) := by omega
      have z12 : ((A ++ [t]).length : Int) = ((A.length + 1 : Nat) : Int) := by rw [List.length_append, List.length_singleton]
      have hG2 := hG.trans k7
      have hrd : rd_T30 L (A.length : Int) = t := by rw [hA]; exact rd_mid A T t
      have ih := places_l0 s hz L hL T (A ++ [t]) e d' k (by rw [hA]; simp) k8 hG2 k3 (by omega)
      rw [List.length_append, List.length_singleton] at ih
      rw [decide_eq_true c, wisplaw09_TokenPlaces.j3, if_pos rfl, if_pos z11, if_pos z10, hrd, k6]
      dsimp only
      rw [offset_eq s (by omega) a (by omega) (k + 1) (by omega), Option.bind_some, hw.out]
      rw [if_neg z0, if_neg z1, if_neg z2, if_neg z3, if_pos z4, if_pos z5, if_pos z6, Int.toNat_natCast, Int.toNat_natCast, if_pos (by rw [k5]), if_pos z7, end_head s a (by omega) (by omega) (k + 1) (by omega), Option.bind_some]
      rw [show (!((pos s a).1 == (pos s a).1) || (!((pos s a).2 == (pos s a).2))) = false by simp]
      rw [wisplaw09_TokenPlaces.j4, if_neg (by simp), hw.out, if_pos z8, if_pos z6, Int.toNat_natCast, scan_head (by omega) hG2 k3 k (by omega), Option.bind_some]
      dsimp only
      rw [if_pos rfl, hw1.out, if_pos z12, if_pos z11, if_pos z9, if_pos z10, hrd, rd_mid A [] t, if_neg (by simp)]
      exact ih
    · rw [decide_eq_false c, wisplaw09_TokenPlaces.j3, if_neg (by simp)]
      rfl
theorem places_j1 (s : ByteArray) (hz : s.size ≤ 3000) (o : Nat) (T : List S30) (ho : o ≤ s.size) (h : Goes s 0 o T) (k : Nat) (hk : 5100000 < k) : wisplaw09_TokenPlaces.j1 k s (o : Int) false (pos s o).1 (pos s o).2 = some true := by
  obtain ⟨k, rfl⟩ : ∃ q, k = q + 1 := ⟨k - 1, by omega⟩
  rw [wisplaw09_TokenPlaces.j1, if_neg (by simp), if_pos (by omega), if_pos (by omega), Int.toNat_natCast, scan_head (by omega) h ho k (by omega), Option.bind_some]
  dsimp only
  rw [if_pos rfl, end_head s o (by omega) ho k (by omega), Option.bind_some]
  simp
theorem places_j0 (s : ByteArray) (hz : s.size ≤ 3000) (k : Nat) (hk : 5500000 < k) : wisplaw09_TokenPlaces.j0 k s = some true := by
  obtain ⟨k, rfl⟩ : ∃ q, k = q + 1 := ⟨k - 1, by omega⟩
  have hlen := M_len s s.size 0
  have f1 := Scan_eq s k (by omega)
  have f2 := fixed_okp k (by omega)
  rw [wisplaw09_TokenPlaces.j0, f1, Option.bind_some, f2, Option.bind_some, if_pos rfl]
  clear f1 f2
  obtain ⟨⟨T, er⟩, hM⟩ : ∃ p, M s s.size 0 = p := ⟨_, rfl⟩
  have hA : scanA s = fin1 s [] (T, er) := by unfold scanA; rw [if_neg (by omega), hM]
  rw [hM] at hlen
  rw [hA]
  cases er with
  | none =>
    show (if (0 : Int) = 0 then wisplaw09_TokenPlaces.l0 k s ([] ++ T) 0 0 0 0 else _) = _
    rw [if_pos rfl, List.nil_append]
    exact places_l0 s hz T (by dsimp only at hlen; omega) T [] 0 s.size k rfl hM (.refl 0) (by omega) (by dsimp only at hlen; omega)
  | some oe =>
    obtain ⟨o, e⟩ := oe
    obtain ⟨h1, h2, h3⟩ := M_err s s.size 0 T o e hM
    have hj := places_j1 s hz o T (by omega) h3 k (by omega)
    have hof := offset_eq s (by omega) o (by omega) k (by omega)
    have ne : ¬ e = 0 := by omega
    have hr0 : fin1 s [] (T, some (o, e)) = ([], (pos s o).1, (pos s o).2, e) := rfl
    generalize fin1 s [] (T, some (o, e)) = r at hr0 ⊢
    subst hr0
    dsimp only
    rw [if_neg ne, hof, Option.bind_some, if_neg (show ¬ (o : Int) < 0 by omega), if_pos (show (([] : List S30).length : Int) = 0 from rfl)]
    by_cases c1 : e = 91
    · rw [if_pos c1]; exact hj
    · rw [if_neg c1]
      by_cases c2 : e = 92
      · rw [if_pos c2]; exact hj
      · rw [if_neg c2]
        by_cases c3 : e = 93
        · rw [if_pos c3]; exact hj
        · rw [if_neg c3]
          obtain rfl : e = 21 := by omega
          exact hj
theorem TokenPlaces : wisplaw09_TokenPlaces.Pure := by
  intro a0 w0
  refine ⟨6000000, ?_⟩
  unfold wisplaw09_TokenPlaces.f
  by_cases c : (a0.size : Int) > 3000
  · rw [if_pos c, if_pos (by decide), if_pos (by omega)]
    exact places_j0 _ (by rw [ByteArray.size_extract]; omega) _ (by omega)
  · rw [if_neg c]
    exact places_j0 _ (by omega) _ (by omega)
end Go.Proofs.Ytembdahclmffjaa.Pure
