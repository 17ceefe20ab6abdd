/- layout.Size and layout.size: their contracts, by the number of nodes. -/
import Derived.Test.YtjphhnhloeanlaaPx0
import Derived.Test.YtjphhnhloeanlaaMem
import Derived.Deep.LoopGhost
import Derived.Deep.QuietTactic
import Derived.BigQuiet
import Derived.Outline
namespace Go.Proofs.Ytjphhnhloeanlaa.P
open Go.RowKit Go.Proofs.YtjphhnhloeanlaaW.PrintWords Go.Proofs.YtjphhnhloeanlaaW.PrintLast Go.Proofs.YtjphhnhloeanlaaW.PrintMore Go.Proofs.Ytjphhnhloeanlaa.Mem
set_option linter.unusedVariables false
set_option linter.unusedSimpArgs false
abbrev Nd := S38
mutual
/-- bytes of code of a node -/
def szN : Nd → Nat
  | ⟨k, _, _, _, t, e, h, _⟩ => if k = 1 ∨ k = 3 ∨ k = 9 then 2 else if k = 2 then 4 else if k = 4 then (if h = false then 4 + szL t else 8 + szL t + szL e) else if k = 5 ∨ k = 7 then szL t + 4 else if k = 6 then szL t + 4 + szL e + 4 else if k = 8 then 2 + szL t + 4 else 0
def szL : List Nd → Nat
  | [] => 0
  | x :: l => szN x + szL l
end
mutual
/-- how many nodes there are -/
def cnN : Nd → Nat
  | ⟨_, _, _, _, t, e, _, _⟩ => 1 + cnL t + cnL e
def cnL : List Nd → Nat
  | [] => 0
  | x :: l => cnN x + cnL l
end
theorem szN_eq (x : Nd) : szN x = if x.f0 = 1 ∨ x.f0 = 3 ∨ x.f0 = 9 then 2 else if x.f0 = 2 then 4 else if x.f0 = 4 then (if x.f6 = false then 4 + szL x.f4 else 8 + szL x.f4 + szL x.f5) else if x.f0 = 5 ∨ x.f0 = 7 then szL x.f4 + 4 else if x.f0 = 6 then szL x.f4 + 4 + szL x.f5 + 4 else if x.f0 = 8 then 2 + szL x.f4 + 4 else 0 := by
  cases x; rw [szN]
theorem cnN_eq (x : Nd) : cnN x = 1 + cnL x.f4 + cnL x.f5 := by cases x; rw [cnN]
theorem cnL_mem {x : Nd} {l : List Nd} (h : x ∈ l) : cnN x ≤ cnL l := by
  induction l with
  | nil => cases h
  | cons y l ih =>
    rw [cnL]
    rcases List.mem_cons.1 h with rfl | h
    · omega
    · have := ih h; omega
theorem cnL_len (l : List Nd) : l.length ≤ cnL l := by
  induction l with
  | nil => simp
  | cons y l ih =>
    have := cnN_eq y
    rw [cnL]; simp only [List.length_cons]; omega
theorem szL_bd : ∀ (K : Nat) (l : List Nd), cnL l ≤ K → szL l ≤ 8 * cnL l
  | 0, [], _ => by simp [szL]
  | 0, x :: l, h => by
    have := cnN_eq x
    rw [cnL] at h; omega
  | K + 1, [], _ => by simp [szL]
  | K + 1, x :: l, h => by
    have e := cnN_eq x
    rw [cnL] at h ⊢
    rw [szL]
    have h1 := szL_bd K x.f4 (by omega)
    have h2 := szL_bd K x.f5 (by omega)
    have h3 := szL_bd K l (by omega)
    have h4 : szN x ≤ 8 * cnN x := by
      rw [szN_eq, e]
      repeat' split
      all_goals omega
    omega
theorem szL_app (a b : List Nd) : szL (a ++ b) = szL a + szL b := by
  induction a with
  | nil => simp [szL]
  | cons x a ih => rw [List.cons_append, szL, szL, ih]; omega
theorem cnL_app (a b : List Nd) : cnL (a ++ b) = cnL a + cnL b := by
  induction a with
  | nil => simp [cnL]
  | cons x a ih => rw [List.cons_append, cnL, cnL, ih]; omega
/-- a node lies at an address -/
structure NodeAt (w : World) (ad : Addr) (x : Nd) (A4 : Option Addr) (c4 : Nat) (A5 : Option Addr) (c5 : Nat) : Prop where
  k : w.cell? ad = some (.int .i64 x.f0)
  t : w.cell? ⟨ad.block, ad.off + 4, none⟩ = some (.slice A4 x.f4.length c4)
  e : w.cell? ⟨ad.block, ad.off + 5, none⟩ = some (.slice A5 x.f5.length c5)
  h : w.cell? ⟨ad.block, ad.off + 6, none⟩ = some (.bool x.f6)
  C4 : k38.C w A4 x.f4.length x.f4
  C5 : k38.C w A5 x.f5.length x.f5
/-- Size of the lists of fewer nodes -/
def SizeTo (K : Nat) : Prop := ∀ (l : List Nd) (A : Option Addr) (c : Nat) (w : World), cnL l < K → k38.C w A l.length l →
  Calls Try.prog 18 #[.slice A l.length c] w fun e w' => e = .returned (.int .i64 (szL l : Nat)) ∧ ∃ q, w' = w.drewN q
theorem i64_in {x : Int} (h0 : -4611686018427387904 ≤ x) (h1 : x ≤ 4611686018427387904) : IntKind.i64.wrap x = x := by
  rw [IntKind.wrap_i64]; omega
set_option maxRecDepth 100000 in
set_option maxHeartbeats 4000000 in
theorem size_node {K : Nat} (hK : K ≤ 1000000000000) (ih : SizeTo K) {w : World} {ad : Addr} {x : Nd} {A4 A5 : Option Addr} {c4 c5 : Nat} (hx : NodeAt w ad x A4 c4 A5 c5) (hc : cnN x ≤ K) :
    Calls Try.prog 41 #[.pointer (some ad)] w fun e w' => e = .returned (.int .i64 (szN x : Nat)) ∧ ∃ q, w' = w.drewN q := by
  have ec := cnN_eq x
  have b4 := szL_bd (cnL x.f4) x.f4 (Nat.le_refl _)
  have b5 := szL_bd (cnL x.f5) x.f5 (Nat.le_refl _)
  have e0 := Aside0.mk (szN_eq x)
  have q4 := Aside0.mk (fun q => ih x.f4 A4 c4 (w.drewN q) (by omega) (Kd.C_drewN hx.C4 q))
  have q5 := Aside0.mk (fun q => ih x.f5 A5 c5 (w.drewN q) (by omega) (Kd.C_drewN hx.C5 q))
  have q40 := Aside0.mk (ih x.f4 A4 c4 w (by omega) hx.C4)
  have h0 := hx.k
  have h1 := hx.t
  have h2 := hx.e
  have h3 := hx.h
  clear hx ih
  generalize szL x.f4 = T at *
  generalize szL x.f5 = E at *
  generalize x.f4.length = n4 at *
  generalize x.f5.length = n5 at *
  generalize x.f0 = k at *
  generalize x.f6 = hs at *
  have bT : T ≤ 8000000000000 := by omega
  have bE : E ≤ 8000000000000 := by omega
  generalize szN x = R at *
  clear ec b4 b5 hc hK
  by_cases k1 : k = 1
  · subst k1
    go_enter Try.func41, Try.ntmps41
    go_wp2
    go_ret
    exact ⟨by rw [e0.out]; rfl, 0, rfl⟩
  by_cases k3 : k = 3
  · subst k3
    go_enter Try.func41, Try.ntmps41
    go_wp2
    go_ret
    exact ⟨by rw [e0.out]; rfl, 0, rfl⟩
  by_cases k9 : k = 9
  · subst k9
    go_enter Try.func41, Try.ntmps41
    go_wp2
    go_ret
    exact ⟨by rw [e0.out]; rfl, 0, rfl⟩
  by_cases k2 : k = 2
  · subst k2
    go_enter Try.func41, Try.ntmps41
    go_wp2
    go_ret
    exact ⟨by rw [e0.out]; rfl, 0, rfl⟩
  by_cases k4 : k = 4
  · subst k4
    cases hs with
    | false =>
      go_enter Try.func41, Try.ntmps41
      go_wp2_with (go_at_call 18; ((with_reducible refine q40.out.mono ?_)); rintro e w1 ⟨rfl, q, rfl⟩)
      go_ret
      exact ⟨by rw [e0.out]; simp, q, rfl⟩
    | true =>
      have w1 : IntKind.i64.wrap (8 + (T : Int)) = 8 + (T : Int) := i64_in (by omega) (by omega)
      have w2 : IntKind.i64.wrap (8 + (T : Int) + (E : Int)) = 8 + (T : Int) + (E : Int) := i64_in (by omega) (by omega)
      go_enter Try.func41, Try.ntmps41
      go_wp2
      go_quiet (first | (go_at_call 18; ((with_reducible exact Calls.quiet_of (q4.out _)))) | (go_at_call 18; ((with_reducible exact Calls.quiet_of (q5.out _)))))
      go_wp2
      go_ret
      exact ⟨by rw [e0.out]; simp, _, rfl⟩
  by_cases k5 : k = 5
  · subst k5
    go_enter Try.func41, Try.ntmps41
    go_wp2_with (go_at_call 18; ((with_reducible refine q40.out.mono ?_)); rintro e w1 ⟨rfl, q, rfl⟩)
    go_ret
    exact ⟨by rw [e0.out]; simp, q, rfl⟩
  by_cases k7 : k = 7
  · subst k7
    go_enter Try.func41, Try.ntmps41
    go_wp2_with (go_at_call 18; ((with_reducible refine q40.out.mono ?_)); rintro e w1 ⟨rfl, q, rfl⟩)
    go_ret
    exact ⟨by rw [e0.out]; simp, q, rfl⟩
  by_cases k6 : k = 6
  · subst k6
    have w1 : IntKind.i64.wrap ((T : Int) + 4) = (T : Int) + 4 := i64_in (by omega) (by omega)
    have w2 : IntKind.i64.wrap ((T : Int) + 4 + (E : Int)) = (T : Int) + 4 + (E : Int) := i64_in (by omega) (by omega)
    have w3 : IntKind.i64.wrap ((T : Int) + 4 + (E : Int) + 4) = (T : Int) + 4 + (E : Int) + 4 := i64_in (by omega) (by omega)
    go_enter Try.func41, Try.ntmps41
    go_wp2
    go_quiet (first | (go_at_call 18; ((with_reducible exact Calls.quiet_of (q4.out _)))) | (go_at_call 18; ((with_reducible exact Calls.quiet_of (q5.out _)))))
    go_wp2
    go_ret
    exact ⟨by rw [e0.out]; simp, _, rfl⟩
  by_cases k8 : k = 8
  · subst k8
    go_enter Try.func41, Try.ntmps41
    go_wp2_with (go_at_call 18; ((with_reducible refine q40.out.mono ?_)); rintro e w1 ⟨rfl, q, rfl⟩)
    go_ret
    exact ⟨by rw [e0.out]; simp, q, rfl⟩
  have d1 : (k == 1) = false := beq_eq_false_iff_ne.2 k1
  have d2 : (k == 2) = false := beq_eq_false_iff_ne.2 k2
  have d3 : (k == 3) = false := beq_eq_false_iff_ne.2 k3
  have d4 : (k == 4) = false := beq_eq_false_iff_ne.2 k4
  have d5 : (k == 5) = false := beq_eq_false_iff_ne.2 k5
  have d6 : (k == 6) = false := beq_eq_false_iff_ne.2 k6
  have d7 : (k == 7) = false := beq_eq_false_iff_ne.2 k7
  have d8 : (k == 8) = false := beq_eq_false_iff_ne.2 k8
  have d9 : (k == 9) = false := beq_eq_false_iff_ne.2 k9
  have e1 : Aside0 (R = 0) := ⟨by rw [e0.out]; simp [k1, k2, k3, k4, k5, k6, k7, k8, k9]⟩
  clear k1 k2 k3 k4 k5 k6 k7 k8 k9
  go_enter Try.func41, Try.ntmps41
  go_wp2
  go_ret
  exact ⟨by rw [e1.out]; rfl, 0, rfl⟩
theorem NodeAt.of {w : World} {A : Option Addr} {n : Nat} {l : List Nd} (h : k38.C w A n l) (i : Nat) (hi : i < l.length) : ∃ ad A4 c4 A5 c5, A = some ad ∧ NodeAt w (ad.add (i * 9)) l[i] A4 c4 A5 c5 := by
  obtain ⟨ad, A4, c4, A5, c5, e, h0, h1, h2, h3, h4, h5, h6, h7, h8, l4, g4, l5, g5⟩ := at_T38 h (i : Int) (by omega) (by have := h.1; omega)
  have er : rd_T38 l (i : Int) = l[i] := by
    unfold rd_T38
    rw [Int.toNat_natCast, List.getD_eq_getElem?_getD, List.getElem?_eq_getElem hi]; rfl
  rw [er] at h0 h4 h5 h6 g4 g5
  rw [Int.toNat_natCast] at h0 h4 h5 h6
  exact ⟨ad, A4, c4, A5, c5, e, h0, h4, h5, h6, g4, g5⟩
theorem szL_take (l : List Nd) (i : Nat) (hi : i < l.length) : szL (l.take (i + 1)) = szL (l.take i) + szN l[i] := by
  rw [List.take_succ_eq_append_getElem hi, szL_app]; simp [szL]
theorem cnL_take (l : List Nd) (i : Nat) : cnL (l.take i) ≤ cnL l := by
  have := cnL_app (l.take i) (l.drop i)
  rw [List.take_append_drop] at this
  omega
set_option maxRecDepth 100000 in
set_option maxHeartbeats 4000000 in
theorem size_step {K : Nat} (hK : K ≤ 1000000000000) (ih : SizeTo K) : SizeTo (K + 1) := by
  intro l A c w hl hC
  obtain ⟨n, hn⟩ : ∃ n, n = l.length := ⟨_, rfl⟩
  have hn63 : n ≤ 1000000000000 := by have := cnL_len l; omega
  have hnn := Aside0.mk hn
  have hCC := Aside0.mk hC
  have hll := Aside0.mk hl
  have hii := Aside0.mk ih
  rw [← hn]
  clear hn hC hl ih
  go_enter Try.func18, Try.ntmps18
  go_wp2
  go_loopg [3, 7] n (fun gk v3 v7 wr => ∃ (i S q : Nat), v3 = .int .i64 (S : Int) ∧ v7 = .int .i64 (i : Int) ∧ i + gk = n ∧ wr = w.drewN q ∧ S ≤ 9000000000000 ∧ Aside0 (S = szL (l.take i)))
  case atStart => exact ⟨0, 0, 0, rfl, rfl, by omega, rfl, by omega, ⟨by simp [szL]⟩⟩
  case round =>
    obtain ⟨i, S, q, rfl, rfl, hi, rfl, hS0, hS⟩ := hrel
    cases gk with
    | zero =>
      have hd : decide (i < n) = false := decide_eq_false (by omega)
      go_wp2
      go_ret
      refine ⟨?_, q, rfl⟩
      have h1 := hS.out
      rw [List.take_of_length_le (by have := hnn.out; omega)] at h1
      rw [h1]; rfl
    | succ k1 =>
      have hd : decide (i < n) = true := decide_eq_true (by omega)
      have hlt : i < l.length := by have := hnn.out; omega
      obtain ⟨ad, A4, c4, A5, c5, e, hx⟩ := NodeAt.of (Kd.C_drewN hCC.out q) i hlt
      subst e
      have hcn : cnN l[i] ≤ K := by
        have := cnL_mem (List.getElem_mem hlt)
        have := hll.out
        omega
      have hbd : szL (l.take (i + 1)) ≤ 8 * cnL (l.take (i + 1)) := szL_bd _ _ (Nat.le_refl _)
      have hbd2 := cnL_take l (i + 1)
      have hst := szL_take l i hlt
      have hX := Aside0.mk (size_node hK hii.out hx hcn)
      have hl2 := hll.out
      have hS1 := hS.out
      rw [hst, ← hS1] at hbd
      have hS2 : Aside0 (S + szN l[i] = szL (l.take (i + 1))) := ⟨by rw [hst, hS1]⟩
      clear hx hst hcn hS1
      generalize szN l[i] = R at *
      clear hlt
      have hR : S + R ≤ 9000000000000 := by omega
      have hR2 : R ≤ 9000000000000 := by omega
      clear hbd hbd2 hl2
      go_wp2_with (go_at_call 41; ((with_reducible refine hX.out.mono ?_)); rintro e w1 ⟨rfl, q1, rfl⟩)
      go_roundg k1
      case measure => omega
      case rel => exact ⟨i + 1, S + R, q + q1, by rw [Int.natCast_add], rfl, by omega, by first | rfl | rw [World.drewN_drewN], hR, hS2⟩
theorem size_all : ∀ K, K ≤ 1000000000000 → SizeTo K
  | 0, _ => fun l A c w h => by omega
  | K + 1, h => size_step (by omega) (size_all K (by omega))
theorem Size_at {w : World} {A : Option Addr} {c n : Nat} {l : List Nd} (hC : k38.C w A n l) (hn : n = l.length) (hl : cnL l < 1000000000000) :
    Calls Try.prog 18 #[.slice A n c] w fun e w' => e = .returned (.int .i64 (szL l : Nat)) ∧ ∃ q, w' = w.drewN q := by
  subst hn
  exact size_all 1000000000000 (by omega) l A c w hl hC
end Go.Proofs.Ytjphhnhloeanlaa.P
