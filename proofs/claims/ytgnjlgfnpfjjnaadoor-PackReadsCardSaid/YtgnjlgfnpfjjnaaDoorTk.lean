/- wisplaw03.takes: one call of both readers: the same. -/
import Derived.Test.YtgnjlgfnpfjjnaaDoorQn
import Derived.Test.YtgnjlgfnpfjjnaaDoorApW
import Derived.Test.YtgnjlgfnpfjjnaaDoorKn
import Derived.Deep.RegionHeld3
import Derived.Deep.RegionWith
import Derived.Deep.DeepCutAuto
import Derived.Deep.CutBlock
import Derived.Deep.QuietTactic
import Derived.BigQuiet
namespace Go.Proofs.YtgnjlgfnpfjjnaaDoor.Pk
open Go.RowKit Go.Proofs.YtgnjlgfnpfjjnaaDoorW.PrintWords Go.Proofs.YtgnjlgfnpfjjnaaDoorW.PrintLast Go.Proofs.YtgnjlgfnpfjjnaaDoorW.PrintMore Go.Proofs.YtgnjlgfnpfjjnaaDoor.Mem
set_option linter.unusedVariables false
set_option linter.unusedSimpArgs false
open Ap (RB CB)
/-- Apart of one row -/
theorem Apart1 {W : World} {base : Nat} {a : Value} {xs : List Int} (ha : RB W base a xs) (hl : xs.length ≤ 140737488351232) :
    Calls Tryd.prog 16 #[.slice (some ⟨W.heap.size, 0, none⟩) 1 1] (W.alloc (.cells #[a] 23)) fun e w' => e = .returned (.bool true) ∧ Fr W w' (fun q => a.ownBlock = some q) := by
  have hh := World.alloc_heap_new W (.cells #[a] 23)
  have k1 := Kd.R_lt ha
  refine (Ap.Apart (c := 1) (O := W.heap.size) (n := 1) (V := fun _ => a) (L := fun _ => xs.length) (X := fun _ => xs) (base := 0) ⟨fun j hj => Kd.R_lower (Kd.R_alloc ha _) (Nat.zero_le _), fun j hj => rfl, fun i j hi hj hne => by omega⟩ (fun j hj => ?_) (fun j hj e => ?_) (by rw [World.size_alloc]; omega) (by omega) (fun j _ => hl) (Nat.zero_le _)).mono fun e w' ⟨he, hF⟩ => ⟨he, ?_⟩
  · have : j = 0 := by omega
    subst this
    simp only [World.cell?, hh]; simp
  · have := k1 _ e; omega
  · exact (((Fr.refl W _).alloc _).trans hF (fun q _ ⟨_, _, e⟩ => e))
theorem strf {W : World} {A : Option Addr} {m c : Nat} {xs : List Int} {S : ByteArray} (h : Kd.C (Kd.int .u8) W A m xs) (hS : strOfNums xs = S) : (convert 23 9 (.slice A m c)).run Tryd.prog W = .ok (.string S) W := by
  subst hS
  exact Kd.C_string (P := Tryd.prog) (c := c) Tryd.underlying23 Tryd.underlying5 Tryd.underlying9 h
/-- what is left, and the error -/
def stepL (kind n : Int) (xs : List Int) (err : Int) : List Int := if kind = 1 then leftL xs err 1 else if kind = 2 then leftL xs err 2 else if kind = 3 then leftL xs err 4 else if kind = 4 then leftL xs err n else if kind = 5 then xs.drop (numF xs err).2.2 else xs
def stepE (kind n : Int) (xs : List Int) (err : Int) : Int := if kind = 1 then errL xs err 1 else if kind = 2 then errL xs err 2 else if kind = 3 then errL xs err 4 else if kind = 4 then errL xs err n else if kind = 5 then (numF xs err).2.1 else err
/-- both readers, in step -/
def Both (w0 w : World) (B : Nat) (ok : Nat → Prop) (gr gq : Nat) (xs : List Int) (err : Int) : Prop := IsR w B ok gr xs err ∧ IsQ w B ok gq xs err ∧ Fr w0 w (fun k => k = gr ∨ k = gq)
theorem Both.of {w0 w1 w2 : World} {B gr gq : Nat} {ok : Nat → Prop} {xs : List Int} {err : Int} (hne : gr ≠ gq) (hok : ∀ k, ok k → k ≠ gr ∧ k ≠ gq) (hR : IsR w1 B ok gr xs err) (hF : Fr w0 w1 (fun k => k = gr)) (hQ : IsQ w2 B ok gq xs err) (hG : Fr w1 w2 (fun k => k = gq)) : Both w0 w2 B ok gr gq xs err :=
  ⟨hR.fr hG hne (fun k hk _ => (hok k hk).2), hQ, (hF.mono (fun _ _ h => .inl h)).trans hG (fun _ _ h => .inr h)⟩
theorem Both.up {w w0 w2 : World} {B gr gq : Nat} {ok : Nat → Prop} {xs : List Int} {err : Int} (h : Both w0 w2 B ok gr gq xs err) (hb : Below w.heap.size w w0) : Both w w2 B ok gr gq xs err :=
  ⟨h.1, h.2.1, (Fr.of_below hb _).trans h.2.2 (fun _ _ h => h)⟩
theorem Both.down {w0 w w2 : World} {B gr gq : Nat} {ok : Nat → Prop} {xs : List Int} {err : Int} (h : Both w0 w B ok gr gq xs err) {S : Nat → Prop} (hF : Fr w w2 S) (h1 : ¬ S gr) (h2 : ¬ S gq) (hk : ∀ k, ok k → k < w.heap.size → ¬ S k) (hS : ∀ k, k < w0.heap.size → ¬ S k) : Both w0 w2 B ok gr gq xs err :=
  ⟨h.1.fr hF h1 hk, h.2.1.fr hF h2 hk, h.2.2.trans hF (fun k hk hs => absurd hs (hS k hk))⟩
set_option maxRecDepth 100000 in
set_option maxHeartbeats 4000000 in
theorem takes {w : World} {B gr gq : Nat} {ok : Nat → Prop} {xs : List Int} {err : Int} (kind n : Int) (hR : IsR w B ok gr xs err) (hQ : IsQ w B ok gq xs err) (hne : gr ≠ gq) (hok : ∀ k, ok k → k ≠ gr ∧ k ≠ gq) (hlt : ∀ k, ok k → k < w.heap.size) (hB : allB xs) (hlen : xs.length ≤ 140737488351232) :
    Calls Tryd.prog 21 #[.pointer (some ⟨gr, 0, none⟩), .pointer (some ⟨gq, 0, none⟩), .agg #[.int .i64 kind, .int .i64 n]] w fun e w' => e = .returned (.bool true) ∧ Both w w' B ok gr gq (stepL kind n xs err) (stepE kind n xs err) := by
  obtain ⟨W0, hW0⟩ : ∃ W0, W0 = w.alloc (.cells #[.int .i64 kind, .int .i64 n] 53) := ⟨_, rfl⟩
  have hb0 : Below w.heap.size w W0 := by rw [hW0]; exact below_alloc (Below.refl _ _) _
  have hx0 : Box2 W0 w.heap.size 53 (.int .i64 kind) (.int .i64 n) := by rw [hW0]; exact Box2.new _ _ _ _
  have hR0 := Aside0.mk (hR.below hb0)
  have hQ0 := Aside0.mk (hQ.below hb0)
  have g1 := hR.lt
  have g2 := hQ.lt
  have hokk := Aside0.mk hok
  have hltt := Aside0.mk hlt
  have hBB := Aside0.mk hB
  have hll := Aside0.mk hlen
  have hb00 := Aside0.mk hb0
  have hxx := Aside0.mk hx0
  have hWW := Aside0.mk hW0
  clear hR hQ hok hlt hB hlen hb0 hx0 hW0
  go_enter Tryd.func21, Tryd.ntmps21
  go_upto_block 0 with fail
  rw [← hWW.out]
  have hcc0 := hxx.out.cell0
  have hcc1 := hxx.out.cell1
  go_cut [7] (fun s7 wx => s7 = .bool true ∧ Aside0 (Both w wx B ok gr gq (stepL kind n xs err) (stepE kind n xs err)))
  case first =>
    by_cases k1 : kind = 1
    · have hd : (kind == 1) = true := beq_iff_eq.2 k1
      have e0 : Aside0 (stepL kind n xs err = leftL xs err 1 ∧ stepE kind n xs err = errL xs err 1) := ⟨by rw [k1]; exact ⟨rfl, rfl⟩⟩
      have h1 := takeL_B (err := err) (n := 1) hBB.out
      have h2 := takeL_len xs err 1 1 (by omega)
      have h3 := valI_b _ h1
      have q1 : orL 0 (takeL xs err 1) 0 % 256 = valI (takeL xs err 1) := by
        rw [or_val h1 (by omega)]
        have h4 : (256 : Int) ^ (takeL xs err 1).length ≤ 256 := by
          rcases (show (takeL xs err 1).length = 0 ∨ (takeL xs err 1).length = 1 by omega) with h | h <;> rw [h] <;> decide
        omega
      obtain ⟨v1, hv⟩ : ∃ v, valI (takeL xs err 1) = v := ⟨_, rfl⟩
      rw [hv] at q1 h3
      have hvv := Aside0.mk hv
      have hv0 : 0 ≤ v1 := h3.1
      have hv1 : v1 < 4294967296 := by
        have h4 := (valI_lt h1 (by omega)).2
        rw [hvv.out] at h4
        exact h4
      have e5 : (v1 == v1) = true := by simp
      clear k1 hv h1 h2 h3
      go_wp2_with (first | (go_at_call 25; go_must (with_reducible refine (RByte hR0.out).mono ?_); rintro e w1 ⟨rfl, hR, hF⟩; have hR1 := Aside0.mk hR; have hF1 := Aside0.mk hF; have hQ1 := Aside0.mk (hQ0.out.fr hF (fun h => hne h.symm) (fun k hk _ => (hokk.out k hk).1)); clear hR hF; rw [q1]) | (go_at_call 36; go_must (with_reducible refine (QFixed 1 (by omega) hQ1.out hll.out hBB.out).mono ?_); rintro e w2 ⟨rfl, hQ, hF⟩; have hB2 := Aside0.mk ((Both.of hne hokk.out hR1.out hF1.out hQ hF).up hb00.out); clear hQ hF; rw [hvv.out]))
      go_meet
      refine ⟨?_, ?_⟩
      · rfl
      · rw [e0.out.1, e0.out.2]; exact hB2
    by_cases k2 : kind = 2
    · have hd : (kind == 2) = true := beq_iff_eq.2 k2
      have hd1 : (kind == 1) = false := beq_eq_false_iff_ne.2 (by omega)
      have e0 : Aside0 (stepL kind n xs err = leftL xs err 2 ∧ stepE kind n xs err = errL xs err 2) := ⟨by rw [k2]; exact ⟨rfl, rfl⟩⟩
      have h1 := takeL_B (err := err) (n := 2) hBB.out
      have h2 := takeL_len xs err 2 2 (by omega)
      have h3 := valI_b _ h1
      have q1 : IntKind.u16.wrap (orL 0 (takeL xs err 2) 0) = valI (takeL xs err 2) := by
        rw [or_val h1 (by omega)]
        have h4 : (256 : Int) ^ (takeL xs err 2).length ≤ 65536 := by
          rcases (show (takeL xs err 2).length = 0 ∨ (takeL xs err 2).length = 1 ∨ (takeL xs err 2).length = 2 by omega) with h | h | h <;> rw [h] <;> decide
        rw [IntKind.wrap_u16]
        omega
      obtain ⟨v1, hv⟩ : ∃ v, valI (takeL xs err 2) = v := ⟨_, rfl⟩
      rw [hv] at q1 h3
      have hvv := Aside0.mk hv
      have hv0 : 0 ≤ v1 := h3.1
      have hv1 : v1 < 4294967296 := by
        have h4 := (valI_lt h1 (by omega)).2
        rw [hvv.out] at h4
        exact h4
      have e5 : (v1 == v1) = true := by simp
      clear k2 hv h1 h2 h3
      go_wp2_with (first | (go_at_call 28; go_must (with_reducible refine (RCell hR0.out).mono ?_); rintro e w1 ⟨rfl, hR, hF⟩; have hR1 := Aside0.mk hR; have hF1 := Aside0.mk hF; have hQ1 := Aside0.mk (hQ0.out.fr hF (fun h => hne h.symm) (fun k hk _ => (hokk.out k hk).1)); clear hR hF; rw [q1]) | (go_at_call 36; go_must (with_reducible refine (QFixed 2 (by omega) hQ1.out hll.out hBB.out).mono ?_); rintro e w2 ⟨rfl, hQ, hF⟩; have hB2 := Aside0.mk ((Both.of hne hokk.out hR1.out hF1.out hQ hF).up hb00.out); clear hQ hF; rw [hvv.out]))
      go_meet
      refine ⟨?_, ?_⟩
      · rfl
      · rw [e0.out.1, e0.out.2]; exact hB2
    by_cases k3 : kind = 3
    · have hd : (kind == 3) = true := beq_iff_eq.2 k3
      have hd1 : (kind == 1) = false := beq_eq_false_iff_ne.2 (by omega)
      have hd2 : (kind == 2) = false := beq_eq_false_iff_ne.2 (by omega)
      have e0 : Aside0 (stepL kind n xs err = leftL xs err 4 ∧ stepE kind n xs err = errL xs err 4) := ⟨by rw [k3]; exact ⟨rfl, rfl⟩⟩
      have h1 := takeL_B (err := err) (n := 4) hBB.out
      have h2 := takeL_len xs err 4 4 (by omega)
      have h3 := valI_b _ h1
      have q1 : orL 0 (takeL xs err 4) 0 = valI (takeL xs err 4) := by
        rw [or_val h1 (by omega)]
      obtain ⟨v1, hv⟩ : ∃ v, valI (takeL xs err 4) = v := ⟨_, rfl⟩
      rw [hv] at q1 h3
      have hvv := Aside0.mk hv
      have hv0 : 0 ≤ v1 := h3.1
      have hv1 : v1 < 4294967296 := by
        have h4 := (valI_lt h1 (by omega)).2
        rw [hvv.out] at h4
        exact h4
      have e5 : (v1 == v1) = true := by simp
      clear k3 hv h1 h2 h3
      go_wp2_with (first | (go_at_call 29; go_must (with_reducible refine (RWord hR0.out).mono ?_); rintro e w1 ⟨rfl, hR, hF⟩; have hR1 := Aside0.mk hR; have hF1 := Aside0.mk hF; have hQ1 := Aside0.mk (hQ0.out.fr hF (fun h => hne h.symm) (fun k hk _ => (hokk.out k hk).1)); clear hR hF; rw [q1]) | (go_at_call 36; go_must (with_reducible refine (QFixed 4 (by omega) hQ1.out hll.out hBB.out).mono ?_); rintro e w2 ⟨rfl, hQ, hF⟩; have hB2 := Aside0.mk ((Both.of hne hokk.out hR1.out hF1.out hQ hF).up hb00.out); clear hQ hF; rw [hvv.out]))
      go_meet
      refine ⟨?_, ?_⟩
      · rfl
      · rw [e0.out.1, e0.out.2]; exact hB2
    by_cases k4 : kind = 4
    · have hd : (kind == 4) = true := beq_iff_eq.2 k4
      have hd1 : (kind == 1) = false := beq_eq_false_iff_ne.2 (by omega)
      have hd2 : (kind == 2) = false := beq_eq_false_iff_ne.2 (by omega)
      have hd3 : (kind == 3) = false := beq_eq_false_iff_ne.2 (by omega)
      have e0 : Aside0 (stepL kind n xs err = leftL xs err n ∧ stepE kind n xs err = errL xs err n) := ⟨by rw [k4]; exact ⟨rfl, rfl⟩⟩
      obtain ⟨S, hS⟩ : ∃ S, strOfNums (takeL xs err n) = S := ⟨_, rfl⟩
      have hSS := Aside0.mk hS
      have hs0 := hb00.out.size
      have hx2 : Aside0 (∀ {W : World}, Fr W0 W (fun k => k = gr ∨ k = gq) → W.cell? ⟨w.heap.size, 1, none⟩ = some (.int .i64 n)) := ⟨fun hF => (hxx.out.fr hF (by omega)).cell1⟩
      clear k4 hS
      go_wp2_with (first | (go_at_call 26; go_must (with_reducible refine (RBytes n hR0.out (by have := hll.out; omega)).mono ?_); rintro e w1 ⟨v1, rfl, hV, hR, hF⟩; have hR1 := Aside0.mk hR; have hF1 := Aside0.mk hF; have hV1 := Aside0.mk hV; have hQ1 := Aside0.mk (hQ0.out.fr hF (fun h => hne h.symm) (fun k hk _ => (hokk.out k hk).1)); have hz1 := hx2.out (hF.mono (fun _ _ h => .inl h)); have hs1 := hF.size; clear hR hF hV) | (go_at_call 37; go_must (with_reducible refine (QTake n hQ1.out hll.out).mono ?_); rintro e w2 ⟨v2, b2, rfl, hV2, hQ, hF⟩; have hB2 := Both.of hne hokk.out hR1.out hF1.out hQ hF; have hV3 : RB w2 W0.heap.size v1 (takeL xs err n) := Kd.R_mono (hF.row (Kd.R_bound hV1.out) (fun q hq _ e => by have := hq.2.1; omega)) (fun _ _ => trivial); obtain ⟨A3, m3, c3, rfl, hm3, hC3⟩ := rowf hV3; obtain ⟨A4, m4, c4, rfl, hm4, hC4⟩ := rowf hV2; have t3 := strf (c := c3) hC3 hSS.out; have t4 := strf (c := c4) hC4 hSS.out; have hAp := Aside0.mk (Apart1 hV3 (by have := hll.out; have : (takeL xs err n).length ≤ xs.length := (by unfold takeL; split <;> simp <;> omega); omega)); have hV4 := Aside0.mk hV3; have hB4 := Aside0.mk hB2; have e6 : (S.toList == S.toList) = true := (by simp); clear hV2 hQ hF hB2 hV3 hm3 hC3 hm4 hC4) | (go_at_call 16; go_must (with_reducible refine hAp.out.mono ?_); rintro e w5 ⟨rfl, hF⟩; have hB5 := Aside0.mk ((hB4.out.down hF (fun e => by have := Kd.R_base hV4.out _ e; omega) (fun e => by have := Kd.R_base hV4.out _ e; omega) (fun k hk _ e => by have := Kd.R_base hV4.out _ e; have := hltt.out k hk; omega) (fun k hk e => by have := Kd.R_base hV4.out _ e; omega)).up hb00.out); clear hF))
      go_meet
      refine ⟨?_, ?_⟩
      · rfl
      · rw [e0.out.1, e0.out.2]; exact hB5
    · by_cases k5 : kind = 5
      · have hd : (kind == 5) = true := beq_iff_eq.2 k5
        have hd1 : (kind == 1) = false := beq_eq_false_iff_ne.2 (by omega)
        have hd2 : (kind == 2) = false := beq_eq_false_iff_ne.2 (by omega)
        have hd3 : (kind == 3) = false := beq_eq_false_iff_ne.2 (by omega)
        have hd4 : (kind == 4) = false := beq_eq_false_iff_ne.2 (by omega)
        have e0 : Aside0 (stepL kind n xs err = xs.drop (numF xs err).2.2 ∧ stepE kind n xs err = (numF xs err).2.1) := ⟨by rw [k5]; exact ⟨rfl, rfl⟩⟩
        obtain ⟨v1, hv⟩ : ∃ v, (numF xs err).1 = v := ⟨_, rfl⟩
        have hvv := Aside0.mk hv
        have e5 : (v1 == v1) = true := by simp
        clear k5 hv
        go_wp2_with (first | (go_at_call 27; go_must (with_reducible refine (RNumber hR0.out).mono ?_); rintro e w1 ⟨rfl, hR, hF⟩; have hR1 := Aside0.mk hR; have hF1 := Aside0.mk hF; have hQ1 := Aside0.mk (hQ0.out.fr hF (fun h => hne h.symm) (fun k hk _ => (hokk.out k hk).1)); clear hR hF; rw [hvv.out]) | (go_at_call 38; go_must (with_reducible refine (QNumber hQ1.out hll.out hBB.out).mono ?_); rintro e w2 ⟨rfl, hQ, hF⟩; have hB2 := Aside0.mk ((Both.of hne hokk.out hR1.out hF1.out hQ hF).up hb00.out); clear hQ hF; rw [hvv.out]))
        go_meet
        refine ⟨?_, ?_⟩
        · rfl
        · rw [e0.out.1, e0.out.2]; exact hB2
      · have hd1 : (kind == 1) = false := beq_eq_false_iff_ne.2 k1
        have hd2 : (kind == 2) = false := beq_eq_false_iff_ne.2 k2
        have hd3 : (kind == 3) = false := beq_eq_false_iff_ne.2 k3
        have hd4 : (kind == 4) = false := beq_eq_false_iff_ne.2 k4
        have hd5 : (kind == 5) = false := beq_eq_false_iff_ne.2 k5
        have e0 : Aside0 (stepL kind n xs err = xs ∧ stepE kind n xs err = err) := ⟨by unfold stepL stepE; rw [if_neg k1, if_neg k2, if_neg k3, if_neg k4, if_neg k5, if_neg k1, if_neg k2, if_neg k3, if_neg k4, if_neg k5]; exact ⟨rfl, rfl⟩⟩
        clear k1 k2 k3 k4 k5
        go_wp2
        go_meet
        refine ⟨?_, ?_⟩
        · rfl
        · rw [e0.out.1, e0.out.2]; exact ⟨hR0.out, hQ0.out, (Fr.of_below hb00.out _)⟩
  case rest =>
    obtain ⟨rfl, hb1⟩ := hcut
    obtain ⟨ys, hys⟩ : ∃ ys, ys = stepL kind n xs err := ⟨_, rfl⟩
    obtain ⟨er, her⟩ : ∃ er, er = stepE kind n xs err := ⟨_, rfl⟩
    rw [← hys, ← her] at hb1
    have hyy := Aside0.mk hys
    have hee := Aside0.mk her
    clear hys her
    obtain ⟨m, hm⟩ : ∃ m, m = ys.length := ⟨_, rfl⟩
    obtain ⟨A, c, hbq, _⟩ := id hb1.out.2.1
    rw [← hm] at hbq
    have hq0 := hbq.cell0
    have hq1 := hbq.cell1
    have h1 : Aside0 (∀ k, Calls Tryd.prog 24 #[.pointer (some ⟨gr, 0, none⟩)] (wc.drewN k) fun e w' => e = .returned (.int .i64 (m : Int)) ∧ w' = wc.drewN k) := ⟨fun k => (RLeft (hb1.out.1.below (pw_below_drewN (Below.refl _ _) k))).mono (fun e w' ⟨he, hw⟩ => ⟨by rw [hm]; exact he, hw.symm⟩)⟩
    have h2 : Aside0 (∀ k, Calls Tryd.prog 23 #[.pointer (some ⟨gr, 0, none⟩)] (wc.drewN k) fun e w' => e = .returned (.int .i64 er) ∧ w' = wc.drewN k) := ⟨fun k => (RErr (hb1.out.1.below (pw_below_drewN (Below.refl _ _) k))).mono (fun e w' ⟨he, hw⟩ => ⟨he, hw.symm⟩)⟩
    have h3 : Aside0 (∀ k, Calls Tryd.prog 22 #[.int .i64 er] (wc.drewN k) fun e w' => e = .returned (.int .i64 er) ∧ w' = wc.drewN k) := ⟨fun k => (num er _).mono (fun e w' ⟨he, hw⟩ => ⟨he, hw.symm⟩)⟩
    have e1 : ((m : Int) == (m : Int)) = true := by simp
    have e2 : (er == er) = true := by simp
    have hmm := Aside0.mk hm
    clear hm hbq
    go_wp2
    go_quiet (first | (go_at_call 24; exact Calls.quiet_of_same (h1.out _)) | (go_at_call 23; exact Calls.quiet_of_same (h2.out _)) | (go_at_call 22; exact Calls.quiet_of_same (h3.out _)))
    go_wp2
    go_ret
    rw [← hyy.out, ← hee.out]
    exact ⟨rfl, hb1.out.down (Fr.of_below (pw_below_drewN (Below.refl _ _) _) (fun _ => False)) (fun h => h) (fun h => h) (fun _ _ _ h => h) (fun _ _ h => h)⟩
end Go.Proofs.YtgnjlgfnpfjjnaaDoor.Pk
