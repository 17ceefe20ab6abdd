/- wisplaw20.ShotDiffs: the walk. -/
import Derived.Test.YtpjdgndbcjinjaaRd
import Derived.Test.YtpjdgndbcjinjaaGpS
import Derived.Test.YtpjdgndbcjinjaaFb
import Derived.Test.YtpjdgndbcjinjaaRv
namespace Go.Proofs.Ytpjdgndbcjinjaa.Sh
open Go.RowKit Go.Proofs.YtpjdgndbcjinjaaW.PrintWords Go.Proofs.YtpjdgndbcjinjaaW.PrintLast Go.Proofs.YtpjdgndbcjinjaaW.PrintMore Go.Proofs.Ytpjdgndbcjinjaa.Mem Go.Proofs.Ytpjdgndbcjinjaa.P
open Go.Proofs.Ytpjdgndbcjinjaa.Ap (RB CB IsM)
set_option linter.unusedVariables false
set_option linter.unusedSimpArgs false
abbrev R42 (W : World) (B : Nat) (v : Value) (l : List S42) : Prop := k42.R 42 W B (fun _ => True) v l
abbrev R43 (W : World) (B : Nat) (v : Value) (l : List S43) : Prop := k43.R 43 W B (fun _ => True) v l
section
variable {W : World} {A A' : Option Addr} {n c n' c' : Nat} {zs ys : List Int} {l : List S42} {e : Int}
theorem fixed_atD (W : World) : Calls Try.prog 9 #[] W fun e w' => e = .returned (.bool true) ∧ Below W.heap.size W w' := wisplaw20_fixed.calls 3073 true W (fixed_ok 0)
theorem Diff_at (hC : CB W A n zs) (hn : n = zs.length) (hc : n ≤ c) (hC' : CB W A' n' ys) (hn' : n' = ys.length) (hc' : n' ≤ c') (hs : diffA zs ys = (l, e)) : Calls Try.prog 11 #[.slice A n c, .slice A' n' c'] W fun e' w' => ∃ v, e' = .returned (.tuple #[v, .int .i64 e]) ∧ R42 w' W.heap.size v l ∧ Below W.heap.size W w' := by
  subst hn hn'
  exact shot_Diff.calls 3074 A c zs A' c' ys l e W hC hc hC' hc' (by rw [Diff_any zs ys 3074 (Nat.le_refl _), hs])
theorem RDiff_at (hC : CB W A n zs) (hn : n = zs.length) (hc : n ≤ c) (hC' : CB W A' n' ys) (hn' : n' = ys.length) (hc' : n' ≤ c') (hs : diffA zs ys = (l, e)) : Calls Try.prog 12 #[.slice A n c, .slice A' n' c'] W fun e' w' => ∃ v, e' = .returned (.tuple #[v, .int .i64 e]) ∧ R43 w' W.heap.size v (l.map to43) ∧ Below W.heap.size W w' := by
  subst hn hn'
  exact wispref20_Diff.calls 3200 A c zs A' c' ys (l.map to43) e W hC hc hC' hc' (by rw [RDiff_any zs ys 3200 (Nat.le_refl _), hs])
theorem same_at {m m' : Nat} (h : k42.C W A m l) (hm : m = l.length) (hc : m ≤ c) (h' : k43.C W A' m' (l.map to43)) (hm' : m' = (l.map to43).length) (hc' : m' ≤ c') (hl : l.length ≤ 4611686018427387900) : Calls Try.prog 14 #[.slice A m c, .slice A' m' c'] W fun e' w' => e' = .returned (.bool true) ∧ Below W.heap.size W w' := by
  subst hm hm'
  refine (wisplaw20_same.calls (l.length + 1) A c l A' c' (l.map to43) true W h hc h' hc' (same_ok l (by omega))).mono fun e w' ⟨he, hd⟩ => ⟨he, ?_⟩
  obtain ⟨n, rfl⟩ := hd.out
  exact pw_below_drewN (Below.refl _ _) n
end
theorem r42f {W : World} {B : Nat} {v : Value} {l : List S42} (h : R42 W B v l) : ∃ A m c, v = .slice A m c ∧ m = l.length ∧ m ≤ c ∧ k42.C W A m l := by
  obtain ⟨A, c, rfl, hc, hC⟩ := Kd.R_reads h
  exact ⟨A, _, c, rfl, rfl, hc, hC⟩
theorem r43f {W : World} {B : Nat} {v : Value} {l : List S43} (h : R43 W B v l) : ∃ A m c, v = .slice A m c ∧ m = l.length ∧ m ≤ c ∧ k43.C W A m l := by
  obtain ⟨A, c, rfl, hc, hC⟩ := Kd.R_reads h
  exact ⟨A, _, c, rfl, rfl, hc, hC⟩
theorem R42_fr {W W' : World} {B : Nat} {S : Nat → Prop} {v : Value} {l : List S42} (h : R42 W B v l) (hF : Fr W W' S) (hS : ∀ k, S k → k < B) : R42 W' B v l :=
  Kd.R_mono (hF.row (Kd.R_bound h) (fun q hq _ e => by have := hq.2.1; have := hS q e; omega)) (fun _ _ => trivial)
theorem R43_fr {W W' : World} {B : Nat} {S : Nat → Prop} {v : Value} {l : List S43} (h : R43 W B v l) (hF : Fr W W' S) (hS : ∀ k, S k → k < B) : R43 W' B v l :=
  Kd.R_mono (hF.row (Kd.R_bound h) (fun q hq _ e => by have := hq.2.1; have := hS q e; omega)) (fun _ _ => trivial)
set_option maxRecDepth 100000 in
set_option maxHeartbeats 4000000 in
theorem Diffs {w : World} {A A1 : Option Addr} {c c1 : Nat} {xs rs : List Int} (hC : CB w A xs.length xs) (hc : xs.length ≤ c) (hl : xs.length ≤ 140737488351232) (hC1 : CB w A1 rs.length rs) (hc1 : rs.length ≤ c1) (hl1 : rs.length ≤ 140737488351232) :
    Calls Try.prog 3 #[.slice A xs.length c, .slice A1 rs.length c1] w fun e w' => e = .returned (.bool true) ∧ Below w.heap.size w w' := by
  obtain ⟨n, hn⟩ : ∃ n, n = xs.length := ⟨_, rfl⟩
  obtain ⟨m, hm⟩ : ∃ m, m = rs.length := ⟨_, rfl⟩
  rw [← hn, ← hm]
  rw [← hn] at hC hc hl
  rw [← hm] at hC1 hc1 hl1
  have hCC := Aside0.mk hC
  have hCC1 := Aside0.mk hC1
  have hnn := Aside0.mk hn
  have hmm := Aside0.mk hm
  obtain ⟨⟨D0, ed⟩, hD⟩ : ∃ p, diffA xs rs = p := ⟨_, rfl⟩
  have lD : D0.length ≤ 3072 := by have := diffA_len xs rs; rw [hD] at this; exact this
  have hDD := Aside0.mk hD
  have q1 : (ed == ed) = true := by simp
  clear hC hC1 hn hm hD
  go_enter Try.func3, Try.ntmps3
  go_wp2_with (first | (go_at_call 9; ((with_reducible refine (fixed_atD w).mono ?_)); rintro e w1 ⟨rfl, hb1⟩; have h1 := Aside0.mk hb1; have kR := Ap.Roomy (c := c) (xs := xs) (by rw [← hnn.out]; exact Kd.C_below hCC.out hb1) (by rw [← hnn.out]; omega); rw [← hnn.out] at kR; have hkR := Aside0.mk kR; clear hb1 kR) | (go_at_call 10; ((with_reducible refine hkR.out.mono ?_)); rintro e w2 ⟨gs, cs, rfl, hM, hb⟩; have hMs := Aside0.mk hM; have h2 := Aside0.mk (h1.out.trans (hb.mono h1.out.size)); have kR2 := Ap.Roomy (c := c1) (xs := rs) (by rw [← hmm.out]; exact Kd.C_below hCC1.out h2.out) (by rw [← hmm.out]; omega); rw [← hmm.out] at kR2; have hkR2 := Aside0.mk kR2; clear hM hb kR2 hkR) | (go_at_call 10; ((with_reducible refine hkR2.out.mono ?_)); rintro e w3 ⟨gr, cr, rfl, hM, hb⟩; have hMr := Aside0.mk hM; have b3 := Aside0.mk hb; have h3 := Aside0.mk (h2.out.trans (hb.mono h2.out.size)); have hMs3 := Aside0.mk (hMs.out.below hb); have kP := Diff_at (c := cs) (c' := cr) hMs3.out.c rfl (by have := hMs.out.len; omega) hM.c rfl (by have := hM.len; omega) hDD.out; rw [← hnn.out, ← hmm.out] at kP; have hkP := Aside0.mk kP; clear hM hb kP) | (go_at_call 11; ((with_reducible refine hkP.out.mono ?_)); rintro e w4 ⟨v7, rfl, hR, hb⟩; have hR7 := Aside0.mk hR; have b4 := Aside0.mk hb; have h4 := Aside0.mk (h3.out.trans (hb.mono h3.out.size)); obtain ⟨A7, m7, c7, rfl, hm7, _⟩ := r42f hR; have hkQ := Aside0.mk (RDiff_at (c := c) (c' := c1) (Kd.C_below hCC.out h4.out) hnn.out hc (Kd.C_below hCC1.out h4.out) hmm.out hc1 hDD.out); clear hR hb hm7 hkP) | (go_at_call 12; ((with_reducible refine hkQ.out.mono ?_)); rintro e w5 ⟨v9, rfl, hR, hb⟩; have hR9 := Aside0.mk hR; have b5 := Aside0.mk hb; have B35 := Aside0.mk (b4.out.trans (hb.mono b4.out.size)); obtain ⟨A9, m9, c9, rfl, hm9, _⟩ := r43f hR; have kU := Diff_at (c := cs) (c' := cr) (hMs3.out.below B35.out).c rfl (by have := hMs.out.len; omega) (hMr.out.below B35.out).c rfl (by have := hMr.out.len; omega) hDD.out; rw [← hnn.out, ← hmm.out] at kU; have hkU := Aside0.mk kU; clear hR hb hm9 hkQ kU) | (go_at_call 11; ((with_reducible refine hkU.out.mono ?_)); rintro e w6 ⟨v11, rfl, hR, hb⟩; have hR11 := Aside0.mk hR; have b6 := Aside0.mk hb; have B36 := B35.out.trans (hb.mono B35.out.size); have h6 := Aside0.mk (h3.out.trans (B36.mono h3.out.size)); obtain ⟨A11, m11, c11, rfl, hm11, _⟩ := r42f hR; have hMs6 := Aside0.mk (hMs3.out.below B36); have hMr6 := Aside0.mk (hMr.out.below B36); have kW := Ap.Whole (c := c) hMs6.out (by rw [← hnn.out]; exact Kd.C_below hCC.out h6.out) (by rw [← hnn.out]; omega); rw [← hnn.out] at kW; have hkW := Aside0.mk kW; have kW2 := Ap.Whole (c := c1) hMr6.out (by rw [← hmm.out]; exact Kd.C_below hCC1.out h6.out) (by rw [← hmm.out]; omega); rw [← hmm.out] at kW2; have hkW2 := Aside0.mk kW2; have hs36 := B36.size; clear hR hb hm11 hkU kW kW2 B36) | (go_at_call 13; ((with_reducible refine hkW.out.mono ?_)); rintro e w10 ⟨rfl, rfl⟩) | (go_at_call 13; ((with_reducible refine hkW2.out.mono ?_)); rintro e w10 ⟨rfl, rfl⟩))
  have gs1 := hMs.out.base
  have gs2 := hMs.out.lt
  have gr1 := hMr.out.base
  have gr2 := hMr.out.lt
  obtain ⟨W6, rfl⟩ : ∃ W6, W6 = w6 := ⟨_, rfl⟩
  go_loopg [13] n (fun gk v13 wr => ∃ (i : Nat) (zs : List Int), v13 = .int .i64 (i : Int) ∧ i + gk = n ∧ Aside0 (zs.length = n ∧ IsM wr w1.heap.size gs cs zs ∧ Fr W6 wr (fun k => k = gs)))
  case atStart => exact ⟨0, xs, rfl, by omega, ⟨hnn.out.symm, hMs6.out, Fr.refl _ _⟩⟩
  case round =>
    obtain ⟨i, zs, rfl, hi, hz⟩ := hrel
    cases gk with
    | succ k1 =>
      have hd : decide (i < n) = true := decide_eq_true (by omega)
      obtain ⟨hu, hf⟩ := hz.out.2.1.at_ (k := i) (by have := hz.out.1; omega)
      obtain ⟨u, hu2⟩ : ∃ u, rd zs (i : Int) = u := ⟨_, rfl⟩
      rw [hu2] at hu
      clear hu2
      go_wp2
      go_roundg k1
      case measure => omega
      case rel =>
        refine ⟨i + 1, zs.set i (Go.bits .xor .u8 u ((i : Int) / 5 % 2)), rfl, by omega, ⟨by rw [List.length_set]; exact hz.out.1, hz.out.2.1.put (by have := hz.out.1; omega) _, hz.out.2.2.setCell (p := ⟨gs, i, none⟩) (fun _ => rfl) _⟩⟩
    | zero =>
      have hd : decide (i < n) = false := decide_eq_false (by omega)
      have hMz := Aside0.mk hz.out.2.1
      have hFr := Aside0.mk hz.out.2.2
      have hz0 := Aside0.mk hz.out.1
      have hMy := Aside0.mk (hMr6.out.fr hz.out.2.2 (by omega))
      obtain ⟨⟨D3, ed3⟩, hD3⟩ : ∃ p, diffA zs rs = p := ⟨_, rfl⟩
      have lD3 : D3.length ≤ 3072 := by have := diffA_len zs rs; rw [hD3] at this; exact this
      have hDz := Aside0.mk hD3
      have q5 : (ed3 == ed3) = true := by simp
      have hcs : n ≤ cs := by have := hMs.out.len; have := hnn.out; omega
      have hcr : m ≤ cr := by have := hMr.out.len; have := hmm.out; omega
      have kP := Diff_at (c := cs) (c' := cr) hMz.out.c rfl (by rw [hz0.out]; exact hcs) hMy.out.c rfl (by rw [← hmm.out]; exact hcr) hD3
      rw [hz0.out, ← hmm.out] at kP
      have hkP3 := Aside0.mk kP
      clear kP hD3 hz
      go_wp2_with (first | (go_at_call 11; ((with_reducible refine hkP3.out.mono ?_)); rintro e w7 ⟨v14, rfl, hR, hb⟩; have hR14 := Aside0.mk hR; have b7 := Aside0.mk hb; obtain ⟨A14, m14, c14, rfl, hm14, _⟩ := r42f hR; have kQ := RDiff_at (c := cs) (c' := cr) (hMz.out.below hb).c rfl (by rw [hz0.out]; exact hcs) (hMy.out.below hb).c rfl (by rw [← hmm.out]; exact hcr) hDz.out; rw [hz0.out, ← hmm.out] at kQ; have hkQ3 := Aside0.mk kQ; clear hR hb hm14 kQ) | (go_at_call 12; ((with_reducible refine hkQ3.out.mono ?_)); rintro e w8 ⟨v15, rfl, hR, hb⟩; have s4 := b4.out.size; have s5 := b5.out.size; have s6 := b6.out.size; have s7 := b7.out.size; have hsF := hFr.out.size; have hF8 : Fr W6 w8 (fun k => k = gs) := hFr.out.trans (Fr.of_below (b7.out.trans (hb.mono b7.out.size)) (fun k => k = gs)) (fun _ _ h => h); have h8 := Aside0.mk (h6.out.trans (hF8.below h6.out.size (fun k hk e => by have := h1.out.size; omega))); have r7 := Aside0.mk (R42_fr (Kd.R_below (Kd.R_below hR7.out b5.out) b6.out) hF8 (fun k h => by omega)); have r9 := Aside0.mk (R43_fr (Kd.R_below hR9.out b6.out) hF8 (fun k h => by omega)); have r11 := Aside0.mk (R42_fr hR11.out hF8 (fun k h => by omega)); have r14 := Aside0.mk (Kd.R_below hR14.out hb : R42 w8 _ _ _); have r15 := Aside0.mk hR; obtain ⟨A15, m15, c15, rfl, hm15, _⟩ := r43f hR; have p7 := Kd.R_reads' r7.out; have p9 := Kd.R_reads' r9.out; have p11 := Kd.R_reads' r11.out; have p14 := Kd.R_reads' r14.out; have p15 := Kd.R_reads' r15.out; have hk1 := Aside0.mk (fun (W : World) (hW : Below w8.heap.size w8 W) => same_at (W := W) (c := c14) (c' := c15) (Kd.C_below (by rw [p14.1]; exact p14.2.2) hW) p14.1 p14.2.1 (Kd.C_below (by rw [p15.1]; exact p15.2.2) hW) p15.1 p15.2.1 (by omega)); have hk2 := Aside0.mk (fun (W : World) (hW : Below w8.heap.size w8 W) => same_at (W := W) (c := c7) (c' := c9) (Kd.C_below (by rw [p7.1]; exact p7.2.2) hW) p7.1 p7.2.1 (Kd.C_below (by rw [p9.1]; exact p9.2.2) hW) p9.1 p9.2.1 (by omega)); have hk3 := Aside0.mk (fun (W : World) (hW : Below w8.heap.size w8 W) => same_at (W := W) (c := c11) (c' := c9) (Kd.C_below (by rw [p11.1]; exact p11.2.2) hW) p11.1 p11.2.1 (Kd.C_below (by rw [p9.1]; exact p9.2.2) hW) p9.1 p9.2.1 (by omega)); clear hR hb hm15 hF8 p7 p9 p11 p14 p15) | (go_at_call 14; ((with_reducible refine (hk1.out w8 (Below.refl _ _)).mono ?_)); rintro e w9 ⟨rfl, hb⟩; have b9 := Aside0.mk hb; clear hb) | (go_at_call 14; ((with_reducible refine (hk2.out w9 b9.out).mono ?_)); rintro e w10 ⟨rfl, hb⟩; have b10 := Aside0.mk (b9.out.trans (hb.mono b9.out.size)); clear hb) | (go_at_call 14; ((with_reducible refine (hk3.out w10 b10.out).mono ?_)); rintro e w11 ⟨rfl, hb⟩; have b11 := Aside0.mk (b10.out.trans (hb.mono b10.out.size)); have hAp := Aside0.mk (Gp.Apart3 (B := w3.heap.size) (Kd.R_below r7.out b11.out) (Kd.R_below r11.out b11.out) (Kd.R_below r14.out b11.out) (Kd.R_lt hR7.out) (Kd.R_lt hR11.out) (Kd.R_lt hR14.out) (.inl (by omega)) (.inl (by omega)) (.inl (by omega)) (by omega) (by omega) (by omega) (by omega) (by omega) (by omega)); clear hb) | (go_at_call 15; ((with_reducible refine hAp.out.mono ?_)); rintro e w12 ⟨rfl, hF⟩; have h12 := Aside0.mk ((h8.out.trans (b11.out.mono h8.out.size)).trans (hF.below (Nat.le_trans h8.out.size b11.out.size) (fun k hk e => by have := h3.out.size; omega))); clear hF))
      go_ret
      exact ⟨rfl, h12.out⟩
end Go.Proofs.Ytpjdgndbcjinjaa.Sh
