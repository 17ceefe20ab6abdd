/- wisplaw20.ShotPacks: the walk. -/
import Derived.Test.YtpjdgndbcjinjaaRp
import Derived.Test.YtpjdgndbcjinjaaFb
import Derived.Test.YtpjdgndbcjinjaaRv
namespace Go.Proofs.Ytpjdgndbcjinjaa.Sh
open Go.RowKit Go.Proofs.YtpjdgndbcjinjaaW.PrintWords Go.Proofs.YtpjdgndbcjinjaaW.PrintLast Go.Proofs.YtpjdgndbcjinjaaW.PrintMore Go.Proofs.Ytpjdgndbcjinjaa.Mem Go.Proofs.Ytpjdgndbcjinjaa.Ap Go.Proofs.Ytpjdgndbcjinjaa.P
set_option linter.unusedVariables false
set_option linter.unusedSimpArgs false
section
variable {W : World} {A : Option Addr} {n c : Nat} {zs l : List Int} {e : Int}
theorem fixed_atP (W : World) : Calls Try.prog 9 #[] W fun e w' => e = .returned (.bool true) ∧ Below W.heap.size W w' := wisplaw20_fixed.calls 3073 true W (fixed_ok 0)
theorem Pack_at (hC : CB W A n zs) (hn : n = zs.length) (hc : n ≤ c) (hs : packA zs = (l, e)) : Calls Try.prog 25 #[.slice A n c] W fun e' w' => ∃ v, e' = .returned (.tuple #[v, .int .i64 e]) ∧ RB w' W.heap.size v l ∧ Below W.heap.size W w' := by
  subst hn
  exact shot_Pack.calls A c zs l e W hC hc (by rw [Pack_any zs, hs])
theorem RPack_at (hC : CB W A n zs) (hn : n = zs.length) (hc : n ≤ c) (hs : packA zs = (l, e)) : Calls Try.prog 26 #[.slice A n c] W fun e' w' => ∃ v, e' = .returned (.tuple #[v, .int .i64 e]) ∧ RB w' W.heap.size v l ∧ Below W.heap.size W w' := by
  subst hn
  exact wispref20_Pack.calls 6145 A c zs l e W hC hc (by rw [RPack_any zs 6145 (Nat.le_refl _), hs])
theorem Un_at (hC : CB W A n zs) (hn : n = zs.length) (hc : n ≤ c) (hB : allB zs) (hl : n ≤ 140737488351232) (hs : unA zs = (l, e)) : Calls Try.prog 27 #[.slice A n c] W fun e' w' => ∃ v, e' = .returned (.tuple #[v, .int .i64 e]) ∧ RB w' W.heap.size v l ∧ Below W.heap.size W w' := by
  subst hn
  exact shot_Unpack.calls (zs.length + 2) A c zs l e W hC hc (by rw [Unpack_any zs hB hl _ (Nat.le_refl _), hs])
theorem RUn_at (hC : CB W A n zs) (hn : n = zs.length) (hc : n ≤ c) (hB : allB zs) (hl : n ≤ 140737488351232) (hs : unA zs = (l, e)) : Calls Try.prog 28 #[.slice A n c] W fun e' w' => ∃ v, e' = .returned (.tuple #[v, .int .i64 e]) ∧ RB w' W.heap.size v l ∧ Below W.heap.size W w' := by
  subst hn
  exact wispref20_Unpack.calls (300 * zs.length + 6200) A c zs l e W hC hc (by rw [RUnpack_any zs hB hl _ (Nat.le_refl _), hs])
end
theorem setBP {l : List Int} {i : Nat} {x : Int} (h : allB l) (hx : isB x) : allB (l.set i x) := fun y hy => by
  rcases List.mem_or_eq_of_mem_set hy with h1 | h1
  · exact h y h1
  · rw [h1]; exact hx
theorem xorB (a b : Int) : isB (Go.bits .xor .u8 a b) := by
  unfold Go.bits
  rw [IntKind.wrap_u8]
  exact ⟨by omega, by omega⟩
theorem rb_strP {W : World} {B : Nat} {A : Option Addr} {m c : Nat} {xs : List Int} {S : ByteArray} (h : RB W B (.slice A m c) xs) (hS : strOfNums xs = S) : (convert 22 9 (.slice A m c)).run Try.prog W = .ok (.string S) W := by
  obtain ⟨h1, _, h2⟩ := Kd.R_reads' h
  subst h1
  exact strf h2 hS
/-- Apart of six rows that have been handed out, made in the order a d b e c f -/
theorem Apart6 {W : World} {B1 B2 B3 B4 B5 B6 : Nat} {a b c d e f : Value} {x1 x2 x3 x4 x5 x6 : List Int} (ha : RB W B1 a x1) (hb : RB W B3 b x2) (hc : RB W B5 c x3) (hd : RB W B2 d x4) (he : RB W B4 e x5) (hf : RB W B6 f x6)
    (k1 : ∀ k, a.ownBlock = some k → k < B2) (k3 : ∀ k, b.ownBlock = some k → k < B4) (k2 : ∀ k, d.ownBlock = some k → k < B3) (k4 : ∀ k, e.ownBlock = some k → k < B5) (k5 : ∀ k, c.ownBlock = some k → k < B6)
    (s1 : B1 ≤ B2) (s2 : B2 ≤ B3) (s3 : B3 ≤ B4) (s4 : B4 ≤ B5) (s5 : B5 ≤ B6)
    (l1 : x1.length ≤ 100000) (l2 : x2.length ≤ 100000) (l3 : x3.length ≤ 100000) (l4 : x4.length ≤ 100000) (l5 : x5.length ≤ 100000) (l6 : x6.length ≤ 100000) :
    Calls Try.prog 19 #[.slice (some ⟨W.heap.size, 0, none⟩) 6 6] (W.alloc (.cells #[a, b, c, d, e, f] 22)) fun e w' => e = .returned (.bool true) ∧ Fr W w' (fun q => B1 ≤ q) := by
  have k6 := Kd.R_lt hf
  have hm : ∀ (p : Born), p ∈ ([((a, x1), B1, B2), ((b, x2), B3, B4), ((c, x3), B5, B6), ((d, x4), B2, B3), ((e, x5), B4, B5), ((f, x6), B6, W.heap.size)] : List Born) → p = ((a, x1), B1, B2) ∨ p = ((b, x2), B3, B4) ∨ p = ((c, x3), B5, B6) ∨ p = ((d, x4), B2, B3) ∨ p = ((e, x5), B4, B5) ∨ p = ((f, x6), B6, W.heap.size) := fun p hp => by simpa using hp
  refine ApartB (L := [((a, x1), B1, B2), ((b, x2), B3, B4), ((c, x3), B5, B6), ((d, x4), B2, B3), ((e, x5), B4, B5), ((f, x6), B6, W.heap.size)]) (fun p hp => ?_) ?_ (by simp) (fun p hp => ?_) (fun p hp => ?_)
  · rcases hm p hp with rfl | rfl | rfl | rfl | rfl | rfl
    · exact ⟨ha, k1⟩
    · exact ⟨hb, k3⟩
    · exact ⟨hc, k5⟩
    · exact ⟨hd, k2⟩
    · exact ⟨he, k4⟩
    · exact ⟨hf, k6⟩
  · refine List.Pairwise.cons ?_ (List.Pairwise.cons ?_ (List.Pairwise.cons ?_ (List.Pairwise.cons ?_ (List.Pairwise.cons ?_ (List.Pairwise.cons ?_ List.Pairwise.nil)))))
    all_goals
      intro q hq
      simp only [List.mem_cons, List.not_mem_nil, or_false] at hq
    · rcases hq with rfl | rfl | rfl | rfl | rfl <;> first | omega | (simp only; omega)
    · rcases hq with rfl | rfl | rfl | rfl <;> first | omega | (simp only; omega)
    · rcases hq with rfl | rfl | rfl <;> first | omega | (simp only; omega)
    · rcases hq with rfl | rfl <;> first | omega | (simp only; omega)
    · subst hq; first | omega | (simp only; omega)
  · rcases hm p hp with rfl | rfl | rfl | rfl | rfl | rfl <;> first | omega | (simp only; omega)
  · rcases hm p hp with rfl | rfl | rfl | rfl | rfl | rfl <;> first | omega | (simp only; omega)
set_option maxRecDepth 100000 in
set_option maxHeartbeats 4000000 in
theorem Packs {w : World} {A A1 : Option Addr} {c c1 : Nat} {xs rs : List Int} (hC : CB w A xs.length xs) (hc : xs.length ≤ c) (hB : allB xs) (hl : xs.length ≤ 140737488351232) (hC1 : CB w A1 rs.length rs) (hc1 : rs.length ≤ c1) (hB1 : allB rs) (hl1 : rs.length ≤ 140737488351232) :
    Calls Try.prog 7 #[.slice A xs.length c, .slice A1 rs.length c1] w fun e w' => e = .returned (.bool true) ∧ Below w.heap.size w w' := by
  obtain ⟨n, hn⟩ : ∃ n, n = xs.length := ⟨_, rfl⟩
  obtain ⟨m, hm⟩ : ∃ m, m = rs.length := ⟨_, rfl⟩
  rw [← hn, ← hm]
  rw [← hn] at hC hc hl
  rw [← hm] at hC1 hc1 hl1
  have hCC := Aside0.mk hC
  have hCC1 := Aside0.mk hC1
  have hBB := Aside0.mk hB
  have hBB1 := Aside0.mk hB1
  have hnn := Aside0.mk hn
  have hmm := Aside0.mk hm
  obtain ⟨⟨P0, ep⟩, hP⟩ : ∃ p, packA xs = p := ⟨_, rfl⟩
  obtain ⟨⟨U0, eu⟩, hU⟩ : ∃ p, unA rs = p := ⟨_, rfl⟩
  have lP : P0.length ≤ 6144 := by have := packA_len xs; rw [hP] at this; exact this
  have lU : U0.length ≤ 3072 := by have := unA_len rs; rw [hU] at this; exact this
  obtain ⟨SP, hSP⟩ : ∃ S, strOfNums P0 = S := ⟨_, rfl⟩
  obtain ⟨SU, hSU⟩ : ∃ S, strOfNums U0 = S := ⟨_, rfl⟩
  have hPP := Aside0.mk hP
  have hUU := Aside0.mk hU
  have hSPP := Aside0.mk hSP
  have hSUU := Aside0.mk hSU
  have q1 : (ep == ep) = true := by simp
  have q2 : (eu == eu) = true := by simp
  have q3 : (SP.toList == SP.toList) = true := by simp
  have q4 : (SU.toList == SU.toList) = true := by simp
  clear hC hC1 hB hB1 hn hm hP hU hSP hSU
  go_enter Try.func7, Try.ntmps7
  go_wp2_with (first | (go_at_call 9; ((with_reducible refine (fixed_atP w).mono ?_)); rintro e w1 ⟨rfl, hb1⟩; have h1 := Aside0.mk hb1; have kR := Ap.Roomy (c := c) (xs := xs) (by rw [← hnn.out]; exact Kd.C_below hCC.out hb1) (by rw [← hnn.out]; omega); rw [← hnn.out] at kR; have hkR := Aside0.mk kR; clear hb1 kR) | (go_at_call 10; ((with_reducible refine hkR.out.mono ?_)); rintro e w2 ⟨gs, cs, rfl, hM, hb⟩; have hMs := Aside0.mk hM; have h2 := Aside0.mk (h1.out.trans (hb.mono h1.out.size)); have kR2 := Ap.Roomy (c := c1) (xs := rs) (by rw [← hmm.out]; exact Kd.C_below hCC1.out h2.out) (by rw [← hmm.out]; omega); rw [← hmm.out] at kR2; have hkR2 := Aside0.mk kR2; clear hM hb kR2 hkR) | (go_at_call 10; ((with_reducible refine hkR2.out.mono ?_)); rintro e w3 ⟨gr, cr, rfl, hM, hb⟩; have hMr := Aside0.mk hM; have b3 := Aside0.mk hb; have h3 := Aside0.mk (h2.out.trans (hb.mono h2.out.size)); have kP := Pack_at (c := cs) (hMs.out.below hb).c rfl (by have := hMs.out.len; omega) hPP.out; rw [← hnn.out] at kP; have hkP := Aside0.mk kP; clear hM hb kP) | (go_at_call 25; ((with_reducible refine hkP.out.mono ?_)); rintro e w4 ⟨v7, rfl, hR, hb⟩; have hR7 := Aside0.mk hR; have b4 := Aside0.mk hb; obtain ⟨A7, m7, c7, rfl, hm7, _⟩ := rowf hR; have hkQ := Aside0.mk (RPack_at (c := c) (Kd.C_below hCC.out (h3.out.trans (hb.mono h3.out.size))) hnn.out hc hPP.out); clear hR hb hm7 hkP) | (go_at_call 26; ((with_reducible refine hkQ.out.mono ?_)); rintro e w5 ⟨v9, rfl, hR, hb⟩; have hR9 := Aside0.mk hR; have b5 := Aside0.mk hb; have B35 := Aside0.mk (b4.out.trans (hb.mono b4.out.size)); obtain ⟨A9, m9, c9, rfl, hm9, _⟩ := rowf hR; have kU := Un_at (c := cr) (hMr.out.below B35.out).c rfl (by have := hMr.out.len; omega) hBB1.out (by rw [← hmm.out]; exact hl1) hUU.out; rw [← hmm.out] at kU; have hkU := Aside0.mk kU; clear hR hb hm9 hkQ kU) | (go_at_call 27; ((with_reducible refine hkU.out.mono ?_)); rintro e w6 ⟨v11, rfl, hR, hb⟩; have hR11 := Aside0.mk hR; have b6 := Aside0.mk hb; have B36 := Aside0.mk (B35.out.trans (hb.mono B35.out.size)); obtain ⟨A11, m11, c11, rfl, hm11, _⟩ := rowf hR; have hkV := Aside0.mk (RUn_at (c := c1) (Kd.C_below hCC1.out (h3.out.trans (B36.out.mono h3.out.size))) hmm.out hc1 hBB1.out hl1 hUU.out); clear hR hb hm11 hkU) | (go_at_call 28; ((with_reducible refine hkV.out.mono ?_)); rintro e w7 ⟨v13, rfl, hR, hb⟩; have hR13 := Aside0.mk hR; have b7 := Aside0.mk hb; have B37 := Aside0.mk (B36.out.trans (hb.mono B36.out.size)); obtain ⟨A13, m13, c13, rfl, hm13, _⟩ := rowf hR; have kP := Pack_at (c := cs) ((hMs.out.below b3.out).below B37.out).c rfl (by have := hMs.out.len; omega) hPP.out; rw [← hnn.out] at kP; have hkP2 := Aside0.mk kP; clear hR hb hm13 hkV kP) | (go_at_call 25; ((with_reducible refine hkP2.out.mono ?_)); rintro e w8 ⟨v15, rfl, hR, hb⟩; have hR15 := Aside0.mk hR; have b8 := Aside0.mk hb; have B38 := Aside0.mk (B37.out.trans (hb.mono B37.out.size)); obtain ⟨A15, m15, c15, rfl, hm15, _⟩ := rowf hR; have kU := Un_at (c := cr) (hMr.out.below B38.out).c rfl (by have := hMr.out.len; omega) hBB1.out (by rw [← hmm.out]; exact hl1) hUU.out; rw [← hmm.out] at kU; have hkU2 := Aside0.mk kU; clear hR hb hm15 hkP2 kU) | (go_at_call 27; ((with_reducible refine hkU2.out.mono ?_)); rintro e w9 ⟨v17, rfl, hR, hb⟩; have hR17 := Aside0.mk hR; have b9 := Aside0.mk hb; have B39 := B38.out.trans (hb.mono B38.out.size); have h9 := Aside0.mk (h3.out.trans (B39.mono h3.out.size)); obtain ⟨A17, m17, c17, rfl, hm17, _⟩ := rowf hR; have hMs9 := Aside0.mk ((hMs.out.below b3.out).below B39); have hMr9 := Aside0.mk (hMr.out.below B39); have kW := Ap.Whole (c := c) hMs9.out (by rw [← hnn.out]; exact Kd.C_below hCC.out h9.out) (by rw [← hnn.out]; omega); rw [← hnn.out] at kW; have hkW := Aside0.mk kW; have kW2 := Ap.Whole (c := c1) hMr9.out (by rw [← hmm.out]; exact Kd.C_below hCC1.out h9.out) (by rw [← hmm.out]; omega); rw [← hmm.out] at kW2; have hkW2 := Aside0.mk kW2; have hs39 := B39.size; clear hR hb hm17 hkU2 kW kW2 B39) | (go_at_call 13; ((with_reducible refine hkW.out.mono ?_)); rintro e w10 ⟨rfl, rfl⟩) | (go_at_call 13; ((with_reducible refine hkW2.out.mono ?_)); rintro e w10 ⟨rfl, rfl⟩))
  have gs1 := hMs.out.base
  have gs2 := hMs.out.lt
  have gr1 := hMr.out.base
  have gr2 := hMr.out.lt
  obtain ⟨W9, rfl⟩ : ∃ W9, W9 = w9 := ⟨_, rfl⟩
  go_loopg [19] n (fun gk v19 wr => ∃ (i : Nat) (zs : List Int), v19 = .int .i64 (i : Int) ∧ i + gk = n ∧ Aside0 (zs.length = n ∧ allB zs ∧ IsM wr w1.heap.size gs cs zs ∧ Fr W9 wr (fun k => k = gs)))
  case atStart => exact ⟨0, xs, rfl, by omega, ⟨hnn.out.symm, hBB.out, hMs9.out, Fr.refl _ _⟩⟩
  case round =>
    obtain ⟨i, zs, rfl, hi, hz⟩ := hrel
    cases gk with
    | succ k1 =>
      have hd : decide (i < n) = true := decide_eq_true (by omega)
      obtain ⟨hu, hf⟩ := hz.out.2.2.1.at_ (k := i) (by have := hz.out.1; omega)
      obtain ⟨u, hu2⟩ : ∃ u, rd zs (i : Int) = u := ⟨_, rfl⟩
      rw [hu2] at hu
      clear hu2
      go_wp2
      go_roundg k1
      case measure => omega
      case rel =>
        refine ⟨i + 1, zs.set i (Go.bits .xor .u8 u ((i : Int) / 7 % 2)), rfl, by omega, ⟨by rw [List.length_set]; exact hz.out.1, setBP hz.out.2.1 (xorB _ _), hz.out.2.2.1.put (by have := hz.out.1; omega) _, hz.out.2.2.2.setCell (p := ⟨gs, i, none⟩) (fun _ => rfl) _⟩⟩
    | zero =>
      have hd : decide (i < n) = false := decide_eq_false (by omega)
      have hMz1 := Aside0.mk hz.out.2.2.1
      have hFr1 := Aside0.mk hz.out.2.2.2
      have hz0 := Aside0.mk hz.out.1
      have hz1 := Aside0.mk hz.out.2.1
      have hMr1 := Aside0.mk (hMr9.out.fr hz.out.2.2.2 (by omega))
      obtain ⟨W10, rfl⟩ : ∃ W10, W10 = wr := ⟨_, rfl⟩
      clear hz
      go_wp2
      go_loopg [20] (m + 2) (fun gk v20 wr => ∃ (i : Nat) (ys : List Int), v20 = .int .i64 (i : Int) ∧ i + gk = m + 3 ∧ Aside0 (ys.length = m ∧ allB ys ∧ IsM wr w2.heap.size gr cr ys ∧ Fr W10 wr (fun k => k = gr)))
      case atStart => exact ⟨1, rs, rfl, by omega, ⟨hmm.out.symm, hBB1.out, hMr1.out, Fr.refl _ _⟩⟩
      case round =>
        obtain ⟨i, ys, rfl, hi, hy⟩ := hrel
        by_cases him : i < m
        · have hd : decide (i < m) = true := decide_eq_true him
          obtain ⟨hu, hf⟩ := hy.out.2.2.1.at_ (k := i) (by have := hy.out.1; omega)
          obtain ⟨u, hu2⟩ : ∃ u, rd ys (i : Int) = u := ⟨_, rfl⟩
          rw [hu2] at hu
          clear hu2
          go_wp2
          go_roundg (gk - 2)
          case measure => omega
          case rel =>
            refine ⟨i + 2, ys.set i (Go.bits .xor .u8 u 1), rfl, by omega, ⟨by rw [List.length_set]; exact hy.out.1, setBP hy.out.2.1 (xorB _ _), hy.out.2.2.1.put (by have := hy.out.1; omega) _, hy.out.2.2.2.setCell (p := ⟨gr, i, none⟩) (fun _ => rfl) _⟩⟩
        · have hd : decide (i < m) = false := decide_eq_false him
          obtain ⟨⟨P3, ep3⟩, hP3⟩ : ∃ p, packA zs = p := ⟨_, rfl⟩
          obtain ⟨⟨U3, eu3⟩, hU3⟩ : ∃ p, unA ys = p := ⟨_, rfl⟩
          have lP3 : P3.length ≤ 6144 := by have := packA_len zs; rw [hP3] at this; exact this
          have lU3 : U3.length ≤ 3072 := by have := unA_len ys; rw [hU3] at this; exact this
          obtain ⟨SP3, hSP3⟩ : ∃ S, strOfNums P3 = S := ⟨_, rfl⟩
          obtain ⟨SU3, hSU3⟩ : ∃ S, strOfNums U3 = S := ⟨_, rfl⟩
          have hPz := Aside0.mk hP3
          have hUy := Aside0.mk hU3
          have hSPz := Aside0.mk hSP3
          have hSUy := Aside0.mk hSU3
          have q5 : (ep3 == ep3) = true := by simp
          have q6 : (eu3 == eu3) = true := by simp
          have q7 : (SP3.toList == SP3.toList) = true := by simp
          have q8 : (SU3.toList == SU3.toList) = true := by simp
          have hMz := Aside0.mk (hMz1.out.fr hy.out.2.2.2 (by omega))
          have hMy := Aside0.mk hy.out.2.2.1
          have hy0 := Aside0.mk hy.out.1
          have hy1 := Aside0.mk hy.out.2.1
          have hFr := Aside0.mk ((hFr1.out.mono (T := fun k => k = gs ∨ k = gr) (fun _ _ h => .inl h)).trans hy.out.2.2.2 (fun _ _ h => .inr h))
          have hcs : n ≤ cs := by have := hMs.out.len; have := hnn.out; omega
          have hcr : m ≤ cr := by have := hMr.out.len; have := hmm.out; omega
          have kP := Pack_at (c := cs) hMz.out.c rfl (by rw [hz0.out]; exact hcs) hP3
          rw [hz0.out] at kP
          have hkP3 := Aside0.mk kP
          clear kP hP3 hU3 hSP3 hSU3 hy
          go_wp2_with (first | (go_at_call 25; ((with_reducible refine hkP3.out.mono ?_)); rintro e w10 ⟨v21, rfl, hR, hb⟩; have hR21 := Aside0.mk hR; have b10 := Aside0.mk hb; obtain ⟨A21, m21, c21, rfl, hm21, _⟩ := rowf hR; have kQ := RPack_at (c := cs) (hMz.out.below hb).c rfl (by rw [hz0.out]; exact hcs) hPz.out; rw [hz0.out] at kQ; have hkQ3 := Aside0.mk kQ; clear hR hb hm21 kQ) | (go_at_call 26; ((with_reducible refine hkQ3.out.mono ?_)); rintro e w11 ⟨v22, rfl, hR, hb⟩; have hR22 := Aside0.mk hR; have b11 := Aside0.mk hb; have B11 := Aside0.mk (b10.out.trans (hb.mono b10.out.size)); obtain ⟨A22, m22, c22, rfl, hm22, _⟩ := rowf hR; have kU := Un_at (c := cr) (hMy.out.below B11.out).c rfl (by rw [hy0.out]; exact hcr) hy1.out (by rw [hy0.out]; exact hl1) hUy.out; rw [hy0.out] at kU; have hkU3 := Aside0.mk kU; clear hR hb hm22 kU) | (go_at_call 27; ((with_reducible refine hkU3.out.mono ?_)); rintro e w12 ⟨v23, rfl, hR, hb⟩; have hR23 := Aside0.mk hR; have b12 := Aside0.mk hb; have B12 := Aside0.mk (B11.out.trans (hb.mono B11.out.size)); obtain ⟨A23, m23, c23, rfl, hm23, _⟩ := rowf hR; have kU := RUn_at (c := cr) (hMy.out.below B12.out).c rfl (by rw [hy0.out]; exact hcr) hy1.out (by rw [hy0.out]; exact hl1) hUy.out; rw [hy0.out] at kU; have hkV3 := Aside0.mk kU; clear hR hb hm23 kU) | (go_at_call 28; ((with_reducible refine hkV3.out.mono ?_)); rintro e w13 ⟨v24, rfl, hR, hb⟩; have B13 := B12.out.trans (hb.mono B12.out.size); have s4 := b4.out.size; have s5 := b5.out.size; have s6 := b6.out.size; have s7 := b7.out.size; have s8 := b8.out.size; have s9 := b9.out.size; have s10 := b10.out.size; have s11 := b11.out.size; have s12 := b12.out.size; have hsF := hFr.out.size; have hF13 : Fr W9 w13 (fun k => k = gs ∨ k = gr) := hFr.out.trans (Fr.of_below B13 (fun k => k = gs ∨ k = gr)) (fun _ _ h => h); have r7 := RB_fr (Kd.R_below (Kd.R_below (Kd.R_below (Kd.R_below (Kd.R_below hR7.out b5.out) b6.out) b7.out) b8.out) b9.out) hF13 (fun k h => by omega); have r9 := RB_fr (Kd.R_below (Kd.R_below (Kd.R_below (Kd.R_below hR9.out b6.out) b7.out) b8.out) b9.out) hF13 (fun k h => by omega); have r11 := RB_fr (Kd.R_below (Kd.R_below (Kd.R_below hR11.out b7.out) b8.out) b9.out) hF13 (fun k h => by omega); have r13 := RB_fr (Kd.R_below (Kd.R_below hR13.out b8.out) b9.out) hF13 (fun k h => by omega); have r15 := RB_fr (Kd.R_below hR15.out b9.out) hF13 (fun k h => by omega); have r17 := RB_fr hR17.out hF13 (fun k h => by omega); have r21 := Kd.R_below (Kd.R_below (Kd.R_below hR21.out b11.out) b12.out) hb; have r22 := Kd.R_below (Kd.R_below hR22.out b12.out) hb; have r23 := Kd.R_below hR23.out hb; have r24 := hR; obtain ⟨A24, m24, c24, rfl, hm24, _⟩ := rowf hR; have h13 := Aside0.mk (h9.out.trans (hF13.below h9.out.size (fun k hk e => by have := h1.out.size; have := h2.out.size; omega))); have t7 := rb_strP r7 hSPP.out; have t9 := rb_strP r9 hSPP.out; have t15 := rb_strP r15 hSPP.out; have t11 := rb_strP r11 hSUU.out; have t13 := rb_strP r13 hSUU.out; have t17 := rb_strP r17 hSUU.out; have t21 := rb_strP r21 hSPz.out; have t22 := rb_strP r22 hSPz.out; have t23 := rb_strP r23 hSUy.out; have t24 := rb_strP r24 hSUy.out; have hAp := Aside0.mk (Apart6 r7 r15 r21 r11 r17 r23 (fun k hk => by have := Kd.R_lt hR7.out k hk; omega) (fun k hk => by have := Kd.R_lt hR15.out k hk; omega) (fun k hk => by have := Kd.R_lt hR11.out k hk; omega) (fun k hk => by have := Kd.R_lt hR17.out k hk; omega) (fun k hk => by have := Kd.R_lt hR21.out k hk; omega) (by omega) (by omega) (by omega) (by omega) (by omega) (by omega) (by omega) (by omega) (by omega) (by omega) (by omega)); clear hR hb hm24 B13 hF13 r7 r9 r11 r13 r15 r17 r21 r22 r23 r24) | (go_at_call 19; ((with_reducible refine hAp.out.mono ?_)); rintro e w14 ⟨rfl, hF⟩; have h14 := Aside0.mk (h13.out.trans (hF.below h13.out.size (fun k hk e => by have := h3.out.size; omega))); clear hF))
          go_ret
          exact ⟨rfl, h14.out⟩
end Go.Proofs.Ytpjdgndbcjinjaa.Sh
