/- wisplaw20.ShotApplies: the walk. -/
import Derived.Test.YtpjdgndbcjinjaaCg
import Derived.Test.YtpjdgndbcjinjaaDw
import Derived.BigRegion
namespace Go.Proofs.Ytpjdgndbcjinjaa.Sh
open Go.RowKit Go.Proofs.YtpjdgndbcjinjaaW.PrintWords Go.Proofs.YtpjdgndbcjinjaaW.PrintLast Go.Proofs.YtpjdgndbcjinjaaW.PrintMore Go.Proofs.Ytpjdgndbcjinjaa.Mem Go.Proofs.Ytpjdgndbcjinjaa.P
open Go.Proofs.Ytpjdgndbcjinjaa.Ap (RB CB IsM cut_cap rowf strf Fresh ApartL)
set_option linter.unusedVariables false
set_option linter.unusedSimpArgs false
section
variable {W : World} {A A' : Option Addr} {n c n' c' : Nat} {xs : List Int} {r : List Int} {l : List S42} {e : Int}
theorem Apply_at (hC : CB W A n xs) (hn : n = xs.length) (hc : n ≤ c) (hC' : k42.C W A' n' l) (hn' : n' = l.length) (hc' : n' ≤ c') (hl : l.length ≤ 4611686018427387900) (hs : applyA xs l = (r, e)) : Calls Try.prog 17 #[.slice A n c, .slice A' n' c'] W fun e' w' => ∃ v, e' = .returned (.tuple #[v, .int .i64 e]) ∧ RB w' W.heap.size v r ∧ Below W.heap.size W w' := by
  subst hn hn'
  exact shot_Apply.calls (l.length + 1) A c xs A' c' l r e W hC hc hC' hc' (by rw [Apply_any xs l hl _ (Nat.le_refl _), hs])
theorem RApply_at (hC : CB W A n xs) (hn : n = xs.length) (hc : n ≤ c) (hC' : k43.C W A' n' (l.map to43)) (hn' : n' = l.length) (hc' : n' ≤ c') (hl : l.length ≤ 4611686018427387900) (hs : applyA xs l = (r, e)) : Calls Try.prog 18 #[.slice A n c, .slice A' n' c'] W fun e' w' => ∃ v, e' = .returned (.tuple #[v, .int .i64 e]) ∧ RB w' W.heap.size v r ∧ Below W.heap.size W w' := by
  subst hn
  have hm : n' = (l.map to43).length := by rw [List.length_map]; exact hn'
  subst hm
  exact wispref20_Apply.calls (l.length + 1) A c xs A' c' (l.map to43) r e W hC hc hC' hc' (by rw [RApply_any xs l hl _ (Nat.le_refl _), hs])
end
namespace IsC
variable {W W' : World} {B g cap : Nat} {l : List S42}
theorem base (h : IsC W B g cap l) : B ≤ g := Kd.R_base h g rfl
theorem lt (h : IsC W B g cap l) : g < W.heap.size := Kd.R_lt h g rfl
theorem len (h : IsC W B g cap l) : l.length + 1 ≤ cap := (Kd.R_reads' h).2.1
theorem all (h : IsC W B g cap l) : k42.C W (some ⟨g, 0, none⟩) (l.length + 1) (l ++ [mkC]) := by
  have h1 := (Kd.R_reads' h).2.2
  rw [show (l ++ [mkC]).length = l.length + 1 by simp] at h1
  exact h1
theorem c (h : IsC W B g cap l) : k42.C W (some ⟨g, 0, none⟩) l.length l := by
  have h1 := (Kd.R_reads' h).2.2
  have h2 := Kd.C_take (m := l.length) h1 (by simp)
  rw [List.take_left' rfl] at h2
  exact h2
theorem fr {S : Nat → Prop} (h : IsC W B g cap l) (hf : Fr W W' S) (hg : ¬ S g) : IsC W' B g cap l :=
  Kd.R_mono (hf.row (Kd.R_tight rfl h) (fun k e _ => by simp [Value.ownBlock] at e; subst e; exact hg)) (fun _ _ => trivial)
theorem below (h : IsC W B g cap l) (hb : Below W.heap.size W W') : IsC W' B g cap l := Kd.R_below h hb
end IsC
/-- a field of an element is written -/
theorem put42 {W : World} {B g n cap i : Nat} {l : List S42} (h : Q42 W B (.slice (some ⟨g, 0, none⟩) n cap) l) (hi : i < n) (y : Int) :
    Q42 (W.setCell ⟨g, i * 4 + 3, none⟩ (.int .u8 y)) B (.slice (some ⟨g, 0, none⟩) n cap) (l.set i { rd_T42 l (i : Int) with f3 := y }) ∧ W.grownBy (W.setCell ⟨g, i * 4 + 3, none⟩ (.int .u8 y)) (some g) := by
  obtain ⟨cs, hcl, hM, hcc, _⟩ := Kd.R_elem h z42 (i : Int) (by omega) (by omega)
  have hM2 : k42.M W B (fun k => True ∧ k ≠ g) (rd_T42 l (i : Int)) cs := hM
  obtain rfl := k42_openM hM2
  have h2 := Kd.R_seg (okp := fun _ => False) (j := 3) (seg := [.int .u8 y]) h (i : Int) (by omega) (by omega) hcl hcc (Nat.le_refl 4) (x' := { rd_T42 l (i : Int) with f3 := y }) (k42_mkM _ _ _ { rd_T42 l (i : Int) with f3 := y }) (fun _ hk => hk.elim)
  rw [Int.toNat_natCast] at h2
  exact h2
theorem at42 {W : World} {B g n cap i : Nat} {l : List S42} (h : Q42 W B (.slice (some ⟨g, 0, none⟩) n cap) l) (hi : i < n) : W.cell? ⟨g, i * 4 + 3, none⟩ = some (.int .u8 (rd_T42 l (i : Int)).f3) ∧ W.frozen? ⟨g, i * 4 + 3, none⟩ = false := by
  obtain ⟨cs, hcl, hM, hcc, hf⟩ := Kd.R_elem h z42 (i : Int) (by omega) (by omega)
  have hM2 : k42.M W B (fun k => True ∧ k ≠ g) (rd_T42 l (i : Int)) cs := hM
  obtain rfl := k42_openM hM2
  exact ⟨hcc 3 _ rfl, hf 3⟩
abbrev Q43 (W : World) (B : Nat) (v : Value) (l : List S43) : Prop := k43.R 43 W B (fun _ => True) v l
theorem put43 {W : World} {B g n cap i : Nat} {l : List S43} (h : Q43 W B (.slice (some ⟨g, 0, none⟩) n cap) l) (hi : i < n) (y : Int) :
    Q43 (W.setCell ⟨g, i * 4 + 3, none⟩ (.int .u8 y)) B (.slice (some ⟨g, 0, none⟩) n cap) (l.set i { rd_T43 l (i : Int) with f3 := y }) ∧ W.grownBy (W.setCell ⟨g, i * 4 + 3, none⟩ (.int .u8 y)) (some g) := by
  obtain ⟨cs, hcl, hM, hcc, _⟩ := Kd.R_elem h z43 (i : Int) (by omega) (by omega)
  have hM2 : k43.M W B (fun k => True ∧ k ≠ g) (rd_T43 l (i : Int)) cs := hM
  obtain rfl := k43_openM hM2
  have h2 := Kd.R_seg (okp := fun _ => False) (j := 3) (seg := [.int .u8 y]) h (i : Int) (by omega) (by omega) hcl hcc (Nat.le_refl 4) (x' := { rd_T43 l (i : Int) with f3 := y }) (k43_mkM _ _ _ { rd_T43 l (i : Int) with f3 := y }) (fun _ hk => hk.elim)
  rw [Int.toNat_natCast] at h2
  exact h2
theorem at43 {W : World} {B g n cap i : Nat} {l : List S43} (h : Q43 W B (.slice (some ⟨g, 0, none⟩) n cap) l) (hi : i < n) : W.cell? ⟨g, i * 4 + 3, none⟩ = some (.int .u8 (rd_T43 l (i : Int)).f3) ∧ W.frozen? ⟨g, i * 4 + 3, none⟩ = false := by
  obtain ⟨cs, hcl, hM, hcc, hf⟩ := Kd.R_elem h z43 (i : Int) (by omega) (by omega)
  have hM2 : k43.M W B (fun k => True ∧ k ≠ g) (rd_T43 l (i : Int)) cs := hM
  obtain rfl := k43_openM hM2
  exact ⟨hcc 3 _ rfl, hf 3⟩
theorem made43 (w : World) : Q43 (w.alloc (.cells #[] 43)) w.heap.size (.slice (some ⟨w.heap.size, 0, none⟩) 0 0) ([] : List S43) :=
  ⟨fun _ _ => trivial, [], World.ownsRow_made w #[] (e := 43) (size := k43.sz) 0 (Nat.le_refl _) (Nat.zero_le _) rfl, Reps.none _ _⟩
/-- both lists, in step -/
structure InStep (W : World) (Bl Bo gl cap : Nat) (v : Value) (n : Nat) (l : List S42) : Prop where
  C : IsC W Bl gl cap l
  O : Q43 W Bo v (l.map to43)
  len : l.length = n
theorem InStep.put {W : World} {Bl Bo gl go cap co n i : Nat} {l : List S42} (h : InStep W Bl Bo gl cap (.slice (some ⟨go, 0, none⟩) n co) n l) (hi : i < n) (hne : gl ≠ go) (y : Int) :
    InStep ((W.setCell ⟨gl, i * 4 + 3, none⟩ (.int .u8 y)).setCell ⟨go, i * 4 + 3, none⟩ (.int .u8 y)) Bl Bo gl cap (.slice (some ⟨go, 0, none⟩) n co) n (l.set i { rd_T42 l (i : Int) with f3 := y }) := by
  have hl := h.len
  obtain ⟨a1, a2⟩ := put42 (i := i) h.C (by omega) y
  have hO1 : Q43 (W.setCell ⟨gl, i * 4 + 3, none⟩ (.int .u8 y)) Bo (.slice (some ⟨go, 0, none⟩) n co) (l.map to43) :=
    Kd.R_mono (Kd.R_grown (Kd.R_mono (Kd.R_tight rfl h.O) (ok' := fun q => q = go) (fun q hq => by simpa [Value.ownBlock] using hq)) a2 (fun q hq e => by cases e; exact hne hq)) (fun _ _ => trivial)
  obtain ⟨b1, b2⟩ := put43 (i := i) hO1 hi y
  have e1 : (l ++ [mkC]).set i { rd_T42 (l ++ [mkC]) (i : Int) with f3 := y } = l.set i { rd_T42 l (i : Int) with f3 := y } ++ [mkC] := by
    rw [List.set_append_left _ _ (by omega)]
    congr 2
    have : rd_T42 (l ++ [mkC]) (i : Int) = rd_T42 l (i : Int) := by
      unfold rd_T42
      rw [Int.toNat_natCast, List.getD_eq_getElem?_getD, List.getD_eq_getElem?_getD, List.getElem?_append_left (by omega)]
    rw [this]
  have e2 : (l.map to43).set i { rd_T43 (l.map to43) (i : Int) with f3 := y } = (l.set i { rd_T42 l (i : Int) with f3 := y }).map to43 := by
    rw [rd42, List.map_set]; rfl
  rw [e1] at a1
  rw [e2] at b1
  refine ⟨?_, b1, by rw [List.length_set]; exact hl⟩
  unfold IsC
  rw [List.length_set]
  exact Kd.R_mono (Kd.R_grown (Kd.R_mono (Kd.R_tight rfl a1) (ok' := fun q => q = gl) (fun q hq => by simpa [Value.ownBlock] using hq)) b2 (fun q hq e => by cases e; exact hne hq.symm)) (fun _ _ => trivial)
theorem rd_mk {l : List S42} {i : Nat} (hi : i < l.length) : rd_T42 (l ++ [mkC]) (i : Int) = rd_T42 l (i : Int) := by
  unfold rd_T42
  rw [Int.toNat_natCast, List.getD_eq_getElem?_getD, List.getD_eq_getElem?_getD, List.getElem?_append_left hi]
theorem InStep.drew {W : World} {Bl Bo gl cap n : Nat} {v : Value} {l : List S42} (h : InStep W Bl Bo gl cap v n l) : InStep W.drew Bl Bo gl cap v n l :=
  ⟨h.C.below (below_drew1 (Below.refl _ _)), Kd.R_below h.O (below_drew1 (Below.refl _ _)), h.len⟩
theorem fresh3Y {W W1 W2 W3 : World} {B1 B2 B3 : Nat} {a b c : Value} {x y z : List Int} (ha : RB W B1 a x) (hb : RB W B2 b y) (hc : RB W B3 c z) (h1 : ∀ k, a.ownBlock = some k → k < B2) (h2 : ∀ k, b.ownBlock = some k → k < B3) (h3 : B2 ≤ B3) : Fresh W [(a, x), (b, y), (c, z)] := by
  refine ⟨fun p hp => ?_, ?_⟩
  · simp only [List.mem_cons, List.not_mem_nil, or_false] at hp
    rcases hp with rfl | rfl | rfl
    · exact Kd.R_lower ha (Nat.zero_le _)
    · exact Kd.R_lower hb (Nat.zero_le _)
    · exact Kd.R_lower hc (Nat.zero_le _)
  · have k2 := Kd.R_base hb
    have k3 := Kd.R_base hc
    refine List.Pairwise.cons (fun p hp k hk e => ?_) (List.Pairwise.cons (fun p hp k hk e => ?_) (List.Pairwise.cons (fun p hp => by cases hp) List.Pairwise.nil))
    · simp only [List.mem_cons, List.not_mem_nil, or_false] at hp
      have := h1 k hk
      rcases hp with rfl | rfl
      · have := k2 k e; omega
      · have := k3 k e; omega
    · simp only [List.mem_cons, List.not_mem_nil, or_false] at hp
      subst hp
      have := h2 k hk
      have := k3 k e
      omega
theorem mem3Y {p a b c : Value × List Int} (h : p ∈ [a, b, c]) : p = a ∨ p = b ∨ p = c := by simpa using h
theorem rb_strPY {W : World} {B : Nat} {A : Option Addr} {m c : Nat} {xs : List Int} {S : ByteArray} (h : RB W B (.slice A m c) xs) (hS : strOfNums xs = S) : (convert 22 9 (.slice A m c)).run Try.prog W = .ok (.string S) W := by
  obtain ⟨h1, _, h2⟩ := Kd.R_reads' h
  subst h1
  exact strf h2 hS
/-- Apart of three rows that have been handed out -/
theorem Apart3Y {W : World} {B1 B2 B3 : Nat} {a b c : Value} {x y z : List Int} (ha : RB W B1 a x) (hb : RB W B2 b y) (hc : RB W B3 c z) (h1 : ∀ k, a.ownBlock = some k → k < B2) (h2 : ∀ k, b.ownBlock = some k → k < B3) (h3 : B2 ≤ B3) (h4 : B1 ≤ B2)
    (hx : x.length ≤ 140737488351232) (hy : y.length ≤ 140737488351232) (hz : z.length ≤ 140737488351232) :
    Calls Try.prog 19 #[.slice (some ⟨W.heap.size, 0, none⟩) 3 3] (W.alloc (.cells #[a, b, c] 22)) fun e w' => e = .returned (.bool true) ∧ Fr W w' (fun q => B1 ≤ q) := by
  have h := ApartL (fresh3Y (W1 := W) (W2 := W) (W3 := W) ha hb hc h1 h2 h3) (by simp) (fun p hp => by rcases mem3Y hp with rfl | rfl | rfl <;> assumption)
  refine Calls.mono h (fun e w' ⟨he, hF⟩ => ⟨he, hF.mono (fun q _ ⟨p, hp, e⟩ => ?_)⟩)
  rcases mem3Y hp with rfl | rfl | rfl
  · exact Kd.R_base ha q e
  · have := Kd.R_base hb q e; omega
  · have := Kd.R_base hc q e; omega
/-- a mark behind the changes is read -/
theorem mkAt {W : World} {B g cap : Nat} {l : List S42} (h : IsC W B g cap l) : W.cell? ⟨g, l.length * 4, none⟩ = some (.int .i64 777) := by
  obtain ⟨ad, e, hc, _⟩ := at_T42 h.all (l.length : Int) (by omega) (by omega)
  cases e
  rw [Int.toNat_natCast, add_plain] at hc
  rw [hc]
  show some (Value.int .i64 (rd_T42 (l ++ [mkC]) (l.length : Int)).f0) = _
  unfold rd_T42
  rw [Int.toNat_natCast, List.getD_eq_getElem?_getD, List.getElem?_append_right (Nat.le_refl _)]
  simp [mkC]
set_option maxRecDepth 100000 in
set_option maxHeartbeats 4000000 in
theorem Applies {w : World} {A A1 : Option Addr} {c c1 : Nat} {xs : List Int} {l : List S42} (hC : CB w A xs.length xs) (hc : xs.length ≤ c) (hl : xs.length ≤ 140737488351232) (hC1 : k43.C w A1 l.length (l.map to43)) (hc1 : l.length ≤ c1) (hl1 : (l.length + 1) * 24 ≤ 140737488355328) :
    Calls Try.prog 4 #[.slice A xs.length c, .slice A1 l.length c1] w fun e w' => e = .returned (.bool true) ∧ Below w.heap.size w w' := by
  obtain ⟨i42, hi42, hi42a, hi42b, hi42c⟩ := info_parts info42
  obtain ⟨n, hn⟩ : ∃ n, n = xs.length := ⟨_, rfl⟩
  obtain ⟨m, hm⟩ : ∃ m, m = l.length := ⟨_, rfl⟩
  rw [← hn, ← hm]
  rw [← hn] at hC hc hl
  rw [← hm] at hC1 hc1 hl1
  have hm63 : m ≤ 5864062014805 := by omega
  have hCC := Aside0.mk hC
  have hCC1 := Aside0.mk hC1
  have hnn := Aside0.mk hn
  have hmm := Aside0.mk hm
  have hml := Aside0.mk hl1
  obtain ⟨⟨P0, ep⟩, hP⟩ : ∃ p, applyA xs l = p := ⟨_, rfl⟩
  have lP : P0.length ≤ 3072 := by have := applyA_len xs l; rw [hP] at this; exact this
  obtain ⟨SP, hSP⟩ : ∃ S, strOfNums P0 = S := ⟨_, rfl⟩
  have hPP := Aside0.mk hP
  have hSPP := Aside0.mk hSP
  have q1 : (ep == ep) = true := by simp
  have q3 : (SP.toList == SP.toList) = true := by simp
  clear hC hC1 hn hm hP hSP hl1
  go_enter Try.func4, Try.ntmps4
  go_wp2_with (first | (go_at_call 9; ((with_reducible refine (fixed_atD w).mono ?_)); rintro e w1 ⟨rfl, hb1⟩; have h1 := Aside0.mk hb1; have kR := Ap.Roomy (c := c) (xs := xs) (by rw [← hnn.out]; exact Kd.C_below hCC.out hb1) (by rw [← hnn.out]; omega); rw [← hnn.out] at kR; have hkR := Aside0.mk kR; clear hb1 kR) | (go_at_call 10; ((with_reducible refine hkR.out.mono ?_)); rintro e w2 ⟨gs, cs, rfl, hM, hb⟩; have hMs := Aside0.mk hM; have h2 := Aside0.mk (h1.out.trans (hb.mono h1.out.size)); have kR2 := changes (c := c1) (l := l) (by rw [← hmm.out]; exact Kd.C_below hCC1.out h2.out) (by rw [← hmm.out]; exact hml.out); rw [← hmm.out] at kR2; have hkR2 := Aside0.mk kR2; clear hM hb kR2 hkR) | (go_at_call 16; ((with_reducible refine hkR2.out.mono ?_)); rintro e w3 ⟨gl, cl, rfl, hM, hb⟩; have hMl := Aside0.mk hM; have b3 := Aside0.mk hb; have h3 := Aside0.mk (h2.out.trans (hb.mono h2.out.size)); have hMs3 := Aside0.mk (hMs.out.below hb); have kP := Apply_at (c := cs) (c' := cl) hMs3.out.c rfl (by have := hMs.out.len; omega) hM.c rfl (by have := hM.len; omega) (by have := hmm.out; omega) hPP.out; rw [← hnn.out, ← hmm.out] at kP; have hkP := Aside0.mk kP; clear hM hb kP) | (go_at_call 17; ((with_reducible refine hkP.out.mono ?_)); rintro e w4 ⟨v7, rfl, hR, hb⟩; have hR7 := Aside0.mk hR; have b4 := Aside0.mk hb; have h4 := Aside0.mk (h3.out.trans (hb.mono h3.out.size)); obtain ⟨A7, m7, c7, rfl, hm7, _⟩ := rowf hR; have hkQ := Aside0.mk (RApply_at (c := c) (c' := c1) (l := l) (Kd.C_below hCC.out h4.out) hnn.out hc (Kd.C_below hCC1.out h4.out) hmm.out hc1 (by have := hmm.out; omega) hPP.out); clear hR hb hm7 hkP) | (go_at_call 18; ((with_reducible refine hkQ.out.mono ?_)); rintro e w5 ⟨v9, rfl, hR, hb⟩; have hR9 := Aside0.mk hR; have b5 := Aside0.mk hb; have B35 := Aside0.mk (b4.out.trans (hb.mono b4.out.size)); obtain ⟨A9, m9, c9, rfl, hm9, _⟩ := rowf hR; have kU := Apply_at (c := cs) (c' := cl) (hMs3.out.below B35.out).c rfl (by have := hMs.out.len; omega) (hMl.out.below B35.out).c rfl (by have := hMl.out.len; omega) (by have := hmm.out; omega) hPP.out; rw [← hnn.out, ← hmm.out] at kU; have hkU := Aside0.mk kU; clear hR hb hm9 hkQ kU) | (go_at_call 17; ((with_reducible refine hkU.out.mono ?_)); rintro e w6 ⟨v11, rfl, hR, hb⟩; have hR11 := Aside0.mk hR; have b6 := Aside0.mk hb; have B36 := B35.out.trans (hb.mono B35.out.size); have h6 := Aside0.mk (h3.out.trans (B36.mono h3.out.size)); obtain ⟨A11, m11, c11, rfl, hm11, _⟩ := rowf hR; have hMs6 := Aside0.mk (hMs3.out.below B36); have hMl6 := Aside0.mk (hMl.out.below B36); have kW := Ap.Whole (c := c) hMs6.out (by rw [← hnn.out]; exact Kd.C_below hCC.out h6.out) (by rw [← hnn.out]; omega); rw [← hnn.out] at kW; have hkW := Aside0.mk kW; have kS := same_at (c := cl) (c' := c1) hMl6.out.c rfl (by have := hMl.out.len; omega) (by have := Kd.C_below hCC1.out h6.out; exact this) (by rw [List.length_map]; exact hmm.out) hc1 (by have := hmm.out; omega); rw [← hmm.out] at kS; have hkS := Aside0.mk kS; have hs36 := B36.size; clear hR hb hm11 hkU kW kS B36) | (go_at_call 13; ((with_reducible refine hkW.out.mono ?_)); rintro e w10 ⟨rfl, rfl⟩) | (go_at_call 14; ((with_reducible refine hkS.out.mono ?_)); rintro e w7 ⟨rfl, hb⟩; have b7 := Aside0.mk hb; have hMl7 := Aside0.mk (hMl6.out.below hb); have hMs7 := Aside0.mk (hMs6.out.below hb); have h7 := Aside0.mk (h6.out.trans (hb.mono h6.out.size)); have hs67 := hb.size; have hk0 := mkAt hMl7.out; rw [← hmm.out] at hk0; have qs := cut_cap (P := Try.prog) 25 42 .i64 Try.underlying25 hi42 (some ⟨gl, 0, none⟩) m cl (m + 1) (by omega) (by have := hMl.out.len; have := hmm.out; omega); rw [show ((m : Int) + 1).toNat = m + 1 by omega] at qs; clear hb) | (at_builtin; go_must (refine Kd.R_append_rows (P := Try.prog) (Rr := k43.K (w7.alloc (.cells #[] 43))) k43 (w0 := w7) w7.heap.size rfl _ _ 29 43 (.agg #[(.int .i64 0), (.int .i64 0), (.int .u8 0), (.int .u8 0)]) 24 rfl Try.underlying29 info43 rfl (by decide) (by decide) (.slice (some ⟨w7.heap.size, 0, none⟩) 0 0) ([] : List S43) (l.map to43) A1 m c1 (fun _ => True) (fun _ => False) rfl rfl (made43 w7) (Kd.C_below hCC1.out (below_alloc h7.out _)) (fun x cs hx => by obtain rfl := k43_open hx; exact k43_mkM _ _ _ x) (fun _ h => h.elim) (fun _ _ => trivial) (below_alloc (Below.refl _ _) _) (by rw [World.size_alloc]; omega) (by simp; omega) ?_); intro v13 w8 hR hb _ _; rw [List.nil_append] at hR; have hO8 := Aside0.mk hR; have b8 := Aside0.mk hb; have hs78 := hb.size; have hMl8 := Aside0.mk (hMl7.out.below hb); have hMs8 := Aside0.mk (hMs7.out.below hb); clear hR hb))
  obtain ⟨W7, rfl⟩ : ∃ W7, W7 = w7 := ⟨_, rfl⟩
  have gl1 := hMl.out.base
  have gl2 := hMl.out.lt
  have gs1 := hMs.out.base
  have gs2 := hMs.out.lt
  have s3 := b3.out.size
  have s4 := b4.out.size
  have s5 := b5.out.size
  have s6 := b6.out.size
  go_loopg [14] m (fun gk v14 wr => ∃ (i : Nat) (l' : List S42), v14 = .int .i64 (i : Int) ∧ i + gk = m ∧ Aside0 (InStep wr w2.heap.size W7.heap.size gl cl v13 m l' ∧ Fr W7 wr (fun k => k = gl)))
  case atStart => exact ⟨0, l, rfl, by omega, ⟨⟨hMl8.out, hO8.out, hmm.out.symm⟩, Fr.of_below b8.out _⟩⟩
  case round =>
    obtain ⟨i, l', rfl, hi, hz⟩ := hrel
    cases gk with
    | succ k1 =>
      have hd : decide (i < m) = true := decide_eq_true (by omega)
      have hlen := hz.out.1.len
      have hlen2 : (l'.map to43).length = m := by rw [List.length_map]; exact hlen
      obtain ⟨go, co, e13, _, _, _⟩ := Kd.R_form hz.out.1.O (by omega)
      rw [hlen2] at e13
      subst e13
      have hgo := Kd.R_base hz.out.1.O go rfl
      have hne : ¬ gl = go := by omega
      have hne2 : ¬ go = gl := by omega
      have hI0 : (0 : Int) ≤ (i : Int) := Int.natCast_nonneg i
      have hI1 : (i : Int) < (m : Int) := by omega
      have hI2 : i < m := by omega
      obtain ⟨hu, hf⟩ := at42 (i := i) hz.out.1.C (by omega)
      obtain ⟨hu2, hf2⟩ := at43 (i := i) hz.out.1.O (by omega)
      obtain ⟨u1, hu1⟩ : ∃ u, (rd_T42 (l' ++ [mkC]) (i : Int)).f3 = u := ⟨_, rfl⟩
      obtain ⟨u2, hu3⟩ : ∃ u, (rd_T43 (l'.map to43) (i : Int)).f3 = u := ⟨_, rfl⟩
      rw [hu1] at hu
      rw [hu3] at hu2
      have hu1a := Aside0.mk hu1
      have hu3a := Aside0.mk hu3
      clear hu1 hu3 hlen2
      go_wp2
      go_region
      go_wp2
      go_roundg k1
      case measure => omega
      case rel =>
        have e1 : u2 = u1 := by rw [← hu1a.out, ← hu3a.out, rd42, rd_mk (by omega)]; rfl
        subst e1
        exact ⟨i + 1, _, rfl, by omega, ⟨(hz.out.1.put hI2 hne ((u2 + 1) % 256)).drew, (((hz.out.2.setCell (p := ⟨gl, i * 4 + 3, none⟩) (fun _ => rfl) _).setCell (p := ⟨go, i * 4 + 3, none⟩) (fun h => absurd (show go < _ from h) (by omega)) _).drew)⟩⟩
    | zero =>
      have hd : decide (i < m) = false := decide_eq_false (by omega)
      have hzC := Aside0.mk hz.out.1.C
      have hzO := Aside0.mk hz.out.1.O
      have hzl := Aside0.mk hz.out.1.len
      have hFr := Aside0.mk hz.out.2
      obtain ⟨⟨P3, ep3⟩, hP3⟩ : ∃ p, applyA xs l' = p := ⟨_, rfl⟩
      have lP3 : P3.length ≤ 3072 := by have := applyA_len xs l'; rw [hP3] at this; exact this
      obtain ⟨SP3, hSP3⟩ : ∃ S, strOfNums P3 = S := ⟨_, rfl⟩
      have hPz := Aside0.mk hP3
      have hSPz := Aside0.mk hSP3
      have q5 : (ep3 == ep3) = true := by simp
      have q7 : (SP3.toList == SP3.toList) = true := by simp
      have hMz := Aside0.mk (hMs7.out.fr hz.out.2 (by omega))
      have hw := Aside0.mk (h7.out.trans (hz.out.2.below h7.out.size (fun k hk e => by have := h2.out.size; omega)))
      obtain ⟨A13, c13, e13, hc13, hC13⟩ := Kd.R_reads hz.out.1.O
      rw [List.length_map, hz.out.1.len] at e13 hc13 hC13
      subst e13
      have hC13a := Aside0.mk hC13
      have kP := Apply_at (c := cs) (c' := cl) hMz.out.c rfl (by have := hMs.out.len; omega) hzC.out.c rfl (by have := hzC.out.len; omega) (by have := hzl.out; omega) hP3
      rw [← hnn.out, hzl.out] at kP
      have hkP3 := Aside0.mk kP
      clear kP hP3 hSP3 hz hC13
      go_wp2_with (first | (go_at_call 17; ((with_reducible refine hkP3.out.mono ?_)); rintro e w9 ⟨v15, rfl, hR, hb⟩; have hR15 := Aside0.mk hR; have b9 := Aside0.mk hb; obtain ⟨A15, m15, c15, rfl, hm15, _⟩ := rowf hR; have hw9 := hw.out.trans (hb.mono hw.out.size); have hkQ3 := Aside0.mk (RApply_at (c := c) (c' := c13) (l := l') (Kd.C_below hCC.out hw9) hnn.out hc (Kd.C_below hC13a.out hb) hzl.out.symm hc13 (by have := hzl.out; omega) hPz.out); clear hR hb hm15 hw9) | (go_at_call 18; ((with_reducible refine hkQ3.out.mono ?_)); rintro e w10 ⟨v16, rfl, hR, hb⟩; have s7 := b7.out.size; have s8 := b8.out.size; have s9 := b9.out.size; have s10 := hb.size; have hsF := hFr.out.size; have hF10 : Fr W7 w10 (fun k => k = gl) := hFr.out.trans (Fr.of_below (b9.out.trans (hb.mono b9.out.size)) (fun k => k = gl)) (fun _ _ h => h); have r7 := Ap.RB_fr (Kd.R_below (Kd.R_below (Kd.R_below hR7.out b5.out) b6.out) b7.out) hF10 (fun k h => by omega); have r9 := Ap.RB_fr (Kd.R_below (Kd.R_below hR9.out b6.out) b7.out) hF10 (fun k h => by omega); have r11 := Ap.RB_fr (Kd.R_below hR11.out b7.out) hF10 (fun k h => by omega); have r15 := Kd.R_below hR15.out hb; have r16 := hR; obtain ⟨A16, m16, c16, rfl, hm16, _⟩ := rowf hR; have h10 := Aside0.mk (h7.out.trans (hF10.below h7.out.size (fun k hk e => by have := h2.out.size; omega))); have t7 := rb_strPY r7 hSPP.out; have t9 := rb_strPY r9 hSPP.out; have t11 := rb_strPY r11 hSPP.out; have t15 := rb_strPY r15 hSPz.out; have t16 := rb_strPY r16 hSPz.out; have hAp := Aside0.mk (Apart3Y r7 r11 r15 (fun k hk => by have := Kd.R_lt hR7.out k hk; omega) (fun k hk => by have := Kd.R_lt hR11.out k hk; omega) (by omega) (by omega) (by omega) (by omega) (by omega)); clear hR hb hm16 hF10 r7 r9 r11 r15 r16) | (go_at_call 19; ((with_reducible refine hAp.out.mono ?_)); rintro e w12 ⟨rfl, hF⟩; have h12 := Aside0.mk (h10.out.trans (hF.below h10.out.size (fun k hk e => by have := h3.out.size; omega))); clear hF))
      go_ret
      exact ⟨rfl, h12.out⟩
end Go.Proofs.Ytpjdgndbcjinjaa.Sh
