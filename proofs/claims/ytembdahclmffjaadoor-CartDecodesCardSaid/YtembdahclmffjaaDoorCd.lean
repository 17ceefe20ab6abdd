/- wisplaw07.CartDecodes: the walk. -/
import Derived.Test.YtembdahclmffjaaDoorTb
import Derived.Test.YtembdahclmffjaaDoorPb
namespace Go.Proofs.YtembdahclmffjaaDoor.Pk
open Go.RowKit Go.Proofs.YtembdahclmffjaaDoorW.PrintWords Go.Proofs.YtembdahclmffjaaDoorW.PrintLast Go.Proofs.YtembdahclmffjaaDoorW.PrintMore Go.Proofs.YtembdahclmffjaaDoor.Mem
set_option linter.unusedVariables false
set_option linter.unusedSimpArgs false
theorem OwnR.lower {w : World} {base B g3 c0 c2 c3 : Nat} {A0 A2 A3 : Option Addr} {V : Nat → Value} {c : CartP} (h : OwnR w base A0 c0 A2 c2 A3 c3 g3 V c) (hB : B ≤ base) : OwnR w B A0 c0 A2 c2 A3 c3 g3 V c :=
  ⟨Kd.R_lower h.r0 hB, Kd.R_lower h.r2 hB, fun hn => by obtain ⟨e, hb, x⟩ := h.a3 hn; exact ⟨e, by omega, x⟩, h.cells, fun k hk => Kd.R_lower (h.rows k hk) hB, h.apart, h.apart0, by
    rcases h.ow with x | ⟨e1, e2, x⟩
    · exact .inl x
    · exact .inr ⟨e1, by omega, x⟩⟩
theorem OwnR.zero (w : World) (B : Nat) : OwnR w B none 0 none 0 none 0 0 (fun _ => .slice none 0 0) z0 :=
  ⟨Kd.R_nil _ _ _ _ _, Kd.R_nil _ _ _ _ _, fun h => absurd h (by decide), fun k hk => absurd hk (by simp [z0]), fun k hk => absurd hk (by simp [z0]), fun k l q hk => absurd hk (by simp [z0]), fun k q hk => absurd hk (by simp [z0]), .inl ⟨rfl, rfl⟩⟩
/-- a cartridge of a call's own: its lists lie between B and top -/
structure Oc (B : Nat) (W : World) (A0 : Option Addr) (n0 c0 : Nat) (y : Int) (A2 : Option Addr) (n2 c2 : Nat) (A3 : Option Addr) (n3 c3 g3 : Nat) (V : Nat → Value) (c : CartP) : Prop where
  own : OwnR W B A0 c0 A2 c2 A3 c3 g3 V c
  isc : IsC W A0 c0 A2 c2 A3 c3 c
  n0 : n0 = c.code.length
  y : y = c.entry
  n2 : n2 = c.efs.length
  n3 : n3 = c.bks.length
theorem Oc.ct {B : Nat} {W : World} {A0 A2 A3 : Option Addr} {n0 c0 n2 c2 n3 c3 g3 : Nat} {y : Int} {V : Nat → Value} {c : CartP} (h : Oc B W A0 n0 c0 y A2 n2 c2 A3 n3 c3 g3 V c) : CtV W (.agg #[.slice A0 n0 c0, .int .u16 y, .slice A2 n2 c2, .slice A3 n3 c3]) c := by
  obtain ⟨h1, h2, rfl, rfl, rfl, rfl⟩ := h
  exact ⟨_, _, _, _, _, _, rfl, h2⟩
theorem Oc.fr {B : Nat} {W W1 : World} {A0 A2 A3 : Option Addr} {n0 c0 n2 c2 n3 c3 g3 : Nat} {y : Int} {V : Nat → Value} {c : CartP} {S : Nat → Prop} (h : Oc B W A0 n0 c0 y A2 n2 c2 A3 n3 c3 g3 V c) (hF : Fr W W1 S) (hS : ∀ k, k < W.heap.size → S k → k < B) : Oc B W1 A0 n0 c0 y A2 n2 c2 A3 n3 c3 g3 V c := by
  have ho := h.own.fr hF hS
  exact ⟨ho, ho.isC h.isc.l3 (by have := h.isc.bks.2.1; exact this), h.n0, h.y, h.n2, h.n3⟩
theorem Oc.below {B : Nat} {W W1 : World} {A0 A2 A3 : Option Addr} {n0 c0 n2 c2 n3 c3 g3 : Nat} {y : Int} {V : Nat → Value} {c : CartP} (h : Oc B W A0 n0 c0 y A2 n2 c2 A3 n3 c3 g3 V c) (hb : Below W.heap.size W W1) : Oc B W1 A0 n0 c0 y A2 n2 c2 A3 n3 c3 g3 V c := h.fr (Fr.of_below hb (fun _ => False)) (fun _ _ e => e.elim)
/-- cart.Decode of any bytes: a cartridge of its own -/
theorem kDecO {w : World} {A : Option Addr} {n k : Nat} {b : List Int} {c : CartP} {er : Int} (hn : n = b.length) (hk : n ≤ k) (hT : Tab w) (hC : Kd.C (Kd.int .u8) w A n b) (hB : allB b) (hl : n ≤ 140737488355328) (hD : decB b = (c, er)) :
    Calls Tryd.prog 9 #[.slice A n k] w fun e w' => ∃ A0 n0 c0 y A2 n2 c2 A3 n3 c3 g3 V, e = .returned (.tuple #[.agg #[.slice A0 n0 c0, .int .u16 y, .slice A2 n2 c2, .slice A3 n3 c3], .int .i64 er]) ∧ Oc w.heap.size w' A0 n0 c0 y A2 n2 c2 A3 n3 c3 g3 V c ∧ Below w.heap.size w w' := by
  subst hn
  refine (Decode hT hC hk hB hl).mono ?_
  rintro e w' ⟨hb, v, rfl, h1, h2⟩
  rw [hD] at h1 h2 ⊢
  by_cases h0 : er = 0
  · subst h0
    obtain ⟨A0, c0, A2, c2, A3, c3, g3, V, base, hbb, rfl, hI, hO⟩ := (h1 rfl).ex
    exact ⟨_, _, _, _, _, _, _, _, _, _, _, _, rfl, ⟨hO.lower hbb, hI, rfl, rfl, rfl, rfl⟩, hb⟩
  · have hc : c = z0 := by
      rcases dec_two b with ⟨c', h⟩ | ⟨er', _, _, _, h⟩
      · rw [h] at hD
        injection hD with _ h2
        exact absurd h2.symm h0
      · rw [hD] at h
        exact h
    subst hc
    rw [h2 h0]
    exact ⟨none, 0, 0, 0, none, 0, 0, none, 0, 0, 0, _, rfl, ⟨OwnR.zero w' _, IsC0 w', rfl, rfl, rfl, rfl⟩, hb⟩
theorem dec_small {b : List Int} {c : CartP} {er : Int} (hB : allB b) (hD : decB b = (c, er)) : c.code.length ≤ 16384 ∧ c.efs.length ≤ 8192 ∧ c.bks.length ≤ 16 ∧ ∀ k, k < c.bks.length → (c.bks.getD k (0, [])).2.length ≤ 16384 := by
  by_cases h0 : er = 0
  · subst h0
    have h := (back hB hD).2
    exact ⟨h.cl, h.el, bk_len h.bs, fun k hk => (h.bs k hk).2.2.1⟩
  · have hc : c = z0 := by
      rcases dec_two b with ⟨c', h⟩ | ⟨er', _, _, _, h⟩
      · rw [h] at hD
        injection hD with _ h2
        exact absurd h2.symm h0
      · rw [hD] at h
        exact h
    subst hc
    exact ⟨by decide, by decide, by decide, fun k hk => absurd hk (by simp [z0])⟩
/-- what the law keeps -/
structure Dq (w W : World) (A : Option Addr) (n k : Nat) (r : List Int) (g cap : Nat) : Prop where
  bel : Below w.heap.size w W
  tab : Tab W
  C : Kd.C (Kd.int .u8) W A n r
  M : IsM W w.heap.size g cap r
theorem Dq.fr {w W W1 : World} {A : Option Addr} {n k g cap : Nat} {r : List Int} {S : Nat → Prop} (h : Dq w W A n k r g cap) (hT : Tab w) (hC : Kd.C (Kd.int .u8) w A n r) (hF : Fr W W1 S) (hS : ∀ q, S q → g < q) : Dq w W1 A n k r g cap := by
  have hg := h.M.base
  have hb : Below w.heap.size w W1 := h.bel.trans (hF.below h.bel.size (fun q hq e => by have := hS q e; omega))
  exact ⟨hb, hT.below hb, Kd.C_below hC hb, h.M.fr hF (fun e => by have := hS g e; omega)⟩
theorem Dq.below {w W W1 : World} {A : Option Addr} {n k g cap : Nat} {r : List Int} (h : Dq w W A n k r g cap) (hT : Tab w) (hC : Kd.C (Kd.int .u8) w A n r) (hb : Below W.heap.size W W1) : Dq w W1 A n k r g cap := h.fr hT hC (Fr.of_below hb (fun _ => False)) (fun _ e => e.elim)
theorem dq_cap {w W : World} {A : Option Addr} {n k g cap : Nat} {r : List Int} (h : Dq w W A n k r g cap) (hn : n = r.length) : n ≤ cap := by have := h.M.len; omega
theorem dq_c {w W : World} {A : Option Addr} {n k g cap : Nat} {r : List Int} (h : Dq w W A n k r g cap) (hn : n = r.length) : Kd.C (Kd.int .u8) W (some ⟨g, 0, none⟩) n r := by rw [hn]; exact h.M.c
set_option maxRecDepth 100000 in
set_option maxHeartbeats 8000000 in
theorem Decodes {w : World} {A : Option Addr} {n k : Nat} {r : List Int} (hT : Tab w) (hC : Kd.C (Kd.int .u8) w A n r) (hn : n = r.length) (hk : n ≤ k) (hB : allB r) (hl : n ≤ 140737488351232) :
    Calls Tryd.prog 3 #[.slice A n k] w fun e w' => e = .returned (.bool true) ∧ Below w.heap.size w w' := by
  obtain ⟨cc, er, hD⟩ : ∃ c er, decB r = (c, er) := ⟨_, _, rfl⟩
  have hTT := Aside0.mk hT
  have hCC := Aside0.mk hC
  have hnn := Aside0.mk hn
  have hkk := Aside0.mk hk
  have hBB := Aside0.mk hB
  have hll := Aside0.mk hl
  have hDD := Aside0.mk hD
  have hln := Aside0.mk (dec_lens' hB hD)
  have hsm := Aside0.mk (dec_small hB hD)
  have kRo : Aside0 (Calls Tryd.prog 8 #[.slice A n k] w fun e w' => ∃ g cap, e = .returned (.slice (some ⟨g, 0, none⟩) n cap) ∧ IsM w' w.heap.size g cap r ∧ Below w.heap.size w w') := ⟨by
    subst hn
    exact Roomy hC hl⟩
  have kAs : Aside0 (∀ X g cap, Dq w X A n k r g cap → Calls Tryd.prog 14 #[.slice (some ⟨g, 0, none⟩) n cap, .slice A n k] X fun e w' => e = .returned (.bool true) ∧ w' = X.drew) := ⟨fun X g cap hX => by
    have h1 := hX.M
    have h2 := hX.C
    subst hn
    exact AsWas h1 h2 hl⟩
  clear hT hC hn hk hB hl hD
  go_enter Tryd.func3, Tryd.ntmps3
  go_upto_region 5 with (first | (go_at_call 8; ((with_reducible refine kRo.out.mono ?_); rintro e W1 ⟨g, cap, rfl, hM, hb_⟩; have hD1 := Aside0.mk (show Dq w W1 A n k r g cap from ⟨hb_, hTT.out.below hb_, Kd.C_below hCC.out hb_, hM⟩); have hgl := Aside0.mk hM.lt; clear hM hb_)) | (go_at_call 9; ((with_reducible refine (kDecO hnn.out (dq_cap hD1.out hnn.out) hD1.out.tab (dq_c hD1.out hnn.out) hBB.out (by have := hll.out; omega) hDD.out).mono ?_); rintro e W2 ⟨A0, n0, c0, y, A2, n2, c2, A3, n3, c3, g3, V, rfl, hO_, hb_⟩; have hO2 := Aside0.mk hO_; have hs2 := Aside0.mk hb_.size; have hb2_ := below_alloc (Below.refl W2.heap.size W2) (.cells #[.slice A0 n0 c0, .int .u16 y, .slice A2 n2 c2, .slice A3 n3 c3] 28); have hD2 := Aside0.mk ((hD1.out.below hTT.out hCC.out hb_).below hTT.out hCC.out hb2_); have hx2 := Aside0.mk (World.alloc_heap_new W2 (.cells #[.slice A0 n0 c0, .int .u16 y, .slice A2 n2 c2, .slice A3 n3 c3] 28)); have hB2 := Aside0.mk hb2_; clear hO_ hb_ hb2_)) | (go_at_call 9; ((with_reducible refine (kDecO hnn.out (dq_cap hD2.out hnn.out) hD2.out.tab (dq_c hD2.out hnn.out) hBB.out (by have := hll.out; omega) hDD.out).mono ?_); rintro e W3 ⟨B0, m0, d0, z, B2, m2, d2, B3, m3, d3, h3, U, rfl, hO_, hb_⟩; have hO3 := Aside0.mk hO_; have hs3 := Aside0.mk hb_.size; have hb3_ := below_alloc (Below.refl W3.heap.size W3) (.cells #[.slice B0 m0 d0, .int .u16 z, .slice B2 m2 d2, .slice B3 m3 d3] 28); have hD3 := Aside0.mk ((hD2.out.below hTT.out hCC.out hb_).below hTT.out hCC.out hb3_); have hx3 := Aside0.mk (World.alloc_heap_new W3 (.cells #[.slice B0 m0 d0, .int .u16 z, .slice B2 m2 d2, .slice B3 m3 d3] 28)); have hB3 := Aside0.mk (hb_.trans (hb3_.mono hb_.size)); have hB33 := Aside0.mk hb3_; clear hO_ hb_ hb3_)) | (go_at_call 10; ((with_reducible refine (kRefF hnn.out hkk.out hD3.out.C hBB.out (by have := hll.out; omega) hDD.out).mono ?_); rintro e W4 ⟨D0, l0, e0, zz, D2, l2, e2, D3, l3, e3, rfl, hO_, hb_⟩; have hO4 := Aside0.mk hO_; have hb4_ := below_alloc (Below.refl W4.heap.size W4) (.cells #[.slice D0 l0 e0, .int .u16 zz, .slice D2 l2 e2, .slice D3 l3 e3] 28); have hD4 := Aside0.mk ((hD3.out.below hTT.out hCC.out hb_).below hTT.out hCC.out hb4_); have hx4 := Aside0.mk (World.alloc_heap_new W4 (.cells #[.slice D0 l0 e0, .int .u16 zz, .slice D2 l2 e2, .slice D3 l3 e3] 28)); have hB4 := Aside0.mk (hb_.trans (hb4_.mono hb_.size)); have hB44 := Aside0.mk hb4_; clear hO_ hb_ hb4_)))
  have s2 := hs2.out
  have s3 := hs3.out
  have s23 := hB2.out.size
  have s4 := hB3.out.size
  have s5 := hB4.out.size
  have s33 := hB33.out.size
  have s44 := hB44.out.size
  simp only [World.size_alloc] at s2 s3 s4 s5 s23 s33 s44
  obtain ⟨W5, hW5⟩ : ∃ W5, W5 = W4.alloc (.cells #[.slice D0 l0 e0, .int .u16 zz, .slice D2 l2 e2, .slice D3 l3 e3] 28) := ⟨_, rfl⟩
  have hbc : Below (W2.heap.size + 1) (W2.alloc (.cells #[.slice A0 n0 c0, .int .u16 y, .slice A2 n2 c2, .slice A3 n3 c3] 28)) W5 := by
    rw [hW5]
    have e1 := hB3.out
    rw [World.size_alloc] at e1
    exact e1.trans (hB4.out.mono (by rw [World.size_alloc]; omega))
  have hbd : Below (W3.heap.size + 1) (W3.alloc (.cells #[.slice B0 m0 d0, .int .u16 z, .slice B2 m2 d2, .slice B3 m3 d3] 28)) W5 := by
    rw [hW5]
    have e1 := hB4.out
    rw [World.size_alloc] at e1
    exact e1
  have hq5 := Aside0.mk (show Dq w W5 A n k r g cap by rw [hW5]; exact hD4.out)
  have bc := Aside0.mk ((hbc.block _ (by omega)).trans hx2.out)
  have bd := Aside0.mk ((hbd.block _ (by omega)).trans hx3.out)
  have bw := Aside0.mk (show W5.heap[W4.heap.size]? = some (.cells #[.slice D0 l0 e0, .int .u16 zz, .slice D2 l2 e2, .slice D3 l3 e3] 28 (0, 0)) by rw [hW5]; exact hx4.out)
  have hb25 := Aside0.mk (hB2.out.trans (hbc.mono (by omega)))
  have hb35 := Aside0.mk (hB33.out.trans (hbd.mono (by omega)))
  have hb45 := Aside0.mk (show Below W4.heap.size W4 W5 by rw [hW5]; exact hB44.out)
  have hctc : Aside0 (∀ X, Below W5.heap.size W5 X → CtV X (.agg #[.slice A0 n0 c0, .int .u16 y, .slice A2 n2 c2, .slice A3 n3 c3]) cc) := ⟨fun X hb => (hO2.out.below (hb25.out.trans (hb.mono hb25.out.size))).ct⟩
  have hctw : Aside0 (∀ X, Below W5.heap.size W5 X → CtV X (.agg #[.slice D0 l0 e0, .int .u16 zz, .slice D2 l2 e2, .slice D3 l3 e3]) cc) := ⟨fun X hb => hO4.out X (fun _ => False) (Fr.of_below (hb45.out.trans (hb.mono hb45.out.size)) _) (fun _ _ e => e.elim)⟩
  have kAp : Aside0 (∀ X, Below W5.heap.size W5 X → Calls Tryd.prog 13 #[.agg #[.slice A0 n0 c0, .int .u16 y, .slice A2 n2 c2, .slice A3 n3 c3]] X fun e w' => e = .returned (.bool true) ∧ Fr X w' (fun k => W1.heap.size ≤ k ∧ k < W2.heap.size)) := ⟨fun X hb => by
    obtain ⟨h1, h2, e0, e1, e2, e3⟩ := hO2.out
    rw [e0, e1, e2, e3]
    exact ApC h1 (hb25.out.trans (hb.mono hb25.out.size)) s2 h2.l3 hsm.out.1 hsm.out.2.1 hsm.out.2.2.1 hsm.out.2.2.2⟩
  have kAft : Aside0 (∀ X Y, Below W5.heap.size W5 X → Fr X Y (fun k => W1.heap.size ≤ k ∧ k < W2.heap.size) → Dq w Y A n k r g cap ∧ Y.heap[W3.heap.size]? = some (.cells #[.slice B0 m0 d0, .int .u16 z, .slice B2 m2 d2, .slice B3 m3 d3] 28 (0, 0)) ∧ Y.heap[W4.heap.size]? = some (.cells #[.slice D0 l0 e0, .int .u16 zz, .slice D2 l2 e2, .slice D3 l3 e3] 28 (0, 0)) ∧ CtV Y (.agg #[.slice B0 m0 d0, .int .u16 z, .slice B2 m2 d2, .slice B3 m3 d3]) cc ∧ CtV Y (.agg #[.slice D0 l0 e0, .int .u16 zz, .slice D2 l2 e2, .slice D3 l3 e3]) cc) := ⟨fun X Y hb hF => by
    have h3X := hb35.out.trans (hb.mono hb35.out.size)
    have h4X := hb45.out.trans (hb.mono hb45.out.size)
    refine ⟨(hq5.out.below hTT.out hCC.out hb).fr hTT.out hCC.out hF (fun q hq => by have := hgl.out; omega), hF.heap ((hb.block _ (heap_lt bd.out)).trans bd.out) (fun h => by omega), hF.heap ((hb.block _ (heap_lt bw.out)).trans bw.out) (fun h => by omega), ?_, ?_⟩
    · have h1 := hO3.out
      rw [World.size_alloc] at h1
      exact ((h1.below h3X).fr hF (fun q _ hq => by omega)).ct
    · refine hO4.out Y (fun k => W1.heap.size ≤ k ∧ k < W2.heap.size) ((Fr.of_below h4X _).trans hF (fun _ _ e => e)) (fun q _ hq => ?_)
      rw [World.size_alloc]
      omega⟩
  rw [← hW5]
  obtain ⟨bc0_, bc1_, bc2_, bc3_, _, _, _, _⟩ := box4 bc.out
  clear hD1 hD2 hD3 hD4 hx2 hx3 hx4 hB2 hB3 hB33 hB4 hB44 hO2 hO3 hO4 hb25 hb35 hb45 s2 s3 s23 s4 s5 s33 s44 hbc hbd hs2 hs3 hW5
  go_wp2_with (first | (go_at_call 11; ((with_reducible refine (kNum _ _).mono ?_); rintro e X1 ⟨rfl, hb_⟩; have hb := Aside0.mk (hb_); have hbX := Aside0.mk ((Below.refl W5.heap.size W5).trans hb_); obtain ⟨bc0_, bc1_, bc2_, bc3_, _, _, _, _⟩ := box4 ((hbX.out.block _ (heap_lt bc.out)).trans bc.out); obtain ⟨bw0_, bw1_, bw2_, bw3_, _, _, _, _⟩ := box4 ((hbX.out.block _ (heap_lt bw.out)).trans bw.out); clear hb_)) | (go_at_call 12; ((with_reducible refine (kSame (hctc.out _ hbX.out) (hctw.out _ hbX.out) hln.out.1 hln.out.2).mono ?_); rintro e X2 ⟨rfl, hb_⟩; have hbY := Aside0.mk (hbX.out.trans (hb_.mono hbX.out.size)); obtain ⟨bc0_, bc1_, bc2_, bc3_, _, _, _, _⟩ := box4 ((hbY.out.block _ (heap_lt bc.out)).trans bc.out); clear hb_)) | (go_at_call 13; ((with_reducible refine (kAp.out _ hbY.out).mono ?_); rintro e X3 ⟨rfl, hF_⟩; have h7 := Aside0.mk (kAft.out _ _ hbY.out hF_); obtain ⟨bd0_, bd1_, bd2_, bd3_, _, _, _, _⟩ := box4 h7.out.2.1; obtain ⟨bw0_, bw1_, bw2_, bw3_, _, _, _, _⟩ := box4 h7.out.2.2.1; clear hF_)) | (go_at_call 12; ((with_reducible refine (kSame h7.out.2.2.2.1 h7.out.2.2.2.2 hln.out.1 hln.out.2).mono ?_); rintro e X4 ⟨rfl, hb_⟩; have h8 := Aside0.mk (h7.out.1.below hTT.out hCC.out hb_); clear hb_)) | (go_at_call 14; ((with_reducible refine (kAs.out _ _ _ h8.out).mono ?_); rintro e X5 ⟨rfl, rfl⟩; have h9 := Aside0.mk (h8.out.below hTT.out hCC.out (below_drew (Below.refl _ _))))) | (go_at_call 15; ((with_reducible refine (Known h9.out.tab).mono ?_); rintro e X6 ⟨rfl, hb_⟩; have h10 := Aside0.mk (h9.out.below hTT.out hCC.out hb_); clear hb_)))
  go_ret
  exact ⟨rfl, h10.out.bel⟩
end Go.Proofs.YtembdahclmffjaaDoor.Pk
