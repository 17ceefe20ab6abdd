/- wisplaw07.known: the empty cartridge, there and back. (Printed by gen_kw.py.) -/
import Derived.Test.YtembdahclmffjaaDoorKc
namespace Go.Proofs.YtembdahclmffjaaDoor.Pk
open Go.RowKit Go.Proofs.YtembdahclmffjaaDoorW.PrintWords Go.Proofs.YtembdahclmffjaaDoorW.PrintLast Go.Proofs.YtembdahclmffjaaDoorW.PrintMore Go.Proofs.YtembdahclmffjaaDoor.Mem
set_option linter.unusedVariables false
set_option linter.unusedSimpArgs false
def KnS (w : World) (A : Option Addr) (n k g : Nat) (x0 x1 x2 x3 : Value) (sb : ByteArray) (X : World) : Prop :=
  (convert 22 9 (.slice A n k)).run Tryd.prog X = .ok (.string sb) X ∧ X.cell? ⟨g, 0, none⟩ = some x0 ∧ X.cell? ⟨g, 1, none⟩ = some x1 ∧ X.cell? ⟨g, 2, none⟩ = some x2 ∧ X.cell? ⟨g, 3, none⟩ = some x3
/-- what a part of a law that looks at a cartridge in a box and at bytes keeps -/
structure Kn (w : World) (A : Option Addr) (n k g : Nat) (x0 x1 x2 x3 : Value) (sb : ByteArray) (b : List Int) (c : CartP) (X : World) : Prop where
  bel : Below w.heap.size w X
  tab : Tab X
  hn : n = b.length
  hs : strOfNums b = sb
  C : Kd.C (Kd.int .u8) X A n b
  box : X.heap[g]? = some (.cells #[x0, x1, x2, x3] 28 (0, 0))
  t : CtV X (.agg #[x0, x1, x2, x3]) c
theorem Kn.step {w X X' : World} {A : Option Addr} {n k g : Nat} {x0 x1 x2 x3 : Value} {sb : ByteArray} {b : List Int} {c : CartP} (h : Kn w A n k g x0 x1 x2 x3 sb b c X) (hb : Below X.heap.size X X') : Kn w A n k g x0 x1 x2 x3 sb b c X' :=
  ⟨h.bel.trans (hb.mono h.bel.size), h.tab.below hb, h.hn, h.hs, Kd.C_below h.C hb, (hb.block _ (heap_lt h.box)).trans h.box, h.t.below hb⟩
theorem Kn.S {w X : World} {A : Option Addr} {n k g : Nat} {x0 x1 x2 x3 : Value} {sb : ByteArray} {b : List Int} {c : CartP} (h : Kn w A n k g x0 x1 x2 x3 sb b c X) : KnS w A n k g x0 x1 x2 x3 sb X := by
  have hn := h.hn
  have hC := h.C
  subst hn
  have hcv := Kd.C_string (P := Tryd.prog) (c := k) Tryd.underlying22 Tryd.underlying5 Tryd.underlying9 hC
  rw [h.hs] at hcv
  exact ⟨hcv, (cellH h.box).trans rfl, (cellH h.box).trans rfl, (cellH h.box).trans rfl, (cellH h.box).trans rfl⟩
set_option maxRecDepth 100000 in
set_option maxHeartbeats 4000000 in
theorem Known {w : World} (hT : Tab w) : Calls Tryd.prog 15 #[] w fun e w' => e = .returned (.bool true) ∧ Below w.heap.size w w' := by
  have kE := Aside0.mk (kEnc hT (Ct0 w) ok0 wf0)
  have hD := Aside0.mk (there ok0 wf0)
  have hTT := Aside0.mk hT
  have hlen : Aside0 ((encB z0).length ≤ 140737488355328 ∧ allB (encB z0)) := ⟨by unfold allB isB; decide +kernel⟩
  obtain ⟨b, hb0⟩ : ∃ b, b = encB z0 := ⟨_, rfl⟩
  rw [← hb0] at kE hD hlen
  have kT : Aside0 (∀ W : World, Calls Tryd.prog 38 #[] W fun e w' => ∃ A n k, e = .returned (.slice A n k) ∧ n = b.length ∧ n ≤ k ∧ Kd.C (Kd.int .u8) w' A n b ∧ Below W.heap.size W w') := ⟨fun W => by rw [hb0]; exact kTiny W⟩
  clear hT hb0
  go_enter Tryd.func15, Tryd.ntmps15
  go_upto_region 3 with (first | (go_at_call 16; ((with_reducible refine (kE.out).mono ?_); rintro e w1 ⟨A, n, k, rfl, hn, hnk, hR, hC, hb1⟩; have hF1 := Aside0.mk (And.intro hn (And.intro hnk (And.intro hC hb1))); clear hn hnk hR hC hb1)) | (go_at_call 38; ((with_reducible refine (kT.out _).mono ?_); rintro e w2 ⟨A2, n2, k2, rfl, hn, hnk, hC, hb1⟩; have hF2 := Aside0.mk (And.intro hn (And.intro hnk (And.intro hC hb1))); clear hn hnk hC hb1)) | (go_at_call 9; ((with_reducible refine (kDec hF2.out.1 hF2.out.2.1 ((hTT.out.below hF1.out.2.2.2).below hF2.out.2.2.2) hF2.out.2.2.1 hlen.out.2 (Nat.le_trans (Nat.le_of_eq hF2.out.1) hlen.out.1) hD.out).mono ?_); rintro e w3 ⟨B0, n0, k0, y, B2, m2, j2, B3, n3, k3, rfl, ht, hb1⟩; have hF3 := Aside0.mk (And.intro ht hb1); clear ht hb1)))
  have hZ := below_alloc (Below.refl w3.heap.size w3) (.cells #[.slice B0 n0 k0, .int .u16 y, .slice B2 m2 j2, .slice B3 n3 k3] 28)
  have hq := World.alloc_heap_new w3 (.cells #[.slice B0 n0 k0, .int .u16 y, .slice B2 m2 j2, .slice B3 n3 k3] 28)
  generalize w3.alloc (.cells #[.slice B0 n0 k0, .int .u16 y, .slice B2 m2 j2, .slice B3 n3 k3] 28) = Z at hZ hq ⊢
  obtain ⟨sb, hsb0⟩ : ∃ sb, strOfNums b = sb := ⟨_, rfl⟩
  have hsb := Aside0.mk hsb0
  obtain ⟨g, hg⟩ : ∃ g, g = w3.heap.size := ⟨_, rfl⟩
  rw [← hg] at hq
  have b1 := hF1.out.2.2.2
  have b2 := hF2.out.2.2.2
  have b3 := hF3.out.2
  have hk0 : Aside0 (Kn w A n k g (.slice B0 n0 k0) (.int .u16 y) (.slice B2 m2 j2) (.slice B3 n3 k3) sb b z0 Z.drew) := ⟨(Kn.step ⟨(b1.trans ((b2.mono b1.size).trans (b3.mono (Nat.le_trans b1.size b2.size)))).trans (hZ.mono (Nat.le_trans b1.size (Nat.le_trans b2.size b3.size))), (((hTT.out.below b1).below b2).below b3).below hZ, hF1.out.1, hsb0, Kd.C_below (Kd.C_below (Kd.C_below hF1.out.2.2.1 b2) b3) hZ, hq, hF3.out.1.below hZ⟩ (below_drew (Below.refl _ _)))⟩
  rw [← hg]
  clear hZ hq b1 b2 b3 hF2 hF3 hF1 kE hD hTT hlen hsb0 hg
  refine start_ (n := 21) (S := (KnS w A n k g (.slice B0 n0 k0) (.int .u16 y) (.slice B2 m2 j2) (.slice B3 n3 k3) sb)) (ds := []) #[false, false, false, false, false, false, false, false, false, false, false, false, false, false, false, false, false, false, false, false, false] (by kernel_rfl) rfl rfl hk0.out.S (fun hHeld => ?_)
  refine pure_ (i := 0) (N := some 15) (v := ?_) (a' := ?_) #[true, false, false, false, false, false, false, false, false, false, false, false, false, false, false, false, false, false, false, false, false] rfl rfl (by kernel_rfl) (fun _ _ _ h => h) (Or.inl ⟨by rfl, ?_⟩) ?_ ?_
  rotate_left
  · intro w'
    go_simp
    with_reducible rfl
  rotate_left
  · simp only [Act.put, List.setIfInBounds_toArray, List.set_cons_zero, List.set_cons_succ, i64_w, i32_w]
    rfl
  refine one_ (i := 1) (N := some 16) #[true, true, false, false, false, false, false, false, false, false, false, false, false, false, false, false, false, false, false, false, false] rfl rfl (by kernel_rfl) (by decide) (fun K hK => ?_)
  refine goes_ Tryd.func11 (by kernel_rfl) rfl #[.int .i64 0] (by rfl) rfl rfl (by first | rfl | kernel_rfl | simp [Act.eval]) ?_
  refine (kNum _ 0).mono ?_
  rintro e X1 ⟨rfl, hb⟩
  have hk1 := Aside0.mk (hk0.out.step hb)
  clear hb
  refine ⟨_, rfl, hK.out _ _ hk1.out.S (fun hHeld2 => ?_)⟩
  clear hK
  refine norm_ (a' := ?_) ?_ ?_
  rotate_left
  · show Act.put _ (some 16) _ = _
    simp only [Act.put, List.setIfInBounds_toArray, List.set_cons_zero, List.set_cons_succ, i64_w, i32_w]
    rfl
  refine pure_ (i := 2) (N := some 17) (v := ?_) (a' := ?_) #[true, true, true, false, false, false, false, false, false, false, false, false, false, false, false, false, false, false, false, false, false] rfl rfl (by kernel_rfl) (fun _ _ _ h => h) (Or.inl ⟨by rfl, ?_⟩) ?_ ?_
  rotate_left
  · intro w'
    go_simp
    with_reducible rfl
  rotate_left
  · simp only [Act.put, List.setIfInBounds_toArray, List.set_cons_zero, List.set_cons_succ, i64_w, i32_w]
    rfl
  refine pure_ (i := 3) (N := some 18) (v := ?_) (a' := ?_) #[true, true, true, true, false, false, false, false, false, false, false, false, false, false, false, false, false, false, false, false, false] rfl rfl (by kernel_rfl) (fun _ _ _ h => h) (Or.inl ⟨by rfl, ?_⟩) ?_ ?_
  rotate_left
  · intro w'
    go_simp
    with_reducible rfl
  rotate_left
  · simp only [Act.put, List.setIfInBounds_toArray, List.set_cons_zero, List.set_cons_succ, i64_w, i32_w]
    rfl
  refine pure_ (i := 4) (N := some 19) (v := ?_) (a' := ?_) #[true, true, true, true, true, false, false, false, false, false, false, false, false, false, false, false, false, false, false, false, false] rfl rfl (by kernel_rfl) (fun _ _ _ h => h) (Or.inl ⟨by rfl, ?_⟩) ?_ ?_
  rotate_left
  · intro w'
    go_simp
    with_reducible rfl
  rotate_left
  · simp only [Act.put, List.setIfInBounds_toArray, List.set_cons_zero, List.set_cons_succ, i64_w, i32_w]
    rfl
  refine one_ (i := 5) (N := some 20) #[true, true, true, true, true, true, false, false, false, false, false, false, false, false, false, false, false, false, false, false, false] rfl rfl (by kernel_rfl) (by decide) (fun K hK => ?_)
  refine goes_ Tryd.func11 (by kernel_rfl) rfl #[.int .i64 0] (by rfl) rfl rfl (by first | rfl | kernel_rfl | simp [Act.eval]) ?_
  refine (kNum _ 0).mono ?_
  rintro e X2 ⟨rfl, hb⟩
  have hk2 := Aside0.mk (hk1.out.step hb)
  clear hb
  refine ⟨_, rfl, hK.out _ _ hk2.out.S (fun hHeld3 => ?_)⟩
  clear hK
  refine norm_ (a' := ?_) ?_ ?_
  rotate_left
  · show Act.put _ (some 20) _ = _
    simp only [Act.put, List.setIfInBounds_toArray, List.set_cons_zero, List.set_cons_succ, i64_w, i32_w]
    rfl
  refine pure_ (i := 6) (N := some 21) (v := ?_) (a' := ?_) #[true, true, true, true, true, true, true, false, false, false, false, false, false, false, false, false, false, false, false, false, false] rfl rfl (by kernel_rfl) (fun _ _ _ h => h) (Or.inl ⟨by rfl, ?_⟩) ?_ ?_
  rotate_left
  · intro w'
    go_simp
    with_reducible rfl
  rotate_left
  · simp only [Act.put, List.setIfInBounds_toArray, List.set_cons_zero, List.set_cons_succ, i64_w, i32_w]
    rfl
  refine pure_ (i := 7) (N := some 22) (v := ?_) (a' := ?_) #[true, true, true, true, true, true, true, true, false, false, false, false, false, false, false, false, false, false, false, false, false] rfl rfl (by kernel_rfl) (fun _ _ _ h => h) (Or.inl ⟨by rfl, ?_⟩) ?_ ?_
  rotate_left
  · intro w'
    go_simp
    with_reducible rfl
  rotate_left
  · simp only [Act.put, List.setIfInBounds_toArray, List.set_cons_zero, List.set_cons_succ, i64_w, i32_w]
    rfl
  refine pure_ (i := 8) (N := some 23) (v := ?_) (a' := ?_) #[true, true, true, true, true, true, true, true, true, false, false, false, false, false, false, false, false, false, false, false, false] rfl rfl (by kernel_rfl) (fun _ _ _ h => h) (Or.inl ⟨by rfl, ?_⟩) ?_ ?_
  rotate_left
  · intro w'
    go_simp
    with_reducible rfl
  rotate_left
  · simp only [Act.put, List.setIfInBounds_toArray, List.set_cons_zero, List.set_cons_succ, i64_w, i32_w]
    rfl
  refine pure_ (i := 9) (N := some 24) (v := ?_) (a' := ?_) #[true, true, true, true, true, true, true, true, true, true, false, false, false, false, false, false, false, false, false, false, false] rfl rfl (by kernel_rfl) (fun _ _ _ h => h) (Or.inl ⟨by rfl, ?_⟩) ?_ ?_
  rotate_left
  · intro w'
    go_simp
    with_reducible rfl
  rotate_left
  · simp only [Act.put, List.setIfInBounds_toArray, List.set_cons_zero, List.set_cons_succ, i64_w, i32_w]
    rfl
  refine take_ (i := 10) (N := some 25) (v := ?_) (a' := ?_) #[true, true, true, true, true, true, true, true, true, true, true, false, false, false, false, false, false, false, false, false, false] rfl rfl (by kernel_rfl) (fun _ _ _ h => h) (Or.inl ⟨by rfl, ?_⟩) hHeld3 ?_ ?_
  rotate_left
  · rintro w' ⟨y0, y1, y2, y3, y4⟩
    go_simp
    with_reducible rfl
  rotate_left
  · simp only [Act.put, List.setIfInBounds_toArray, List.set_cons_zero, List.set_cons_succ, i64_w, i32_w]
    rfl
  refine one_ (i := 11) (N := some 26) #[true, true, true, true, true, true, true, true, true, true, true, true, false, false, false, false, false, false, false, false, false] rfl rfl (by kernel_rfl) (by decide) (fun K hK => ?_)
  refine goes_ Tryd.func38 (by kernel_rfl) rfl #[] (by rfl) rfl rfl (by first | rfl | kernel_rfl | simp [Act.eval]) ?_
  refine (kT.out _).mono ?_
  rintro e X3 ⟨A4, n4, k4, rfl, hn4, hnk4, hC4, hb⟩
  have hk3 := Aside0.mk (hk2.out.step hb)
  have hsb := hk3.out.hs
  have hcv4 := Kd.C_string (P := Tryd.prog) (c := k4) Tryd.underlying22 Tryd.underlying5 Tryd.underlying9 (hn4 ▸ hC4)
  subst hn4
  rw [hsb] at hcv4
  clear hb
  refine ⟨_, rfl, hK.out _ _ hk3.out.S (fun hHeld4 => ?_)⟩
  clear hK
  refine norm_ (a' := ?_) ?_ ?_
  rotate_left
  · show Act.put _ (some 26) _ = _
    simp only [Act.put, List.setIfInBounds_toArray, List.set_cons_zero, List.set_cons_succ, i64_w, i32_w]
    rfl
  refine one_ (i := 12) (N := some 27) #[true, true, true, true, true, true, true, true, true, true, true, true, true, false, false, false, false, false, false, false, false] rfl rfl (by kernel_rfl) (by decide) (fun K hK => ?_)
  refine value_ (v := .string sb) (w1 := X3) (by rfl) rfl (by go_simp) ?_
  refine hK.out _ _ hk3.out.S (fun hHeld5 => ?_)
  clear hK
  refine norm_ (a' := ?_) ?_ ?_
  rotate_left
  · show Act.put _ (some 27) _ = _
    simp only [Act.put, List.setIfInBounds_toArray, List.set_cons_zero, List.set_cons_succ, i64_w, i32_w]
    rfl
  refine pure_ (i := 13) (N := some 28) (v := ?_) (a' := ?_) #[true, true, true, true, true, true, true, true, true, true, true, true, true, true, false, false, false, false, false, false, false] rfl rfl (by kernel_rfl) (fun _ _ _ h => h) (Or.inl ⟨by rfl, ?_⟩) ?_ ?_
  rotate_left
  · intro w'
    go_simp
    with_reducible rfl
  rotate_left
  · simp only [Act.put, List.setIfInBounds_toArray, List.set_cons_zero, List.set_cons_succ, i64_w, i32_w]
    rfl
  refine pure_ (i := 14) (N := some 29) (v := ?_) (a' := ?_) #[true, true, true, true, true, true, true, true, true, true, true, true, true, true, true, false, false, false, false, false, false] rfl rfl (by kernel_rfl) (fun _ _ _ h => h) (Or.inl ⟨by rfl, ?_⟩) ?_ ?_
  rotate_left
  · intro w'
    go_simp
    with_reducible rfl
  rotate_left
  · simp only [Act.put, List.setIfInBounds_toArray, List.set_cons_zero, List.set_cons_succ, i64_w, i32_w]
    rfl
  refine pure_ (i := 15) (N := some 30) (v := ?_) (a' := ?_) #[true, true, true, true, true, true, true, true, true, true, true, true, true, true, true, true, false, false, false, false, false] rfl rfl (by kernel_rfl) (fun _ _ _ h => h) (Or.inl ⟨by rfl, ?_⟩) ?_ ?_
  rotate_left
  · intro w'
    go_simp
    with_reducible rfl
  rotate_left
  · simp only [Act.put, List.setIfInBounds_toArray, List.set_cons_zero, List.set_cons_succ, i64_w, i32_w]
    rfl
  refine pure_ (i := 17) (N := some 32) (v := ?_) (a' := ?_) #[true, true, true, true, true, true, true, true, true, true, true, true, true, true, true, true, false, true, false, false, false] rfl rfl (by kernel_rfl) (fun _ _ _ h => h) (Or.inl ⟨by rfl, ?_⟩) ?_ ?_
  rotate_left
  · intro w'
    go_simp
    with_reducible rfl
  rotate_left
  · simp only [Act.put, List.setIfInBounds_toArray, List.set_cons_zero, List.set_cons_succ, i64_w, i32_w]
    rfl
  refine take_ (i := 16) (N := some 31) (v := ?_) (a' := ?_) #[true, true, true, true, true, true, true, true, true, true, true, true, true, true, true, true, true, true, false, false, false] rfl rfl (by kernel_rfl) (fun _ _ _ h => h) (Or.inl ⟨by rfl, ?_⟩) hHeld5 ?_ ?_
  rotate_left
  · rintro w' ⟨y0, y1, y2, y3, y4⟩
    go_simp
    with_reducible rfl
  rotate_left
  · simp only [Act.put, List.setIfInBounds_toArray, List.set_cons_zero, List.set_cons_succ, i64_w, i32_w]
    rfl
  refine one_ (i := 18) (N := some 33) #[true, true, true, true, true, true, true, true, true, true, true, true, true, true, true, true, true, true, true, false, false] rfl rfl (by kernel_rfl) (by decide) (fun K hK => ?_)
  refine goes_ Tryd.func12 (by kernel_rfl) rfl #[.agg #[.slice B0 n0 k0, .int .u16 y, .slice B2 m2 j2, .slice B3 n3 k3], .agg #[.slice none 0 0, .int .u16 0, .slice none 0 0, .slice none 0 0]] (by rfl) rfl rfl (by first | rfl | kernel_rfl | simp [Act.eval]) ?_
  refine (kSame hk3.out.t (Ct0 _) (by decide) (by decide)).mono ?_
  rintro e X4 ⟨rfl, hb⟩
  have hk4 := Aside0.mk (hk3.out.step hb)
  clear hb
  refine ⟨_, rfl, hK.out _ _ hk4.out.S (fun hHeld6 => ?_)⟩
  clear hK
  refine norm_ (a' := ?_) ?_ ?_
  rotate_left
  · show Act.put _ (some 33) _ = _
    simp only [Act.put, List.setIfInBounds_toArray, List.set_cons_zero, List.set_cons_succ, i64_w, i32_w]
    rfl
  refine pure_ (i := 19) (N := some 34) (v := ?_) (a' := ?_) #[true, true, true, true, true, true, true, true, true, true, true, true, true, true, true, true, true, true, true, true, false] rfl rfl (by kernel_rfl) (fun _ _ _ h => h) (Or.inl ⟨by rfl, ?_⟩) ?_ ?_
  rotate_left
  · intro w'
    go_simp
    with_reducible rfl
  rotate_left
  · simp only [Act.put, List.setIfInBounds_toArray, List.set_cons_zero, List.set_cons_succ, i64_w, i32_w]
    rfl
  refine pure_ (i := 20) (N := some 0) (v := ?_) (a' := ?_) #[true, true, true, true, true, true, true, true, true, true, true, true, true, true, true, true, true, true, true, true, true] rfl rfl (by kernel_rfl) (fun _ _ _ h => h) (Or.inl ⟨by rfl, ?_⟩) ?_ ?_
  rotate_left
  · intro w'
    go_simp
    with_reducible rfl
  rotate_left
  · simp only [Act.put, List.setIfInBounds_toArray, List.set_cons_zero, List.set_cons_succ, i64_w, i32_w]
    rfl
  refine done_ (by kernel_rfl) ?_
  go_wp2
  go_ret
  exact ⟨rfl, hk4.out.bel⟩
end Go.Proofs.YtembdahclmffjaaDoor.Pk
