/- wisplaw03.PackReads: the walk. -/
import Derived.Test.YtgnjlgfnpfjjnaaDoorTk
import Derived.Test.YtgnjlgfnpfjjnaaDoorPt
namespace Go.Proofs.YtgnjlgfnpfjjnaaDoor.Pk
open Go.RowKit Go.Proofs.YtgnjlgfnpfjjnaaDoorW.PrintWords Go.Proofs.YtgnjlgfnpfjjnaaDoorW.PrintLast Go.Proofs.YtgnjlgfnpfjjnaaDoorW.PrintMore Go.Proofs.YtgnjlgfnpfjjnaaDoor.Mem
set_option linter.unusedVariables false
set_option linter.unusedSimpArgs false
open Ap (RB CB)
abbrev TkT := Int × Int
def kTk : Kd TkT := Kd.pair (Kd.int .i64) (Kd.int .i64)
theorem at_Tk {w : World} {A : Option Addr} {n : Nat} {xs : List TkT} (h : Kd.C kTk w A n xs) (i : Nat) (h1 : i < xs.length) (hn : n = xs.length) :
    ∃ ad, A = some ad ∧ w.cell? (ad.add (i * 2)) = some (.int .i64 xs[i].1) ∧ w.cell? ⟨(ad.add (i * 2)).block, (ad.add (i * 2)).off + 1, none⟩ = some (.int .i64 xs[i].2) := by
  obtain ⟨ad, c, e, _, hK, hc0⟩ := Kd.C_get h (0, 0) (i : Int) (by omega) (by omega)
  rw [Int.toNat_natCast] at hK hc0
  have hp : xs.getD i (0, 0) = xs[i] := by rw [List.getD_eq_getElem?_getD, List.getElem?_eq_getElem h1]; rfl
  rw [hp] at hK
  have hc : ∀ j u, c[j]? = some u → w.cell? (ad.add (i * 2 + j)) = some u := hc0
  obtain ⟨_, _, rfl, rfl, rfl⟩ := hK
  exact ⟨ad, e, hc 0 _ rfl, by rw [← add_field _ _ 1 (by omega)]; exact hc 1 _ rfl⟩
/-! ### a reader that is nil, and one that is zero -/
section
variable (w : World)
set_option maxHeartbeats 1000000 in
theorem nErr : Calls Tryd.prog 23 #[.pointer none] w fun e w' => e = .returned (.int .i64 1) ∧ w = w' := by
  go_enter Tryd.func23, Tryd.ntmps23
  go_wp2
  go_ret
  exact ⟨rfl, rfl⟩
set_option maxHeartbeats 1000000 in
theorem nLeft : Calls Tryd.prog 24 #[.pointer none] w fun e w' => e = .returned (.int .i64 0) ∧ w = w' := by
  go_enter Tryd.func24, Tryd.ntmps24
  go_wp2
  go_ret
  exact ⟨rfl, rfl⟩
set_option maxHeartbeats 1000000 in
theorem nGood : Calls Tryd.prog 41 #[.pointer none] w fun e w' => e = .returned (.bool false) ∧ w = w' := by
  go_enter Tryd.func41, Tryd.ntmps41
  go_wp2
  go_ret
  exact ⟨rfl, rfl⟩
set_option maxHeartbeats 1000000 in
theorem nTake (n : Int) : Calls Tryd.prog 40 #[.pointer none, .int .i64 n] w fun e w' => e = .returned (.slice none 0 0) ∧ w = w' := by
  go_enter Tryd.func40, Tryd.ntmps40
  go_wp2_with (go_at_call 41; ((with_reducible refine (nGood _).mono ?_); rintro e w1 ⟨rfl, rfl⟩))
  go_ret
  exact ⟨rfl, rfl⟩
set_option maxHeartbeats 1000000 in
theorem nValue (n : Int) : Calls Tryd.prog 39 #[.pointer none, .int .i64 n] w fun e w' => e = .returned (.int .u32 0) ∧ w = w' := by
  go_enter Tryd.func39, Tryd.ntmps39
  go_wp2_with (go_at_call 40; ((with_reducible refine (nTake _ _).mono ?_); rintro e w1 ⟨rfl, rfl⟩))
  go_loopg [5, 12] 0 (fun gk v5 v12 wr => v5 = .int .u32 0 ∧ v12 = .int .i64 0 ∧ wr = w)
  case atStart => exact ⟨rfl, rfl, rfl⟩
  case round =>
    obtain ⟨rfl, rfl, rfl⟩ := hrel
    go_wp2
    go_ret
    exact ⟨rfl, rfl⟩
set_option maxHeartbeats 1000000 in
theorem nRByte : Calls Tryd.prog 25 #[.pointer none] w fun e w' => e = .returned (.int .u8 0) ∧ w = w' := by
  go_enter Tryd.func25, Tryd.ntmps25
  go_wp2_with (go_at_call 39; ((with_reducible refine (nValue _ _).mono ?_); rintro e w1 ⟨rfl, rfl⟩))
  go_ret
  exact ⟨rfl, rfl⟩
set_option maxHeartbeats 1000000 in
theorem nRBytes (n : Int) : Calls Tryd.prog 26 #[.pointer none, .int .i64 n] w fun e w' => (∃ A c, e = .returned (.slice A 0 c)) ∧ Below w.heap.size w w' := by
  go_enter Tryd.func26, Tryd.ntmps26
  go_wp2_with (first | (go_at_call 40; ((with_reducible refine (nTake _ _).mono ?_); rintro e w1 ⟨rfl, rfl⟩)) | (go_at_call 35; ((refine (Clone (xs := []) (c := 0) (C_none _) (by simp)).mono ?_); rintro e w2 ⟨u, rfl, hR, hb⟩; obtain ⟨A, c, rfl, _⟩ := Kd.R_reads hR)))
  go_ret
  exact ⟨⟨A, c, rfl⟩, hb⟩
set_option maxHeartbeats 1000000 in
theorem nRNumber : Calls Tryd.prog 27 #[.pointer none] w fun e w' => e = .returned (.int .i64 0) ∧ w = w' := by
  go_enter Tryd.func27, Tryd.ntmps27
  go_wp2_with (go_at_call 41; ((with_reducible refine (nGood _).mono ?_); rintro e w1 ⟨rfl, rfl⟩))
  go_ret
  exact ⟨rfl, rfl⟩
end
/-! ### what holds at a round -/
structure RI (w wr : World) (n gi cap gr gq : Nat) (ok : Nat → Prop) (A : Option Addr) (zs ys : List Int) (er : Int) : Prop where
  M : IsM wr w.heap.size gi cap zs
  len : zs.length = n
  C : CB wr A n zs
  far : ∀ a, A = some a → 0 < n → a.block ≠ gi ∧ a.block ≠ gr ∧ a.block ≠ gq
  R : IsR wr w.heap.size ok gr ys er
  Q : IsQ wr w.heap.size ok gq ys er
  B : allB ys
  yl : ys.length ≤ n
  b : Below w.heap.size w wr
theorem stepL_sub (kind n : Int) (xs : List Int) (err : Int) : ∃ k, stepL kind n xs err = xs.drop k := by
  have h : ∀ n, ∃ k, leftL xs err n = xs.drop k := fun n => by
    unfold leftL; split
    · exact ⟨_, rfl⟩
    · exact ⟨0, by simp⟩
  unfold stepL
  split
  · exact h 1
  · split
    · exact h 2
    · split
      · exact h 4
      · split
        · exact h n
        · split
          · exact ⟨_, rfl⟩
          · exact ⟨0, by simp⟩
section
variable {w wr w' : World} {n gi cap gr gq : Nat} {ok : Nat → Prop} {A : Option Addr} {zs ys : List Int} {er : Int}
theorem RI.takes (h : RI w wr n gi cap gr gq ok A zs ys er) (hi : gi ≠ gr ∧ gi ≠ gq) {kind k : Int} (hB : Both wr w' w.heap.size ok gr gq (stepL kind k ys er) (stepE kind k ys er)) : RI w w' n gi cap gr gq ok A zs (stepL kind k ys er) (stepE kind k ys er) := by
  obtain ⟨d, hd⟩ := stepL_sub kind k ys er
  have g1 := h.R.base
  have g2 := h.Q.base
  refine ⟨h.M.fr hB.2.2 (by omega), h.len, C_move h.C (fun a ha hn => hB.2.2.block _ ?_ (fun e => ?_)), h.far, hB.1, hB.2.1, ?_, ?_, h.b.trans (hB.2.2.below h.b.size (fun k hk e => by omega))⟩
  · exact IsR.C_lt h.C ha hn
  · have := h.far a ha hn; omega
  · rw [hd]; exact fun y hy => h.B y (List.mem_of_mem_drop hy)
  · rw [hd, List.length_drop]; have := h.yl; omega
/-- 'in' is written over -/
theorem RI.put (h : RI w wr n gi cap gr gq ok A zs ys er) (hi : gi ≠ gr ∧ gi ≠ gq) (hok : ∀ k, ok k → k ≠ gi) {W : World} {zs' : List Int} (hM : IsM W w.heap.size gi cap zs') (hl : zs'.length = n) (hF : Fr wr W (fun k => k = gi)) {w2 : World} {A2 : Option Addr} (hb : Below W.heap.size W w2) (hC : CB w2 A2 n zs') (hA : ∀ a, A2 = some a → 0 < n → W.heap.size ≤ a.block) : RI w w2 n gi cap gr gq ok A2 zs' ys er := by
  have g0 := h.M.base
  have g1 := h.R.lt
  have g2 := h.Q.lt
  have g3 := h.M.lt
  have hs := hF.size
  exact ⟨hM.below hb, hl, hC, fun a ha hn => by have := hA a ha hn; omega, (h.R.fr hF (by omega) (fun k hk _ => hok k hk)).below hb, (h.Q.fr hF (by omega) (fun k hk _ => hok k hk)).below hb, h.B, h.yl, (h.b.trans (hF.below h.b.size (fun k hk e => by omega))).trans (hb.mono (by have := h.b.size; omega))⟩
/-- one byte of 'in' -/
theorem IsM.put {W : World} {B g cap : Nat} {xs : List Int} (h : IsM W B g cap xs) {k : Nat} (hk : k < xs.length) (y : Int) : IsM (W.setCell ⟨g, k, none⟩ (.int .u8 y)) B g cap (xs.set k y) := by
  unfold IsM at h ⊢
  have h9 := Kd.R_putn h (k : Int) y
  rw [Int.toNat_natCast, List.set_append_left _ _ hk] at h9
  rw [List.length_set]
  exact h9
theorem IsM.at_ {W : World} {B g cap : Nat} {xs : List Int} (h : IsM W B g cap xs) {k : Nat} (hk : k < xs.length) : ∃ u : Int, W.cell? ⟨g, k, none⟩ = some (.int .u8 u) ∧ W.frozen? ⟨g, k, none⟩ = false := by
  unfold IsM at h
  have hce := Kd.R_celln 0 h (k : Int) (by omega) (by omega)
  rw [Int.toNat_natCast] at hce
  exact ⟨_, hce.1, hce.2⟩
end
/-- an empty row that has just been made -/
theorem R_made (w : World) : RB (w.alloc (.cells #[] 5)) w.heap.size (.slice (some ⟨w.heap.size, 0, none⟩) 0 0) ([] : List Int) := Kd.R_of_own (h1 := fun _ => rfl) (by have h2 := World.ownsRow_made w #[] (e := 5) (size := 1) 0 (Nat.le_refl _) (Nat.zero_le _) rfl; simpa [encs] using h2) (fun _ _ => trivial)
theorem RI.start {w w1 w2 w3 : World} {gi cap gr : Nat} {bs : List Int} {A A1 : Option Addr} {c1 : Nat} (hC : CB w A bs.length bs) (hM : IsM w1 w.heap.size gi cap bs) (hb1 : Below w.heap.size w w1) (hR : IsR w2 w1.heap.size (fun k => w1.heap.size ≤ k) gr bs 0) (hb2 : Below w1.heap.size w1 w2)
    (hv : RB w3 w2.heap.size (.slice A1 bs.length c1) bs) (hb3 : Below w2.heap.size w2 w3) (hB : allB bs) :
    RI w (w3.alloc (.cells #[.slice A1 bs.length c1, .int .i64 0] 50)) bs.length gi cap gr w3.heap.size (fun k => k < w3.heap.size ∧ k ≠ gi ∧ k ≠ gr ∧ k ≠ w3.heap.size) A bs bs 0 := by
  have s1 := hb1.size
  have s2 := hb2.size
  have s3 := hb3.size
  have g1 := hM.base
  have g2 := hM.lt
  have g3 := hR.base
  have g4 := hR.lt
  have hb4 : Below w3.heap.size w3 (w3.alloc (.cells #[.slice A1 bs.length c1, .int .i64 0] 50)) := below_alloc (Below.refl _ _) _
  have hbb : Below w.heap.size w (w3.alloc (.cells #[.slice A1 bs.length c1, .int .i64 0] 50)) := ((hb1.trans (hb2.mono s1)).trans (hb3.mono (by omega))).trans (hb4.mono (by omega))
  obtain ⟨_, _, hC1⟩ := Kd.R_reads' hv
  have hl1 := (Kd.R_reads' hv).2.1
  refine ⟨((hM.below hb2).below hb3).below hb4, rfl, Kd.C_below hC hbb, fun a ha hn => ?_, ?_, ⟨A1, c1, Box2.new _ _ _ _, by omega, hl1, Kd.C_below hC1 hb4, fun a ha hn => ?_⟩, hB, Nat.le_refl _, hbb⟩
  · subst ha
    have := IsR.C_lt hC rfl hn
    omega
  · obtain ⟨A5, c5, h1, h2, h3, h4, h5⟩ := (hR.below hb3).below hb4
    refine ⟨A5, c5, h1, by omega, h3, h4, fun a ha hn => ?_⟩
    have := h5 a ha hn
    have k1 : a.block < w2.heap.size := by
      obtain ⟨A6, c6, i1, _, _, i4, i5⟩ := hR
      have e := h1
      have e2 := (i1.fr (Fr.of_below (hb3.trans (hb4.mono s3)) (fun _ => False)) (fun h => h))
      unfold Box2 at e e2
      rw [e] at e2
      simp at e2
      rw [e2.1] at ha
      exact IsR.C_lt i4 ha hn
    refine ⟨⟨by omega, by omega, this.2, by omega⟩, this.2⟩
  · have k1 := Kd.R_base hv a.block (by rw [ha]; rfl)
    have k2 := Kd.R_lt hv a.block (by rw [ha]; rfl)
    exact ⟨⟨k2, by omega, by omega, by omega⟩, by omega⟩
set_option maxRecDepth 100000 in
set_option maxHeartbeats 4000000 in
theorem Reads {w : World} {A A2 : Option Addr} {c c2 : Nat} {bs : List Int} {ts : List TkT} (hT : Tab w) (hC : CB w A bs.length bs) (hB : allB bs) (hl : bs.length ≤ 140737488351232) (hTs : Kd.C kTk w A2 ts.length ts) (hn : ts.length ≤ 140737488351232) :
    Calls Tryd.prog 6 #[.slice A bs.length c, .slice A2 ts.length c2] w fun e w' => e = .returned (.bool true) ∧ Below w.heap.size w w' := by
  have hTT := Aside0.mk hT
  have hCC := Aside0.mk hC
  have hBB := Aside0.mk hB
  have hTs2 := Aside0.mk hTs
  have kR := Roomy (c := c) hC (by omega)
  obtain ⟨n, hn0⟩ : ∃ n, n = bs.length := ⟨_, rfl⟩
  obtain ⟨nt, hnt⟩ : ∃ n, n = ts.length := ⟨_, rfl⟩
  rw [← hn0] at kR hl ⊢
  rw [← hnt] at hn ⊢
  have hkR := Aside0.mk kR
  have hnn := Aside0.mk hn0
  have hntt := Aside0.mk hnt
  obtain ⟨N, hN⟩ : ∃ N, N = min nt 60 := ⟨_, rfl⟩
  have hNn : N ≤ nt ∧ N ≤ 60 ∧ (N = nt ∨ N = 60) := by omega
  have hN3 := Aside0.mk hNn
  clear hT hC hB hTs kR hn0 hnt hN hNn
  go_enter Tryd.func6, Tryd.ntmps6
  go_wp2_with (first | (go_at_call 8; go_must (with_reducible refine hkR.out.mono ?_); rintro e w1 ⟨gi, cap, rfl, hM, hb1⟩; have hMM := Aside0.mk hM; have hb11 := Aside0.mk hb1; have kN := NewReader (c := cap) hM.c (by have := hnn.out; omega); rw [← hnn.out] at kN; have hkN := Aside0.mk kN; clear hM hb1 kN) | (go_at_call 20; go_must (with_reducible refine hkN.out.mono ?_); rintro e w2 ⟨gr, rfl, hR, hb2⟩; have hRR := Aside0.mk hR; have hb22 := Aside0.mk hb2; have hm0 := Aside0.mk (R_made w2); have hCc := Aside0.mk (Kd.C_below hCC.out ((hb11.out.trans (hb2.mono hb11.out.size)).trans ((below_alloc (Below.refl _ _) (.cells #[] 5) : Below w2.heap.size w2 _).mono (Nat.le_trans hb11.out.size hb2.size)))); have hb33 := Aside0.mk (below_alloc (Below.refl _ _) (.cells #[] 5) : Below w2.heap.size w2 _); clear hR hb2) | (at_builtin; go_must (refine appB (w0 := w2) w2.heap.size _ [] bs A n c rfl _ _ rfl rfl rfl hm0.out (by rw [hnn.out]; exact hCc.out) hb33.out (by rw [World.size_alloc]; omega) (by simp; omega) ?_); intro v1 w3 ho hbl; rw [List.nil_append] at ho; obtain ⟨A1, m1, c1, rfl, hm1, _⟩ := rowf ho; subst hm1; have hI0 := Aside0.mk (RI.start (A := A) hCC.out hMM.out hb11.out hRR.out hb22.out ho hbl hBB.out); have hbW := hbl.size; clear ho hbl))
  have hne : Aside0 (gr ≠ w3.heap.size) := ⟨by have := hRR.out.lt; have h2 := hb33.out.size; have := hbW; omega⟩
  obtain ⟨ok, hok, hI1⟩ : ∃ ok : Nat → Prop, Aside0 (∀ k, ok k → k ≤ w3.heap.size ∧ k ≠ gi ∧ k ≠ gr ∧ k ≠ w3.heap.size) ∧ Aside0 (RI w (w3.alloc (.cells #[.slice A1 bs.length c1, .int .i64 0] 50)) bs.length gi cap gr w3.heap.size ok A bs bs 0) := ⟨_, ⟨fun k hk => ⟨by omega, hk.2⟩⟩, hI0⟩
  clear hI0
  have hgi : Aside0 (gi ≠ gr ∧ gi ≠ w3.heap.size) := ⟨by have := hRR.out.base; have := hMM.out.lt; have := hb22.out.size; have := hbW; omega⟩
  rw [← hnn.out] at hI1 ⊢
  go_loopg [0, 8] N (fun gk v0 v8 wr => ∃ (i : Nat) (A : Option Addr) (c : Nat) (zs ys : List Int) (er : Int), v0 = .slice A n c ∧ v8 = .int .i64 (i : Int) ∧ i + gk = N ∧ Aside0 (RI w wr n gi cap gr w3.heap.size ok A zs ys er))
  case atStart => exact ⟨0, A, c, bs, bs, 0, rfl, rfl, by omega, hI1⟩
  case round =>
    clear hI1
    obtain ⟨i, A, c, zs, ys, er, rfl, rfl, hi, hI⟩ := hrel
    cases gk with
    | succ k1 =>
      have hN4 := hN3.out
      have hd : decide (i < nt) = true := decide_eq_true (by omega)
      have hd2 : decide ((i : Int) < 60) = true := decide_eq_true (by omega)
      have hd3 : (i : Int) < 60 := by omega
      have hd4 : i < nt := by omega
      clear hN4
      have hlt : i < ts.length := by have := hntt.out; omega
      obtain ⟨ad, e0, hx0, hx1⟩ := at_Tk hTs2.out i hlt rfl
      subst e0
      have hxx0 := Aside0.mk hx0
      have hxx1 := Aside0.mk hx1
      generalize ts[i] = p at hx0 hx1 hxx0 hxx1
      obtain ⟨kind, kk⟩ := p
      simp only at hx0 hx1 hxx0 hxx1
      clear hx0 hx1 hlt
      by_cases hh : (i : Int) = (nt : Int) / 2
      · have hd5 : ((i : Int) == (nt : Int) / 2) = true := beq_iff_eq.2 hh
        have kA := AsWas (c := c) hI.out.M (by rw [hI.out.len]; exact hI.out.C) (by rw [hI.out.len]; omega)
        rw [hI.out.len] at kA
        have hkA := Aside0.mk kA
        clear kA hh
        go_wp2_with (go_at_call 12; go_must (with_reducible refine hkA.out.mono ?_); rintro e w4 ⟨rfl, rfl⟩)
        go_loopg [9, 46] n (fun gk v9 v46 wr2 => ∃ (k : Nat) (zs' : List Int), v46 = .int .i64 (k : Int) ∧ k + gk = n ∧ Aside0 (zs'.length = n) ∧ Aside0 (IsM wr2 w.heap.size gi cap zs') ∧ Aside0 (Fr wr wr2 (fun k => k = gi)))
        case atStart => exact ⟨0, zs, rfl, by omega, ⟨hI.out.len⟩, ⟨hI.out.M.below (below_drew (Below.refl _ _))⟩, ⟨(Fr.refl _ _).drew⟩⟩
        case round =>
          obtain ⟨k, zs', rfl, hk, hz, hM, hF⟩ := hrel
          cases gk with
          | succ k2 =>
            have hd6 : decide (k < n) = true := decide_eq_true (by omega)
            obtain ⟨u, hu, hf⟩ := hM.out.at_ (k := k) (by have := hz.out; omega)
            go_wp2
            go_roundg k2
            case measure => omega
            case rel => exact ⟨k + 1, zs'.set k (Go.bits .xor .u8 u 60), rfl, by omega, ⟨by rw [List.length_set]; exact hz.out⟩, ⟨hM.out.put (by have := hz.out; omega) _⟩, ⟨hF.out.setCell (p := ⟨gi, k, none⟩) (fun _ => rfl) _⟩⟩
          | zero =>
            have hd6 : decide (k < n) = false := decide_eq_false (by omega)
            obtain ⟨W4, rfl⟩ : ∃ W4, W4 = wr := ⟨_, rfl⟩
            have hm0 := Aside0.mk (R_made W4)
            have hb0 := Aside0.mk (below_alloc (Below.refl _ _) (.cells #[] 5) : Below W4.heap.size W4 _)
            have hCi := hM.out.c
            rw [hz.out] at hCi
            have hCc := Aside0.mk (Kd.C_below hCi hb0.out)
            clear hCi
            go_wp2_with (first | (at_builtin; go_must (refine appB (w0 := W4) W4.heap.size _ [] zs' (some ⟨gi, 0, none⟩) n cap rfl _ _ rfl rfl rfl hm0.out hCc.out hb0.out (by rw [World.size_alloc]; omega) (by simp; omega) ?_); intro v1 w5 ho hbl; rw [List.nil_append] at ho; obtain ⟨A6, m6, c6, rfl, hm6, hC6⟩ := rowf ho; rw [hz.out] at hm6; subst hm6; have hI4 := Aside0.mk (hI.out.put hgi.out (fun k hk => (hok.out k hk).2.1) hM.out hz.out hF.out hbl hC6 (fun a ha _ => Kd.R_base ho a.block (by rw [ha]; rfl))); have hy0 := cell_below hI4.out.b hxx0.out; have hy1 := cell_below hI4.out.b hxx1.out; clear ho hbl hC6) | (go_at_call 21; go_must (with_reducible refine (takes kind kk hI4.out.R hI4.out.Q hne.out (fun k hk => ⟨(hok.out k hk).2.2.1, (hok.out k hk).2.2.2⟩) (fun k hk => by have := (hok.out k hk).1; have := hI4.out.Q.lt; omega) hI4.out.B (by have := hI4.out.yl; omega)).mono ?_); rintro e w9 ⟨rfl, hB9⟩; have hI9 := Aside0.mk (hI4.out.takes hgi.out hB9); clear hB9))
            go_roundg k1
            case measure => omega
            case rel => exact ⟨i + 1, A6, c6, zs', _, _, rfl, rfl, by omega, hI9⟩
      · have hd5 : ((i : Int) == (nt : Int) / 2) = false := beq_eq_false_iff_ne.2 hh
        clear hh
        have hy0 := cell_below hI.out.b hxx0.out
        have hy1 := cell_below hI.out.b hxx1.out
        go_wp2_with (first | (go_at_call 21; go_must (with_reducible refine (takes kind kk hI.out.R hI.out.Q hne.out (fun k hk => ⟨(hok.out k hk).2.2.1, (hok.out k hk).2.2.2⟩) (fun k hk => by have := (hok.out k hk).1; have := hI.out.Q.lt; omega) hI.out.B (by have := hI.out.yl; omega)).mono ?_); rintro e w9 ⟨rfl, hB9⟩; have hI9 := Aside0.mk (hI.out.takes hgi.out hB9); clear hB9))
        go_roundg k1
        case measure => omega
        case rel => exact ⟨i + 1, A, c, zs, _, _, rfl, rfl, by omega, hI9⟩
    | zero =>
      have hs9 := hI.out.b.size
      obtain ⟨W9, hW9⟩ : ∃ W9, W9 = wr.alloc (.cells #[.slice none 0 0, .int .i64 0] 56) := ⟨_, rfl⟩
      have hbz : Below wr.heap.size wr W9 := by rw [hW9]; exact below_alloc (Below.refl _ _) _
      have hZ : IsR W9 w.heap.size (fun _ => False) wr.heap.size [] 0 := by rw [hW9]; exact ⟨none, 0, Box2.new _ _ _ _, hs9, Nat.le_refl _, C_none _, fun a ha hn => by cases ha⟩
      have kA := AsWas (c := c) (hI.out.M.below hbz) (by rw [hI.out.len]; exact Kd.C_below hI.out.C hbz) (by rw [hI.out.len]; omega)
      rw [hI.out.len] at kA
      have hkA := Aside0.mk kA
      have hb9 := Aside0.mk (hI.out.b.trans (hbz.mono hs9))
      have hZ0 := Aside0.mk (hZ.below (below_drew (Below.refl _ _)))
      have hWW := Aside0.mk hW9
      have q1 : IntKind.u16.wrap (orL 0 (takeL [] 0 2) 0) = 0 := by decide
      have q2 : errL [] 0 2 = 30 := by decide
      clear kA hI hW9 hZ hbz
      rcases (show (decide (i < nt) = false) ∨ (decide (i < nt) = true ∧ decide ((i : Int) < 60) = false ∧ ¬ (i : Int) < 60) by
        have := hN3.out
        by_cases h : i < nt
        · exact .inr ⟨decide_eq_true h, decide_eq_false (by omega), by omega⟩
        · exact .inl (decide_eq_false h)) with hd | ⟨hd, hd2, hd3⟩
      all_goals
        go_wp2_with (first | (go_at_call 12; rw [← hWW.out]; (with_reducible refine hkA.out.mono ?_); rintro e w4 ⟨rfl, rfl⟩) | (go_at_call 23; ((with_reducible refine (nErr _).mono ?_)); rintro e w4 ⟨rfl, rfl⟩) | (go_at_call 22; ((with_reducible refine (num _ _).mono ?_)); rintro e w4 ⟨rfl, rfl⟩) | (go_at_call 24; ((with_reducible refine (nLeft _).mono ?_)); rintro e w4 ⟨rfl, rfl⟩) | (go_at_call 25; ((with_reducible refine (nRByte _).mono ?_)); rintro e w4 ⟨rfl, rfl⟩) | (go_at_call 26; ((with_reducible refine (nRBytes _ 0).mono ?_)); rintro e w6 ⟨⟨A6, c6, rfl⟩, hb6⟩; have hZ1 := Aside0.mk (hZ0.out.below hb6); have hb7 := Aside0.mk ((below_drew hb9.out).trans (hb6.mono hb9.out.size)); have hs7 := hb6.size; clear hb6) | (go_at_call 27; ((with_reducible refine (nRNumber _).mono ?_)); rintro e w4 ⟨rfl, rfl⟩) | (go_at_call 23; ((with_reducible refine (RErr hZ1.out).mono ?_)); rintro e w4 ⟨rfl, rfl⟩) | (go_at_call 28; ((with_reducible refine (RCell hZ1.out).mono ?_)); rintro e w7 ⟨rfl, hR, hF⟩; have hZ2 := Aside0.mk hR; have hb8 := Aside0.mk (hb7.out.trans (hF.below hb7.out.size (fun k hk e => by omega))); clear hR hF; rw [q1]) | (go_at_call 23; ((with_reducible refine (RErr hZ2.out).mono ?_)); rintro e w4 ⟨rfl, rfl⟩; rw [q2]) | (go_at_call 13; go_must (with_reducible refine (known (hTT.out.below hb8.out)).mono ?_); rintro e w8 ⟨rfl, hbk⟩; have hb10 := Aside0.mk (hb8.out.trans (hbk.mono hb8.out.size)); clear hbk))
        go_ret
        exact ⟨rfl, hb10.out⟩
end Go.Proofs.YtgnjlgfnpfjjnaaDoor.Pk
