/- wisplaw03.PackWrites: the walk. -/
import Derived.Test.YtgnjlgfnpfjjnaaDoorPt
import Derived.Test.YtgnjlgfnpfjjnaaDoorNi
import Derived.Test.YtgnjlgfnpfjjnaaDoorApW
import Derived.Deep.RegionHeld3
import Derived.Deep.RegionWith
import Derived.Deep.DeepCutAuto
import Derived.Deep.CutBlock
namespace Go.Proofs.YtgnjlgfnpfjjnaaDoor.Pk
open Go.RowKit Go.Proofs.YtgnjlgfnpfjjnaaDoorW.PrintWords Go.Proofs.YtgnjlgfnpfjjnaaDoorW.PrintLast Go.Proofs.YtgnjlgfnpfjjnaaDoorW.PrintMore Go.Proofs.YtgnjlgfnpfjjnaaDoor.Mem
set_option linter.unusedVariables false
set_option linter.unusedSimpArgs false
open Ap (RB CB)
/-- the writer and 'all' hold the same bytes, each in memory of its own -/
def Inv (w wr : World) (xs : List Int) (v : Value) : Prop :=
  ∃ ok, IsW wr w.heap.size ok w.heap.size xs ∧ (∀ k, ok k → w.heap.size ≤ k ∧ k < wr.heap.size ∧ v.ownBlock ≠ some k) ∧ RB wr w.heap.size v xs ∧ v.ownBlock ≠ some w.heap.size ∧ Below w.heap.size w wr
namespace Inv
variable {w wr w' w1 : World} {xs ys : List Int} {v v1 : Value}
theorem start (w : World) : Inv w (w.alloc (.cells #[.slice none 0 0] 36)) [] (.slice none 0 0) :=
  ⟨_, IsW.new w w.heap.size (Nat.le_refl _), fun k h => h.elim, Kd.R_nil _ _ _ _ _, by simp [Value.ownBlock], below_alloc (Below.refl _ _) _⟩
theorem below (h : Inv w wr xs v) (hb : Below wr.heap.size wr w1) : Inv w w1 xs v := by
  obtain ⟨ok, hW, hok, hR, hv, hB⟩ := h
  exact ⟨ok, hW.below hb, fun k hk => ⟨(hok k hk).1, Nat.lt_of_lt_of_le (hok k hk).2.1 hb.size, (hok k hk).2.2⟩, Kd.R_below hR hb, hv, hB.trans (hb.mono hB.size)⟩
/-- behind a call of lay: what the append wants -/
theorem row (h : Inv w wr xs v) {ok : Nat → Prop} (hok : ∀ k, ok k → w.heap.size ≤ k ∧ k < wr.heap.size ∧ v.ownBlock ≠ some k) (hF : Fr wr w' (fun k => k = w.heap.size ∨ ok k)) : RB w' w.heap.size v xs := by
  obtain ⟨_, _, _, hR, hv, _⟩ := h
  refine Kd.R_mono (hF.row (Kd.R_tight rfl hR) (fun q hq _ hS => ?_)) (fun _ _ => trivial)
  rcases hS with e | e
  · subst e; exact hv hq.symm
  · exact (hok q e).2.2 hq.symm
theorem step (h : Inv w wr xs v) {ok : Nat → Prop} (hok : ∀ k, ok k → w.heap.size ≤ k ∧ k < wr.heap.size ∧ v.ownBlock ≠ some k) (hW : IsW w' w.heap.size (fun k => ok k ∨ wr.heap.size ≤ k) w.heap.size (xs ++ ys)) (hF : Fr wr w' (fun k => k = w.heap.size ∨ ok k))
    (hR : RB w1 w.heap.size v1 (xs ++ ys)) (hb : Below w.heap.size w w1) (hg : w'.grownBy w1 v.ownBlock) (hat : v1.ownBlock = v.ownBlock ∨ ∃ b, v1.ownBlock = some b ∧ w'.heap.size ≤ b) : Inv w w1 (xs ++ ys) v1 := by
  obtain ⟨_, _, _, hR0, hv, hB⟩ := h
  have hgl := hW.lt
  have vlt := Kd.R_lt hR0
  have hs1 := hF.size
  have hs2 := hg.size
  refine ⟨fun k => (ok k ∨ wr.heap.size ≤ k) ∧ k < w'.heap.size, ?_, fun k hk => ⟨?_, by omega, fun e => ?_⟩, hR, fun e => ?_, hb⟩
  · refine (hW.mono (ok' := fun k => (ok k ∨ wr.heap.size ≤ k) ∧ k < w'.heap.size) (fun k hk _ hl => ⟨hk, hl⟩)).fr (Fr.of_grown hg (S := fun q => v.ownBlock = some q) (fun q e _ => e)) hv (fun k hk _ _ e => ?_)
    rcases hk.1 with h1 | h1
    · exact (hok k h1).2.2 e
    · have := vlt k e; omega
  · rcases hk.1 with h1 | h1
    · exact (hok k h1).1
    · have := hB.size; omega
  · rcases hat with e2 | ⟨b, e2, hb2⟩
    · rw [e2] at e
      rcases hk.1 with h1 | h1
      · exact (hok k h1).2.2 e
      · have := vlt k e; omega
    · rw [e2] at e; cases e; omega
  · rcases hat with e2 | ⟨b, e2, hb2⟩
    · rw [e2] at e; exact hv e
    · rw [e2] at e; cases e; omega
end Inv
/-- two rows, as a list -/
def two (a b : Value) (j : Nat) : Value := if j = 0 then a else b
theorem two_rows {W W1 W2 : World} {base : Nat} {a b : Value} {xs : List Int} (ha : RB W1 W.heap.size a xs) (hb : RB W2 W1.heap.size b xs) (h1 : Below W.heap.size W W1) (h2 : Below W1.heap.size W1 W2) (o : Obj) : Ap.Rows (W2.alloc o) W.heap.size 2 (two a b) (fun _ => xs.length) (fun _ => xs) := by
  have hs := h1.size
  refine ⟨fun j hj => ?_, fun j hj => rfl, fun i j hi hj hne q hq e => ?_⟩
  · rcases (show j = 0 ∨ j = 1 by omega) with rfl | rfl
    · exact Kd.R_below (Kd.R_below ha h2) (below_alloc (Below.refl _ _) _)
    · exact Kd.R_below (Kd.R_lower hb hs) (below_alloc (Below.refl _ _) _)
  · have k1 := Kd.R_lt ha
    have k2 := Kd.R_base hb
    rcases (show (i = 0 ∧ j = 1) ∨ (i = 1 ∧ j = 0) by omega) with ⟨rfl, rfl⟩ | ⟨rfl, rfl⟩
    · have := k1 q hq; have := k2 q e; omega
    · have := k1 q e; have := k2 q hq; omega
/-- Apart of two rows that have just been handed out -/
theorem Apart2 {W W1 W2 : World} {a b : Value} {xs : List Int} (ha : RB W1 W.heap.size a xs) (hb : RB W2 W1.heap.size b xs) (h1 : Below W.heap.size W W1) (h2 : Below W1.heap.size W1 W2) (hl : xs.length ≤ 140737488351232) :
    Calls Tryd.prog 16 #[.slice (some ⟨W2.heap.size, 0, none⟩) 2 2] (W2.alloc (.cells #[a, b] 23)) fun e w' => e = .returned (.bool true) ∧ Below W.heap.size W w' := by
  have hs1 := h1.size
  have hs2 := h2.size
  have hh := World.alloc_heap_new W2 (.cells #[a, b] 23)
  have k1 := Kd.R_lt ha
  have k2 := Kd.R_base hb
  have k3 := Kd.R_lt hb
  have k4 := Kd.R_base ha
  refine (Ap.Apart (c := 2) (O := W2.heap.size) (two_rows (base := 0) ha hb h1 h2 _) (fun j hj => ?_) (fun j hj e => ?_) (by rw [World.size_alloc]; omega) (by omega) (fun j _ => hl) (by rw [World.size_alloc]; omega)).mono fun e w' ⟨he, hF⟩ => ⟨he, ?_⟩
  · rcases (show j = 0 ∨ j = 1 by omega) with rfl | rfl 
    · simp only [World.cell?, hh]; simp [two]
    · simp only [World.cell?, hh]; simp [two]
  · rcases (show j = 0 ∨ j = 1 by omega) with rfl | rfl
    · have := k1 _ e; omega
    · have := k3 _ e; omega
  · have hb9 : Below W.heap.size W (W2.alloc (.cells #[a, b] 23)) := below_alloc (h1.trans (h2.mono hs1)) _
    refine hb9.trans (hF.below (by rw [World.size_alloc]; omega) (fun k hk ⟨j, hj, e⟩ => ?_))
    rcases (show j = 0 ∨ j = 1 by omega) with rfl | rfl
    · have := k4 _ e; omega
    · have := k2 _ e; omega
theorem row_facts {W : World} {base : Nat} {v : Value} {xs : List Int} (h : RB W base v xs) : ∃ A m c, v = .slice A m c ∧ m = xs.length ∧ CB W A m xs := by
  obtain ⟨A, c, rfl, _, hC⟩ := Kd.R_reads h
  exact ⟨A, _, c, rfl, rfl, hC⟩
theorem str_of {W : World} {A : Option Addr} {m c : Nat} {xs : List Int} {S : ByteArray} (h : CB W A m xs) (hS : strOfNums xs = S) : (convert 23 9 (.slice A m c)).run Tryd.prog W = .ok (.string S) W := by
  subst hS
  exact Kd.C_string (P := Tryd.prog) (c := c) Tryd.underlying23 Tryd.underlying5 Tryd.underlying9 h
set_option maxRecDepth 100000 in
set_option maxHeartbeats 4000000 in
theorem Writes {w : World} {A : Option Addr} {c : Nat} {ss : List PutT} (hT : Tab w) (hC : Kd.C kPut w A ss.length ss) (hl : (ss.map fun p => p.2.2.length + 5).sum ≤ 1000000000) (hn : ss.length ≤ 1000000000) :
    Calls Tryd.prog 5 #[.slice A ss.length c] w fun e w' => e = .returned (.bool true) ∧ Below w.heap.size w w' := by
  have hTT := Aside0.mk hT
  have hCC := Aside0.mk hC
  have hLL := Aside0.mk hl
  obtain ⟨n, hn0⟩ : ∃ n, n = ss.length := ⟨_, rfl⟩
  have hnn := Aside0.mk hn0
  have hn63 : n ≤ 1000000000 := by omega
  rw [← hn0]
  have hI0 := Aside0.mk (Inv.start w)
  obtain ⟨N, hN⟩ : ∃ N, N = min n 60 := ⟨_, rfl⟩
  have hNn : N ≤ n ∧ N ≤ 60 ∧ (N = n ∨ N = 60) := by omega
  have hN3 := Aside0.mk hNn
  clear hT hC hl hn hn0 hN hNn
  go_enter Tryd.func5, Tryd.ntmps5
  go_wp2
  go_loopg [4, 5] N (fun gk v4 v5 wr => ∃ (i : Nat) (v : Value), v4 = v ∧ v5 = .int .i64 (i : Int) ∧ i + gk = N ∧ Aside0 (Inv w wr (laysI (ss.take i)) v))
  case atStart => exact ⟨0, _, rfl, rfl, by omega, hI0⟩
  case round =>
    obtain ⟨i, v4, hv4, rfl, hi, hI⟩ := hrel
    replace hv4 := hv4.symm
    subst hv4
    cases gk with
    | succ k1 =>
      have hN4 := hN3.out
      have hd : decide (i < n) = true := decide_eq_true (by omega)
      have hd2 : decide ((i : Int) < 60) = true := decide_eq_true (by omega)
      have hd3 : (i : Int) < 60 := by omega
      have hd4 : i < n := by omega
      clear hN4
      have hlt : i < ss.length := by have := hnn.out; have := hN3.out; omega
      obtain ⟨ad, A3, c3, e0, hx0, hx1, hx2, hl3, hC3⟩ := at_Put hCC.out i hlt rfl
      subst e0
      obtain ⟨ok, hW, hok, hR, hv, hb⟩ := id hI.out
      have hy0 := cell_below hb hx0
      have hy1 := cell_below hb hx1
      have hy2 := cell_below hb hx2
      have hL := lay (g := w.heap.size) (xs := laysI (ss.take i)) (bs := ss[i].2.2) ss[i].1 ss[i].2.1 hb (fun k h => ⟨(hok k h).1, (hok k h).2.1⟩) hW hC3 hl3 (by have h1 := tot_le hlt; have h2 := hLL.out; omega)
      have htk := laysI_take hlt
      have hlen := tot_le hlt
      have hpl := putI_len ss[i].1 ss[i].2.1 ss[i].2.2
      have hokk := Aside0.mk hok
      generalize ss[i] = p at hy0 hy1 hy2 hL hx0 htk hlen hpl
      obtain ⟨kind, nn, bs⟩ := p
      simp only at hy0 hy1 hy2 hL hx0 htk hlen hpl
      have hLy := Aside0.mk hL
      have htkk := Aside0.mk htk
      have hxx := Aside0.mk hx0
      have hll : Aside0 ((laysI (ss.take i)).length + (putI kind nn bs).length ≤ 1000000005) := ⟨by have := hLL.out; omega⟩
      clear hlt hx0 hx1 hx2 hl3 hC3 hL hW hok hR hv hb htk hlen hpl
      obtain ⟨S, hS⟩ : ∃ S, strOfNums (laysI (ss.take (i + 1))) = S := ⟨_, rfl⟩
      have hSS := Aside0.mk hS
      have hlx : Aside0 ((laysI (ss.take (i + 1))).length ≤ 1000000005) := ⟨by rw [htkk.out, List.length_append]; exact hll.out⟩
      clear hS
      by_cases hk1 : kind < 1 ∨ 5 < kind
      · rcases (show (decide (kind < 1) = true ∧ kind < 1) ∨ (decide (kind < 1) = false ∧ decide (5 < kind) = true ∧ ¬ kind < 1 ∧ 5 < kind) by
          by_cases h : kind < 1
          · exact .inl ⟨decide_eq_true h, h⟩
          · exact .inr ⟨decide_eq_false h, decide_eq_true (by omega), h, by omega⟩) with ⟨hd5, hd7⟩ | ⟨hd5, hd6, hd7, hd8⟩
        all_goals clear hk1
        all_goals go_wp2_with (first | (go_at_call 14; ((with_reducible refine hLy.out.mono ?_); rintro e w2 ⟨A5, c5, rfl, hl5, hC5, hW5, hF5, hb5⟩; have h2 := Aside0.mk hW5; have h3 := Aside0.mk hF5; have h4 := Aside0.mk hb5; have h5 := Aside0.mk (hI.out.row hokk.out hF5); have h6 := Aside0.mk hC5; have hs5 := Aside0.mk hb5.size; clear hW5 hF5 hb5 hC5 hl5)) | (at_builtin; go_must (refine Kd.R_append_row (w0 := w) (Value.int .u8) 0 (h1 := fun _ => rfl) w.heap.size rfl _ _ 23 5 (.int .u8 0) 1 rfl Tryd.underlying23 infoB rfl (by decide) v4 _ _ A5 _ c5 (fun _ => True) rfl rfl (fun _ _ => trivial) h5.out h6.out h4.out hs5.out (by have := hll.out; omega) ?_); intro v1 w1 hR hb hg hat; have hI2 := hI.out.step hokk.out h2.out h3.out hR hb hg hat; rw [← htkk.out] at hI2 hR; have hI3 := Aside0.mk hI2; have hz0 := cell_below hb hxx.out; obtain ⟨A9, m9, c9, rfl, hm9, hC9⟩ := row_facts hR; have hC99 := Aside0.mk hC9; obtain ⟨okk, hWk, _⟩ := id hI2; have hWkk := Aside0.mk hWk; clear hR hb hg hat hI2 hm9 hC9 hWk) | (go_at_call 15; ((with_reducible refine (Done hWkk.out (by have := hlx.out; omega)).mono ?_)); rintro e w3 ⟨u1, rfl, hR1, hb1⟩; have hR11 := Aside0.mk hR1; have hb11 := Aside0.mk hb1; have hWk3 := Aside0.mk (hWkk.out.below hb1); obtain ⟨A10, m10, c10, rfl, hm10, hC10⟩ := row_facts hR1; have hC1010 := Aside0.mk hC10; clear hR1 hb1 hm10 hC10) | (go_at_call 15; go_must (with_reducible refine (Done hWk3.out (by have := hlx.out; omega)).mono ?_); rintro e w4 ⟨u2, rfl, hR2, hb2⟩; have hR22 := Aside0.mk hR2; have hb22 := Aside0.mk hb2; obtain ⟨A11, m11, c11, rfl, hm11, hC11⟩ := row_facts hR2; have hs7 := str_of (c := c9) (Kd.C_below (Kd.C_below hC99.out hb11.out) hb2) hSS.out; have hs8 := str_of (c := c10) (Kd.C_below hC1010.out hb2) hSS.out; have hs9 := str_of (c := c11) hC11 hSS.out; have hAp := Aside0.mk (Apart2 hR11.out hR2 hb11.out hb2 (by have := hlx.out; omega)); clear hR2 hb2 hm11 hC11) | (go_at_call 16; go_must (with_reducible refine hAp.out.mono ?_); rintro e w5 ⟨rfl, hb5⟩; have hI5 := Aside0.mk (hI3.out.below hb5); clear hb5))
        all_goals go_roundg k1
        all_goals first | (case measure => omega) | skip
        all_goals exact ⟨i + 1, _, rfl, rfl, by omega, hI5⟩
      · have hd5 : decide (kind < 1) = false := decide_eq_false (by omega)
        have hd6 : decide (5 < kind) = false := decide_eq_false (by omega)
        have hd7 : ¬ kind < 1 := by omega
        have hd8 : ¬ 5 < kind := by omega
        clear hk1
        go_wp2_with (first | (go_at_call 14; ((with_reducible refine hLy.out.mono ?_); rintro e w2 ⟨A5, c5, rfl, hl5, hC5, hW5, hF5, hb5⟩; have h2 := Aside0.mk hW5; have h3 := Aside0.mk hF5; have h4 := Aside0.mk hb5; have h5 := Aside0.mk (hI.out.row hokk.out hF5); have h6 := Aside0.mk hC5; have hs5 := Aside0.mk hb5.size; clear hW5 hF5 hb5 hC5 hl5)) | (at_builtin; go_must (refine Kd.R_append_row (w0 := w) (Value.int .u8) 0 (h1 := fun _ => rfl) w.heap.size rfl _ _ 23 5 (.int .u8 0) 1 rfl Tryd.underlying23 infoB rfl (by decide) v4 _ _ A5 _ c5 (fun _ => True) rfl rfl (fun _ _ => trivial) h5.out h6.out h4.out hs5.out (by have := hll.out; omega) ?_); intro v1 w1 hR hb hg hat; have hI2 := hI.out.step hokk.out h2.out h3.out hR hb hg hat; rw [← htkk.out] at hI2; have hI3 := Aside0.mk hI2; have hz0 := cell_below hb hxx.out; clear hR hb hg hat hI2))
        go_roundg k1
        case measure => omega
        case rel => exact ⟨i + 1, v1, rfl, rfl, by omega, hI3⟩
    | zero =>
      have hI1 := hI.out
      have hiN : i = N := by omega
      rw [hiN] at hI1
      have hTl : (laysI (ss.take N)).length ≤ 1000000000 := by
        have h1 := laysI_len (ss.take N)
        have h2 : (ss.map fun p => p.2.2.length + 5).sum = ((ss.take N).map fun p => p.2.2.length + 5).sum + ((ss.drop N).map fun p => p.2.2.length + 5).sum := by
          rw [← List.sum_append, ← List.map_append, List.take_append_drop]
        have := hLL.out
        omega
      generalize laysI (ss.take N) = xs at hI1 hTl
      obtain ⟨S, hS⟩ : ∃ S, strOfNums xs = S := ⟨_, rfl⟩
      have hSS := Aside0.mk hS
      have hTL := Aside0.mk hTl
      obtain ⟨okk, hWk, _, hR, _, hB⟩ := id hI1
      obtain ⟨A9, m9, c9, rfl, hm9, hC9⟩ := row_facts hR
      have hI2 := Aside0.mk hI1
      have hW2 := Aside0.mk hWk
      have hC2 := Aside0.mk hC9
      have hB2 := Aside0.mk hB
      clear hI hI1 hTl hS hWk hR hB hm9 hC9 hiN
      rcases (show (decide (i < n) = false) ∨ (decide (i < n) = true ∧ decide ((i : Int) < 60) = false ∧ ¬ (i : Int) < 60) by
        have := hN3.out
        by_cases h : i < n
        · exact .inr ⟨decide_eq_true h, decide_eq_false (by omega), by omega⟩
        · exact .inl (decide_eq_false h)) with hd | ⟨hd, hd2, hd3⟩
      all_goals go_wp2_with (first | (go_at_call 17; ((with_reducible refine (nByte _ _).mono ?_); rintro e w1 ⟨rfl, hb1⟩; have hb11 := Aside0.mk hb1; clear hb1)) | (go_at_call 18; ((with_reducible refine (nNumber _).mono ?_); rintro e w2 ⟨rfl, hb2⟩; have hb22 := Aside0.mk (hb11.out.trans (hb2.mono hb11.out.size)); clear hb2)) | (go_at_call 19; ((with_reducible refine (nBytes _ _ _ _).mono ?_); rintro e w3 ⟨rfl, rfl⟩)))
      all_goals
        have hb3 := Aside0.mk (below_alloc hb22.out (.cells #[.int .u8 1] 5))
        have hb4 := Aside0.mk (below_drew hb3.out)
        have hst := Aside0.mk (fun w' (hb : Below wr.heap.size wr w') => str_of (c := c9) (Kd.C_below hC2.out hb) hSS.out)
        have t2 := hst.out _ hb4.out
        have t10 : (S.toList == S.toList) = true := by simp
        refine start_ (n := 16) (S := (fun w' => (convert 23 9 (.slice A9 m9 c9)).run Tryd.prog w' = .ok (.string S) w')) (ds := []) #[false, false, false, false, false, false, false, false, false, false, false, false, false, false, false, false] (by kernel_rfl) rfl rfl t2 (fun hHeld => ?_)
        refine pure_ (i := 0) (N := some 75) (v := ?_) (a' := ?_) #[true, false, false, false, false, false, false, false, false, false, false, false, false, false, false, false] rfl rfl (by kernel_rfl) (fun _ _ _ h => h) (Or.inl ⟨by rfl, ?_⟩) ?_ ?_
        rotate_left
        · intro w'
          go_simp
          with_reducible rfl
        rotate_left
        · simp only [Act.put, List.setIfInBounds_toArray, List.set_cons_zero, List.set_cons_succ, i64_w, i32_w]
          rfl
        refine pure_ (i := 3) (N := some 78) (v := ?_) (a' := ?_) #[true, false, false, true, false, false, false, false, false, false, false, false, false, false, false, false] rfl rfl (by kernel_rfl) (fun _ _ _ h => h) (Or.inl ⟨by rfl, ?_⟩) ?_ ?_
        rotate_left
        · intro w'
          go_simp
          with_reducible rfl
        rotate_left
        · simp only [Act.put, List.setIfInBounds_toArray, List.set_cons_zero, List.set_cons_succ, i64_w, i32_w]
          rfl
        refine take_ (i := 4) (N := some 79) (v := ?_) (a' := ?_) #[true, false, false, true, true, false, false, false, false, false, false, false, false, false, false, false] rfl rfl (by kernel_rfl) (fun _ _ _ h => h) (Or.inl ⟨by rfl, ?_⟩) hHeld ?_ ?_
        rotate_left
        · intro w' hSw
          go_simp
          with_reducible rfl
        rotate_left
        · simp only [Act.put, List.setIfInBounds_toArray, List.set_cons_zero, List.set_cons_succ, i64_w, i32_w]
          rfl
        refine one_ (i := 1) (N := some 76) #[true, true, false, true, true, false, false, false, false, false, false, false, false, false, false, false] rfl rfl (by kernel_rfl) (by decide) (fun K hK => ?_)
        refine goes_ Tryd.func15 (by kernel_rfl) rfl #[.pointer (some ⟨w.heap.size, 0, none⟩)] (by rfl) rfl rfl (by first | rfl | kernel_rfl | simp [Act.eval]) ?_
        refine (Done (hW2.out.below hb4.out) (by have := hTL.out; omega)).mono ?_
        rintro e w7 ⟨u7, rfl, hR7, hb7⟩
        obtain ⟨A7, m7, c7, rfl, hm7, hC7⟩ := row_facts hR7
        have t1 := str_of (c := c7) hC7 hSS.out
        have t3 := hst.out w7 (hb4.out.trans (hb7.mono hb4.out.size))
        have hb8 := Aside0.mk (hb4.out.trans (hb7.mono hb4.out.size))
        clear hR7 hb7 hC7 hm7
        refine ⟨_, rfl, hK.out _ _ t3 (fun hHeld2 => ?_)⟩
        clear hK
        refine norm_ (a' := ?_) ?_ ?_
        rotate_left
        · show Act.put _ (some 76) _ = _
          simp only [Act.put, List.setIfInBounds_toArray, List.set_cons_zero, List.set_cons_succ, i64_w, i32_w]
          rfl
        refine one_ (i := 2) (N := some 77) #[true, true, true, true, true, false, false, false, false, false, false, false, false, false, false, false] rfl rfl (by kernel_rfl) (by decide) (fun K hK => ?_)
        refine value_ (v := .string S) (w1 := w7) (by rfl) rfl (by go_simp) ?_
        refine hK.out _ _ t3 (fun hHeld3 => ?_)
        clear hK
        refine norm_ (a' := ?_) ?_ ?_
        rotate_left
        · show Act.put _ (some 77) _ = _
          simp only [Act.put, List.setIfInBounds_toArray, List.set_cons_zero, List.set_cons_succ, i64_w, i32_w]
          rfl
        refine pure_ (i := 5) (N := some 80) (v := ?_) (a' := ?_) #[true, true, true, true, true, true, false, false, false, false, false, false, false, false, false, false] rfl rfl (by kernel_rfl) (fun _ _ _ h => h) (Or.inl ⟨by rfl, ?_⟩) ?_ ?_
        rotate_left
        · intro w'
          go_simp
          with_reducible rfl
        rotate_left
        · simp only [Act.put, List.setIfInBounds_toArray, List.set_cons_zero, List.set_cons_succ, i64_w, i32_w]
          rfl
        refine pure_ (i := 6) (N := some 81) (v := ?_) (a' := ?_) #[true, true, true, true, true, true, true, false, false, false, false, false, false, false, false, false] rfl rfl (by kernel_rfl) (fun _ _ _ h => h) (Or.inl ⟨by rfl, ?_⟩) ?_ ?_
        rotate_left
        · intro w'
          go_simp
          with_reducible rfl
        rotate_left
        · simp only [Act.put, List.setIfInBounds_toArray, List.set_cons_zero, List.set_cons_succ, i64_w, i32_w]
          rfl
        refine pure_ (i := 7) (N := some 82) (v := ?_) (a' := ?_) #[true, true, true, true, true, true, true, true, false, false, false, false, false, false, false, false] rfl rfl (by kernel_rfl) (fun _ _ _ h => h) (Or.inl ⟨by rfl, ?_⟩) ?_ ?_
        rotate_left
        · intro w'
          go_simp
          with_reducible rfl
        rotate_left
        · simp only [Act.put, List.setIfInBounds_toArray, List.set_cons_zero, List.set_cons_succ, i64_w, i32_w]
          rfl
        refine one_ (i := 8) (N := some 83) #[true, true, true, true, true, true, true, true, true, false, false, false, false, false, false, false] rfl rfl (by kernel_rfl) (by decide) (fun K hK => ?_)
        refine goes_ Tryd.func15 (by kernel_rfl) rfl #[.pointer none] (by rfl) rfl rfl (by first | rfl | kernel_rfl | simp [Act.eval]) ?_
        refine (nDone w7).mono ?_
        rintro e w8 ⟨rfl, rfl⟩
        refine ⟨_, rfl, hK.out _ _ t3 (fun hHeld4 => ?_)⟩
        clear hK
        refine norm_ (a' := ?_) ?_ ?_
        rotate_left
        · show Act.put _ (some 83) _ = _
          simp only [Act.put, List.setIfInBounds_toArray, List.set_cons_zero, List.set_cons_succ, i64_w, i32_w]
          rfl
        refine pure_ (i := 9) (N := some 84) (v := ?_) (a' := ?_) #[true, true, true, true, true, true, true, true, true, true, false, false, false, false, false, false] rfl rfl (by kernel_rfl) (fun _ _ _ h => h) (Or.inl ⟨by rfl, ?_⟩) ?_ ?_
        rotate_left
        · intro w'
          go_simp
          with_reducible rfl
        rotate_left
        · simp only [Act.put, List.setIfInBounds_toArray, List.set_cons_zero, List.set_cons_succ, i64_w, i32_w]
          rfl
        refine pure_ (i := 10) (N := some 85) (v := ?_) (a' := ?_) #[true, true, true, true, true, true, true, true, true, true, true, false, false, false, false, false] rfl rfl (by kernel_rfl) (fun _ _ _ h => h) (Or.inl ⟨by rfl, ?_⟩) ?_ ?_
        rotate_left
        · intro w'
          go_simp
          with_reducible rfl
        rotate_left
        · simp only [Act.put, List.setIfInBounds_toArray, List.set_cons_zero, List.set_cons_succ, i64_w, i32_w]
          rfl
        refine pure_ (i := 11) (N := some 86) (v := ?_) (a' := ?_) #[true, true, true, true, true, true, true, true, true, true, true, true, false, false, false, false] rfl rfl (by kernel_rfl) (fun _ _ _ h => h) (Or.inl ⟨by rfl, ?_⟩) ?_ ?_
        rotate_left
        · intro w'
          go_simp
          with_reducible rfl
        rotate_left
        · simp only [Act.put, List.setIfInBounds_toArray, List.set_cons_zero, List.set_cons_succ, i64_w, i32_w]
          rfl
        refine pure_ (i := 12) (N := some 87) (v := ?_) (a' := ?_) #[true, true, true, true, true, true, true, true, true, true, true, true, true, false, false, false] rfl rfl (by kernel_rfl) (fun _ _ _ h => h) (Or.inl ⟨by rfl, ?_⟩) ?_ ?_
        rotate_left
        · intro w'
          go_simp
          with_reducible rfl
        rotate_left
        · simp only [Act.put, List.setIfInBounds_toArray, List.set_cons_zero, List.set_cons_succ, i64_w, i32_w]
          rfl
        refine one_ (i := 13) (N := some 88) #[true, true, true, true, true, true, true, true, true, true, true, true, true, true, false, false] rfl rfl (by kernel_rfl) (by decide) (fun K hK => ?_)
        refine goes_ Tryd.func13 (by kernel_rfl) rfl #[] (by rfl) rfl rfl (by first | rfl | kernel_rfl | simp [Act.eval]) ?_
        refine (known (hTT.out.below (hB2.out.trans (hb8.out.mono hB2.out.size)))).mono ?_
        rintro e w9 ⟨rfl, hb9⟩
        have hb10 := Aside0.mk (hb8.out.trans (hb9.mono hb8.out.size))
        have t4 := hst.out w9 hb10.out
        clear hb9
        refine ⟨_, rfl, hK.out _ _ t4 (fun hHeld5 => ?_)⟩
        clear hK
        refine norm_ (a' := ?_) ?_ ?_
        rotate_left
        · show Act.put _ (some 88) _ = _
          simp only [Act.put, List.setIfInBounds_toArray, List.set_cons_zero, List.set_cons_succ, i64_w, i32_w]
          rfl
        refine pure_ (i := 14) (N := some 89) (v := ?_) (a' := ?_) #[true, true, true, true, true, true, true, true, true, true, true, true, true, true, true, false] rfl rfl (by kernel_rfl) (fun _ _ _ h => h) (Or.inl ⟨by rfl, ?_⟩) ?_ ?_
        rotate_left
        · intro w'
          go_simp
          with_reducible rfl
        rotate_left
        · simp only [Act.put, List.setIfInBounds_toArray, List.set_cons_zero, List.set_cons_succ, i64_w, i32_w]
          rfl
        refine pure_ (i := 15) (N := some 2) (v := ?_) (a' := ?_) #[true, true, true, true, true, true, true, true, true, true, true, true, true, true, true, true] rfl rfl (by kernel_rfl) (fun _ _ _ h => h) (Or.inl ⟨by rfl, ?_⟩) ?_ ?_
        rotate_left
        · intro w'
          go_simp
          with_reducible rfl
        rotate_left
        · simp only [Act.put, List.setIfInBounds_toArray, List.set_cons_zero, List.set_cons_succ, i64_w, i32_w]
          rfl
        refine done_ (by kernel_rfl) ?_
        go_wp2
        go_ret
        exact ⟨rfl, hB2.out.trans (hb10.out.mono hB2.out.size)⟩
end Go.Proofs.YtgnjlgfnpfjjnaaDoor.Pk
