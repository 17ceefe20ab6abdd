/- The document's own reader (wispref03.Reader): what its methods do to it. -/
import Derived.Test.YtgnjlgfnpfjjnaaDoorBm
import Derived.Test.YtgnjlgfnpfjjnaaDoorRo
namespace Go.Proofs.YtgnjlgfnpfjjnaaDoor.Pk
open Go.RowKit Go.Proofs.YtgnjlgfnpfjjnaaDoorW.PrintWords Go.Proofs.YtgnjlgfnpfjjnaaDoorW.PrintLast Go.Proofs.YtgnjlgfnpfjjnaaDoorW.PrintMore Go.Proofs.YtgnjlgfnpfjjnaaDoor.Mem
set_option linter.unusedVariables false
set_option linter.unusedSimpArgs false
/-- block g is the document's reader: what is left, its error -/
def IsQ (W : World) (B : Nat) (ok : Nat → Prop) (g : Nat) (xs : List Int) (err : Int) : Prop :=
  ∃ A c, Box2 W g 50 (.slice A xs.length c) (.int .i64 err) ∧ B ≤ g ∧ xs.length ≤ c ∧ Kd.C (Kd.int .u8) W A xs.length xs ∧ Lies ok g A xs.length
namespace IsQ
variable {W W' : World} {B g : Nat} {ok ok' : Nat → Prop} {xs : List Int} {err : Int}
theorem lt (h : IsQ W B ok g xs err) : g < W.heap.size := by obtain ⟨A, c, hb, _⟩ := h; exact hb.lt
theorem base (h : IsQ W B ok g xs err) : B ≤ g := by obtain ⟨A, c, _, h, _⟩ := h; exact h
theorem mono (h : IsQ W B ok g xs err) (hk : ∀ k, ok k → k < W.heap.size → ok' k) : IsQ W B ok' g xs err := by
  obtain ⟨A, c, hb, hg, hl, hC, hL⟩ := h
  exact ⟨A, c, hb, hg, hl, hC, fun a ha hn => ⟨hk _ (hL a ha hn).1 (IsR.C_lt hC ha hn), (hL a ha hn).2⟩⟩
theorem fr {S : Nat → Prop} (h : IsQ W B ok g xs err) (hf : Fr W W' S) (hg : ¬ S g) (hk : ∀ k, ok k → k < W.heap.size → ¬ S k) : IsQ W' B ok g xs err := by
  obtain ⟨A, c, hb, hB, hl, hC, hL⟩ := h
  exact ⟨A, c, hb.fr hf hg, hB, hl, C_move hC (fun a ha hn => hf.block _ (IsR.C_lt hC ha hn) (hk _ (hL a ha hn).1 (IsR.C_lt hC ha hn))), hL⟩
theorem below (h : IsQ W B ok g xs err) (hb : Below W.heap.size W W') : IsQ W' B ok g xs err := h.fr (Fr.of_below hb (fun _ => False)) (fun h => h) (fun _ _ _ h => h)
theorem fail {w : World} (h : IsQ w B ok g xs err) (e : Int) : IsQ (w.setCell ⟨g, 1, none⟩ (.int .i64 e)) B ok g xs e ∧ Fr w (w.setCell ⟨g, 1, none⟩ (.int .i64 e)) (fun k => k = g) := by
  obtain ⟨A, c, hb, hB, hl, hC, hL⟩ := h
  have hF : Fr w (w.setCell ⟨g, 1, none⟩ (.int .i64 e)) (fun q => q = g) := (Fr.refl w (fun q => q = g)).setCell (p := ⟨g, 1, none⟩) (fun _ => rfl) _
  exact ⟨⟨A, c, hb.set1 _, hB, hl, C_move hC (fun a ha hn => hF.block _ (IsR.C_lt hC ha hn) (hL a ha hn).2), hL⟩, hF⟩
end IsQ
theorem rowf {W : World} {base : Nat} {v : Value} {xs : List Int} (h : Kd.R (Kd.int .u8) 5 W base (fun _ => True) v xs) : ∃ A m c, v = .slice A m c ∧ m = xs.length ∧ Kd.C (Kd.int .u8) W A m xs := by
  obtain ⟨A, c, rfl, _, hC⟩ := Kd.R_reads h
  exact ⟨A, _, c, rfl, rfl, hC⟩
/-- what Take says -/
def TakeSays (w : World) (B : Nat) (ok : Nat → Prop) (g : Nat) (xs : List Int) (err n : Int) (e : Ending) (w' : World) : Prop :=
  ∃ v b, e = .returned (.tuple #[v, .bool b]) ∧ Kd.R (Kd.int .u8) 5 w' w.heap.size (fun _ => True) v (takeL xs err n) ∧ IsQ w' B ok g (leftL xs err n) (errL xs err n) ∧ Fr w w' (fun k => k = g)
theorem qtake_bad {w : World} {B g : Nat} {ok : Nat → Prop} {xs : List Int} {n : Int} (h : IsQ w B ok g xs 0) (hc : ¬ ((0 : Int) = 0 ∧ 0 ≤ n ∧ n ≤ xs.length)) : TakeSays w B ok g xs 0 n (.returned (.tuple #[.slice none 0 0, .bool false])) (w.setCell ⟨g, 1, none⟩ (.int .i64 30)) := by
  have t1 : takeL xs 0 n = [] := if_neg hc
  have t2 : leftL xs 0 n = xs := if_neg hc
  have t3 : errL xs 0 n = 30 := if_pos ⟨rfl, fun h => hc ⟨rfl, h⟩⟩
  unfold TakeSays
  rw [t1, t2, t3]
  obtain ⟨h1, h2⟩ := h.fail 30
  exact ⟨_, _, rfl, Kd.R_nil _ _ _ _ _, h1, h2⟩
theorem qtake_ok {w w1 : World} {B g k m c : Nat} {ok : Nat → Prop} {xs : List Int} {A A2 : Option Addr} {v : Value} (hb : Box2 w g 50 (.slice A xs.length c) (.int .i64 0)) (hB : B ≤ g) (hC : Kd.C (Kd.int .u8) w A xs.length xs) (hl : xs.length ≤ c) (hL : Lies ok g A xs.length)
    (hm : m = xs.length) (hk : k ≤ m) (hA : A2 = (if c = k then A else A.map (·.add k))) (hbl : Below w.heap.size w w1) (ho : Kd.R (Kd.int .u8) 5 w1 w.heap.size (fun _ => True) v (xs.take k)) :
    TakeSays w B ok g xs 0 k (.returned (.tuple #[v, .bool true])) (w1.setCell ⟨g, 0, none⟩ (.slice A2 (m - k) (c - k))) := by
  have hc : (0 : Int) = 0 ∧ 0 ≤ (k : Int) ∧ (k : Int) ≤ xs.length := ⟨rfl, by omega, by omega⟩
  have t1 : takeL xs 0 k = xs.take k := (if_pos hc).trans (by rw [Int.toNat_natCast])
  have t2 : leftL xs 0 k = xs.drop k := (if_pos hc).trans (by rw [Int.toNat_natCast])
  have t3 : errL xs 0 k = 0 := if_neg (fun h => h.2 hc.2)
  have hkl : k ≤ xs.length := by omega
  have hglt := hb.lt
  unfold TakeSays
  rw [t1, t2, t3]
  have hF1 : Fr w1 (w1.setCell ⟨g, 0, none⟩ (.slice A2 (m - k) (c - k))) (fun q => q = g) := (Fr.refl w1 (fun q => q = g)).setCell (p := ⟨g, 0, none⟩) (fun _ => rfl) _
  have hF : Fr w (w1.setCell ⟨g, 0, none⟩ (.slice A2 (m - k) (c - k))) (fun q => q = g) := (Fr.of_below hbl (fun q => q = g)).trans hF1 (fun q _ h => h)
  have hL2 : Lies ok g A2 (xs.drop k).length := fun a ha hn => by
    have hx : 0 < xs.length := by rw [List.length_drop] at hn; omega
    rw [hA] at ha
    split at ha
    · exact hL a ha hx
    · obtain ⟨a0, h0, rfl⟩ := Option.map_eq_some_iff.1 ha
      rw [show (a0.add k).block = a0.block by unfold Addr.add; split <;> rfl]
      exact hL a0 h0 hx
  have hC2 : Kd.C (Kd.int .u8) w A2 (xs.drop k).length (xs.drop k) := by
    have h3 := Kd.C_drop hC hkl hl
    simp only [show (Kd.int .u8).sz = 1 from rfl, Nat.mul_one] at h3
    rw [hA]; exact h3
  refine ⟨v, true, rfl, ?_, ⟨A2, c - k, ?_, hB, ?_, C_move hC2 (fun a ha hn => hF.block _ (IsR.C_lt hC2 ha hn) (hL2 a ha hn).2), hL2⟩, hF⟩
  · exact Kd.R_mono (hF1.row (Kd.R_bound ho) (fun q hq _ e => by have := hq.2.1; omega)) (fun _ _ => trivial)
  · have hb2 := (hb.fr (Fr.of_below hbl (fun _ => False)) (fun h => h)).set0 (.slice A2 (m - k) (c - k))
    rw [List.length_drop, ← hm]; exact hb2
  · rw [List.length_drop]; omega
set_option maxRecDepth 100000 in
set_option maxHeartbeats 2000000 in
theorem QTake {w : World} {B g : Nat} {ok : Nat → Prop} {xs : List Int} {err : Int} (n : Int) (hR : IsQ w B ok g xs err) (hlen : xs.length ≤ 140737488351232) :
    Calls Tryd.prog 37 #[.pointer (some ⟨g, 0, none⟩), .int .i64 n] w (TakeSays w B ok g xs err n) := by
  obtain ⟨A, c, hb, hB, hl, hC, hL⟩ := id hR
  obtain ⟨m, hm⟩ : ∃ m, m = xs.length := ⟨_, rfl⟩
  have hmm := Aside0.mk hm
  have h0 := hb.cell0
  have h1 := hb.cell1
  have f0 := hb.frozen 0
  have f1 := hb.frozen 1
  have hbb := Aside0.mk hb
  have hRR := Aside0.mk hR
  have hCC := Aside0.mk hC
  have hLL := Aside0.mk hL
  have hll := Aside0.mk hl
  rw [← hm] at h0 hlen
  clear hb hR hC hL hm hl
  obtain ⟨i0, hi, _, hz1, _⟩ := info_parts infoB
  by_cases he : err = 0
  · subst he
    by_cases hn0 : 0 ≤ n
    · obtain ⟨k, rfl⟩ := Int.eq_ofNat_of_zero_le hn0
      by_cases hn1 : k ≤ m
      · have d0 : decide ((k : Int) < 0) = false := decide_eq_false (by omega)
        have d1 : decide ((k : Int) > (m : Int)) = false := decide_eq_false (by omega)
        have d3 : decide (m < k) = false := decide_eq_false (by omega)
        have hs1 : ∀ W : World, (Instr.slice 23 (.slice A m c) (some (.int .i64 (k : Int))) none none).run Tryd.prog W = .ok (.slice (if c = k then A else A.map (·.add k)) (m - k) (c - k)) W := fun W => by
          have := cut_from (P := Tryd.prog) 23 5 .i64 Tryd.underlying23 hi 1 hz1 A m c k (by omega) (by omega) W
          rw [Int.toNat_natCast] at this
          simpa using this
        have hs2 : ∀ W : World, (Instr.slice 23 (.slice A m c) none (some (.int .i64 (k : Int))) none).run Tryd.prog W = .ok (.slice A k c) W := fun W => by
          have := cut_to (P := Tryd.prog) 23 5 .i64 Tryd.underlying23 hi A m c k (by omega) (by omega) (by have := hll.out; have := hmm.out; omega) W
          rwa [Int.toNat_natCast] at this
        obtain ⟨A2, hA2⟩ : ∃ A2, A2 = (if c = k then A else A.map (·.add k)) := ⟨_, rfl⟩
        rw [← hA2] at hs1
        have hAA := Aside0.mk hA2
        clear hA2
        have hb0 : Below w.heap.size w (w.alloc (.cells #[] 5)) := below_alloc (Below.refl _ _) _
        have hR0 : Kd.R (Kd.int .u8) 5 (w.alloc (.cells #[] 5)) w.heap.size (fun _ => True) (.slice (some ⟨w.heap.size, 0, none⟩) 0 0) ([] : List Int) := Kd.R_of_own (h1 := fun _ => rfl) (by have h2 := World.ownsRow_made w #[] (e := 5) (size := 1) 0 (Nat.le_refl _) (Nat.zero_le _) rfl; simpa [encs] using h2) (fun _ _ => trivial)
        have hb00 := Aside0.mk hb0
        have hR00 := Aside0.mk hR0
        have hx0 := hbb.out.fr (Fr.of_below hb0 (fun _ => False)) (fun h => h)
        have h0' := hx0.cell0
        rw [← hmm.out] at h0'
        have hCk : Kd.C (Kd.int .u8) w A k (xs.take k) := by
          have h2 := Kd.C_take (m := k) hCC.out (by have := hmm.out; omega)
          rwa [show (xs.take k).length = k by rw [List.length_take]; have := hmm.out; omega] at h2
        have hCkk := Aside0.mk (Kd.C_below hCk hb0)
        clear hb0 hR0 hx0 hCk
        have hgw : g < w.heap.size := hRR.out.lt
        go_enter Tryd.func37, Tryd.ntmps37
        go_wp2_with (at_builtin; refine appB (w0 := w) w.heap.size _ [] (xs.take k) A k c rfl _ _ rfl rfl rfl hR00.out hCkk.out hb00.out (by rw [World.size_alloc]; omega) (by have := hmm.out; simp; omega) ?_; intro v1 w1 ho hbl; rw [List.nil_append] at ho; obtain ⟨A9, m9, c9, rfl, hm9, _⟩ := rowf ho; have ho1 := Aside0.mk ho; have hb1 := Aside0.mk hbl; have hx1 := hbb.out.fr (Fr.of_below hbl (fun _ => False)) (fun h => h); have h0'' := hx1.cell0; rw [← hmm.out] at h0''; have f0'' := hx1.frozen 0; have hx2 := Aside0.mk hx1; clear ho hbl hx1 hm9)
        go_ret2
        exact qtake_ok hbb.out hB hCC.out hll.out hLL.out hmm.out hn1 hAA.out hb1.out ho1.out
      · have d0 : decide ((k : Int) < 0) = false := decide_eq_false (by omega)
        have d1 : decide ((k : Int) > (m : Int)) = true := decide_eq_true (by omega)
        have d3 : decide (m < k) = true := decide_eq_true (by omega)
        go_enter Tryd.func37, Tryd.ntmps37
        go_wp2
        go_ret2
        exact qtake_bad hRR.out (fun h => by have := hmm.out; omega)
    · have d0 : decide (n < 0) = true := decide_eq_true (by omega)
      go_enter Tryd.func37, Tryd.ntmps37
      go_wp2
      go_ret2
      exact qtake_bad hRR.out (fun h => by omega)
  · have e0 : (err == 0) = false := beq_eq_false_iff_ne.2 he
    have e1 : (err != 0) = true := bne_iff_ne.2 he
    have hee := Aside0.mk he
    clear he
    go_enter Tryd.func37, Tryd.ntmps37
    go_wp2
    go_ret2
    have t1 : takeL xs err n = [] := if_neg (fun h => hee.out h.1)
    have t2 : leftL xs err n = xs := if_neg (fun h => hee.out h.1)
    have t3 : errL xs err n = err := if_neg (fun h => hee.out h.1)
    unfold TakeSays
    rw [t1, t2, t3]
    exact ⟨_, _, rfl, Kd.R_nil _ _ _ _ _, hRR.out, Fr.refl _ _⟩
theorem valI_app (l m : List Int) : valI (l ++ m) = valI l + 256 ^ l.length * valI m := by
  induction l with
  | nil => simp [valI]
  | cons b l ih =>
    have e : (256 : Int) ^ (b :: l).length = 256 * 256 ^ l.length := by rw [List.length_cons, Int.pow_succ, Int.mul_comm]
    rw [e]
    simp only [List.cons_append, valI, ih, Int.mul_add, Int.mul_assoc, Int.add_assoc]
/-- the bytes from place j on, as a number -/
theorem valI_from {l : List Int} {j : Nat} (h : j < l.length) : valI (l.drop j) = 256 * valI (l.drop (j + 1)) + rd l (j : Int) := by
  rw [List.drop_eq_getElem_cons h]
  have e : rd l (j : Int) = l[j] := by unfold rd; rw [Int.toNat_natCast, List.getD_eq_getElem?_getD, List.getElem?_eq_getElem h]; rfl
  rw [e]
  simp only [valI]
  omega
theorem takeL_B {xs : List Int} {err n : Int} (h : allB xs) : allB (takeL xs err n) := by
  unfold takeL; split
  · exact fun y hy => h y (List.mem_of_mem_take hy)
  · exact fun y hy => by simp at hy
theorem takeL_len (xs : List Int) (err n : Int) (k : Nat) (hk : n ≤ k) : (takeL xs err n).length ≤ k := by
  unfold takeL; split <;> simp <;> omega
theorem valI_lt {l : List Int} (h : allB l) (hl : l.length ≤ 4) : 0 ≤ valI l ∧ valI l < 4294967296 := by
  obtain ⟨h1, h2⟩ := valI_b l h
  refine ⟨h1, ?_⟩
  match l, hl, h2 with
  | [], _, h2 => simp at h2; omega
  | [_], _, h2 => simp at h2; omega
  | [_, _], _, h2 => simp at h2; omega
  | [_, _, _], _, h2 => simp at h2; omega
  | [_, _, _, _], _, h2 => simp at h2; omega
theorem rd_B {l : List Int} (h : allB l) {j : Nat} (hj : j < l.length) : isB (rd l (j : Int)) := by
  have e : rd l (j : Int) = l[j] := by unfold rd; rw [Int.toNat_natCast, List.getD_eq_getElem?_getD, List.getElem?_eq_getElem hj]; rfl
  rw [e]; exact h _ (List.getElem_mem hj)
theorem ret_int {k : IntKind} {a b : Int} (h : a = b) : Ending.returned (.int k a) = .returned (.int k b) := by rw [h]
set_option maxRecDepth 100000 in
set_option maxHeartbeats 2000000 in
theorem QFixed {w : World} {B g : Nat} {ok : Nat → Prop} {xs : List Int} {err : Int} (n : Int) (hn : n ≤ 4) (hR : IsQ w B ok g xs err) (hlen : xs.length ≤ 140737488351232) (hB : allB xs) :
    Calls Tryd.prog 36 #[.pointer (some ⟨g, 0, none⟩), .int .i64 n] w fun e w' => e = .returned (.int .u64 (valI (takeL xs err n))) ∧ IsQ w' B ok g (leftL xs err n) (errL xs err n) ∧ Fr w w' (fun k => k = g) := by
  have hRR := Aside0.mk hR
  have hlenn := Aside0.mk hlen
  have hTB := Aside0.mk (takeL_B (err := err) (n := n) hB)
  have hTl := Aside0.mk (takeL_len xs err n 4 hn)
  clear hR hlen hB
  go_enter Tryd.func36, Tryd.ntmps36
  obtain ⟨N, hN⟩ : ∃ N, N = (takeL xs err n).length := ⟨_, rfl⟩
  have hNN := Aside0.mk hN
  clear hN
  go_wp2_with (go_at_call 37; go_must (with_reducible refine (QTake n hRR.out hlenn.out).mono ?_); rintro e w1 ⟨v, b, rfl, hv, hR1, hF1⟩; obtain ⟨A, m, c, rfl, hm, hC⟩ := rowf hv; rw [← hNN.out] at hm; subst hm; have hC1 := Aside0.mk hC; have hR2 := Aside0.mk hR1; have hF2 := Aside0.mk hF1; clear hC hR1 hF1 hv)
  have hm4 : m ≤ 4 := by have := hTl.out; have := hNN.out; omega
  have q1 : IntKind.i64.wrap ((m : Int) - 1) = (m : Int) - 1 := by rw [IntKind.wrap_i64]; omega
  go_loopg [7, 8] m (fun gk v7 v8 wr => ∃ (x : Int), v7 = .int .u64 x ∧ v8 = .int .i64 ((gk : Int) - 1) ∧ gk ≤ m ∧ wr = w1 ∧ 0 ≤ x ∧ x < 4294967296 ∧ Aside0 (x = valI ((takeL xs err n).drop gk)))
  case atStart => exact ⟨0, rfl, by rw [← i64_w, q1], Nat.le_refl _, rfl, by omega, by omega, ⟨by rw [List.drop_of_length_le (by have := hNN.out; omega)]; rfl⟩⟩
  case round =>
    obtain ⟨x, rfl, rfl, hi, rfl, hx0, hx1, hx⟩ := hrel
    cases gk with
    | zero =>
      go_wp2
      go_ret
      have h := hx.out
      rw [List.drop_zero] at h
      exact ⟨ret_int (k := .u64) h, hR2.out, hF2.out⟩
    | succ k1 =>
      have hd : ((k1 : Int) + 1 - 1) = (k1 : Int) := by omega
      obtain ⟨a0, e0, hx3⟩ := Kd.at_int hC1.out (k1 : Int) (by omega) (by omega)
      subst e0
      rw [Int.toNat_natCast] at hx3
      have hv1 := valI_from (l := takeL xs err n) (j := k1) (by have := hNN.out; omega)
      have hb1 : isB (rd (takeL xs err n) (k1 : Int)) := rd_B hTB.out (by have := hNN.out; omega)
      have hv2 := Aside0.mk hv1
      generalize hbv : rd (takeL xs err n) (k1 : Int) = bv at hx3 hv2 hb1
      have hb2 : 0 ≤ bv ∧ bv < 256 := hb1
      obtain ⟨hb3, hb4⟩ := hb2
      clear hv1 hbv hb1
      go_wp2
      have hxx : 256 * x + bv = valI ((takeL xs err n).drop k1) := by have h := hx.out; have h2 := hv2.out; omega
      have hlt := valI_lt (l := (takeL xs err n).drop k1) (fun y hy => hTB.out y (List.mem_of_mem_drop hy)) (by rw [List.length_drop]; have := hTl.out; omega)
      rw [← hxx] at hlt
      go_roundg k1
      case measure => omega
      case rel => exact ⟨256 * x + bv, rfl, rfl, by omega, rfl, hlt.1, hlt.2, ⟨hxx⟩⟩
end Go.Proofs.YtgnjlgfnpfjjnaaDoor.Pk
