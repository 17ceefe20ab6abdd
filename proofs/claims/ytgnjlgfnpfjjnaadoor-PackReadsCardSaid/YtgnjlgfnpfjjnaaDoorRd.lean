/- The reader of package pack: a variable in memory that holds what is left of a row, and an error; what its methods do to it. -/
import Derived.Test.YtgnjlgfnpfjjnaaDoorWr
namespace Go.Proofs.YtgnjlgfnpfjjnaaDoor.Pk
open Go.RowKit Go.Proofs.YtgnjlgfnpfjjnaaDoorW.PrintWords Go.Proofs.YtgnjlgfnpfjjnaaDoorW.PrintLast Go.Proofs.YtgnjlgfnpfjjnaaDoorW.PrintMore Go.Proofs.YtgnjlgfnpfjjnaaDoor.Mem
set_option linter.unusedVariables false
set_option linter.unusedSimpArgs false
/-- a block of two cells -/
def Box2 (W : World) (g : Nat) (t : TypeId) (a b : Value) : Prop := W.heap[g]? = some (.cells #[a, b] t (0, 0))
namespace Box2
variable {W W' : World} {g : Nat} {t : TypeId} {a b : Value}
theorem lt (h : Box2 W g t a b) : g < W.heap.size := (Array.getElem?_eq_some_iff.1 h).1
theorem cell0 (h : Box2 W g t a b) : W.cell? ⟨g, 0, none⟩ = some a := by simp [World.cell?, show W.heap[g]? = _ from h]
theorem cell1 (h : Box2 W g t a b) : W.cell? ⟨g, 1, none⟩ = some b := by simp [World.cell?, show W.heap[g]? = _ from h]
theorem frozen (h : Box2 W g t a b) (o : Nat) : W.frozen? ⟨g, o, none⟩ = false := by simp [World.frozen?, show W.heap[g]? = _ from h]
theorem set0 (h : Box2 W g t a b) (v : Value) : Box2 (W.setCell ⟨g, 0, none⟩ v) g t v b := by
  obtain ⟨hlt, hk⟩ := Array.getElem?_eq_some_iff.1 h
  show (W.heap.modify g _)[g]? = _
  rw [Array.getElem?_eq_getElem (by rw [Array.size_modify]; exact hlt), Array.getElem_modify_self, hk]
  rfl
theorem set1 (h : Box2 W g t a b) (v : Value) : Box2 (W.setCell ⟨g, 1, none⟩ v) g t a v := by
  obtain ⟨hlt, hk⟩ := Array.getElem?_eq_some_iff.1 h
  show (W.heap.modify g _)[g]? = _
  rw [Array.getElem?_eq_getElem (by rw [Array.size_modify]; exact hlt), Array.getElem_modify_self, hk]
  rfl
theorem fr {S : Nat → Prop} (h : Box2 W g t a b) (hf : Fr W W' S) (hs : ¬ S g) : Box2 W' g t a b := hf.heap h hs
theorem new (W : World) (t : TypeId) (a b : Value) : Box2 (W.alloc (.cells #[a, b] t)) W.heap.size t a b := World.alloc_heap_new W _
end Box2
/-- where a row that is read lies -/
def Lies (ok : Nat → Prop) (g : Nat) (A : Option Addr) (n : Nat) : Prop := ∀ a, A = some a → 0 < n → ok a.block ∧ a.block ≠ g
/-- block g is a reader: what is left, its error -/
def IsR (W : World) (B : Nat) (ok : Nat → Prop) (g : Nat) (xs : List Int) (err : Int) : Prop :=
  ∃ A c, Box2 W g 56 (.slice A xs.length c) (.int .i64 err) ∧ B ≤ g ∧ xs.length ≤ c ∧ Kd.C (Kd.int .u8) W A xs.length xs ∧ Lies ok g A xs.length
namespace IsR
variable {W W' : World} {B g : Nat} {ok ok' : Nat → Prop} {xs : List Int} {err : Int}
theorem lt (h : IsR W B ok g xs err) : g < W.heap.size := by obtain ⟨A, c, hb, _⟩ := h; exact hb.lt
theorem base (h : IsR W B ok g xs err) : B ≤ g := by obtain ⟨A, c, _, h, _⟩ := h; exact h
theorem C_lt {k : IntKind} {A : Option Addr} {n : Nat} {ys : List Int} (h : Kd.C (Kd.int k) W A n ys) {a : Addr} (ha : A = some a) (hn : 0 < n) : a.block < W.heap.size := by
  have hr : ReadsInt W k A n ys := Kd.reads_of_C (d := (0 : Int)) h
  obtain ⟨ad, e, hc⟩ := hr.2.2 hn
  rw [ha] at e; cases e
  have := World.block_lt_of_cell? _ _ (hc 0 hn)
  rwa [show (a.add 0).block = a.block by simp [Addr.add]] at this
theorem mono (h : IsR W B ok g xs err) (hk : ∀ k, ok k → k < W.heap.size → ok' k) : IsR W B ok' g xs err := by
  obtain ⟨A, c, hb, hg, hl, hC, hL⟩ := h
  exact ⟨A, c, hb, hg, hl, hC, fun a ha hn => ⟨hk _ (hL a ha hn).1 (C_lt hC ha hn), (hL a ha hn).2⟩⟩
theorem fr {S : Nat → Prop} (h : IsR W B ok g xs err) (hf : Fr W W' S) (hg : ¬ S g) (hk : ∀ k, ok k → k < W.heap.size → ¬ S k) : IsR W' B ok g xs err := by
  obtain ⟨A, c, hb, hB, hl, hC, hL⟩ := h
  exact ⟨A, c, hb.fr hf hg, hB, hl, C_move hC (fun a ha hn => hf.block _ (C_lt hC ha hn) (hk _ (hL a ha hn).1 (C_lt hC ha hn))), hL⟩
theorem below (h : IsR W B ok g xs err) (hb : Below W.heap.size W W') : IsR W' B ok g xs err := h.fr (Fr.of_below hb (fun _ => False)) (fun h => h) (fun _ _ _ h => h)
end IsR
theorem C_none {k : IntKind} (w : World) : Kd.C (Kd.int k) w none ([] : List Int).length [] := ⟨rfl, by simp, fun h => by simp at h⟩
/-- take: what is taken, what is left, the error -/
def takeL (xs : List Int) (err n : Int) : List Int := if err = 0 ∧ 0 ≤ n ∧ n ≤ xs.length then xs.take n.toNat else []
def leftL (xs : List Int) (err n : Int) : List Int := if err = 0 ∧ 0 ≤ n ∧ n ≤ xs.length then xs.drop n.toNat else xs
def errL (xs : List Int) (err n : Int) : Int := if err = 0 ∧ ¬ (0 ≤ n ∧ n ≤ xs.length) then 30 else err
set_option maxHeartbeats 1000000 in
theorem good {w : World} {B g : Nat} {ok : Nat → Prop} {xs : List Int} {err : Int} (hR : IsR w B ok g xs err) :
    Calls Tryd.prog 41 #[.pointer (some ⟨g, 0, none⟩)] w fun e w' => e = .returned (.bool (err == 0)) ∧ w = w' := by
  obtain ⟨A, c, hb, _⟩ := hR
  have h1 := hb.cell1
  clear hb
  go_enter Tryd.func41, Tryd.ntmps41
  go_wp2
  all_goals go_ret
  all_goals exact ⟨rfl, rfl⟩
/-- the error is written -/
theorem IsR.fail {w : World} {B g : Nat} {ok : Nat → Prop} {xs : List Int} {err : Int} (h : IsR w B ok g xs err) (e : Int) : IsR (w.setCell ⟨g, 1, none⟩ (.int .i64 e)) B ok g xs e ∧ Fr w (w.setCell ⟨g, 1, none⟩ (.int .i64 e)) (fun k => k = g) := by
  obtain ⟨A, c, hb, hB, hl, hC, hL⟩ := h
  have hF : Fr w (w.setCell ⟨g, 1, none⟩ (.int .i64 e)) (fun q => q = g) := (Fr.refl w (fun q => q = g)).setCell (p := ⟨g, 1, none⟩) (fun _ => rfl) _
  exact ⟨⟨A, c, hb.set1 _, hB, hl, C_move hC (fun a ha hn => hF.block _ (C_lt hC ha hn) (hL a ha hn).2), hL⟩, hF⟩
theorem take_bad {w : World} {B g : Nat} {ok : Nat → Prop} {xs : List Int} {n : Int} (h : IsR w B ok g xs 0) (hc : ¬ ((0 : Int) = 0 ∧ 0 ≤ n ∧ n ≤ xs.length)) :
    ∃ A c, Ending.returned (Value.slice none 0 0) = .returned (.slice A (takeL xs 0 n).length c) ∧ Kd.C (Kd.int .u8) (w.setCell ⟨g, 1, none⟩ (.int .i64 30)) A (takeL xs 0 n).length (takeL xs 0 n) ∧ IsR (w.setCell ⟨g, 1, none⟩ (.int .i64 30)) B ok g (leftL xs 0 n) (errL xs 0 n) ∧ Fr w (w.setCell ⟨g, 1, none⟩ (.int .i64 30)) (fun k => k = g) := by
  have t1 : takeL xs 0 n = [] := if_neg hc
  have t2 : leftL xs 0 n = xs := if_neg hc
  have t3 : errL xs 0 n = 30 := if_pos ⟨rfl, fun h => hc ⟨rfl, h⟩⟩
  rw [t1, t2, t3]
  obtain ⟨h1, h2⟩ := h.fail 30
  exact ⟨none, 0, rfl, C_none _, h1, h2⟩
set_option maxRecDepth 100000 in
set_option maxHeartbeats 2000000 in
theorem take {w : World} {B g : Nat} {ok : Nat → Prop} {xs : List Int} {err : Int} (n : Int) (hR : IsR w B ok g xs err) :
    Calls Tryd.prog 40 #[.pointer (some ⟨g, 0, none⟩), .int .i64 n] w fun e w' => ∃ A c, e = .returned (.slice A (takeL xs err n).length c) ∧ Kd.C (Kd.int .u8) w' A (takeL xs err n).length (takeL xs err n) ∧ IsR w' B ok g (leftL xs err n) (errL xs err n) ∧ Fr w w' (fun k => k = g) := by
  obtain ⟨A, c, hb, hB, hl, hC, hL⟩ := id hR
  obtain ⟨m, hm⟩ : ∃ m, m = xs.length := ⟨_, rfl⟩
  have hmm := Aside0.mk hm
  have h0 := hb.cell0
  have h1 := hb.cell1
  have f0 := hb.frozen 0
  have f1 := hb.frozen 1
  have hbb := Aside0.mk hb
  have hRR := Aside0.mk hR
  have hCC := Aside0.mk hC
  have hLL := Aside0.mk hL
  have hll := Aside0.mk hl
  rw [← hm] at h0
  clear hb hR hC hL hm hl
  obtain ⟨i0, hi, _, hz1, _⟩ := info_parts infoB
  by_cases he : err = 0
  · subst he
    by_cases hn0 : 0 ≤ n
    · obtain ⟨k, rfl⟩ := Int.eq_ofNat_of_zero_le hn0
      by_cases hn1 : k ≤ m
      · have d0 : decide ((k : Int) < 0) = false := decide_eq_false (by omega)
        have d1 : decide ((k : Int) > (m : Int)) = false := decide_eq_false (by omega)
        have hs1 : ∀ W : World, (Instr.slice 23 (.slice A m c) (some (.int .i64 (k : Int))) none none).run Tryd.prog W = .ok (.slice (if c = k then A else A.map (·.add k)) (m - k) (c - k)) W := fun W => by
          have := cut_from (P := Tryd.prog) 23 5 .i64 Tryd.underlying23 hi 1 hz1 A m c k (by omega) (by omega) W
          rw [Int.toNat_natCast] at this
          simpa using this
        have hs2 : ∀ W : World, (Instr.slice 23 (.slice A m c) none (some (.int .i64 (k : Int))) none).run Tryd.prog W = .ok (.slice A k c) W := fun W => by
          have := cut_to (P := Tryd.prog) 23 5 .i64 Tryd.underlying23 hi A m c k (by omega) (by omega) (by have := hll.out; have := hmm.out; omega) W
          rwa [Int.toNat_natCast] at this
        obtain ⟨A2, hA2⟩ : ∃ A2, A2 = (if c = k then A else A.map (·.add k)) := ⟨_, rfl⟩
        rw [← hA2] at hs1
        have hAA := Aside0.mk hA2
        clear hA2
        go_enter Tryd.func40, Tryd.ntmps40
        go_wp2_with (go_at_call 41; go_must (with_reducible refine (good hRR.out).mono ?_); rintro e w1 ⟨rfl, rfl⟩)
        go_ret
        have hc : (0 : Int) = 0 ∧ 0 ≤ (k : Int) ∧ (k : Int) ≤ xs.length := ⟨rfl, by omega, by have := hmm.out; omega⟩
        have t1 : takeL xs 0 k = xs.take k := (if_pos hc).trans (by rw [Int.toNat_natCast])
        have t2 : leftL xs 0 k = xs.drop k := (if_pos hc).trans (by rw [Int.toNat_natCast])
        have t3 : errL xs 0 k = 0 := if_neg (fun h => h.2 hc.2)
        have hkl : k ≤ xs.length := by have := hmm.out; omega
        rw [t1, t2, t3, List.length_take, Nat.min_eq_left hkl]
        have hF : Fr w (w.setCell ⟨g, 0, none⟩ (.slice A2 (m - k) (c - k))) (fun q => q = g) := (Fr.refl w (fun q => q = g)).setCell (p := ⟨g, 0, none⟩) (fun _ => rfl) _
        have hCm : ∀ {A' : Option Addr} {ys : List Int}, Kd.C (Kd.int .u8) w A' ys.length ys → Lies ok g A' ys.length → Kd.C (Kd.int .u8) (w.setCell ⟨g, 0, none⟩ (.slice A2 (m - k) (c - k))) A' ys.length ys := fun h hL' =>
          C_move h (fun a ha hn => hF.block _ (IsR.C_lt h ha hn) (hL' a ha hn).2)
        have hL1 : Lies ok g A (xs.take k).length := fun a ha hn => hLL.out a ha (by rw [List.length_take] at hn; omega)
        have hL2 : Lies ok g A2 (xs.drop k).length := fun a ha hn => by
          have hx : 0 < xs.length := by rw [List.length_drop] at hn; omega
          rw [hAA.out] at ha
          split at ha
          · exact hLL.out a ha hx
          · obtain ⟨a0, h0, rfl⟩ := Option.map_eq_some_iff.1 ha
            rw [show (a0.add k).block = a0.block by unfold Addr.add; split <;> rfl]
            exact hLL.out a0 h0 hx
        have hC1 : Kd.C (Kd.int .u8) w A (xs.take k).length (xs.take k) := by
          have hr : ReadsInt w .u8 A xs.length xs := Kd.reads_of_C (d := (0 : Int)) hCC.out
          have h2 := hr.take_ k hkl
          rw [List.length_take, Nat.min_eq_left hkl]
          exact Kd.C_of_reads (d := (0 : Int)) (h1 := fun _ => rfl) h2
        have hC2 : Kd.C (Kd.int .u8) w A2 (xs.drop k).length (xs.drop k) := by
          have h3 := Kd.C_drop hCC.out hkl hll.out
          simp only [show (Kd.int .u8).sz = 1 from rfl, Nat.mul_one] at h3
          rw [hAA.out]; exact h3
        have h1' := hCm hC1 hL1
        rw [List.length_take, Nat.min_eq_left hkl] at h1'
        refine ⟨A, c, rfl, h1', ⟨A2, c - k, ?_, hB, ?_, hCm hC2 hL2, hL2⟩, hF⟩
        · have hb2 := hbb.out.set0 (.slice A2 (m - k) (c - k))
          rw [List.length_drop, ← hmm.out]; exact hb2
        · rw [List.length_drop]; have := hll.out; omega
      · have d0 : decide ((k : Int) < 0) = false := decide_eq_false (by omega)
        have d1 : decide ((k : Int) > (m : Int)) = true := decide_eq_true (by omega)
        go_enter Tryd.func40, Tryd.ntmps40
        go_wp2_with (go_at_call 41; go_must (with_reducible refine (good hRR.out).mono ?_); rintro e w1 ⟨rfl, rfl⟩)
        go_ret
        have hc : ¬ ((0 : Int) = 0 ∧ 0 ≤ (k : Int) ∧ (k : Int) ≤ xs.length) := fun h => by have := hmm.out; omega
        exact take_bad hRR.out hc
    · have d0 : decide (n < 0) = true := decide_eq_true (by omega)
      go_enter Tryd.func40, Tryd.ntmps40
      go_wp2_with (go_at_call 41; go_must (with_reducible refine (good hRR.out).mono ?_); rintro e w1 ⟨rfl, rfl⟩)
      go_ret
      have hc : ¬ ((0 : Int) = 0 ∧ 0 ≤ n ∧ n ≤ xs.length) := fun h => by omega
      exact take_bad hRR.out hc
  · have e0 : (err == 0) = false := beq_eq_false_iff_ne.2 he
    have hee := Aside0.mk he
    clear he
    go_enter Tryd.func40, Tryd.ntmps40
    go_wp2_with (go_at_call 41; go_must (with_reducible refine (good hRR.out).mono ?_); rintro e w1 ⟨rfl, rfl⟩; rw [e0])
    go_ret
    have t1 : takeL xs err n = [] := if_neg (fun h => hee.out h.1)
    have t2 : leftL xs err n = xs := if_neg (fun h => hee.out h.1)
    have t3 : errL xs err n = err := if_neg (fun h => hee.out h.1)
    rw [t1, t2, t3]
    exact ⟨none, 0, rfl, C_none _, hRR.out, Fr.refl _ _⟩
/-- the number of bytes, the lowest first, as the program reckons it -/
def orL : Nat → List Int → Int → Int
  | _, [], x => x
  | i, b :: l, x => orL (i + 1) l (Go.bits .or .u32 x (b % 4294967296 * 2 ^ (8 * i) % 4294967296))
set_option maxRecDepth 100000 in
set_option maxHeartbeats 2000000 in
theorem value {w : World} {B g : Nat} {ok : Nat → Prop} {xs : List Int} {err : Int} (n : Int) (hn : n ≤ 4) (hR : IsR w B ok g xs err) :
    Calls Tryd.prog 39 #[.pointer (some ⟨g, 0, none⟩), .int .i64 n] w fun e w' => e = .returned (.int .u32 (orL 0 (takeL xs err n) 0)) ∧ IsR w' B ok g (leftL xs err n) (errL xs err n) ∧ Fr w w' (fun k => k = g) := by
  have hRR := Aside0.mk hR
  clear hR
  have hlen : (takeL xs err n).length ≤ 4 := by unfold takeL; split <;> simp <;> omega
  have hL := Aside0.mk hlen
  clear hlen
  go_enter Tryd.func39, Tryd.ntmps39
  go_wp2_with (go_at_call 40; go_must (with_reducible refine (take n hRR.out).mono ?_); rintro e w1 ⟨A, c, rfl, hC, hR1, hF1⟩; have hC1 := Aside0.mk hC; have hR2 := Aside0.mk hR1; have hF2 := Aside0.mk hF1; clear hC hR1 hF1)
  obtain ⟨m, hm⟩ : ∃ m, m = (takeL xs err n).length := ⟨_, rfl⟩
  have hmm := Aside0.mk hm
  rw [← hm]
  clear hm
  go_loopg [5, 12] m (fun gk v5 v12 wr => ∃ (i : Nat) (x : Int), v5 = .int .u32 x ∧ v12 = .int .i64 (i : Int) ∧ i + gk = m ∧ wr = w1 ∧ Aside0 (orL i ((takeL xs err n).drop i) x = orL 0 (takeL xs err n) 0))
  case atStart => exact ⟨0, 0, rfl, rfl, by omega, rfl, ⟨rfl⟩⟩
  case round =>
    obtain ⟨i, x, rfl, rfl, hi, rfl, hx⟩ := hrel
    cases gk with
    | zero =>
      have hd : decide ((i : Int) < (m : Int)) = false := decide_eq_false (by omega)
      go_wp2
      go_ret
      have h1 := hx.out
      rw [List.drop_of_length_le (by have := hmm.out; omega)] at h1
      refine ⟨?_, hR2.out, hF2.out⟩
      rw [← h1]; rfl
    | succ k1 =>
      have hd : decide ((i : Int) < (m : Int)) = true := decide_eq_true (by omega)
      have hm4 : m ≤ 4 := by have := hL.out; have := hmm.out; omega
      obtain ⟨a0, e0, hx0⟩ := Kd.at_int hC1.out (i : Int) (by omega) (by have := hmm.out; omega)
      subst e0
      rw [Int.toNat_natCast] at hx0
      generalize hbv : rd (takeL xs err n) (i : Int) = bv at hx0
      have hbb := Aside0.mk hbv
      clear hbv
      go_wp2
      go_roundg k1
      case measure => omega
      case rel =>
        refine ⟨i + 1, Go.bits .or .u32 x (bv % 4294967296 * 2 ^ (8 * i) % 4294967296), rfl, rfl, by omega, rfl, ⟨?_⟩⟩
        rw [← hx.out]
        have hlt : i < (takeL xs err n).length := by have := hmm.out; omega
        rw [List.drop_eq_getElem_cons hlt]
        have e : (takeL xs err n)[i] = bv := by
          rw [← hbb.out]; unfold rd
          rw [Int.toNat_natCast, List.getD_eq_getElem?_getD, List.getElem?_eq_getElem hlt]; rfl
        rw [e]; rfl
section
variable {w : World} {B g : Nat} {ok : Nat → Prop} {xs : List Int} {err : Int}
set_option maxHeartbeats 2000000 in
theorem RByte (hR : IsR w B ok g xs err) :
    Calls Tryd.prog 25 #[.pointer (some ⟨g, 0, none⟩)] w fun e w' => e = .returned (.int .u8 (orL 0 (takeL xs err 1) 0 % 256)) ∧ IsR w' B ok g (leftL xs err 1) (errL xs err 1) ∧ Fr w w' (fun k => k = g) := by
  have hRR := Aside0.mk hR
  clear hR
  go_enter Tryd.func25, Tryd.ntmps25
  go_wp2_with (go_at_call 39; go_must (with_reducible refine (value 1 (by omega) hRR.out).mono ?_); rintro e w1 ⟨rfl, hR1, hF1⟩)
  go_ret
  exact ⟨rfl, hR1, hF1⟩
set_option maxHeartbeats 2000000 in
theorem RCell (hR : IsR w B ok g xs err) :
    Calls Tryd.prog 28 #[.pointer (some ⟨g, 0, none⟩)] w fun e w' => e = .returned (.int .u16 (IntKind.u16.wrap (orL 0 (takeL xs err 2) 0))) ∧ IsR w' B ok g (leftL xs err 2) (errL xs err 2) ∧ Fr w w' (fun k => k = g) := by
  have hRR := Aside0.mk hR
  clear hR
  go_enter Tryd.func28, Tryd.ntmps28
  go_wp2_with (go_at_call 39; go_must (with_reducible refine (value 2 (by omega) hRR.out).mono ?_); rintro e w1 ⟨rfl, hR1, hF1⟩)
  go_ret
  exact ⟨rfl, hR1, hF1⟩
set_option maxHeartbeats 2000000 in
theorem RWord (hR : IsR w B ok g xs err) :
    Calls Tryd.prog 29 #[.pointer (some ⟨g, 0, none⟩)] w fun e w' => e = .returned (.int .u32 (orL 0 (takeL xs err 4) 0)) ∧ IsR w' B ok g (leftL xs err 4) (errL xs err 4) ∧ Fr w w' (fun k => k = g) := by
  have hRR := Aside0.mk hR
  clear hR
  go_enter Tryd.func29, Tryd.ntmps29
  go_wp2_with (go_at_call 39; go_must (with_reducible refine (value 4 (by omega) hRR.out).mono ?_); rintro e w1 ⟨rfl, hR1, hF1⟩)
  go_ret
  exact ⟨rfl, hR1, hF1⟩
set_option maxHeartbeats 2000000 in
theorem RLeft (hR : IsR w B ok g xs err) :
    Calls Tryd.prog 24 #[.pointer (some ⟨g, 0, none⟩)] w fun e w' => e = .returned (.int .i64 (xs.length : Int)) ∧ w = w' := by
  obtain ⟨A, c, hb, _⟩ := hR
  have h0 := hb.cell0
  clear hb
  go_enter Tryd.func24, Tryd.ntmps24
  go_wp2
  go_ret
  exact ⟨rfl, rfl⟩
set_option maxHeartbeats 2000000 in
theorem RErr (hR : IsR w B ok g xs err) :
    Calls Tryd.prog 23 #[.pointer (some ⟨g, 0, none⟩)] w fun e w' => e = .returned (.int .i64 err) ∧ w = w' := by
  obtain ⟨A, c, hb, _⟩ := hR
  have h1 := hb.cell1
  clear hb
  go_enter Tryd.func23, Tryd.ntmps23
  go_wp2
  go_ret
  exact ⟨rfl, rfl⟩
set_option maxHeartbeats 2000000 in
/-- a row that comes back is the call's own; what it was taken of stands -/
theorem RBytes (n : Int) (hR : IsR w B ok g xs err) (hl : xs.length ≤ 140737488351232) :
    Calls Tryd.prog 26 #[.pointer (some ⟨g, 0, none⟩), .int .i64 n] w fun e w' => ∃ v, e = .returned v ∧ Kd.R (Kd.int .u8) 5 w' w.heap.size (fun _ => True) v (takeL xs err n) ∧ IsR w' B ok g (leftL xs err n) (errL xs err n) ∧ Fr w w' (fun k => k = g) := by
  have hRR := Aside0.mk hR
  clear hR
  have hlen : (takeL xs err n).length ≤ xs.length := by
    unfold takeL; split
    · rw [List.length_take]; exact Nat.min_le_right _ _
    · simp
  have hL := Aside0.mk (Nat.le_trans hlen hl)
  clear hlen hl
  go_enter Tryd.func26, Tryd.ntmps26
  go_wp2_with (first | (go_at_call 40; go_must (with_reducible refine (take n hRR.out).mono ?_); rintro e w1 ⟨A, c, rfl, hC, hR1, hF1⟩; have hC1 := Aside0.mk hC; have hR2 := Aside0.mk hR1; have hF2 := Aside0.mk hF1; clear hC hR1 hF1) | (go_at_call 35; go_must (with_reducible refine (Clone hC1.out hL.out).mono ?_); rintro e w2 ⟨u, rfl, hR3, hb⟩))
  go_ret
  refine ⟨u, rfl, Kd.R_lower hR3 hF2.out.size, hR2.out.below hb, hF2.out.trans (Fr.of_below hb (fun _ => False)) (fun _ _ h => h.elim)⟩
end
set_option maxHeartbeats 2000000 in
theorem NewReader {w : World} {A : Option Addr} {c : Nat} {xs : List Int} (hC : Kd.C (Kd.int .u8) w A xs.length xs) (hl : xs.length ≤ 140737488351232) :
    Calls Tryd.prog 20 #[.slice A xs.length c] w fun e w' => ∃ g, e = .returned (.pointer (some ⟨g, 0, none⟩)) ∧ IsR w' w.heap.size (fun k => w.heap.size ≤ k) g xs 0 ∧ Below w.heap.size w w' := by
  have hCC := Aside0.mk hC
  have hLL := Aside0.mk hl
  clear hC hl
  go_enter Tryd.func20, Tryd.ntmps20
  go_wp2_with (go_at_call 35; go_must (with_reducible refine (Clone hCC.out hLL.out).mono ?_); rintro e w1 ⟨u, rfl, hR, hb⟩; obtain ⟨A1, c1, rfl⟩ := Kd.R_slice hR; have hRR := Aside0.mk hR; have hbb := Aside0.mk hb; clear hR hb)
  go_ret
  obtain ⟨A2, c2, he, hcl, hC2⟩ := Kd.R_reads hRR.out
  injection he with h1 _ h3
  subst h1; subst h3
  have hbe : Below w1.heap.size w1 (w1.alloc (.cells #[.slice A1 xs.length c1, .int .i64 0] 56)) := below_alloc (Below.refl _ _) _
  refine ⟨_, rfl, ⟨A1, c1, Box2.new w1 _ _ _, hbb.out.size, hcl, Kd.C_below hC2 hbe, fun a ha hn => ⟨?_, ?_⟩⟩, below_alloc hbb.out _⟩
  · have := Kd.R_base hRR.out a.block (by rw [ha]; rfl)
    exact this
  · have := IsR.C_lt hC2 ha hn
    omega
end Go.Proofs.YtgnjlgfnpfjjnaaDoor.Pk
