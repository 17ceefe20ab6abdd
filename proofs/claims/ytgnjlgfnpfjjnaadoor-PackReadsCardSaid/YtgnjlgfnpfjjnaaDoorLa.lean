/- wisplaw03.lay: one call of a writer, and the bytes that it lays down: its contract. -/
import Derived.Test.YtgnjlgfnpfjjnaaDoorLy
namespace Go.Proofs.YtgnjlgfnpfjjnaaDoor.Pk
open Go.RowKit Go.Proofs.YtgnjlgfnpfjjnaaDoorW.PrintWords Go.Proofs.YtgnjlgfnpfjjnaaDoorW.PrintLast Go.Proofs.YtgnjlgfnpfjjnaaDoorW.PrintMore Go.Proofs.YtgnjlgfnpfjjnaaDoor.Mem
set_option linter.unusedVariables false
set_option linter.unusedSimpArgs false
theorem box3 {W : World} {b : Nat} {x y z : Value} {t : TypeId} (h : W.heap[b]? = some (.cells #[x, y, z] t (0, 0))) : W.cell? ⟨b, 0, none⟩ = some x ∧ W.cell? ⟨b, 1, none⟩ = some y ∧ W.cell? ⟨b, 2, none⟩ = some z := by
  simp [World.cell?, h]
theorem Low1 (w : World) (x : Int) (hx0 : 0 ≤ x) (hx1 : x ≤ 18446744073709551615) : Calls Tryd.prog 31 #[.int .u64 x, .int .i64 1] w fun e w' => ∃ v, e = .returned v ∧ Kd.R (Kd.int .u8) 5 w' w.heap.size (fun _ => True) v (lowI 1 x) ∧ Below w.heap.size w w' := Low w x 1 hx0 hx1 (by decide)
theorem Low2 (w : World) (x : Int) (hx0 : 0 ≤ x) (hx1 : x ≤ 18446744073709551615) : Calls Tryd.prog 31 #[.int .u64 x, .int .i64 2] w fun e w' => ∃ v, e = .returned v ∧ Kd.R (Kd.int .u8) 5 w' w.heap.size (fun _ => True) v (lowI 2 x) ∧ Below w.heap.size w w' := Low w x 2 hx0 hx1 (by decide)
theorem Low4 (w : World) (x : Int) (hx0 : 0 ≤ x) (hx1 : x ≤ 18446744073709551615) : Calls Tryd.prog 31 #[.int .u64 x, .int .i64 4] w fun e w' => ∃ v, e = .returned v ∧ Kd.R (Kd.int .u8) 5 w' w.heap.size (fun _ => True) v (lowI 4 x) ∧ Below w.heap.size w w' := Low w x 4 hx0 hx1 (by decide)
/-- what one call lays down -/
def putI (kind n : Int) (bs : List Int) : List Int :=
  if kind = 1 then lowI 1 (n % 18446744073709551616) else if kind = 2 then lowI 2 (n % 18446744073709551616) else if kind = 3 then lowI 4 (n % 18446744073709551616) else if kind = 4 then bs else if kind = 5 then numOf n else []
theorem put_byte (n : Int) : [n % 256] = lowI 1 (n % 18446744073709551616) := by
  simp only [lowI]
  congr 1
  omega
theorem put_cell (n : Int) : [n % 65536 % 256, n % 65536 / 256] = lowI 2 (n % 18446744073709551616) := by
  simp only [lowI]
  congr 1
  · omega
  · congr 1; omega
theorem put_word (n : Int) : [n % 4294967296 % 65536 % 256, n % 4294967296 % 65536 / 256, n % 4294967296 / 65536 % 256, n % 4294967296 / 65536 / 256] = lowI 4 (n % 18446744073709551616) := by
  simp only [lowI]
  congr 1
  · omega
  · congr 1
    · omega
    · congr 1
      · omega
      · congr 1; omega
/-- what lay answers -/
def Lays (w0 w : World) (g : Nat) (ok : Nat → Prop) (xs ys : List Int) (e : Ending) (w' : World) : Prop :=
  ∃ A' c', e = .returned (.slice A' ys.length c') ∧ ys.length ≤ c' ∧ Kd.C (Kd.int .u8) w' A' ys.length ys ∧ IsW w' w0.heap.size (fun k => ok k ∨ w.heap.size ≤ k) g (xs ++ ys) ∧ Fr w w' (fun k => k = g ∨ ok k) ∧ Below w0.heap.size w0 w'
theorem Lays.of_R {w0 w w' : World} {g : Nat} {ok : Nat → Prop} {xs ys : List Int} {v : Value} {base : Nat} {okv : Nat → Prop} (hR : Kd.R (Kd.int .u8) 5 w' base okv v ys) (hW : IsW w' w0.heap.size (fun k => ok k ∨ w.heap.size ≤ k) g (xs ++ ys)) (hF : Fr w w' (fun k => k = g ∨ ok k)) (hb : Below w0.heap.size w0 w') : Lays w0 w g ok xs ys (.returned v) w' := by
  obtain ⟨A', c', rfl, h1, h2⟩ := Kd.R_reads hR
  exact ⟨A', c', rfl, h1, h2, hW, hF, hb⟩
/-- a call of the writer behind lay's own variable, and a call that leaves all as it was -/
theorem lay_W {w w2 w3 : World} {o : Obj} {B g : Nat} {ok : Nat → Prop} {xs : List Int} (h : IsW w2 B (fun k => ok k ∨ (w.alloc o).heap.size ≤ k) g xs) (hb : Below w2.heap.size w2 w3) : IsW w3 B (fun k => ok k ∨ w.heap.size ≤ k) g xs := (up h).below hb
theorem lay_F {w w2 w3 : World} {o : Obj} {S : Nat → Prop} (h : Fr (w.alloc o) w2 S) (hb : Below w2.heap.size w2 w3) : Fr w w3 S := (upF h).trans (Fr.of_below hb (fun _ => False)) (fun _ _ hf => hf.elim)
theorem lay_B {w0 w w3 : World} {g : Nat} {ok : Nat → Prop} (hb : Below w0.heap.size w0 w) (h : Fr w w3 (fun k => k = g ∨ ok k)) (hg : w0.heap.size ≤ g) (hok : ∀ k, ok k → w0.heap.size ≤ k) : Below w0.heap.size w0 w3 :=
  hb.trans (h.below (B := w0.heap.size) hb.size (fun k hk hS => by
    rcases hS with rfl | hS
    · omega
    · have := hok k hS; omega))
set_option maxRecDepth 100000 in
set_option maxHeartbeats 4000000 in
theorem lay123 {w0 w : World} {g c : Nat} {ok : Nat → Prop} {xs bs : List Int} {A : Option Addr} (kind n : Int) (h0 : Below w0.heap.size w0 w) (hok : ∀ k, ok k → w0.heap.size ≤ k ∧ k < w.heap.size) (hW : IsW w w0.heap.size ok g xs) (hl : xs.length + 10 ≤ 140737488351232) (hk : kind = 1 ∨ kind = 2 ∨ kind = 3 ∨ kind = 5) :
    Calls Tryd.prog 14 #[.pointer (some ⟨g, 0, none⟩), .agg #[.int .i64 kind, .int .i64 n, .slice A bs.length c]] w (Lays w0 w g ok xs (putI kind n bs)) := by
  have hB := h0.size
  have hg1 := hW.base
  have hgl := hW.lt
  have h1 := Aside0.mk (hW.lit (.cells #[.int .i64 kind, .int .i64 n, .slice A bs.length c] 39))
  have hll := Aside0.mk hl
  have hkk := Aside0.mk hok
  have h00 := Aside0.mk h0
  obtain ⟨m, hm⟩ : ∃ m, m = bs.length := ⟨_, rfl⟩
  have hbx : Aside0 ((w.alloc (.cells #[.int .i64 kind, .int .i64 n, .slice A m c] 39)).heap[w.heap.size]? = some (.cells #[.int .i64 kind, .int .i64 n, .slice A m c] 39 (0, 0))) := ⟨World.alloc_heap_new _ _⟩
  have hnotg : w.heap.size ≠ g := by omega
  have hB1 : w0.heap.size ≤ (w.alloc (.cells #[.int .i64 kind, .int .i64 n, .slice A m c] 39)).heap.size := by rw [World.size_alloc]; omega
  have hB11 := Aside0.mk hB1
  rw [← hm] at h1 ⊢
  obtain ⟨N8, hN8⟩ : ∃ N, n % 256 = N := ⟨_, rfl⟩
  obtain ⟨N16, hN16⟩ : ∃ N, n % 65536 = N := ⟨_, rfl⟩
  obtain ⟨N32, hN32⟩ : ∃ N, n % 4294967296 = N := ⟨_, rfl⟩
  obtain ⟨N64, hN64⟩ : ∃ N, n % 18446744073709551616 = N := ⟨_, rfl⟩
  have q8 : IntKind.u8.wrap n = N8 := by rw [IntKind.wrap_u8]; exact hN8
  have q16 : IntKind.u16.wrap n = N16 := by rw [IntKind.wrap_u16]; exact hN16
  have q32 : IntKind.u32.wrap n = N32 := by rw [IntKind.wrap_u32]; exact hN32
  have q64 : IntKind.u64.wrap n = N64 := by rw [IntKind.wrap_u64]; exact hN64
  have r16 : 0 ≤ N16 ∧ N16 ≤ 65535 := by omega
  have r32 : 0 ≤ N32 ∧ N32 ≤ 4294967295 := by omega
  have r64 : 0 ≤ N64 ∧ N64 ≤ 18446744073709551615 := by omega
  have hr16 := Aside0.mk r16
  have hr32 := Aside0.mk r32
  have hr64 := Aside0.mk r64
  have e8 : Aside0 ([N8] = lowI 1 N64) := ⟨by rw [← hN8, ← hN64]; exact put_byte n⟩
  have e16 : Aside0 ([N16 % 256, N16 / 256] = lowI 2 N64) := ⟨by rw [← hN16, ← hN64]; exact put_cell n⟩
  have e32 : Aside0 ([N32 % 65536 % 256, N32 % 65536 / 256, N32 / 65536 % 256, N32 / 65536 / 256] = lowI 4 N64) := ⟨by rw [← hN32, ← hN64]; exact put_word n⟩
  have hmm := Aside0.mk hm
  have hq64 := Aside0.mk hN64
  clear hW hl hok h0 hB hm hB1 hN8 hN16 hN32 hN64 r16 r32 r64
  rcases hk with hk | hk | hk | hk
  · have hd1 : (kind == 1) = true := beq_iff_eq.2 hk
    have hkz := Aside0.mk hk
    clear hk
    go_enter Tryd.func14, Tryd.ntmps14
    go_wp2_with (first | (go_at_call 17; ((with_reducible refine (Byte N8 h1.out hB11.out (by have := hll.out; omega)).mono ?_); rintro e w2 ⟨rfl, hW2, hF2⟩; have h2 := Aside0.mk hW2; have h3 := Aside0.mk hF2; have hh := box3 (hF2.heap hbx.out (by rintro (h | h); exact hnotg h; exact Nat.lt_irrefl _ (hkk.out _ h).2)); obtain ⟨_, hh1, _⟩ := hh; clear hW2 hF2)) | (go_at_call 31; ((with_reducible refine (Low1 w2 N64 hr64.out.1 hr64.out.2).mono ?_); rintro e w3 ⟨v, rfl, hR, hb⟩; have h4 := Aside0.mk hR; have h5 := Aside0.mk hb; clear hR hb)))
    go_ret
    have hF := lay_F h3.out h5.out
    have hp : putI kind n bs = lowI 1 N64 := by unfold putI; rw [if_pos hkz.out, hq64.out]
    rw [hp]
    have hWW := lay_W h2.out h5.out
    rw [e8.out] at hWW
    exact Lays.of_R h4.out hWW hF (lay_B h00.out hF hg1 (fun k hk => (hkk.out k hk).1))
  · have hd1 : (kind == 1) = false := beq_eq_false_iff_ne.2 (by omega)
    have hd2 : (kind == 2) = true := beq_iff_eq.2 hk
    have hkz := Aside0.mk hk
    clear hk
    go_enter Tryd.func14, Tryd.ntmps14
    go_wp2_with (first | (go_at_call 32; ((with_reducible refine (Cell N16 hr16.out.1 hr16.out.2 h1.out hB11.out (by have := hll.out; omega)).mono ?_); rintro e w2 ⟨rfl, hW2, hF2⟩; have h2 := Aside0.mk hW2; have h3 := Aside0.mk hF2; have hh := box3 (hF2.heap hbx.out (by rintro (h | h); exact hnotg h; exact Nat.lt_irrefl _ (hkk.out _ h).2)); obtain ⟨_, hh1, _⟩ := hh; clear hW2 hF2)) | (go_at_call 31; ((with_reducible refine (Low2 w2 N64 hr64.out.1 hr64.out.2).mono ?_); rintro e w3 ⟨v, rfl, hR, hb⟩; have h4 := Aside0.mk hR; have h5 := Aside0.mk hb; clear hR hb)))
    go_ret
    have hF := lay_F h3.out h5.out
    have hp : putI kind n bs = lowI 2 N64 := by unfold putI; rw [if_neg (by have := hkz.out; omega), if_pos hkz.out, hq64.out]
    rw [hp]
    have hWW := lay_W h2.out h5.out
    rw [e16.out] at hWW
    exact Lays.of_R h4.out hWW hF (lay_B h00.out hF hg1 (fun k hk => (hkk.out k hk).1))
  · have hd1 : (kind == 1) = false := beq_eq_false_iff_ne.2 (by omega)
    have hd2 : (kind == 2) = false := beq_eq_false_iff_ne.2 (by omega)
    have hd3 : (kind == 3) = true := beq_iff_eq.2 hk
    have hkz := Aside0.mk hk
    clear hk
    go_enter Tryd.func14, Tryd.ntmps14
    go_wp2_with (first | (go_at_call 33; ((with_reducible refine (Word N32 hr32.out.1 hr32.out.2 h1.out hB11.out (by have := hll.out; omega)).mono ?_); rintro e w2 ⟨rfl, hW2, hF2⟩; have h2 := Aside0.mk hW2; have h3 := Aside0.mk hF2; have hh := box3 (hF2.heap hbx.out (by rintro (h | h); exact hnotg h; exact Nat.lt_irrefl _ (hkk.out _ h).2)); obtain ⟨_, hh1, _⟩ := hh; clear hW2 hF2)) | (go_at_call 31; ((with_reducible refine (Low4 w2 N64 hr64.out.1 hr64.out.2).mono ?_); rintro e w3 ⟨v, rfl, hR, hb⟩; have h4 := Aside0.mk hR; have h5 := Aside0.mk hb; clear hR hb)))
    go_ret
    have hF := lay_F h3.out h5.out
    have hp : putI kind n bs = lowI 4 N64 := by unfold putI; rw [if_neg (by have := hkz.out; omega), if_neg (by have := hkz.out; omega), if_pos hkz.out, hq64.out]
    rw [hp]
    have hWW := lay_W h2.out h5.out
    rw [e32.out] at hWW
    exact Lays.of_R h4.out hWW hF (lay_B h00.out hF hg1 (fun k hk => (hkk.out k hk).1))
  · have hd1 : (kind == 1) = false := beq_eq_false_iff_ne.2 (by omega)
    have hd2 : (kind == 2) = false := beq_eq_false_iff_ne.2 (by omega)
    have hd3 : (kind == 3) = false := beq_eq_false_iff_ne.2 (by omega)
    have hd4 : (kind == 4) = false := beq_eq_false_iff_ne.2 (by omega)
    have hd5 : (kind == 5) = true := beq_iff_eq.2 hk
    have hkz := Aside0.mk hk
    clear hk
    go_enter Tryd.func14, Tryd.ntmps14
    go_wp2_with (first | (go_at_call 18; ((with_reducible refine (Number n h1.out hB11.out (by have := hll.out; omega)).mono ?_); rintro e w2 ⟨rfl, hW2, hF2⟩; have h2 := Aside0.mk hW2; have h3 := Aside0.mk hF2; have hh := box3 (hF2.heap hbx.out (by rintro (h | h); exact hnotg h; exact Nat.lt_irrefl _ (hkk.out _ h).2)); obtain ⟨_, hh1, _⟩ := hh; clear hW2 hF2)) | (go_at_call 34; ((with_reducible refine (RefNumber w2 n).mono ?_); rintro e w3 ⟨v, rfl, hR, hb⟩; have h4 := Aside0.mk hR; have h5 := Aside0.mk hb; clear hR hb)))
    go_ret
    have hF := lay_F h3.out h5.out
    have hp : putI kind n bs = numOf n := by unfold putI; rw [if_neg (by have := hkz.out; omega), if_neg (by have := hkz.out; omega), if_neg (by have := hkz.out; omega), if_neg (by have := hkz.out; omega), if_pos hkz.out]
    rw [hp]
    have hWW := lay_W h2.out h5.out
    exact Lays.of_R h4.out hWW hF (lay_B h00.out hF hg1 (fun k hk => (hkk.out k hk).1))
set_option maxRecDepth 100000 in
set_option maxHeartbeats 4000000 in
theorem lay4 {w0 w : World} {g c : Nat} {ok : Nat → Prop} {xs bs : List Int} {A : Option Addr} (kind n : Int) (h0 : Below w0.heap.size w0 w) (hok : ∀ k, ok k → w0.heap.size ≤ k ∧ k < w.heap.size) (hW : IsW w w0.heap.size ok g xs) (hC : Kd.C (Kd.int .u8) w0 A bs.length bs) (hcl : bs.length ≤ c) (hl : xs.length + bs.length + 10 ≤ 140737488351232) (hk : kind = 4) :
    Calls Tryd.prog 14 #[.pointer (some ⟨g, 0, none⟩), .agg #[.int .i64 kind, .int .i64 n, .slice A bs.length c]] w (Lays w0 w g ok xs (putI kind n bs)) := by
  have hB := h0.size
  have hg1 := hW.base
  have hgl := hW.lt
  have h1 := Aside0.mk (hW.lit (.cells #[.int .i64 kind, .int .i64 n, .slice A bs.length c] 39))
  have hll := Aside0.mk hl
  have hkk := Aside0.mk hok
  have h00 := Aside0.mk h0
  have hCC := Aside0.mk hC
  have hcc := Aside0.mk hcl
  have hp : putI kind n bs = bs := by subst hk; rfl
  rw [hp]
  obtain ⟨m, hm⟩ : ∃ m, m = bs.length := ⟨_, rfl⟩
  have hbx : Aside0 ((w.alloc (.cells #[.int .i64 kind, .int .i64 n, .slice A m c] 39)).heap[w.heap.size]? = some (.cells #[.int .i64 kind, .int .i64 n, .slice A m c] 39 (0, 0))) := ⟨World.alloc_heap_new _ _⟩
  have hnotg : w.heap.size ≠ g := by omega
  have hb1 : Below w0.heap.size w0 (w.alloc (.cells #[.int .i64 kind, .int .i64 n, .slice A m c] 39)) := below_alloc h0 _
  have hb11 := Aside0.mk hb1
  have kR := Roomy (c := c) (Kd.C_below hC hb1) (by omega)
  rw [← hm] at h1 kR ⊢
  have hkR := Aside0.mk kR
  have hmm := Aside0.mk hm
  have hm62 : m ≤ 140737488351232 := by omega
  have hd1 : (kind == 1) = false := beq_eq_false_iff_ne.2 (by omega)
  have hd2 : (kind == 2) = false := beq_eq_false_iff_ne.2 (by omega)
  have hd3 : (kind == 3) = false := beq_eq_false_iff_ne.2 (by omega)
  have hd4 : (kind == 4) = true := beq_iff_eq.2 hk
  clear hW hl hok h0 hm hb1 kR hk hC hcl hp
  go_enter Tryd.func14, Tryd.ntmps14
  go_wp2_with (first | (go_at_call 8; ((with_reducible refine hkR.out.mono ?_); rintro e w2 ⟨g2, cap2, rfl, hM, hb⟩; have hM2 := Aside0.mk hM; have hb2 := Aside0.mk hb; have hs2 := hb.size; rw [World.size_alloc] at hs2; have hgg := hM.base; have hgl2 := hM.lt; rw [World.size_alloc] at hgg; have hW2 := Aside0.mk (h1.out.below hb); have hx2 := Aside0.mk ((hb.block _ (by rw [World.size_alloc]; omega)).trans hbx.out : w2.heap[w.heap.size]? = _); have kB := Bytes (c := cap2) (hW2.out) (Nat.le_trans hB (by omega)) hM.c (by have := hll.out; omega); rw [← hmm.out] at kB; have hkB := Aside0.mk kB; clear hM hb kB hkR)) | (go_at_call 19; ((with_reducible refine hkB.out.mono ?_); rintro e w3 ⟨rfl, hW, hF⟩; have hW3 := Aside0.mk hW; have hF3 := Aside0.mk hF; have hn2 : Aside0 (¬ (g2 = g ∨ ok g2)) := ⟨by rintro (h | h); omega; have := (hkk.out _ h).2; omega⟩; have hM3 := Aside0.mk (hM2.out.fr hF hn2.out); have hx3 := Aside0.mk (hF.heap hx2.out (by rintro (h | h); exact hnotg h; exact Nat.lt_irrefl _ (hkk.out _ h).2)); obtain ⟨_, _, hh2⟩ := box3 hx3.out; have hb3 := Aside0.mk (lay_B (hb11.out.trans (hb2.out.mono (by rw [World.size_alloc]; omega))) hF hg1 (fun k hk => (hkk.out k hk).1)); have kA := AsWas (c := c) hM3.out (Kd.C_below hCC.out hb3.out) (by have := hmm.out; omega); rw [← hmm.out] at kA; have hkA := Aside0.mk kA; clear hW hF hkB kA)) | (go_at_call 12; ((with_reducible refine hkA.out.mono ?_); rintro e w4 ⟨rfl, rfl⟩; clear hkA)))
  go_loopg [63] m (fun gk v63 wr => ∃ (i : Nat) (zs : List Int), v63 = .int .i64 (i : Int) ∧ i + gk = m ∧ Aside0 (zs.length = m + 3) ∧ Aside0 (Kd.R (Kd.int .u8) 5 wr (w.heap.size + 1) (fun k => k = g2) (.slice (some ⟨g2, 0, none⟩) zs.length cap2) zs) ∧ Aside0 (Fr w3 wr (fun k => k = g2)))
  case atStart =>
    have h := hM3.out
    unfold IsM at h
    rw [World.size_alloc, show bs.length + 3 = (bs ++ mk3).length by simp [mk3]] at h
    exact ⟨0, bs ++ mk3, rfl, by omega, ⟨by have := hmm.out; simp [mk3]; omega⟩, ⟨Kd.R_drew h⟩, ⟨(Fr.refl _ _).drew⟩⟩
  case round =>
    obtain ⟨i, zs, rfl, hi, hz, hR, hF⟩ := hrel
    cases gk with
    | zero =>
      have hd : decide (i < m) = false := decide_eq_false (by omega)
      obtain ⟨_, _, hh4⟩ := box3 (hF.out.heap hx3.out (by omega))
      go_wp2
      go_ret
      have hF9 : Fr w wr (fun k => k = g ∨ ok k) := upF (((Fr.of_below hb2.out _).trans hF3.out (fun _ _ h => h)).trans hF.out (fun k hk h => by subst h; rw [World.size_alloc] at hk; omega))
      have hb9 := lay_B h00.out hF9 hg1 (fun k hk => (hkk.out k hk).1)
      refine ⟨A, c, by rw [← hmm.out]; rfl, hcc.out, Kd.C_below hCC.out hb9, ?_, hF9, hb9⟩
      refine (hW3.out.fr hF.out (by omega) (fun k hk _ _ he => ?_)).mono (fun k hk _ _ => ?_)
      · subst he
        rcases hk with h | h
        · have := (hkk.out _ h).2; omega
        · omega
      · rcases hk with h | h
        · exact .inl h
        · exact .inr (by omega)
    | succ k1 =>
      have hd : decide (i < m) = true := decide_eq_true (by omega)
      have hce := Kd.R_celln 0 hR.out (i : Int) (by omega) (by have := hz.out; omega)
      rw [Int.toNat_natCast] at hce
      obtain ⟨hce1, hce2⟩ := hce
      go_wp2
      go_roundg k1
      case measure => omega
      case rel =>
        refine ⟨i + 1, zs.set i (Go.bits .xor .u8 (rd zs (i : Int)) 60), rfl, by omega, ⟨by rw [List.length_set]; exact hz.out⟩, ⟨?_⟩, ⟨hF.out.setCell (p := ⟨g2, i, none⟩) (fun _ => rfl) _⟩⟩
        have h9 := Kd.R_putn hR.out (i : Int) (Go.bits .xor .u8 (rd zs (i : Int)) 60)
        rw [Int.toNat_natCast] at h9
        rw [List.length_set]
        exact h9
set_option maxRecDepth 100000 in
set_option maxHeartbeats 4000000 in
theorem lay0 {w0 w : World} {g c : Nat} {ok : Nat → Prop} {xs bs : List Int} {A : Option Addr} (kind n : Int) (h0 : Below w0.heap.size w0 w) (hW : IsW w w0.heap.size ok g xs) (hk : kind ≠ 1 ∧ kind ≠ 2 ∧ kind ≠ 3 ∧ kind ≠ 4 ∧ kind ≠ 5) :
    Calls Tryd.prog 14 #[.pointer (some ⟨g, 0, none⟩), .agg #[.int .i64 kind, .int .i64 n, .slice A bs.length c]] w (Lays w0 w g ok xs (putI kind n bs)) := by
  have hWW := Aside0.mk hW
  have h00 := Aside0.mk h0
  have hp : putI kind n bs = [] := by unfold putI; rw [if_neg hk.1, if_neg hk.2.1, if_neg hk.2.2.1, if_neg hk.2.2.2.1, if_neg hk.2.2.2.2]
  rw [hp]
  have hd1 : (kind == 1) = false := beq_eq_false_iff_ne.2 hk.1
  have hd2 : (kind == 2) = false := beq_eq_false_iff_ne.2 hk.2.1
  have hd3 : (kind == 3) = false := beq_eq_false_iff_ne.2 hk.2.2.1
  have hd4 : (kind == 4) = false := beq_eq_false_iff_ne.2 hk.2.2.2.1
  have hd5 : (kind == 5) = false := beq_eq_false_iff_ne.2 hk.2.2.2.2
  generalize bs.length = m
  clear hW h0 hk hp
  go_enter Tryd.func14, Tryd.ntmps14
  go_wp2
  go_ret
  refine ⟨none, 0, rfl, Nat.le_refl _, Kd.C_nil _ _, ?_, (Fr.refl _ _).alloc _, below_alloc h00.out _⟩
  have h := hWW.out.lit (.cells #[.int .i64 kind, .int .i64 n, .slice A m c] 39)
  rw [List.append_nil]
  exact h.mono (fun k hk _ _ => .inl hk)
/-- every call -/
theorem lay {w0 w : World} {g c : Nat} {ok : Nat → Prop} {xs bs : List Int} {A : Option Addr} (kind n : Int) (h0 : Below w0.heap.size w0 w) (hok : ∀ k, ok k → w0.heap.size ≤ k ∧ k < w.heap.size) (hW : IsW w w0.heap.size ok g xs) (hC : Kd.C (Kd.int .u8) w0 A bs.length bs) (hcl : bs.length ≤ c) (hl : xs.length + bs.length + 10 ≤ 140737488351232) :
    Calls Tryd.prog 14 #[.pointer (some ⟨g, 0, none⟩), .agg #[.int .i64 kind, .int .i64 n, .slice A bs.length c]] w (Lays w0 w g ok xs (putI kind n bs)) := by
  by_cases h4 : kind = 4
  · exact lay4 kind n h0 hok hW hC hcl hl h4
  · by_cases h : kind = 1 ∨ kind = 2 ∨ kind = 3 ∨ kind = 5
    · exact lay123 kind n h0 hok hW (by omega) h
    · exact lay0 kind n h0 hW (by omega)
end Go.Proofs.YtgnjlgfnpfjjnaaDoor.Pk
