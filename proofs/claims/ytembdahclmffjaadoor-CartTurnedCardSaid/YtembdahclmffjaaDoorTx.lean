/- CartTurned: what its walk keeps. -/
import Derived.Test.YtembdahclmffjaaDoorCg
import Derived.Test.YtembdahclmffjaaDoorTt
namespace Go.Proofs.YtembdahclmffjaaDoor.Pk
open Go.RowKit Go.Proofs.YtembdahclmffjaaDoorW.PrintWords Go.Proofs.YtembdahclmffjaaDoorW.PrintLast Go.Proofs.YtembdahclmffjaaDoorW.PrintMore Go.Proofs.YtembdahclmffjaaDoor.Mem
set_option linter.unusedVariables false
set_option linter.unusedSimpArgs false
structure Tn (w X : World) (g L cap : Nat) (ys : List Int) : Prop where
  bel : Below w.heap.size w X
  gb : w.heap.size ≤ g
  R : Kd.R (Kd.int .u8) 5 X w.heap.size (fun _ => True) (.slice (some ⟨g, 0, none⟩) L cap) ys
theorem Tn.step {w X X' : World} {g L cap : Nat} {ys : List Int} (h : Tn w X g L cap ys) (hb : Below X.heap.size X X') : Tn w X' g L cap ys := ⟨h.bel.trans (hb.mono h.bel.size), h.gb, Kd.R_below h.R hb⟩
theorem Tn.put {w X : World} {g L cap : Nat} {ys : List Int} (h : Tn w X g L cap ys) (k : Nat) (v : Int) : Tn w (X.setCell ⟨g, k, none⟩ (.int .u8 v)) g L cap (ys.set k v) := by
  have h9 := Kd.R_putn h.R (k : Int) v
  rw [Int.toNat_natCast] at h9
  exact ⟨h.bel.setCell (p := ⟨g, k, none⟩) h.gb _, h.gb, h9⟩
theorem Tn.C {w X : World} {g L cap : Nat} {ys : List Int} (h : Tn w X g L cap ys) : L = ys.length ∧ L ≤ cap ∧ Kd.C (Kd.int .u8) X (some ⟨g, 0, none⟩) L ys := by
  obtain ⟨h1, h2, h3⟩ := Kd.R_reads' h.R
  refine ⟨h1, h2, ?_⟩
  rw [h1]; exact h3
theorem Tn.tab {w X : World} {g L cap : Nat} {ys : List Int} (h : Tn w X g L cap ys) (hT : Tab w) : Tab X := hT.below h.bel
structure Bx (X : World) (g : Nat) (x0 x1 x2 x3 : Value) : Prop where
  box : X.heap[g]? = some (.cells #[x0, x1, x2, x3] 28 (0, 0))
theorem Bx.step {X X' : World} {g : Nat} {x0 x1 x2 x3 : Value} (h : Bx X g x0 x1 x2 x3) (hb : Below X.heap.size X X') : Bx X' g x0 x1 x2 x3 := ⟨(hb.block _ (heap_lt h.box)).trans h.box⟩
theorem Bx.S {X : World} {g : Nat} {x0 x1 x2 x3 : Value} (h : Bx X g x0 x1 x2 x3) : X.cell? ⟨g, 0, none⟩ = some x0 ∧ X.cell? ⟨g, 1, none⟩ = some x1 ∧ X.cell? ⟨g, 2, none⟩ = some x2 ∧ X.cell? ⟨g, 3, none⟩ = some x3 :=
  ⟨(cellH h.box).trans rfl, (cellH h.box).trans rfl, (cellH h.box).trans rfl, (cellH h.box).trans rfl⟩
theorem kEncT {w X : World} {u : Value} {c : CartP} {L : Nat} {bs : List Int} (hbs : bs = encB c) (hL : L = bs.length) (h0 : 0 < L) (hb : Below w.heap.size w X) (hT : Tab X) (h1 : CtV X u c) (hok : OkC c) (hwf : WfC c) :
    Calls Tryd.prog 16 #[u] X fun e w' => ∃ g cap, e = .returned (.tuple #[.slice (some ⟨g, 0, none⟩) L cap, .int .i64 0]) ∧ Tn w w' g L cap bs := by
  subst hbs
  subst hL
  refine (kEnc hT h1 hok hwf).mono ?_
  rintro e w' ⟨A, n, k, rfl, hn, hk, hR, hC, hbl⟩
  obtain ⟨g, cap, ev, hgb, hgl⟩ := (Kd.own_of_R hR).form h0
  rw [ev] at hR ⊢
  exact ⟨g, cap, rfl, hb.trans (hbl.mono hb.size), Nat.le_trans hb.size hgb, Kd.R_lower hR hb.size⟩
theorem Tn.decE {w X : World} {g L cap : Nat} {ys : List Int} {er : Int} (h : Tn w X g L cap ys) (hT : Tab w) (hB : allB ys) (hl : L ≤ 140737488351232) (hD : (decB ys).2 = er) (hne : er ≠ 0) :
    Calls Tryd.prog 9 #[.slice (some ⟨g, 0, none⟩) L cap] X fun e w' => e = .returned (.tuple #[.agg #[.slice none 0 0, .int .u16 0, .slice none 0 0, .slice none 0 0], .int .i64 er]) ∧ Below X.heap.size X w' :=
  kDecE h.C.1 h.C.2.1 (h.tab hT) h.C.2.2 hB hl hD hne
theorem Tn.pre {w X : World} {g L cap n : Nat} {ys : List Int} (h : Tn w X g L cap ys) (hn : n ≤ L) : n = (ys.take n).length ∧ Kd.C (Kd.int .u8) X (some ⟨g, 0, none⟩) n (ys.take n) := by
  obtain ⟨h1, h2, h3⟩ := h.C
  have hl : (ys.take n).length = n := by rw [List.length_take]; omega
  have h4 := Kd.C_take (h1 ▸ h3 : Kd.C (Kd.int .u8) X (some ⟨g, 0, none⟩) ys.length ys) (m := n) (by omega)
  rw [hl] at h4
  exact ⟨hl.symm, h4⟩
theorem Tn.decPE {w X : World} {g L cap n : Nat} {ys : List Int} {er : Int} (h : Tn w X g L cap ys) (hn : n ≤ L) (hT : Tab w) (hB : allB ys) (hl : L ≤ 140737488351232) (hD : (decB (ys.take n)).2 = er) (hne : er ≠ 0) :
    Calls Tryd.prog 9 #[.slice (some ⟨g, 0, none⟩) n n] X fun e w' => e = .returned (.tuple #[.agg #[.slice none 0 0, .int .u16 0, .slice none 0 0, .slice none 0 0], .int .i64 er]) ∧ Below X.heap.size X w' :=
  kDecE (h.pre hn).1 (Nat.le_refl _) (h.tab hT) (h.pre hn).2 (allB_take hB n) (by omega) hD hne
theorem Tn.decP {w X : World} {g L cap n : Nat} {ys : List Int} {c : CartP} (h : Tn w X g L cap ys) (hn : n ≤ L) (hT : Tab w) (hB : allB ys) (hl : L ≤ 140737488351232) (hD : decB (ys.take n) = (c, 0)) :
    Calls Tryd.prog 9 #[.slice (some ⟨g, 0, none⟩) n n] X fun e w' => ∃ B0 n0 k0 y B2 n2 k2 B3 n3 k3, e = .returned (.tuple #[.agg #[.slice B0 n0 k0, .int .u16 y, .slice B2 n2 k2, .slice B3 n3 k3], .int .i64 0]) ∧ CtV w' (.agg #[.slice B0 n0 k0, .int .u16 y, .slice B2 n2 k2, .slice B3 n3 k3]) c ∧ Below X.heap.size X w' :=
  kDec (h.pre hn).1 (Nat.le_refl _) (h.tab hT) (h.pre hn).2 (allB_take hB n) (by omega) hD
/-- the sum of a beginning, out of a row of one row -/
theorem Tn.sum {w X : World} {g L cap E : Nat} {ys : List Int} (h : Tn w X g L cap ys) (hE : E ≤ L) (hT : Tab w) {S : Int} (hS : sumI [ys.take E] = S) :
    Calls Tryd.prog 18 #[.slice (some ⟨X.heap.size, 0, none⟩) 1 1] (X.alloc (.cells #[.slice (some ⟨g, 0, none⟩) E cap] 22)) fun e w' => e = .returned (.int .u32 S) ∧ w' = X.alloc (.cells #[.slice (some ⟨g, 0, none⟩) E cap] 22) := by
  obtain ⟨h1, h2, h3⟩ := h.C
  have hb := below_alloc (Below.refl X.heap.size X) (.cells #[.slice (some ⟨g, 0, none⟩) E cap] 22)
  obtain ⟨q1, q2⟩ := (h.step hb).pre hE
  have k := C_oneH (t := 22) (fr := (0, 0)) (c := cap) (xs := ys.take E) (by rw [← q1]; exact World.alloc_heap_new X _) (by rw [← q1]; omega) (by rw [← q1]; exact q2)
  have := Sum (c := 1) ((h.tab hT).below hb) k
  rw [hS] at this
  exact this.mono fun e w' hh => ⟨hh.1, hh.2.symm⟩
theorem enc_lo (c : CartP) : 32 ≤ (encB c).length := by
  have h1 := body_len c.entry (secs c)
  have h2 := secs_len c
  have h3 := word_len (sumI [bodyB c.entry (secs c)])
  unfold encB
  rw [List.length_append]
  omega
theorem cut_max (A : Option Addr) (L cap n : Nat) (h1 : n ≤ cap) : ∀ W : World, (Instr.slice 22 (.slice A L cap) none (some (.int .i64 (n : Int))) (some (.int .i64 (n : Int)))).run Tryd.prog W = .ok (.slice A n n) W := by
  obtain ⟨i0, hi, _, hz1, _⟩ := info_parts infoB
  intro W
  have hel : Tryd.prog.elem 22 = 5 := by simp [Program.elem, Tryd.underlying22]
  have hu : Tryd.prog.underlying 22 = some (.slice (Tryd.prog.elem 22)) := by rw [hel]; exact Tryd.underlying22
  have ha : (A.map fun x => x.add 0) = A := by cases A <;> simp [Addr.add]
  rw [run_slice_hm W 22 A L cap hu .i64 .i64 (n : Int) (n : Int) (by omega) (by omega) (by omega), hel]
  simp [sizeOf, typeInfo, hi, sliced, Result.andThen, ha]
theorem cut_E (A : Option Addr) (L cap E : Nat) (h1 : E ≤ L) (h2 : L ≤ cap) : ∀ W : World, (Instr.slice 22 (.slice A L cap) none (some (.int .i64 (E : Int))) none).run Tryd.prog W = .ok (.slice A E cap) W := by
  obtain ⟨i0, hi, _, hz1, _⟩ := info_parts infoB
  have := cut_to (P := Tryd.prog) 22 5 .i64 Tryd.underlying22 hi A L cap (E : Int) (by omega) (by omega) (by omega)
  rw [Int.toNat_natCast] at this
  exact this
theorem Tn.four {w X : World} {g L cap E : Nat} {ys : List Int} (h : Tn w X g L cap ys) (hE : E + 4 ≤ L) : X.cell? ⟨g, E, none⟩ = some (.int .u8 (ys.getD E 0)) ∧ X.cell? ⟨g, E + 1, none⟩ = some (.int .u8 (ys.getD (E + 1) 0)) ∧ X.cell? ⟨g, E + 2, none⟩ = some (.int .u8 (ys.getD (E + 2) 0)) ∧ X.cell? ⟨g, E + 3, none⟩ = some (.int .u8 (ys.getD (E + 3) 0)) := by
  have q : ∀ i : Nat, i < L → X.cell? ⟨g, i, none⟩ = some (.int .u8 (ys.getD i 0)) := fun i hi => by
    have h1 := (Kd.R_celln 0 h.R (i : Int) (by omega) (by omega)).1
    rw [Int.toNat_natCast] at h1
    exact h1
  exact ⟨q _ (by omega), q _ (by omega), q _ (by omega), q _ (by omega)⟩
theorem wrap32 {x : Int} (h0 : 0 ≤ x) (h1 : x < 4294967296) : IntKind.u32.wrap x = x := by rw [IntKind.wrap_u32]; omega
theorem low4_or {b : List Int} (hB : allB b) (i : Nat) : Go.bits .or .u32 (Go.bits .or .u32 (Go.bits .or .u32 (b.getD i 0) (b.getD (i + 1) 0 * 256)) (b.getD (i + 2) 0 * 65536)) (b.getD (i + 3) 0 * 16777216) = low4 b i := by
  have b0 := getB hB i; have b1 := getB hB (i + 1); have b2 := getB hB (i + 2); have b3 := getB hB (i + 3)
  unfold isB at b0 b1 b2 b3
  unfold low4
  generalize b.getD i 0 = x0 at *
  generalize b.getD (i + 1) 0 = x1 at *
  generalize b.getD (i + 2) 0 = x2 at *
  generalize b.getD (i + 3) 0 = x3 at *
  obtain ⟨y0, rfl⟩ := Int.eq_ofNat_of_zero_le b0.1
  obtain ⟨y1, rfl⟩ := Int.eq_ofNat_of_zero_le b1.1
  obtain ⟨y2, rfl⟩ := Int.eq_ofNat_of_zero_le b2.1
  obtain ⟨y3, rfl⟩ := Int.eq_ofNat_of_zero_le b3.1
  have o1 : y0 ||| (y1 * 256) = y0 + 256 * y1 := by
    have := Nat.two_pow_add_eq_or_of_lt (i := 8) (b := y0) (by omega) y1
    rw [show (2 : Nat) ^ 8 = 256 by decide] at this
    rw [Nat.or_comm, Nat.mul_comm y1 256]
    omega
  have o2 : (y0 + 256 * y1) ||| (y2 * 65536) = y0 + 256 * y1 + 65536 * y2 := by
    have := Nat.two_pow_add_eq_or_of_lt (i := 16) (b := y0 + 256 * y1) (by omega) y2
    rw [show (2 : Nat) ^ 16 = 65536 by decide] at this
    rw [Nat.or_comm, Nat.mul_comm y2 65536]
    omega
  have o3 : (y0 + 256 * y1 + 65536 * y2) ||| (y3 * 16777216) = y0 + 256 * y1 + 65536 * y2 + 16777216 * y3 := by
    have := Nat.two_pow_add_eq_or_of_lt (i := 24) (b := y0 + 256 * y1 + 65536 * y2) (by omega) y3
    rw [show (2 : Nat) ^ 24 = 16777216 by decide] at this
    rw [Nat.or_comm, Nat.mul_comm y3 16777216]
    omega
  rw [show ((y1 : Int) * 256) = ((y1 * 256 : Nat) : Int) by omega, or32 _ _ (by omega) (by omega), o1, show ((y2 : Int) * 65536) = ((y2 * 65536 : Nat) : Int) by omega, or32 _ _ (by omega) (by omega), o2, show ((y3 : Int) * 16777216) = ((y3 * 16777216 : Nat) : Int) by omega, or32 _ _ (by omega) (by omega), o3]
  omega
end Go.Proofs.YtembdahclmffjaaDoor.Pk
