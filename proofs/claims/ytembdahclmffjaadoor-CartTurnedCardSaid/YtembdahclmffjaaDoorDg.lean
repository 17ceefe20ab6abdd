/- cart.read: what its last loop keeps: each bank's bytes lie in a row of their own. -/
import Derived.Test.YtembdahclmffjaaDoorDf
namespace Go.Proofs.YtembdahclmffjaaDoor.Pk
open Go.RowKit Go.Proofs.YtembdahclmffjaaDoorW.PrintWords Go.Proofs.YtembdahclmffjaaDoorW.PrintLast Go.Proofs.YtembdahclmffjaaDoorW.PrintMore Go.Proofs.YtembdahclmffjaaDoor.Mem
set_option linter.unusedVariables false
set_option linter.unusedSimpArgs false
theorem cellH {w : World} {g o t : Nat} {cs : Array Value} {fr : Nat × Nat} (h : w.heap[g]? = some (.cells cs t fr)) : w.cell? ⟨g, o, none⟩ = cs[o]? := by simp [World.cell?, h]
theorem setH {w : World} {g t : Nat} {cs : Array Value} {fr : Nat × Nat} (h : w.heap[g]? = some (.cells cs t fr)) (j : Nat) (v : Value) : (w.setCell ⟨g, j, none⟩ v).heap[g]? = some (.cells (cs.setIfInBounds j v) t fr) := by
  obtain ⟨hlt, hk⟩ := Array.getElem?_eq_some_iff.1 h
  show (w.heap.modify g _)[g]? = _
  rw [Array.getElem?_eq_getElem (by rw [Array.size_modify]; exact hlt), Array.getElem_modify_self, hk]
  rfl
theorem put4 {w : World} {g t : Nat} {x0 x1 x2 x3 : Value} {fr : Nat × Nat} (h : w.heap[g]? = some (.cells #[x0, x1, x2, x3] t fr)) (y0 y1 y2 y3 : Value) : ((((w.setCell ⟨g, 0, none⟩ y0).setCell ⟨g, 1, none⟩ y1).setCell ⟨g, 2, none⟩ y2).setCell ⟨g, 3, none⟩ y3).heap[g]? = some (.cells #[y0, y1, y2, y3] t fr) := setH (setH (setH (setH h 0 y0) 1 y1) 2 y2) 3 y3
theorem put4F (w : World) (g : Nat) (y0 y1 y2 y3 : Value) : Fr w ((((w.setCell ⟨g, 0, none⟩ y0).setCell ⟨g, 1, none⟩ y1).setCell ⟨g, 2, none⟩ y2).setCell ⟨g, 3, none⟩ y3) (fun k => k = g) :=
  ((((Fr.refl w (fun k => k = g)).setCell (p := ⟨g, 0, none⟩) (fun _ => rfl) y0).setCell (p := ⟨g, 1, none⟩) (fun _ => rfl) y1).setCell (p := ⟨g, 2, none⟩) (fun _ => rfl) y2).setCell (p := ⟨g, 3, none⟩) (fun _ => rfl) y3
structure T2 (w wr : World) (R W B : Nat) (ok : Nat → Prop) (g : Nat) (b : List Int) (p : Nat) (g8 m c8 : Nat) (v0 v2 : Value) (A3 : Option Addr) (n3 c3 g3 : Nat) (L0 : List Int) (L2 : List EfT) (V : Nat → Value) (j : Nat) (ent : Int) : Prop where
  r : At wr B ok g b p
  r8 : Kd.R (Kd.int .i64) 3 wr (W + 1) (fun _ => True) (.slice (some ⟨g8, 0, none⟩) m c8) ((List.range m).map (siz b))
  r0 : RB1 wr (W + 1) v0 L0
  r2 : Kd.R kE 80 wr (W + 1) (fun _ => True) v2 L2
  bx : wr.heap[W]? = some (.cells #[v0, .int .u16 ent, v2, .slice A3 n3 c3] 28 (0, 0))
  tx : wr.heap[R]? = some (.cells #[.slice none 0 0, .int .u16 0, .slice none 0 0, .slice none 0 0] 28 (0, 0))
  bel : Below w.heap.size w wr
  lo : w.heap.size ≤ R
  rg : R < g
  gw : g < W
  okk : ∀ k, ok k → R < k ∧ k < W
  n3m : n3 + 2 = m
  n3c : n3 ≤ c3
  a3 : 0 < n3 → A3 = some ⟨g3, 0, none⟩
  g3l : 0 < n3 → W + 1 ≤ g3
  typ : 0 < n3 → ∃ cells, wr.heap[g3]? = some (.cells cells 82 (0, 0))
  cells : ∀ k, k < n3 → wr.cell? ⟨g3, k * 2, none⟩ = some (.int .i64 (nmb b (k + 2))) ∧ wr.cell? ⟨g3, k * 2 + 1, none⟩ = some (V k)
  rows : ∀ k, k < j → RB1 wr (W + 1) (V k) (dat b (k + 2))
  apart : ∀ k l q, k < j → l < j → k ≠ l → (V k).ownBlock = some q → (V l).ownBlock ≠ some q
  apart0 : ∀ k q, k < j → (V k).ownBlock = some q → v0.ownBlock ≠ some q
  jn : j ≤ n3
namespace T2
variable {w wr w1 : World} {R W B g p p' g8 m c8 n3 c3 g3 j : Nat} {ok : Nat → Prop} {b : List Int} {v0 v2 : Value} {A3 : Option Addr} {L0 : List Int} {L2 : List EfT} {V : Nat → Value} {ent : Int}
theorem lt (h : T2 w wr R W B ok g b p g8 m c8 v0 v2 A3 n3 c3 g3 L0 L2 V j ent) : W < wr.heap.size := heap_lt h.bx
theorem cellB (h : T2 w wr R W B ok g b p g8 m c8 v0 v2 A3 n3 c3 g3 L0 L2 V j ent) (i : Nat) {u : Value} (hi : (#[v0, .int .u16 ent, v2, .slice A3 n3 c3] : Array Value)[i]? = some u) : wr.cell? ⟨W, i, none⟩ = some u := by simp [World.cell?, h.bx, hi]
/-- the reader went on, new blocks came up -/
theorem fr {S : Nat → Prop} (h : T2 w wr R W B ok g b p g8 m c8 v0 v2 A3 n3 c3 g3 L0 L2 V j ent) (hA : At w1 B ok g b p') (hF : Fr wr w1 S) (hS : ∀ k, k < wr.heap.size → S k → k = g) : T2 w w1 R W B ok g b p' g8 m c8 v0 v2 A3 n3 c3 g3 L0 L2 V j ent := by
  have hgw := h.gw
  have hrg := h.rg
  have hlo := h.lo
  have hF' : Fr wr w1 (fun k => k = g) := hF.mono hS
  have row : ∀ {α : Type} {d : Kd α} {e : Nat} {v : Value} {xs : List α}, Kd.R d e wr (W + 1) (fun _ => True) v xs → Kd.R d e w1 (W + 1) (fun _ => True) v xs := fun hr =>
    Kd.R_mono (hF'.row (Kd.R_mono (Kd.R_bound hr) (ok' := fun k => W + 1 ≤ k) (fun k hk => hk.2.1)) (fun k hk _ e => by omega)) (fun _ _ => trivial)
  have cel : ∀ {o : Nat} {u : Value}, 0 < n3 → wr.cell? ⟨g3, o, none⟩ = some u → w1.cell? ⟨g3, o, none⟩ = some u := fun hn hc =>
    (World.cell?_of_block (a := ⟨g3, _, none⟩) (hF'.block g3 (World.block_lt_of_cell? _ _ hc) (fun e => by have := h.g3l hn; omega))).trans hc
  exact ⟨hA, row h.r8, row h.r0, row h.r2, hF'.heap h.bx (by omega), hF'.heap h.tx (by omega), h.bel.trans (hF'.below h.bel.size (fun k hk e => by omega)), h.lo, h.rg, h.gw, h.okk, h.n3m, h.n3c, h.a3, h.g3l, fun hn => (by
    obtain ⟨cs, hc⟩ := h.typ hn
    exact ⟨cs, hF'.heap hc (fun e => by have := h.g3l hn; omega)⟩), fun k hk => ⟨cel (by omega) (h.cells k hk).1, cel (by omega) (h.cells k hk).2⟩, fun k hk => row (h.rows k hk), h.apart, h.apart0, h.jn⟩
theorem read (h : T2 w wr R W B ok g b p g8 m c8 v0 v2 A3 n3 c3 g3 L0 L2 V j ent) (hA : At w1 B ok g b p') (hF : Fr wr w1 (fun k => k = g)) : T2 w w1 R W B ok g b p' g8 m c8 v0 v2 A3 n3 c3 g3 L0 L2 V j ent := h.fr hA hF (fun _ _ e => e)
theorem drew (h : T2 w wr R W B ok g b p g8 m c8 v0 v2 A3 n3 c3 g3 L0 L2 V j ent) : T2 w wr.drew R W B ok g b p g8 m c8 v0 v2 A3 n3 c3 g3 L0 L2 V j ent :=
  h.fr (h.r.below (below_drew (Below.refl _ _))) (Fr.of_below (below_drew (Below.refl _ _)) (fun _ => False)) (fun _ _ e => e.elim)
theorem held (h : T2 w wr R W B ok g b p g8 m c8 v0 v2 A3 n3 c3 g3 L0 L2 V j ent) (hj : j < n3) {sj : Int} (hs : siz b (j + 2) = sj) : wr.cell? ⟨W, 3, none⟩ = some (.slice A3 n3 c3) ∧ wr.cell? ⟨g8, 2 + j, none⟩ = some (.int .i64 sj) := by
  refine ⟨h.cellB 3 rfl, ?_⟩
  have hm := h.n3m
  obtain ⟨ad, e, hx⟩ := Kd.at_int (Kd.R_reads' h.r8).2.2 ((2 + j : Nat) : Int) (by omega) (by simp; omega)
  injection e with e
  subst e
  rw [Int.toNat_natCast, add_plain] at hx
  rw [hx]
  unfold rd
  rw [Int.toNat_natCast, getD_at _ _ (by simp; omega)]
  simp [Nat.add_comm 2 j, hs]
theorem slot (h : T2 w wr R W B ok g b p g8 m c8 v0 v2 A3 n3 c3 g3 L0 L2 V j ent) (hj : j < n3) : wr.cell? ⟨g3, j * 2 + 1, none⟩ = some (V j) ∧ wr.frozen? ⟨g3, j * 2 + 1, none⟩ = false := by
  obtain ⟨cs, hc⟩ := h.typ (by omega)
  exact ⟨(h.cells j hj).2, by simp [World.frozen?, hc]⟩
/-- a bank's bytes are laid -/
theorem lay (h : T2 w wr R W B ok g b p g8 m c8 v0 v2 A3 n3 c3 g3 L0 L2 V j ent) (hj : j < n3) {v5 : Value} {base : Nat} (hR : Kd.R (Kd.int .u8) 5 wr base (fun _ => True) v5 (dat b (j + 2))) (hb : W + 1 ≤ base) (hnew : ∀ k q, k < j → (V k).ownBlock = some q → q < base) (h0 : ∀ q, v0.ownBlock = some q → q < base) : T2 w (wr.setCell ⟨g3, j * 2 + 1, none⟩ v5) R W B ok g b p g8 m c8 v0 v2 A3 n3 c3 g3 L0 L2 (fun k => if k = j then v5 else V k) (j + 1) ent := by
  have hg3 := h.g3l (by omega)
  obtain ⟨cs, hc⟩ := h.typ (by omega)
  have hgw := h.gw
  have hrg := h.rg
  have hlo := h.lo
  have hF : Fr wr (wr.setCell ⟨g3, j * 2 + 1, none⟩ v5) (fun k => k = g3) := (Fr.refl wr (fun k => k = g3)).setCell (p := ⟨g3, j * 2 + 1, none⟩) (fun _ => rfl) v5
  have ob := Kd.R_base hR
  have hset : ∀ {v : Value} {xs : List Int} {bs : Nat}, Kd.R (Kd.int .u8) 5 wr bs (fun _ => True) v xs → Kd.R (Kd.int .u8) 5 (wr.setCell ⟨g3, j * 2 + 1, none⟩ v5) bs (fun _ => True) v xs := fun hr => Kd.R_set hr hc (by intro q hq; simp [Kd.int, Kd.scalar] at hq; rw [hq]; decide) _ _
  obtain ⟨hlt, hk⟩ := Array.getElem?_eq_some_iff.1 hc
  have hc1 : (wr.setCell ⟨g3, j * 2 + 1, none⟩ v5).heap[g3]? = some (.cells (cs.setIfInBounds (j * 2 + 1) v5) 82 (0, 0)) := by
    show (wr.heap.modify g3 _)[g3]? = _
    rw [Array.getElem?_eq_getElem (by rw [Array.size_modify]; exact hlt), Array.getElem_modify_self, hk]
    rfl
  have cof : ∀ {o : Nat} {u : Value}, wr.cell? ⟨g3, o, none⟩ = some u → cs[o]? = some u := fun hx => by simpa [World.cell?, hc] using hx
  refine ⟨h.r.fr hF (by omega) (fun k hk _ e => by have := h.okk k hk; omega), Kd.R_set h.r8 hc (by intro q hq; simp [Kd.int, Kd.scalar] at hq; rw [hq]; decide) _ _, hset h.r0, Kd.R_set h.r2 hc (by intro q hq; simp [kE, Kd.pair, Kd.int, Kd.scalar] at hq; rw [hq]; decide) _ _, hF.heap h.bx (by omega), hF.heap h.tx (by omega), h.bel.trans (hF.below h.bel.size (fun k hk e => by omega)), h.lo, h.rg, h.gw, h.okk, h.n3m, h.n3c, h.a3, h.g3l, fun _ => ⟨_, hc1⟩, fun k hkn => ?_, fun k hkj => ?_, fun k l q hkj hlj hne hq => ?_, fun k q hkj hq => ?_, by omega⟩
  · have h1 := cof (h.cells k hkn).1
    have h2 := cof (h.cells k hkn).2
    refine ⟨?_, ?_⟩
    · rw [cellH hc1, Array.getElem?_setIfInBounds, if_neg (show ¬ (j * 2 + 1 = k * 2) by omega)]
      exact h1
    · rw [cellH hc1, Array.getElem?_setIfInBounds]
      by_cases e : k = j
      · subst e
        rw [if_pos rfl, if_pos (Array.getElem?_eq_some_iff.1 h2).1]
        simp
      · rw [if_neg (show ¬ (j * 2 + 1 = k * 2 + 1) by omega)]
        rw [if_neg e]
        exact h2
  · by_cases e : k = j
    · subst e
      rw [if_pos rfl]
      exact Kd.R_lower (hset hR) hb
    · rw [if_neg e]
      exact hset (h.rows k (by omega))
  · by_cases e : k = j
    · rw [if_pos e] at hq
      rw [if_neg (by omega)]
      intro hl
      have := hnew l q (by omega) hl
      have := ob q hq
      omega
    · rw [if_neg e] at hq
      by_cases e2 : l = j
      · rw [if_pos e2]
        intro hl
        have := hnew k q (by omega) hq
        have := ob q hl
        omega
      · rw [if_neg e2]
        exact h.apart k l q (by omega) (by omega) hne hq
  · by_cases e : k = j
    · rw [if_pos e] at hq
      intro hl
      have := h0 q hl
      have := ob q hq
      omega
    · rw [if_neg e] at hq
      exact h.apart0 k q (by omega) hq
/-- the banks read as they should -/
theorem banks (h : T2 w wr R W B ok g b p g8 m c8 v0 v2 A3 n3 c3 g3 L0 L2 V n3 ent) : Kd.C kB wr A3 n3 ((List.range n3).map fun k => (nmb b (k + 2), dat b (k + 2))) := by
  have hm := h.n3m
  refine ⟨by simp, ?_, fun hn => ⟨⟨g3, 0, none⟩, h.a3 hn, fun k x hk => ?_⟩⟩
  · have := (Kd.R_reads' h.r8).2.2.2.1
    simp at this
    omega
  · rw [List.getElem?_map] at hk
    obtain ⟨y, hy, rfl⟩ := Option.map_eq_some_iff.1 hk
    obtain ⟨hkn, rfl⟩ := List.getElem?_eq_some_iff.1 hy
    simp only [List.length_range] at hkn
    simp only [List.getElem_range]
    obtain ⟨A, c, e, hl, hC⟩ := Kd.R_reads (h.rows k hkn)
    obtain ⟨q1, q2⟩ := h.cells k hkn
    refine ⟨[.int .i64 (nmb b (k + 2)), V k], rfl, ⟨[.int .i64 (nmb b (k + 2))], [V k], rfl, rfl, ⟨A, c, by rw [e], hl, hC⟩⟩, fun i u hu => ?_⟩
    rw [add_plain, szB]
    match i, hu with
    | 0, hu => simp at hu; subst hu; exact q1
    | 1, hu => simp at hu; subst hu; exact q2
    | i + 2, hu => simp at hu
end T2
/-- from the loop ahead of it -/
theorem T2.of {w wr : World} {R W B g p g8 m c8 : Nat} {ok : Nat → Prop} {b : List Int} {v0 v2 : Value} {A3 : Option Addr} {n3 c3 : Nat} {L0 : List Int} {L2 : List EfT} {ent : Int} (h : T1 w wr R W B ok g b p (.slice (some ⟨g8, 0, none⟩) m c8) v0 v2 (.slice A3 n3 c3) ((List.range m).map (siz b)) L0 L2 (nbk b m) ent) (hm : 2 ≤ m) : ∃ g3 V, T2 w wr R W B ok g b p g8 m c8 v0 v2 A3 n3 c3 g3 L0 L2 V 0 ent := by
  have hr := Kd.R_reads' h.r3
  have hn : n3 = m - 2 := by rw [hr.1]; simp [nbk]
  by_cases h0 : 0 < n3
  · obtain ⟨g3, cap, e, hb, hlt, cs, hc⟩ := Kd.R_form h.r3 (by rw [← hr.1]; exact h0)
    injection e with e1 e2 e3
    subst e1
    have hr3 := h.r3
    have hel : ∀ k, ∃ u, k < n3 → wr.cell? ⟨g3, k * 2, none⟩ = some (.int .i64 (nmb b (k + 2))) ∧ wr.cell? ⟨g3, k * 2 + 1, none⟩ = some u := fun k => by
      by_cases hk : k < n3
      · obtain ⟨c, hcl, hM, hcc, _⟩ := Kd.R_elem hr3 (0, []) (k : Int) (by omega) (by omega)
        rw [Int.toNat_natCast] at hM hcc
        have e9 : (nbk b m).getD k (0, []) = (nmb b (k + 2), []) := by rw [getD_at _ _ (by rw [← hr.1]; exact hk)]; simp [nbk]
        rw [e9] at hM
        obtain ⟨_, _, rfl, rfl, ⟨v, rfl, _⟩⟩ := hM
        rw [szB] at hcc
        exact ⟨v, fun _ => ⟨hcc 0 _ rfl, hcc 1 _ rfl⟩⟩
      · exact ⟨.slice none 0 0, fun h => absurd h hk⟩
    obtain ⟨V, hV⟩ := Classical.axiomOfChoice hel
    exact ⟨g3, V, h.r, h.r8, h.r0, h.r2, h.bx, h.tx, h.bel, h.lo, h.rg, h.gw, h.okk, by omega, hr.2.1, fun _ => rfl, fun _ => hb, fun _ => ⟨cs, hc⟩, fun k hk => hV k hk, fun k hk => by omega, fun k l q hk => by omega, fun k q hk => by omega, Nat.zero_le _⟩
  · exact ⟨0, fun _ => .slice none 0 0, h.r, h.r8, h.r0, h.r2, h.bx, h.tx, h.bel, h.lo, h.rg, h.gw, h.okk, by omega, hr.2.1, fun h => absurd h h0, fun h => absurd h h0, fun h => absurd h h0, fun k hk => by omega, fun k hk => by omega, fun k l q hk => by omega, fun k q hk => by omega, Nat.zero_le _⟩
theorem OwnR.fr {w w1 : World} {base g3 c0 c2 c3 : Nat} {A0 A2 A3 : Option Addr} {V : Nat → Value} {c : CartP} {S : Nat → Prop} (h : OwnR w base A0 c0 A2 c2 A3 c3 g3 V c) (hF : Fr w w1 S) (hS : ∀ k, k < w.heap.size → S k → k < base) : OwnR w1 base A0 c0 A2 c2 A3 c3 g3 V c := by
  have row : ∀ {α : Type} {d : Kd α} {e : Nat} {v : Value} {xs : List α}, Kd.R d e w base (fun _ => True) v xs → Kd.R d e w1 base (fun _ => True) v xs := fun hr =>
    Kd.R_mono (hF.row (Kd.R_mono (Kd.R_bound hr) (ok' := fun k => base ≤ k) (fun k hk => hk.2.1)) (fun k hk hlt e => by have := hS k hlt e; omega)) (fun _ _ => trivial)
  refine ⟨row h.r0, row h.r2, fun hn => ?_, fun k hk => ?_, fun k hk => row (h.rows k hk), h.apart, h.apart0⟩
  · obtain ⟨e, hb, cs, hc⟩ := h.a3 hn
    exact ⟨e, hb, cs, hF.heap hc (fun hs => by have := hS _ (heap_lt hc) hs; omega)⟩
  · obtain ⟨e, hb, cs, hc⟩ := h.a3 (by omega)
    have hb9 := hF.block g3 (heap_lt hc) (fun hs => by have := hS _ (heap_lt hc) hs; omega)
    exact ⟨(World.cell?_of_block (a := ⟨g3, _, none⟩) hb9).trans (h.cells k hk).1, (World.cell?_of_block (a := ⟨g3, _, none⟩) hb9).trans (h.cells k hk).2⟩
theorem OwnR.isC {w : World} {base g3 c0 c2 c3 : Nat} {A0 A2 A3 : Option Addr} {V : Nat → Value} {c : CartP} (h : OwnR w base A0 c0 A2 c2 A3 c3 g3 V c) (hc : c.bks.length ≤ c3) (hm : c.bks.length ≤ 9223372036854775807) : IsC w A0 c0 A2 c2 A3 c3 c := by
  have h0 := Kd.R_reads' h.r0
  have h2 := Kd.R_reads' h.r2
  refine ⟨h0.2.2, h2.2.2, ⟨rfl, hm, fun hn => ⟨⟨g3, 0, none⟩, (h.a3 hn).1, fun k x hk => ?_⟩⟩, h0.2.1, h2.2.1, hc⟩
  obtain ⟨hkn, hx⟩ := List.getElem?_eq_some_iff.1 hk
  have ex : c.bks.getD k (0, []) = x := by rw [getD_at _ _ hkn]; exact hx
  obtain ⟨A, cc, e, hl, hC⟩ := Kd.R_reads (h.rows k hkn)
  obtain ⟨q1, q2⟩ := h.cells k hkn
  rw [ex] at e hl hC q1
  obtain ⟨num, d⟩ := x
  refine ⟨[.int .i64 num, V k], rfl, ⟨[.int .i64 num], [V k], rfl, rfl, ⟨A, cc, by rw [e], hl, hC⟩⟩, fun i u hu => ?_⟩
  rw [add_plain, szB]
  match i, hu with
  | 0, hu => simp at hu; subst hu; exact q1
  | 1, hu => simp at hu; subst hu; exact q2
  | i + 2, hu => simp at hu
/-- what the last loop leaves: a cartridge of the call's own -/
theorem T2.own {w wr : World} {R W B g p g8 m c8 n3 c3 g3 n0 c0 n2 c2 K2 : Nat} {ok : Nat → Prop} {b : List Int} {A0 A2 A3 : Option Addr} {V : Nat → Value} (h : T2 w wr R W B ok g b p g8 m c8 (.slice A0 n0 c0) (.slice A2 n2 c2) A3 n3 c3 g3 (dat b 0) (efsOf K2 (dat b 1)) V n3 (low2 b 6)) (hm : nS b = m) (hK : (siz b 1).toNat / 6 = K2) :
    crt A0 c0 A2 c2 A3 c3 (cartOf b) = .agg #[.slice A0 n0 c0, .int .u16 (low2 b 6), .slice A2 n2 c2, .slice A3 n3 c3] ∧ IsC wr A0 c0 A2 c2 A3 c3 (cartOf b) ∧ OwnR wr (W + 1) A0 c0 A2 c2 A3 c3 g3 V (cartOf b) := by
  have h0 := Kd.R_reads' h.r0
  have h2 := Kd.R_reads' h.r2
  have hn := h.n3m
  have eb : (cartOf b).bks = (List.range n3).map fun k => (nmb b (k + 2), dat b (k + 2)) := by
    show (List.range (nS b - 2)).map _ = _
    rw [hm, show m - 2 = n3 by omega]
  have ee : (cartOf b).efs = efsOf K2 (dat b 1) := by show efsOf ((siz b 1).toNat / 6) _ = _; rw [hK]
  have ec : (cartOf b).code = dat b 0 := rfl
  have ebl : (cartOf b).bks.length = n3 := by rw [eb]; simp
  have eg : ∀ k, k < n3 → (cartOf b).bks.getD k (0, []) = (nmb b (k + 2), dat b (k + 2)) := fun k hk => by rw [eb, getD_at _ _ (by simpa using hk)]; simp
  have hb := h.banks
  refine ⟨?_, ⟨?_, ?_, ?_, ?_, ?_, ?_⟩, ⟨?_, ?_, fun hx => ?_, fun k hk => ?_, fun k hk => ?_, fun k l q hk hl => ?_, fun k q hk => ?_⟩⟩
  · unfold crt
    rw [ebl, ee, ec, ← h2.1, ← h0.1]; rfl
  · rw [ec]; exact h0.2.2
  · rw [ee]; exact h2.2.2
  · rw [ebl, eb]; exact hb
  · rw [ec]; have := h0.1; have := h0.2.1; omega
  · rw [ee]; have := h2.1; have := h2.2.1; omega
  · rw [ebl]; exact h.n3c
  · rw [ec, ← h0.1]; exact h.r0
  · rw [ee, ← h2.1]; exact h.r2
  · rw [ebl] at hx; exact ⟨h.a3 hx, h.g3l hx, h.typ hx⟩
  · rw [ebl] at hk; rw [eg k hk]; exact h.cells k hk
  · rw [ebl] at hk; rw [eg k hk]; exact h.rows k hk
  · rw [ebl] at hk hl; exact h.apart k l q hk hl
  · rw [ebl] at hk; rw [ec, ← h0.1]; exact h.apart0 k q hk
end Go.Proofs.YtembdahclmffjaaDoor.Pk
