/- cart.read: what its loops keep. -/
import Derived.Test.YtembdahclmffjaaDoorDr
namespace Go.Proofs.YtembdahclmffjaaDoor.Pk
open Go.RowKit Go.Proofs.YtembdahclmffjaaDoorW.PrintWords Go.Proofs.YtembdahclmffjaaDoorW.PrintLast Go.Proofs.YtembdahclmffjaaDoorW.PrintMore Go.Proofs.YtembdahclmffjaaDoor.Mem
attribute [local go_sem] max2_int min2_int max_two min_two max_three min_three max_four min_four
set_option linter.unusedVariables false
set_option linter.unusedSimpArgs false
abbrev RB1 (W : World) (base : Nat) (v : Value) (xs : List Int) : Prop := Kd.R (Kd.int .u8) 5 W base (fun _ => True) v xs
/-- a cartridge whose rows are the call's own, from base on, apart from each other -/
structure OwnR (w : World) (base : Nat) (A0 : Option Addr) (c0 : Nat) (A2 : Option Addr) (c2 : Nat) (A3 : Option Addr) (c3 g3 : Nat) (V : Nat → Value) (c : CartP) : Prop where
  r0 : RB1 w base (.slice A0 c.code.length c0) c.code
  r2 : Kd.R kE 80 w base (fun _ => True) (.slice A2 c.efs.length c2) c.efs
  a3 : 0 < c.bks.length → A3 = some ⟨g3, 0, none⟩ ∧ base ≤ g3 ∧ ∃ cells, w.heap[g3]? = some (.cells cells 82 (0, 0))
  cells : ∀ k, k < c.bks.length → w.cell? ⟨g3, k * 2, none⟩ = some (.int .i64 (c.bks.getD k (0, [])).1) ∧ w.cell? ⟨g3, k * 2 + 1, none⟩ = some (V k)
  rows : ∀ k, k < c.bks.length → RB1 w base (V k) (c.bks.getD k (0, [])).2
  apart : ∀ k l q, k < c.bks.length → l < c.bks.length → k ≠ l → (V k).ownBlock = some q → (V l).ownBlock ≠ some q
  apart0 : ∀ k q, k < c.bks.length → (V k).ownBlock = some q → (Value.slice A0 c.code.length c0).ownBlock ≠ some q
structure Own (w : World) (B : Nat) (v : Value) (c : CartP) : Prop where
  ex : ∃ A0 c0 A2 c2 A3 c3 g3 V base, B ≤ base ∧ v = crt A0 c0 A2 c2 A3 c3 c ∧ IsC w A0 c0 A2 c2 A3 c3 c ∧ OwnR w base A0 c0 A2 c2 A3 c3 g3 V c
/-- what read comes to -/
def ReadPost (b : List Int) (w : World) (e : Ending) (w' : World) : Prop := Below w.heap.size w w' ∧ ((∃ er, decR b = (z0, er) ∧ er ≠ 0 ∧ e = .panicked (pnc er)) ∨ (∃ c v, decR b = (c, 0) ∧ e = .returned v ∧ Own w' w.heap.size v c))
theorem post_bad {b : List Int} {w w' : World} (hb : Below w.heap.size w w') (hT : ¬ TabOK b) : ReadPost b w (.panicked (pnc 72)) w' := ⟨hb, .inl ⟨72, if_pos hT, by decide, rfl⟩⟩
theorem post_bad6 {b : List Int} {w w' : World} (hb : Below w.heap.size w w') (hT : TabOK b) (h6 : siz b 1 % 6 ≠ 0) : ReadPost b w (.panicked (pnc 73)) w' := ⟨hb, .inl ⟨73, (if_neg (fun h => h hT)).trans (if_pos h6), by decide, rfl⟩⟩
theorem post_badC {b : List Int} {w w' : World} (hb : Below w.heap.size w w') (hT : TabOK b) (h6 : siz b 1 % 6 = 0) (hC : ¬ OkC (cartOf b)) : ReadPost b w (.panicked (pnc 73)) w' := ⟨hb, .inl ⟨73, (if_neg (fun h => h hT)).trans ((if_neg (fun h => h h6)).trans (if_pos hC)), by decide, rfl⟩⟩
theorem post_good {b : List Int} {w w' : World} {v : Value} (hb : Below w.heap.size w w') (hT : TabOK b) (h6 : siz b 1 % 6 = 0) (hC : OkC (cartOf b)) (hO : Own w' w.heap.size v (cartOf b)) : ReadPost b w (.returned v) w' := ⟨hb, .inr ⟨cartOf b, v, (if_neg (fun h => h hT)).trans ((if_neg (fun h => h h6)).trans (if_neg (fun h => h hC))), rfl, hO⟩⟩
/-- how far the table has been found right -/
def okT (b : List Int) (i : Nat) : Prop := ∀ j, j < i → entOK b j ∧ rgt b j
theorem okT_snoc {b : List Int} {i : Nat} (h : okT b i) (h1 : entOK b i) (h2 : rgt b i) : okT b (i + 1) := fun j hj => by
  by_cases e : j = i
  · rw [e]; exact ⟨h1, h2⟩
  · exact h j (by omega)
def lastI (b : List Int) (i : Nat) : Int := if i ≤ 2 then -1 else nmb b (i - 1)
def nbk (b : List Int) (i : Nat) : List BkT := (List.range (i - 2)).map fun j => (nmb b (j + 2), ([] : List Int))
theorem infoE : (Tryd.prog.info? 80).map (fun i => (i.zero, i.size, i.bytes)) = some (some (.agg #[(.int .u16 0), (.int .i64 0), (.int .i64 0)]), 3, 24) := by kernel_rfl
theorem infoBk : (Tryd.prog.info? 82).map (fun i => (i.zero, i.size, i.bytes)) = some (some (.agg #[(.int .i64 0), (.slice none 0 0)]), 2, 32) := by kernel_rfl
theorem infoI : (Tryd.prog.info? 3).map (fun i => (i.zero, i.size, i.bytes)) = some (some (.int .i64 0), 1, 8) := by kernel_rfl
theorem szE : kE.sz = 3 := rfl
theorem szB : kB.sz = 2 := rfl
/-- the state of read's loops: the reader at g, the cartridge at W, the result at R, all ahead of W as it was but the reader -/
structure T1 (w wr : World) (R W B : Nat) (ok : Nat → Prop) (g : Nat) (b : List Int) (p : Nat) (v8 v0 v2 v3 : Value) (L8 L0 : List Int) (L2 : List EfT) (L3 : List BkT) (ent : Int) : Prop where
  r : At wr B ok g b p
  r8 : Kd.R (Kd.int .i64) 3 wr (W + 1) (fun _ => True) v8 L8
  r0 : Kd.R (Kd.int .u8) 5 wr (W + 1) (fun _ => True) v0 L0
  r2 : Kd.R kE 80 wr (W + 1) (fun _ => True) v2 L2
  r3 : Kd.R kB 82 wr (W + 1) (fun _ => True) v3 L3
  bx : wr.heap[W]? = some (.cells #[v0, .int .u16 ent, v2, v3] 28 (0, 0))
  tx : wr.heap[R]? = some (.cells #[.slice none 0 0, .int .u16 0, .slice none 0 0, .slice none 0 0] 28 (0, 0))
  bel : Below w.heap.size w wr
  lo : w.heap.size ≤ R
  rg : R < g
  gw : g < W
  okk : ∀ k, ok k → R < k ∧ k < W
namespace T1
variable {w wr w1 : World} {R W B g p p' : Nat} {ok : Nat → Prop} {b : List Int} {v8 v0 v2 v3 v1 : Value} {L8 L8' L0 L0' : List Int} {L2 L2' : List EfT} {L3 L3' : List BkT} {ent : Int}
theorem lt (h : T1 w wr R W B ok g b p v8 v0 v2 v3 L8 L0 L2 L3 ent) : W < wr.heap.size := heap_lt h.bx
theorem cell (h : T1 w wr R W B ok g b p v8 v0 v2 v3 L8 L0 L2 L3 ent) (j : Nat) {u : Value} (hj : (#[v0, .int .u16 ent, v2, v3] : Array Value)[j]? = some u) : wr.cell? ⟨W, j, none⟩ = some u := by simp [World.cell?, h.bx, hj]
theorem frozen (h : T1 w wr R W B ok g b p v8 v0 v2 v3 L8 L0 L2 L3 ent) (j : Nat) : wr.frozen? ⟨W, j, none⟩ = false := by simp [World.frozen?, h.bx]
/-- the reader went on -/
theorem read (h : T1 w wr R W B ok g b p v8 v0 v2 v3 L8 L0 L2 L3 ent) (hA : At w1 B ok g b p') (hF : Fr wr w1 (fun k => k = g)) : T1 w w1 R W B ok g b p' v8 v0 v2 v3 L8 L0 L2 L3 ent := by
  have hgw := h.gw
  have hrg := h.rg
  have hlo := h.lo
  have row : ∀ {α : Type} {d : Kd α} {e : Nat} {v : Value} {xs : List α}, Kd.R d e wr (W + 1) (fun _ => True) v xs → Kd.R d e w1 (W + 1) (fun _ => True) v xs := fun hr =>
    Kd.R_mono (hF.row (Kd.R_mono (Kd.R_bound hr) (ok' := fun k => W + 1 ≤ k) (fun k hk => hk.2.1)) (fun k hk _ e => by omega)) (fun _ _ => trivial)
  exact ⟨hA, row h.r8, row h.r0, row h.r2, row h.r3, hF.heap h.bx (by omega), hF.heap h.tx (by omega), h.bel.trans (hF.below h.bel.size (fun k hk e => by omega)), h.lo, h.rg, h.gw, h.okk⟩
/-- new blocks -/
theorem below (h : T1 w wr R W B ok g b p v8 v0 v2 v3 L8 L0 L2 L3 ent) (hb : Below wr.heap.size wr w1) : T1 w w1 R W B ok g b p v8 v0 v2 v3 L8 L0 L2 L3 ent :=
  ⟨h.r.below hb, Kd.R_below h.r8 hb, Kd.R_below h.r0 hb, Kd.R_below h.r2 hb, Kd.R_below h.r3 hb, (hb.block _ h.lt).trans h.bx, (hb.block _ (heap_lt h.tx)).trans h.tx, h.bel.trans (hb.mono h.bel.size), h.lo, h.rg, h.gw, h.okk⟩
theorem drew (h : T1 w wr R W B ok g b p v8 v0 v2 v3 L8 L0 L2 L3 ent) : T1 w wr.drew R W B ok g b p v8 v0 v2 v3 L8 L0 L2 L3 ent := h.below (below_drew (Below.refl _ _))
/-- below W + 1 all stands -/
theorem under (h : T1 w wr R W B ok g b p v8 v0 v2 v3 L8 L0 L2 L3 ent) (hb : Below (W + 1) wr w1) : At w1 B ok g b p ∧ w1.heap[W]? = some (.cells #[v0, .int .u16 ent, v2, v3] 28 (0, 0)) ∧ w1.heap[R]? = some (.cells #[.slice none 0 0, .int .u16 0, .slice none 0 0, .slice none 0 0] 28 (0, 0)) ∧ Below w.heap.size w w1 := by
  have hF : Fr wr w1 (fun k => W + 1 ≤ k) := ⟨hb.os, hb.tape, hb.output, hb.size, fun k hk hn => hb.block k (by omega)⟩
  have hgw := h.gw
  have hrg := h.rg
  have hlo := h.lo
  refine ⟨h.r.fr hF (by omega) (fun k hk _ hs => by have := h.okk k hk; omega), (hb.block _ (by omega)).trans h.bx, (hb.block _ (by omega)).trans h.tx, h.bel.trans (hb.mono (by omega))⟩
/-- a size more -/
theorem app8 (h : T1 w wr R W B ok g b p v8 v0 v2 v3 L8 L0 L2 L3 ent) (hR : Kd.R (Kd.int .i64) 3 w1 (W + 1) (fun _ => True) v1 L8') (hb : Below (W + 1) wr w1) (hg : wr.grownBy w1 v8.ownBlock) : T1 w w1 R W B ok g b p v1 v0 v2 v3 L8' L0 L2 L3 ent := by
  obtain ⟨k1, k2, k3, k4⟩ := h.under hb
  exact ⟨k1, hR, Kd.R_over' h.r0 (Kd.R_typed h.r8) (by intro q hq; simp [Kd.int, Kd.scalar] at hq; rw [hq]; decide) hg, Kd.R_over' h.r2 (Kd.R_typed h.r8) (by intro q hq; simp [kE, Kd.pair, Kd.int, Kd.scalar] at hq; rw [hq]; decide) hg, Kd.R_over' h.r3 (Kd.R_typed h.r8) (by intro q hq; simp [kB, Kd.pair, Kd.slice, Kd.int, Kd.scalar] at hq; rcases hq with rfl | rfl <;> decide) hg, k2, k3, k4, h.lo, h.rg, h.gw, h.okk⟩
/-- a store into the cartridge -/
theorem put (h : At w1 B ok g b p) (h8 : Kd.R (Kd.int .i64) 3 w1 (W + 1) (fun _ => True) v8 L8) (h0 : Kd.R (Kd.int .u8) 5 w1 (W + 1) (fun _ => True) v0 L0) (h2 : Kd.R kE 80 w1 (W + 1) (fun _ => True) v2 L2) (h3 : Kd.R kB 82 w1 (W + 1) (fun _ => True) v3 L3) {c0 c2 c3 : Value} (hx : w1.heap[W]? = some (.cells #[c0, .int .u16 ent, c2, c3] 28 (0, 0))) (ht : w1.heap[R]? = some (.cells #[.slice none 0 0, .int .u16 0, .slice none 0 0, .slice none 0 0] 28 (0, 0))) (hb : Below w.heap.size w w1) (hlo : w.heap.size ≤ R) (hrg : R < g) (hgw : g < W) (hok : ∀ k, ok k → R < k ∧ k < W) (j : Nat) (u : Value) (hj : (#[c0, .int .u16 ent, c2, c3] : Array Value).setIfInBounds j u = #[v0, .int .u16 ent, v2, v3]) : T1 w (w1.setCell ⟨W, j, none⟩ u) R W B ok g b p v8 v0 v2 v3 L8 L0 L2 L3 ent := by
  have hF : Fr w1 (w1.setCell ⟨W, j, none⟩ u) (fun k => k = W) := (Fr.refl w1 (fun k => k = W)).setCell (p := ⟨W, j, none⟩) (fun _ => rfl) u
  have row : ∀ {α : Type} {d : Kd α} {e : Nat} {v : Value} {xs : List α}, Kd.R d e w1 (W + 1) (fun _ => True) v xs → Kd.R d e (w1.setCell ⟨W, j, none⟩ u) (W + 1) (fun _ => True) v xs := fun hr =>
    Kd.R_mono (hF.row (Kd.R_mono (Kd.R_bound hr) (ok' := fun k => W + 1 ≤ k) (fun k hk => hk.2.1)) (fun k hk _ e => by omega)) (fun _ _ => trivial)
  refine ⟨h.fr hF (by omega) (fun k hk _ e => by have := hok k hk; omega), row h8, row h0, row h2, row h3, ?_, hF.heap ht (by omega), hb.trans (hF.below hb.size (fun k hk e => by omega)), hlo, hrg, hgw, hok⟩
  obtain ⟨hlt, hk⟩ := Array.getElem?_eq_some_iff.1 hx
  show (w1.heap.modify W _)[W]? = _
  rw [Array.getElem?_eq_getElem (by rw [Array.size_modify]; exact hlt), Array.getElem_modify_self, hk]
  show some (Obj.cells ((#[c0, .int .u16 ent, c2, c3] : Array Value).setIfInBounds j u) _ _) = _
  rw [hj]
theorem app3 (h : T1 w wr R W B ok g b p v8 v0 v2 v3 L8 L0 L2 L3 ent) (hR : Kd.R kB 82 w1 (W + 1) (fun _ => True) v1 L3') (hb : Below (W + 1) wr w1) (hg : wr.grownBy w1 v3.ownBlock) : T1 w (w1.setCell ⟨W, 3, none⟩ v1) R W B ok g b p v8 v0 v2 v1 L8 L0 L2 L3' ent := by
  obtain ⟨k1, k2, k3, k4⟩ := h.under hb
  exact put k1 (Kd.R_over' h.r8 (Kd.R_typed h.r3) (by intro q hq; simp [Kd.int, Kd.scalar] at hq; rw [hq]; decide) hg) (Kd.R_over' h.r0 (Kd.R_typed h.r3) (by intro q hq; simp [Kd.int, Kd.scalar] at hq; rw [hq]; decide) hg) (Kd.R_over' h.r2 (Kd.R_typed h.r3) (by intro q hq; simp [kE, Kd.pair, Kd.int, Kd.scalar] at hq; rw [hq]; decide) hg) hR k2 k3 k4 h.lo h.rg h.gw h.okk 3 v1 rfl
theorem app2 (h : T1 w wr R W B ok g b p v8 v0 v2 v3 L8 L0 L2 L3 ent) (hR : Kd.R kE 80 w1 (W + 1) (fun _ => True) v1 L2') (hb : Below (W + 1) wr w1) (hg : wr.grownBy w1 v2.ownBlock) : T1 w (w1.setCell ⟨W, 2, none⟩ v1) R W B ok g b p v8 v0 v1 v3 L8 L0 L2' L3 ent := by
  obtain ⟨k1, k2, k3, k4⟩ := h.under hb
  exact put k1 (Kd.R_over' h.r8 (Kd.R_typed h.r2) (by intro q hq; simp [Kd.int, Kd.scalar] at hq; rw [hq]; decide) hg) (Kd.R_over' h.r0 (Kd.R_typed h.r2) (by intro q hq; simp [Kd.int, Kd.scalar] at hq; rw [hq]; decide) hg) hR (Kd.R_over' h.r3 (Kd.R_typed h.r2) (by intro q hq; simp [kB, Kd.pair, Kd.slice, Kd.int, Kd.scalar] at hq; rcases hq with rfl | rfl <;> decide) hg) k2 k3 k4 h.lo h.rg h.gw h.okk 2 v1 rfl
/-- the code is laid -/
theorem app0 (h : T1 w wr R W B ok g b p v8 v0 v2 v3 L8 L0 L2 L3 ent) (hR : Kd.R (Kd.int .u8) 5 wr (W + 1) (fun _ => True) v1 L0') : T1 w (wr.setCell ⟨W, 0, none⟩ v1) R W B ok g b p v8 v1 v2 v3 L8 L0' L2 L3 ent :=
  put h.r h.r8 hR h.r2 h.r3 h.bx h.tx h.bel h.lo h.rg h.gw h.okk 0 v1 rfl
/-- size j, read -/
theorem size {m c8 g8 : Nat} (h : T1 w wr R W B ok g b p (.slice (some ⟨g8, 0, none⟩) m c8) v0 v2 v3 L8 L0 L2 L3 ent) (j : Nat) (hj : j < m) : wr.cell? ⟨g8, j, none⟩ = some (.int .i64 (L8.getD j 0)) := by
  have hr := Kd.R_reads' h.r8
  have hC := hr.2.2
  obtain ⟨ad, e, hx⟩ := Kd.at_int hC (j : Int) (by omega) (by omega)
  injection e with e
  subst e
  rw [Int.toNat_natCast, add_plain] at hx
  rw [hx]
  unfold rd
  rw [Int.toNat_natCast]
/-- the cell and its mark, behind new rows -/
theorem cellU (h : T1 w wr R W B ok g b p v8 v0 v2 v3 L8 L0 L2 L3 ent) (hb : Below (W + 1) wr w1) (j : Nat) {u : Value} (hj : (#[v0, .int .u16 ent, v2, v3] : Array Value)[j]? = some u) : w1.cell? ⟨W, j, none⟩ = some u ∧ w1.frozen? ⟨W, j, none⟩ = false := by
  obtain ⟨_, k2, _, _⟩ := h.under hb
  exact ⟨by simp [World.cell?, k2, hj], by simp [World.frozen?, k2]⟩
end T1
theorem kB_mkM (w : World) (base : Nat) (ok : Nat → Prop) (D : Int) {v : Value} {d : List Int} (h : Kd.R (Kd.int .u8) 5 w base ok v d) : kB.M w base ok (D, d) [.int .i64 D, v] := ⟨[.int .i64 D], [v], rfl, rfl, ⟨v, rfl, h⟩⟩
theorem kE_mkM (w : World) (base : Nat) (ok : Nat → Prop) (x : EfT) : kE.M w base ok x [.int .u16 x.1, .int .i64 x.2.1, .int .i64 x.2.2] := ⟨[.int .u16 x.1], [.int .i64 x.2.1, .int .i64 x.2.2], rfl, rfl, ⟨[.int .i64 x.2.1], [.int .i64 x.2.2], rfl, rfl, rfl⟩⟩
/-- append of one bank, of one effect, of one number -/
theorem appBk {ops : Array Oper} {rest : List Oper} {o : Oper} {a : Act} {Q : Exit → Act → World → Prop} {W : World} (base : Nat) (hgd : o.guard = none) (s x : Operand)
    (ho : o.op = .call { callee := .builtin .append, args := #[s, x], argTypes := #[26, 26] })
    (v : Value) (xs : List BkT) (D : Int) (hs : a.eval s = v) (hx : a.eval x = .slice (some ⟨W.heap.size, 0, none⟩) 1 1) (HO : Kd.R kB 82 W base (fun _ => True) v xs) (hbase : base ≤ W.heap.size) (hl : (xs.length + 1) * 32 ≤ 140737488355328)
    (h : ∀ v1 w1, Kd.R kB 82 w1 base (fun _ => True) v1 (xs ++ [(D, [])]) → Below base W w1 → W.grownBy w1 v.ownBlock → wpList Tryd.prog ops Q rest (a.put o.dst v1) w1) :
    wpList Tryd.prog ops Q (o :: rest) a (W.alloc (.cells #[.int .i64 D, .slice none 0 0] 82)) :=
  Kd.R_append (P := Tryd.prog) kB (w0 := W) base hgd s x 26 82 (.agg #[(.int .i64 0), (.slice none 0 0)]) 32 ho Tryd.underlying26 (by rw [szB]; exact infoBk) (by rw [szB]; rfl) (by rw [szB]; decide) (by decide) v xs (D, []) [.int .i64 D, .slice none 0 0] (fun _ => True) (fun _ => False) hs hx (kB_mkM _ _ _ _ (Kd.R_nil _ _ _ _ _)) (fun k hk => hk.elim) (fun _ _ => trivial) HO (Below.refl _ _) hbase hl (fun v1 w1 hN hB hg _ => h v1 w1 hN hB hg)
theorem appI {ops : Array Oper} {rest : List Oper} {o : Oper} {a : Act} {Q : Exit → Act → World → Prop} {W : World} (base : Nat) (hgd : o.guard = none) (s x : Operand)
    (ho : o.op = .call { callee := .builtin .append, args := #[s, x], argTypes := #[96, 96] })
    (v : Value) (xs : List Int) (D : Int) (hs : a.eval s = v) (hx : a.eval x = .slice (some ⟨W.heap.size, 0, none⟩) 1 1) (HO : Kd.R (Kd.int .i64) 3 W base (fun _ => True) v xs) (hbase : base ≤ W.heap.size) (hl : (xs.length + 1) * 8 ≤ 140737488355328)
    (h : ∀ v1 w1, Kd.R (Kd.int .i64) 3 w1 base (fun _ => True) v1 (xs ++ [D]) → Below base W w1 → W.grownBy w1 v.ownBlock → wpList Tryd.prog ops Q rest (a.put o.dst v1) w1) :
    wpList Tryd.prog ops Q (o :: rest) a (W.alloc (.cells #[.int .i64 D] 3)) :=
  Kd.R_append (P := Tryd.prog) (Kd.int .i64) (w0 := W) base hgd s x 96 3 (.int .i64 0) 8 ho Tryd.underlying96 infoI rfl (by decide) (by decide) v xs D [.int .i64 D] (fun _ => True) (fun _ => False) hs hx rfl (fun k hk => hk.elim) (fun _ _ => trivial) HO (Below.refl _ _) hbase hl (fun v1 w1 hN hB hg _ => h v1 w1 hN hB hg)
theorem sizes_snoc (b : List Int) (i : Nat) : (List.range (i + 1)).map (siz b) = (List.range i).map (siz b) ++ [siz b i] := by rw [List.range_succ, List.map_append]; rfl
theorem nbk_snoc (b : List Int) {i : Nat} (h : 2 ≤ i) : nbk b (i + 1) = nbk b i ++ [(nmb b i, [])] := by
  obtain ⟨k, rfl⟩ : ∃ k, i = k + 2 := ⟨i - 2, by omega⟩
  unfold nbk
  rw [show k + 2 + 1 - 2 = k + 1 by omega, show k + 2 - 2 = k by omega, List.range_succ, List.map_append]; rfl
theorem efsOf_len : ∀ (k : Nat) (d : List Int), (efsOf k d).length = k
  | 0, _ => rfl
  | k + 1, d => by rw [efsOf, List.length_cons, efsOf_len k]
theorem efsOf_snoc : ∀ (k : Nat) (d : List Int), efsOf (k + 1) d = efsOf k d ++ [(low2 d (6 * k), low2 d (6 * k + 2), low2 d (6 * k + 4))]
  | 0, d => rfl
  | k + 1, d => by
    have h := efsOf_snoc k (d.drop 6)
    rw [efsOf, h, efsOf]
    simp only [low2_drop, List.cons_append]
    rw [show 6 + 6 * k = 6 * (k + 1) by omega, show 6 + (6 * k + 2) = 6 * (k + 1) + 2 by omega, show 6 + (6 * k + 4) = 6 * (k + 1) + 4 by omega]
theorem low2_take (d : List Int) (n i : Nat) (h : i + 1 < n) : low2 (d.take n) i = low2 d i := by
  unfold low2
  simp only [List.getD_eq_getElem?_getD, List.getElem?_take]
  rw [if_pos (by omega), if_pos h]
theorem nbk_two (b : List Int) {i : Nat} (h : i < 2) : nbk b (i + 1) = nbk b i := by
  unfold nbk
  rw [show i + 1 - 2 = 0 by omega, show i - 2 = 0 by omega]
end Go.Proofs.YtembdahclmffjaaDoor.Pk
