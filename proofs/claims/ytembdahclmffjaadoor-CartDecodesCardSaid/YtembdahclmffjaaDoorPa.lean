/- wisplaw07.apart: what holds of a cartridge's lists while they are written over and grown. -/
import Derived.Test.YtembdahclmffjaaDoorKc
import Derived.Test.YtembdahclmffjaaDoorApW
namespace Go.Proofs.YtembdahclmffjaaDoor.Pk
open Go.RowKit Go.Proofs.YtembdahclmffjaaDoorW.PrintWords Go.Proofs.YtembdahclmffjaaDoorW.PrintLast Go.Proofs.YtembdahclmffjaaDoorW.PrintMore Go.Proofs.YtembdahclmffjaaDoor.Mem
set_option linter.unusedVariables false
set_option linter.unusedSimpArgs false
/-- a row's block: none, or one that is as great as the room -/
def Blk (w : World) (base : Nat) (e : TypeId) (sz : Nat) (A : Option Addr) (c g n : Nat) : Prop := (A = none ∧ c = 0 ∧ n = 0) ∨ (A = some ⟨g, 0, none⟩ ∧ base ≤ g ∧ n ≤ c ∧ c ≤ maxLen ∧ ∃ cells, w.heap[g]? = some (.cells cells e (0, 0)) ∧ cells.size = c * sz)
theorem set_any {w : World} {p : Addr} {u : Value} {g e : Nat} {cells : Array Value} (h : w.heap[g]? = some (.cells cells e (0, 0))) : ∃ cells', (w.setCell p u).heap[g]? = some (.cells cells' e (0, 0)) ∧ cells'.size = cells.size := by
  by_cases hp : p.block = g
  · subst hp
    obtain ⟨hlt, hk⟩ := Array.getElem?_eq_some_iff.1 h
    have : (w.setCell p u).heap[p.block]? = some (.cells (if p.spot.isSome = true then cells else cells.setIfInBounds p.off u) e (0, 0)) := by
      show (w.heap.modify p.block _)[p.block]? = _
      rw [Array.getElem?_eq_getElem (by rw [Array.size_modify]; exact hlt), Array.getElem_modify_self, hk]
    refine ⟨_, this, ?_⟩
    split
    · rfl
    · exact Array.size_setIfInBounds
  · exact ⟨cells, (Below.heap_setCell w p u g (fun e => hp e.symm)).trans h, rfl⟩
namespace Blk
variable {w w1 : World} {base e sz c g n : Nat} {A : Option Addr}
theorem move (h : Blk w base e sz A c g n) (hm : ∀ cells, w.heap[g]? = some (.cells cells e (0, 0)) → ∃ cells', w1.heap[g]? = some (.cells cells' e (0, 0)) ∧ cells'.size = cells.size) : Blk w1 base e sz A c g n := by
  rcases h with h | ⟨h1, h2, h3, h4, cs, hc, h5⟩
  · exact .inl h
  · obtain ⟨cs', hc', h6⟩ := hm cs hc
    exact .inr ⟨h1, h2, h3, h4, cs', hc', h6.trans h5⟩
theorem set (h : Blk w base e sz A c g n) (p : Addr) (u : Value) : Blk (w.setCell p u) base e sz A c g n := h.move (fun _ hc => set_any hc)
theorem below (h : Blk w base e sz A c g n) (hb : Below w.heap.size w w1) : Blk w1 base e sz A c g n := h.move (fun cs hc => ⟨cs, (hb.block _ (heap_lt hc)).trans hc, rfl⟩)
theorem fr {S : Nat → Prop} (h : Blk w base e sz A c g n) (hF : Fr w w1 S) (hS : ∀ cs, w.heap[g]? = some (.cells cs e (0, 0)) → ¬ S g) : Blk w1 base e sz A c g n := h.move (fun cs hc => ⟨cs, hF.heap hc (hS cs hc), rfl⟩)
theorem own (h : Blk w base e sz A c g n) : ∃ inner, w.ownsRow base e sz (.slice A n c) n inner := by
  rcases h with ⟨rfl, rfl, rfl⟩ | ⟨rfl, h2, h3, h4, cs, hc, h5⟩
  · exact ⟨[], World.ownsRow_nil _ _ _ _⟩
  · refine ⟨cs.toList.take (n * sz), ?_, .inr ⟨g, c, cs, rfl, h2, hc, h3, h4, h5, rfl⟩⟩
    rw [List.length_take, Array.length_toList, h5]
    exact Nat.min_eq_left (Nat.mul_le_mul_right _ h3)
theorem blk (h : Blk w base e sz A c g n) {q : Nat} (hq : (Value.slice A n c).ownBlock = some q) : q = g ∧ ∃ cs, w.heap[g]? = some (.cells cs e (0, 0)) := by
  rcases h with ⟨rfl, _, _⟩ | ⟨rfl, h2, h3, h4, cs, hc, h5⟩
  · simp [Value.ownBlock] at hq
  · simp only [Value.ownBlock, Option.some.injEq] at hq
    exact ⟨hq.symm, cs, hc⟩
theorem addr (h : Blk w base e sz A c g n) (hn : 0 < n) : A = some ⟨g, 0, none⟩ ∧ base ≤ g ∧ n ≤ c ∧ ∃ cells, w.heap[g]? = some (.cells cells e (0, 0)) ∧ cells.size = c * sz := by
  rcases h with ⟨_, _, h⟩ | ⟨h1, h2, h3, h4, h5⟩
  · omega
  · exact ⟨h1, h2, h3, h5⟩
theorem cell (h : Blk w base e sz A c g n) {i j : Nat} (hi : i < n) (hj : j < sz) : (∃ u, w.cell? ⟨g, i * sz + j, none⟩ = some u) ∧ w.frozen? ⟨g, i * sz + j, none⟩ = false := by
  obtain ⟨_, _, hnc, cs, hc, hs⟩ := h.addr (by omega)
  have hlt : i * sz + j < cs.size := by
    rw [hs]
    have h1 : (i + 1) * sz ≤ c * sz := Nat.mul_le_mul_right _ (by omega)
    rw [Nat.add_mul, Nat.one_mul] at h1
    omega
  exact ⟨⟨cs[i * sz + j], by rw [cellH hc, Array.getElem?_eq_getElem hlt]⟩, by simp [World.frozen?, hc]⟩
theorem of_R {α : Type} {d : Kd α} {xs : List α} (h : d.R e w base (fun _ => True) (.slice A n c) xs) : ∃ g, Blk w base e d.sz A c g n := by
  have hn := (Kd.R_reads' h).1
  obtain ⟨_, inner, hown, _⟩ := h
  rcases hown.2 with ⟨e1, h0⟩ | ⟨g, cap, cur, e1, hbg, hg, hnc, hcm, hcs, _⟩
  · injection e1 with e1 e2 e3
    exact ⟨0, .inl ⟨e1, e3, e2⟩⟩
  · injection e1 with e1 e2 e3
    subst e1 e3
    exact ⟨g, .inr ⟨rfl, hbg, by omega, hcm, cur, hg, hcs⟩⟩
end Blk
theorem own_lit1 (W : World) (x : Value) (B : Nat) (hB : B ≤ W.heap.size) (e : TypeId) : (W.alloc (.cells #[x] e)).ownsRow B e 1 (.slice (some ⟨W.heap.size, 0, none⟩) 1 1) 1 [x] := ⟨rfl, .inr ⟨W.heap.size, 1, #[x], rfl, hB, World.alloc_heap_new W _, Nat.le_refl _, by decide, rfl, rfl⟩⟩
/-- elements behind a row of one's own, the new row thrown away -/
theorem appDrop {ops : Array Oper} {Q : Exit → Act → World → Prop} {o : Oper} {rest : List Oper} {a : Act} {W : World} {base : Nat} {v : Value} {t e : TypeId} {z : Value} {sz bytes n m : Nat} {inner : List Value} (hgd : o.guard = none) (s x : Operand)
    (ho : o.op = .call { callee := .builtin .append, args := #[s, x], argTypes := #[t, t] }) (ht : Tryd.prog.underlying t = some (.slice e)) (hinfo : (Tryd.prog.info? e).map (fun i => (i.zero, i.size, i.bytes)) = some (some z, sz, bytes)) (hz : z.cells.size = sz) (hs0 : 0 < sz)
    (hs : a.eval s = v) (news : List Value) (hx : a.eval x = .slice (some ⟨W.heap.size, 0, none⟩) m m) (hl : news.length = m * sz) (h1 : ∀ u ∈ news, u.oneCell' = true) (hown : W.ownsRow base e sz v n inner) (hbase : base ≤ W.heap.size) (h63 : n + m ≤ maxLen) (hby : (n + m) * bytes ≤ 140737488355328)
    (h : ∀ v1 w1, W.grownBy w1 v.ownBlock → wpList Tryd.prog ops Q rest (a.put o.dst v1) w1) : wpList Tryd.prog ops Q (o :: rest) a (W.alloc (.cells news.toArray e)) := by
  refine wpList_plain hgd fun _ hK => ?_
  obtain ⟨i0, hi, hz0, hz1, hz2⟩ := info_parts hinfo
  have hnew : ∀ j u, news[j]? = some u → (W.alloc (.cells news.toArray e)).cell? ((⟨W.heap.size, 0, none⟩ : Addr).add j) = some u := by
    intro j u hj
    rw [add_plain]
    have hh := World.alloc_heap_new W (.cells news.toArray e)
    simp only [World.cell?, hh]
    simpa using hj
  obtain ⟨v1, w1, hr, h2, h3, h4⟩ := run_append_own (P := Tryd.prog) (W.alloc (.cells news.toArray e)) base t o.type e i0 z sz bytes ht hi hz0 hz1 hz2 hz hs0 v n inner (hown.alloc _) ⟨W.heap.size, 0, none⟩ m m news hl hnew h1 h63 hby (by rw [World.size_alloc]; omega)
  have hga := World.grownBy_alloc W (.cells news.toArray e) v.ownBlock
  unfold Oper.wp execOp
  simp only [ho, resolve, invoke, builtin, Sem.run_bind, Sem.run_pure, Result.andThen_ok, List.map_toArray, List.map_cons, List.map_nil, hs, hx, hr]
  exact hK _ _ (h v1 w1 (Ap.grown_trans hga h3))
/-- what the law's apart keeps: w: its start; top: where the cartridge's blocks end -/
structure Aw (w wr : World) (base top : Nat) (S0 S2 S3 : Value) (ent : Int) (n3 : Nat) (code : List Int) (V : Nat → Value) (D : Nat → List Int) : Prop where
  F : Fr w wr (fun k => base ≤ k ∧ k < top)
  tw : top ≤ w.heap.size
  bx : wr.heap[w.heap.size]? = some (.cells #[S0, .int .u16 ent, S2, S3] 28 (0, 0))
  r0 : RB1 wr base S0 code
  rows : ∀ k, k < n3 → RB1 wr base (V k) (D k)
  top0 : ∀ q, S0.ownBlock = some q → q < top
  tops : ∀ k q, k < n3 → (V k).ownBlock = some q → q < top
namespace Aw
variable {w wr w1 : World} {base top n3 : Nat} {S0 S2 S3 : Value} {ent : Int} {code : List Int} {V : Nat → Value} {D : Nat → List Int}
theorem below (h : Aw w wr base top S0 S2 S3 ent n3 code V D) (hb : Below wr.heap.size wr w1) : Aw w w1 base top S0 S2 S3 ent n3 code V D :=
  ⟨h.F.trans (Fr.of_below hb (fun _ => False)) (fun _ _ e => e.elim), h.tw, (hb.block _ (heap_lt h.bx)).trans h.bx, Kd.R_below h.r0 hb, fun k hk => Kd.R_below (h.rows k hk) hb, h.top0, h.tops⟩
/-- blocks above the start may turn, but for the box -/
theorem above (h : Aw w wr base top S0 S2 S3 ent n3 code V D) (hb : Below (w.heap.size + 1) wr w1) : Aw w w1 base top S0 S2 S3 ent n3 code V D := by
  have htw := h.tw
  have hF : Fr wr w1 (fun k => w.heap.size + 1 ≤ k) := ⟨hb.os, hb.tape, hb.output, hb.size, fun k hk hn => hb.block k (by omega)⟩
  have row : ∀ {v : Value} {xs : List Int}, (∀ q, v.ownBlock = some q → q < top) → RB1 wr base v xs → RB1 w1 base v xs := fun ht hr =>
    Kd.R_mono (hF.row (Kd.R_mono (Kd.R_tight rfl hr) (ok' := fun k => k < top) (fun k hk => ht k hk.symm)) (fun k hk _ e => by omega)) (fun _ _ => trivial)
  exact ⟨h.F.trans hF (fun k hk e => by omega), htw, (hb.block _ (by omega)).trans h.bx, row h.top0 h.r0, fun k hk => row (fun q => h.tops k q hk) (h.rows k hk), h.top0, h.tops⟩
/-- a block of the cartridge's, not of bytes, is written -/
theorem put (h : Aw w wr base top S0 S2 S3 ent n3 code V D) {g e : Nat} {cs : Array Value} (hc : wr.heap[g]? = some (.cells cs e (0, 0))) (he : e ≠ 5) (hg : base ≤ g ∧ g < top) (j : Nat) (u : Value) : Aw w (wr.setCell ⟨g, j, none⟩ u) base top S0 S2 S3 ent n3 code V D := by
  have hF : Fr wr (wr.setCell ⟨g, j, none⟩ u) (fun k => base ≤ k ∧ k < top) := (Fr.refl wr _).setCell (p := ⟨g, j, none⟩) (fun _ => hg) u
  have htw := h.tw
  have hset : ∀ {v : Value} {xs : List Int}, RB1 wr base v xs → RB1 (wr.setCell ⟨g, j, none⟩ u) base v xs := fun hr => Kd.R_set hr hc (by intro q hq; simp [Kd.int, Kd.scalar] at hq; rw [hq]; exact fun e' => he e'.symm) _ _
  exact ⟨h.F.trans hF (fun _ _ e => e), htw, hF.heap h.bx (fun hs => by omega), hset h.r0, fun k hk => hset (h.rows k hk), h.top0, h.tops⟩
/-- a row of effects or of banks was appended to -/
theorem grown (h : Aw w wr base top S0 S2 S3 ent n3 code V D) {v : Value} {e : Nat} (hg : wr.grownBy w1 v.ownBlock) (hv : ∀ q, v.ownBlock = some q → base ≤ q ∧ q < top ∧ ∃ cs, wr.heap[q]? = some (.cells cs e (0, 0))) (he : e ≠ 5) : Aw w w1 base top S0 S2 S3 ent n3 code V D := by
  have hF : Fr wr w1 (fun k => base ≤ k ∧ k < top) := Fr.of_grown hg (fun k e' _ => ⟨(hv k e').1, (hv k e').2.1⟩)
  have htw := h.tw
  have row : ∀ {v' : Value} {xs : List Int}, RB1 wr base v' xs → RB1 w1 base v' xs := fun hr =>
    Kd.R_mono (Kd.R_grown (Kd.R_tight rfl hr) hg (fun k hk e' => by
      obtain ⟨_, _, cs, hc⟩ := hv k e'.symm
      exact Kd.R_ne hr hc (fun e'' => he e''.symm) hk)) (fun _ _ => trivial)
  exact ⟨h.F.trans hF (fun _ _ e => e), htw, hF.heap h.bx (fun hs => by omega), row h.r0, fun k hk => row (h.rows k hk), h.top0, h.tops⟩
end Aw
theorem Blk.grown {w w1 : World} {base e e' sz c g n : Nat} {A : Option Addr} {v : Value} (h : Blk w base e sz A c g n) (hg : w.grownBy w1 v.ownBlock) (hv : ∀ q, v.ownBlock = some q → ∃ cs, w.heap[q]? = some (.cells cs e' (0, 0))) (he : e ≠ e') : Blk w1 base e sz A c g n := h.move (fun cs hc => ⟨cs, (hg.block g (heap_lt hc) (fun e1 => by
  obtain ⟨cs', hc'⟩ := hv g e1.symm
  rw [hc] at hc'
  injection hc' with hc'
  injection hc' with _ h2
  exact he h2)).trans hc, rfl⟩)
theorem Blk.info {w : World} {base e sz c g n : Nat} {A : Option Addr} (h : Blk w base e sz A c g n) {top : Nat} (ht : ∀ q, (Value.slice A n c).ownBlock = some q → q < top) : ∀ q, (Value.slice A n c).ownBlock = some q → base ≤ q ∧ q < top ∧ ∃ cs, w.heap[q]? = some (.cells cs e (0, 0)) := fun q hq => by
  have h1 := ht q hq
  rcases h with ⟨rfl, _, _⟩ | ⟨rfl, h2, h3, h4, cs, hc, h5⟩
  · simp [Value.ownBlock] at hq
  · simp only [Value.ownBlock, Option.some.injEq] at hq
    subst hq
    exact ⟨h2, h1, cs, hc⟩
theorem RL_fr {w0 w1 : World} {B base top : Nat} {v : Value} {D : List (Option Addr × Nat × Nat)} (h : Ap.RL w0 B v D) (hF : Fr w0 w1 (fun k => base ≤ k ∧ k < top)) (ht : top ≤ B) : Ap.RL w1 B v D :=
  Kd.R_mono (hF.row (Kd.R_mono (Kd.R_bound h) (ok' := fun k => B ≤ k) (fun k hk => hk.2.1)) (fun k hk _ e => by omega)) (fun _ _ => trivial)
def dv : Value → Option Addr × Nat × Nat
  | .slice a n c => (a, n, c)
  | _ => (none, 0, 0)
def Dl (A0 : Option Addr) (n0 c0 : Nat) (V : Nat → Value) (i : Nat) : List (Option Addr × Nat × Nat) := (A0, n0, c0) :: (List.range i).map (fun k => dv (V k))
theorem Dl_snoc (A0 : Option Addr) (n0 c0 : Nat) (V : Nat → Value) (i : Nat) : Dl A0 n0 c0 V (i + 1) = Dl A0 n0 c0 V i ++ [dv (V i)] := by simp [Dl, List.range_succ]
theorem Dl_len (A0 : Option Addr) (n0 c0 : Nat) (V : Nat → Value) (i : Nat) : (Dl A0 n0 c0 V i).length = i + 1 := by simp [Dl]
/-- the lists, the code's ahead -/
def Vs (S0 : Value) (V : Nat → Value) : Nat → Value
  | 0 => S0
  | k + 1 => V k
def Xs (code : List Int) (D : Nat → List Int) : Nat → List Int
  | 0 => code
  | k + 1 => D k
theorem Blk.upto {w w1 : World} {base e sz c g n B : Nat} {A : Option Addr} (h : Blk w base e sz A c g n) (ht : ∀ q, (Value.slice A n c).ownBlock = some q → q < B) (hb : Below B w w1) : Blk w1 base e sz A c g n := by
  rcases h with h | ⟨h1, h2, h3, h4, cs, hc, h5⟩
  · exact .inl h
  · exact .inr ⟨h1, h2, h3, h4, cs, (hb.block g (ht g (by rw [h1]; rfl))).trans hc, h5⟩
/-- the state of the law's writing over -/
structure Ax (w wL wr : World) (base top : Nat) (S0 : Value) (A2 : Option Addr) (n2 c2 g2 : Nat) (A3 : Option Addr) (n3 c3 g3 : Nat) (ent : Int) (code : List Int) (V : Nat → Value) (D : Nat → List Int) : Prop where
  aw : Aw w wr base top S0 (.slice A2 n2 c2) (.slice A3 n3 c3) ent n3 code V D
  b2 : Blk wr base 80 3 A2 c2 g2 n2
  b3 : Blk wr base 82 2 A3 c3 g3 n3
  F : Fr wL wr (fun k => base ≤ k ∧ k < top)
  t2 : ∀ q, (Value.slice A2 n2 c2).ownBlock = some q → q < top
  t3 : ∀ q, (Value.slice A3 n3 c3).ownBlock = some q → q < top
namespace Ax
variable {w wL wr w1 : World} {base top n2 c2 g2 n3 c3 g3 : Nat} {S0 : Value} {A2 A3 : Option Addr} {ent : Int} {code : List Int} {V : Nat → Value} {D : Nat → List Int}
theorem put (h : Ax w wL wr base top S0 A2 n2 c2 g2 A3 n3 c3 g3 ent code V D) {g e : Nat} {cs : Array Value} (hc : wr.heap[g]? = some (.cells cs e (0, 0))) (he : e ≠ 5) (hg : base ≤ g ∧ g < top) (j : Nat) (u : Value) : Ax w wL (wr.setCell ⟨g, j, none⟩ u) base top S0 A2 n2 c2 g2 A3 n3 c3 g3 ent code V D :=
  ⟨h.aw.put hc he hg j u, h.b2.set _ _, h.b3.set _ _, h.F.trans ((Fr.refl wr _).setCell (p := ⟨g, j, none⟩) (fun _ => hg) u) (fun _ _ e => e), h.t2, h.t3⟩
theorem below (h : Ax w wL wr base top S0 A2 n2 c2 g2 A3 n3 c3 g3 ent code V D) (hb : Below wr.heap.size wr w1) : Ax w wL w1 base top S0 A2 n2 c2 g2 A3 n3 c3 g3 ent code V D :=
  ⟨h.aw.below hb, h.b2.below hb, h.b3.below hb, h.F.trans (Fr.of_below hb (fun _ => False)) (fun _ _ e => e.elim), h.t2, h.t3⟩
/-- an effect is written over -/
theorem eff (h : Ax w wL wr base top S0 A2 n2 c2 g2 A3 n3 c3 g3 ent code V D) (h0 : 0 < n2) (o : Nat) (x0 x1 x2 : Value) : Ax w wL (((wr.setCell ⟨g2, o, none⟩ x0).setCell ⟨g2, o + 1, none⟩ x1).setCell ⟨g2, o + 2, none⟩ x2) base top S0 A2 n2 c2 g2 A3 n3 c3 g3 ent code V D := by
  obtain ⟨e, hb, _, cs, hc, _⟩ := h.b2.addr h0
  have hg : base ≤ g2 ∧ g2 < top := ⟨hb, h.t2 g2 (by rw [e]; rfl)⟩
  have h1 := h.put hc (by decide) hg o x0
  obtain ⟨cs1, hc1, _⟩ := set_any (p := ⟨g2, o, none⟩) (u := x0) hc
  have h2 := h1.put hc1 (by decide) hg (o + 1) x1
  obtain ⟨cs2, hc2, _⟩ := set_any (p := ⟨g2, o + 1, none⟩) (u := x1) hc1
  exact h2.put hc2 (by decide) hg (o + 2) x2
theorem bnk (h : Ax w wL wr base top S0 A2 n2 c2 g2 A3 n3 c3 g3 ent code V D) (h0 : 0 < n3) (o : Nat) (x0 : Value) : Ax w wL (wr.setCell ⟨g3, o, none⟩ x0) base top S0 A2 n2 c2 g2 A3 n3 c3 g3 ent code V D := by
  obtain ⟨e, hb, _, cs, hc, _⟩ := h.b3.addr h0
  exact h.put hc (by decide) ⟨hb, h.t3 g3 (by rw [e]; rfl)⟩ o x0
theorem app2x (h : Ax w wL wr base top S0 A2 n2 c2 g2 A3 n3 c3 g3 ent code V D) (hg : wr.grownBy w1 (Value.slice A2 n2 c2).ownBlock) : Aw w w1 base top S0 (.slice A2 n2 c2) (.slice A3 n3 c3) ent n3 code V D ∧ Blk w1 base 82 2 A3 c3 g3 n3 ∧ Fr wL w1 (fun k => base ≤ k ∧ k < top) :=
  ⟨h.aw.grown hg (h.b2.info h.t2) (by decide), h.b3.grown hg (fun q hq => (h.b2.info h.t2 q hq).2.2) (by decide), h.F.trans (Fr.of_grown hg (fun k e _ => ⟨(h.b2.info h.t2 k e).1, (h.b2.info h.t2 k e).2.1⟩)) (fun _ _ e => e)⟩
end Ax
theorem Aw.rowsAll {w wr : World} {base top n3 : Nat} {S0 S2 S3 : Value} {ent : Int} {code : List Int} {V : Nat → Value} {D : Nat → List Int} (h : Aw w wr base top S0 S2 S3 ent n3 code V D) (ha : ∀ k l q, k < n3 → l < n3 → k ≠ l → (V k).ownBlock = some q → (V l).ownBlock ≠ some q) (ha0 : ∀ k q, k < n3 → (V k).ownBlock = some q → S0.ownBlock ≠ some q) :
    Ap.Rows wr base (n3 + 1) (Vs S0 V) (fun j => (Xs code D j).length) (Xs code D) := by
  refine ⟨fun j hj => ?_, fun j hj => rfl, fun i j hi hj hne q hq e => ?_⟩
  · match j with
    | 0 => exact h.r0
    | k + 1 => exact h.rows k (by omega)
  · match i, j with
    | 0, 0 => exact hne rfl
    | 0, l + 1 => exact ha0 l q (by omega) e hq
    | k + 1, 0 => exact ha0 k q (by omega) hq e
    | k + 1, l + 1 => exact ha k l q (by omega) (by omega) (fun e' => hne (by rw [e'])) hq e
theorem RL_cells {w : World} {B gl cl n0 c0 n3 : Nat} {A0 : Option Addr} {V : Nat → Value} (h : Ap.RL w B (.slice (some ⟨gl, 0, none⟩) (n3 + 1) cl) (Dl A0 n0 c0 V n3)) (hV : ∀ k, k < n3 → ∃ A n c, V k = .slice A n c) : ∀ j, j < n3 + 1 → w.cell? ⟨gl, j, none⟩ = some (Vs (.slice A0 n0 c0) V j) := fun j hj => by
  have hC := (Kd.R_reads' h).2.2
  obtain ⟨a0, cs, e0, _, hK, hx0⟩ := Kd.C_get hC (none, 0, 0) (j : Int) (by omega) (by rw [Dl_len]; omega)
  injection e0 with e0
  subst e0
  have hx := hx0 0
  rw [Int.toNat_natCast] at hK hx
  have hcs : cs = [Value.slice ((Dl A0 n0 c0 V n3).getD j (none, 0, 0)).1 ((Dl A0 n0 c0 V n3).getD j (none, 0, 0)).2.1 ((Dl A0 n0 c0 V n3).getD j (none, 0, 0)).2.2] := hK
  have h1 := hx _ (by rw [hcs]; rfl)
  rw [show Ap.dsc.sz = 1 from rfl, Nat.mul_one, Nat.add_zero, add_plain] at h1
  rw [h1]
  match j with
  | 0 => rfl
  | k + 1 =>
    obtain ⟨A, n, c, e⟩ := hV k (by omega)
    have : (Dl A0 n0 c0 V n3).getD (k + 1) (none, 0, 0) = dv (V k) := by
      simp [Dl, List.getD_eq_getElem?_getD, show k < n3 by omega]
    rw [this, e]
    show some (Value.slice A n c) = some (V k)
    rw [e]
end Go.Proofs.YtembdahclmffjaaDoor.Pk
