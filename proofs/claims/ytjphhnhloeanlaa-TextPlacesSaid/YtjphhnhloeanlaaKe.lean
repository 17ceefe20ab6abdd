/- The law's shelf: (*shelf).keep. -/
import Derived.Test.YtjphhnhloeanlaaPl
import Derived.WalkSpells
import Derived.Lib.SliceRun
import Derived.Outline
namespace Go.Proofs.Ytjphhnhloeanlaa.Gp
open Go.RowKit Go.Proofs.YtjphhnhloeanlaaW.PrintWords Go.Proofs.YtjphhnhloeanlaaW.PrintLast Go.Proofs.YtjphhnhloeanlaaW.PrintMore Go.Proofs.Ytjphhnhloeanlaa.Mem
set_option linter.unusedVariables false
set_option linter.unusedSimpArgs false
/-- a block of two cells -/
def Box2 (W : World) (g : Nat) (t : TypeId) (a b : Value) : Prop := W.heap[g]? = some (.cells #[a, b] t (0, 0))
namespace Box2
variable {W W' : World} {g : Nat} {t : TypeId} {a b : Value}
theorem lt (h : Box2 W g t a b) : g < W.heap.size := (Array.getElem?_eq_some_iff.1 h).1
theorem cell0 (h : Box2 W g t a b) : W.cell? ⟨g, 0, none⟩ = some a := by simp [World.cell?, show W.heap[g]? = _ from h]
theorem cell1 (h : Box2 W g t a b) : W.cell? ⟨g, 1, none⟩ = some b := by simp [World.cell?, show W.heap[g]? = _ from h]
theorem frozen (h : Box2 W g t a b) (o : Nat) : W.frozen? ⟨g, o, none⟩ = false := by simp [World.frozen?, show W.heap[g]? = _ from h]
theorem set0 (h : Box2 W g t a b) (v : Value) : Box2 (W.setCell ⟨g, 0, none⟩ v) g t v b := by
  obtain ⟨hlt, hk⟩ := Array.getElem?_eq_some_iff.1 h
  show (W.heap.modify g _)[g]? = _
  rw [Array.getElem?_eq_getElem (by rw [Array.size_modify]; exact hlt), Array.getElem_modify_self, hk]
  rfl
theorem set1 (h : Box2 W g t a b) (v : Value) : Box2 (W.setCell ⟨g, 1, none⟩ v) g t a v := by
  obtain ⟨hlt, hk⟩ := Array.getElem?_eq_some_iff.1 h
  show (W.heap.modify g _)[g]? = _
  rw [Array.getElem?_eq_getElem (by rw [Array.size_modify]; exact hlt), Array.getElem_modify_self, hk]
  rfl
theorem fr {S : Nat → Prop} (h : Box2 W g t a b) (hf : Fr W W' S) (hs : ¬ S g) : Box2 W' g t a b := hf.heap h hs
end Box2
theorem fr_grown {W W' : World} {r : Option Nat} (h : W.grownBy W' r) : Fr W W' (fun k => some k = r) := ⟨h.os, h.tape, h.output, h.size, fun k hk hn => h.block k hk hn⟩
theorem R_frm {α : Type} {d : Kd α} {e base : Nat} {ok : Nat → Prop} {v : Value} {xs : List α} {W W' : World} {S : Nat → Prop} (hE : d.E = []) (h : d.R e W base ok v xs) (hF : Fr W W' S) (hS : ∀ k, v.ownBlock = some k → ¬ S k) : d.R e W' base ok v xs :=
  Kd.R_mono (hF.row (Kd.R_tight2 hE h) (fun k hk _ => hS k hk.1.symm)) (fun k hk => hk.2)
abbrev Ds := Option Addr × Nat × Nat
def sl (p : Ds) : Value := .slice p.1 p.2.1 p.2.2
/-- a list that was kept: the list, and what it held (a copy) -/
structure It where
  h : Ds
  y : Ds
  xs : List P.S25
/-- the shelf: block kb holds the rows u (lists) and v (copies) -/
structure Kp (W : World) (kb base lo : Nat) (u v : Value) (J : List It) : Prop where
  bx : Box2 W kb 70 u v
  kl : kb < base
  ru : Kd.R dsc 57 W base (fun k => some k ≠ v.ownBlock) u (J.map It.h)
  rv : Kd.R dsc 57 W base (fun k => some k ≠ u.ownBlock) v (J.map It.y)
  ul : ∀ k, u.ownBlock = some k → lo ≤ k
  vl : ∀ k, v.ownBlock = some k → lo ≤ k
  rh : ∀ it ∈ J, Kd.R P.k25 25 W base (fun _ => True) (sl it.h) it.xs
  ry : ∀ it ∈ J, Kd.R P.k25 25 W base (fun _ => True) (sl it.y) it.xs
  ap : ∀ it ∈ J, ∀ k, ((sl it.h).ownBlock = some k ∨ (sl it.y).ownBlock = some k) → some k ≠ u.ownBlock ∧ some k ≠ v.ownBlock
  pw : J.Pairwise (fun a b => ∀ k, (sl a.h).ownBlock = some k → (sl b.h).ownBlock ≠ some k)
namespace Kp
variable {W W' : World} {kb base lo : Nat} {u v : Value} {J : List It}
theorem fr {S : Nat → Prop} (h : Kp W kb base lo u v J) (hF : Fr W W' S) (hS : ∀ k, S k → k < kb) : Kp W' kb base lo u v J :=
  ⟨h.bx.fr hF (fun hs => by have := hS _ hs; omega), h.kl,
    R_frm rfl h.ru hF (fun k hk hs => by have := hS _ hs; have := Kd.R_base h.ru k hk; have := h.kl; omega),
    R_frm rfl h.rv hF (fun k hk hs => by have := hS _ hs; have := Kd.R_base h.rv k hk; have := h.kl; omega), h.ul, h.vl,
    fun it hit => R_frm flat.E (h.rh it hit) hF (fun k hk hs => by have := hS _ hs; have := Kd.R_base (h.rh it hit) k hk; have := h.kl; omega),
    fun it hit => R_frm flat.E (h.ry it hit) hF (fun k hk hs => by have := hS _ hs; have := Kd.R_base (h.ry it hit) k hk; have := h.kl; omega), h.ap, h.pw⟩
theorem below (h : Kp W kb base lo u v J) (hb : Below W.heap.size W W') : Kp W' kb base lo u v J := h.fr (Fr.of_below hb (fun _ => False)) (fun _ e => e.elim)
theorem kbu (h : Kp W kb base lo u v J) : some kb ≠ u.ownBlock := fun e => by have := Kd.R_base h.ru kb e.symm; have := h.kl; omega
theorem kbv (h : Kp W kb base lo u v J) : some kb ≠ v.ownBlock := fun e => by have := Kd.R_base h.rv kb e.symm; have := h.kl; omega
/-- the row of lists has grown, and is laid in the shelf -/
theorem stepU {w1 : World} {u1 : Value} {x : Ds} {xs : List P.S25} (h : Kp W kb base lo u v J) (hR : Kd.R dsc 57 w1 base (fun k => some k ≠ v.ownBlock) u1 (J.map It.h ++ [x])) (hg : W.grownBy w1 u.ownBlock) (hat : u1.ownBlock = u.ownBlock ∨ ∃ b, u1.ownBlock = some b ∧ W.heap.size ≤ b) (hlo : lo ≤ W.heap.size)
    (hx : Kd.R P.k25 25 W base (fun _ => True) (sl x) xs) (hap : ∀ k, (sl x).ownBlock = some k → some k ≠ u.ownBlock ∧ some k ≠ v.ownBlock) :
    Box2 w1 kb 70 u v ∧ Kd.R dsc 57 (w1.setCell ⟨kb, 0, none⟩ u1) base (fun k => some k ≠ v.ownBlock) u1 (J.map It.h ++ [x]) ∧ Kd.R dsc 57 (w1.setCell ⟨kb, 0, none⟩ u1) base (fun k => some k ≠ u1.ownBlock) v (J.map It.y) ∧
    Fr W (w1.setCell ⟨kb, 0, none⟩ u1) (fun k => k = kb ∨ some k = u.ownBlock ∨ some k = v.ownBlock) ∧ (∀ k, k < W.heap.size → some k = u1.ownBlock → some k = u.ownBlock) ∧ (∀ k, u1.ownBlock = some k → lo ≤ k) := by
  have hF := fr_grown hg
  have hb1 := h.bx.fr hF h.kbu
  have hkl := h.kl
  have hF2 : Fr W (w1.setCell ⟨kb, 0, none⟩ u1) (fun k => k = kb ∨ some k = u.ownBlock ∨ some k = v.ownBlock) := (hF.mono (fun k _ hk => .inr (.inl hk))).setCell (p := ⟨kb, 0, none⟩) (fun _ => .inl rfl) u1
  have hn : ∀ k, k < W.heap.size → some k = u1.ownBlock → some k = u.ownBlock := fun k hk e => by
    rcases hat with e1 | ⟨b, e1, hb⟩
    · rw [e, e1]
    · rw [e1] at e; cases e; omega
  refine ⟨hb1, ?_, ?_, hF2, hn, fun k hk => ?_⟩
  · exact Kd.R_far (p := ⟨kb, 0, none⟩) (Kd.R_mono (Kd.R_tight2 rfl hR) (fun k hk => hk)) (fun k hk e => by have := Kd.R_base hR k hk.1.symm; simp at e; omega) u1 |> fun r => Kd.R_mono r (fun k hk => hk.2)
  · have h1 := Kd.R_tight2 rfl h.rv
    have h2 := hF.row h1 (fun k hk _ => hk.2)
    refine Kd.R_mono (Kd.R_far (p := ⟨kb, 0, none⟩) h2 (fun k hk e => by have := Kd.R_base h.rv k hk.1.symm; simp at e; omega) u1) (fun k hk e => ?_)
    have := Kd.R_lt h.rv k hk.1.symm
    exact hk.2 (hn k this e)
  · rcases hat with e1 | ⟨b, e1, hb⟩
    · exact h.ul k (by rw [← e1]; exact hk)
    · rw [e1] at hk; cases hk; omega
end Kp
theorem R_made25 (w : World) : Kd.R P.k25 25 (w.alloc (.cells #[] 25)) w.heap.size (fun _ => True) (.slice (some ⟨w.heap.size, 0, none⟩) 0 0) ([] : List P.S25) :=
  ⟨fun _ _ => trivial, [], by have h2 := World.ownsRow_made w #[] (e := 25) (size := 2) 0 (Nat.le_refl _) (Nat.zero_le _) rfl; show World.ownsRow _ _ 25 2 _ 0 []; simpa using h2, Reps.none _ _⟩
theorem infoP : (Try.prog.info? 25).map (fun i => (i.zero, i.size, i.bytes)) = some (some (.agg #[(.int .i64 0), (.int .i64 0)]), P.k25.sz, 16) := P.info25
/-- the row of copies has grown, and is laid in the shelf: the shelf holds one more -/
theorem Kp.stepV {w W W2 z z1 : World} {kb base lo : Nat} {u v u1 v1 : Value} {J : List It} {x y : Ds} {xs : List P.S25} (h : Kp w kb base lo u v J)
    (hx : Kd.R P.k25 25 w base (fun _ => True) (sl x) xs) (hap : ∀ k, (sl x).ownBlock = some k → some k ≠ u.ownBlock ∧ some k ≠ v.ownBlock) (hlo : lo ≤ w.heap.size) (hpw : ∀ it ∈ J, ∀ k, (sl it.h).ownBlock = some k → (sl x).ownBlock ≠ some k)
    (hbx : Box2 z kb 70 u1 v)
    (hu : Kd.R dsc 57 z base (fun k => some k ≠ v.ownBlock) u1 (J.map It.h ++ [x]))
    (hF : Fr w z (fun k => k = kb ∨ some k = u.ownBlock ∨ some k = v.ownBlock)) (hun : ∀ k, k < w.heap.size → some k = u1.ownBlock → some k = u.ownBlock) (hul : ∀ k, u1.ownBlock = some k → lo ≤ k)
    (hy : Kd.R P.k25 25 z base (fun _ => True) (sl y) xs) (hy2 : ∀ k, (sl y).ownBlock = some k → w.heap.size ≤ k ∧ some k ≠ u1.ownBlock)
    (hR : Kd.R dsc 57 z1 base (fun k => some k ≠ u1.ownBlock) v1 (J.map It.y ++ [y])) (hg : z.grownBy z1 v.ownBlock) (hat : v1.ownBlock = v.ownBlock ∨ ∃ b, v1.ownBlock = some b ∧ z.heap.size ≤ b) :
    Kp (z1.setCell ⟨kb, 1, none⟩ v1) kb base lo u1 v1 (J ++ [⟨x, y, xs⟩]) ∧ Fr w (z1.setCell ⟨kb, 1, none⟩ v1) (fun k => k = kb ∨ some k = u.ownBlock ∨ some k = v.ownBlock) ∧ (∀ k, k < w.heap.size → some k = v1.ownBlock → some k = v.ownBlock) ∧ (∀ k, k < w.heap.size → some k = u1.ownBlock → some k = u.ownBlock) := by
  have hFg := fr_grown hg
  have hkl := h.kl
  have hsz := hF.size
  have hn : ∀ k, k < z.heap.size → some k = v1.ownBlock → some k = v.ownBlock := fun k hk e => by
    rcases hat with e1 | ⟨b, e1, hb⟩
    · rw [e, e1]
    · rw [e1] at e; cases e; omega
  have hnw : ∀ k, k < w.heap.size → some k = v1.ownBlock → some k = v.ownBlock := fun k hk e => hn k (by omega) e
  have hF2 : Fr w (z1.setCell ⟨kb, 1, none⟩ v1) (fun k => k = kb ∨ some k = u.ownBlock ∨ some k = v.ownBlock) := (hF.trans hFg (fun k _ hk => .inr (.inr hk))).setCell (p := ⟨kb, 1, none⟩) (fun _ => .inl rfl) v1
  have hvl : ∀ k, v1.ownBlock = some k → lo ≤ k := fun k hk => by
    rcases hat with e1 | ⟨b, e1, hb⟩
    · exact h.vl k (by rw [← e1]; exact hk)
    · rw [e1] at hk; cases hk; omega
  have hold : ∀ it, it ∈ J → ∀ p : Value, Kd.R P.k25 25 w base (fun _ => True) p it.xs → (∀ k, p.ownBlock = some k → some k ≠ u.ownBlock ∧ some k ≠ v.ownBlock) → Kd.R P.k25 25 (z1.setCell ⟨kb, 1, none⟩ v1) base (fun _ => True) p it.xs := fun it _ p hr hp => by
    refine R_frm flat.E hr hF2 (fun k hk hs => ?_)
    have := Kd.R_base hr k hk
    rcases hs with e | e | e
    · omega
    · exact (hp k hk).1 e
    · exact (hp k hk).2 e
  have hx2 : Kd.R P.k25 25 (z1.setCell ⟨kb, 1, none⟩ v1) base (fun _ => True) (sl x) xs := by
    refine R_frm flat.E hx hF2 (fun k hk hs => ?_)
    have := Kd.R_base hx k hk
    rcases hs with e | e | e
    · omega
    · exact (hap k hk).1 e
    · exact (hap k hk).2 e
  have hy3 : Kd.R P.k25 25 (z1.setCell ⟨kb, 1, none⟩ v1) base (fun _ => True) (sl y) xs := by
    have h1 := R_frm flat.E hy hFg (fun k hk hs => by have := (hy2 k hk).1; have := Kd.R_lt h.rv k hs.symm; omega)
    exact R_frm flat.E h1 ((Fr.refl z1 (fun k => k = kb)).setCell (p := ⟨kb, 1, none⟩) (fun _ => rfl) v1) (fun k hk hs => by have := Kd.R_base hy k hk; omega)
  have hu2 : Kd.R dsc 57 (z1.setCell ⟨kb, 1, none⟩ v1) base (fun k => some k ≠ v1.ownBlock) u1 (J.map It.h ++ [x]) := by
    have h1 := hFg.row (Kd.R_tight2 rfl hu) (fun k hk _ => hk.2)
    refine Kd.R_mono (Kd.R_far (p := ⟨kb, 1, none⟩) h1 (fun k hk e => by have := Kd.R_base hu k hk.1.symm; simp at e; omega) v1) (fun k hk e => ?_)
    exact hk.2 (hn k (Kd.R_lt hu k hk.1.symm) e)
  have hv2 : Kd.R dsc 57 (z1.setCell ⟨kb, 1, none⟩ v1) base (fun k => some k ≠ u1.ownBlock) v1 (J.map It.y ++ [y]) :=
    Kd.R_mono (Kd.R_far (p := ⟨kb, 1, none⟩) (Kd.R_tight2 rfl hR) (fun k hk e => by have := Kd.R_base hR k hk.1.symm; simp at e; omega) v1) (fun k hk => hk.2)
  have apx : ∀ k, k < w.heap.size → some k ≠ u.ownBlock → some k ≠ v.ownBlock → some k ≠ u1.ownBlock ∧ some k ≠ v1.ownBlock := fun k hk h1 h2 => ⟨fun e => h1 (hun k hk e), fun e => h2 (hnw k hk e)⟩
  refine ⟨⟨(hbx.fr hFg h.kbv).set1 v1, hkl, by rw [List.map_append]; exact hu2, by rw [List.map_append]; exact hv2, hul, hvl, ?_, ?_, ?_, List.pairwise_append.2 ⟨h.pw, List.pairwise_singleton _ _, fun a ha b hb => by rw [List.mem_singleton.1 hb]; exact hpw a ha⟩⟩, hF2, hnw, hun⟩
  · intro it hit
    rcases List.mem_append.1 hit with hj | hj
    · exact hold it hj _ (h.rh it hj) (fun k hk => h.ap it hj k (.inl hk))
    · rw [List.mem_singleton.1 hj]; exact hx2
  · intro it hit
    rcases List.mem_append.1 hit with hj | hj
    · exact hold it hj _ (h.ry it hj) (fun k hk => h.ap it hj k (.inr hk))
    · rw [List.mem_singleton.1 hj]; exact hy3
  · intro it hit k hk
    rcases List.mem_append.1 hit with hj | hj
    · have hlt : k < w.heap.size := by
        rcases hk with e | e
        · exact Kd.R_lt (h.rh it hj) k e
        · exact Kd.R_lt (h.ry it hj) k e
      have := h.ap it hj k hk
      exact apx k hlt this.1 this.2
    · rw [List.mem_singleton.1 hj] at hk
      rcases hk with e | e
      · have := hap k e
        exact apx k (Kd.R_lt hx k e) this.1 this.2
      · have h2 := hy2 k e
        refine ⟨h2.2, fun e2 => ?_⟩
        have h3 := hn k (Kd.R_lt hy k e) e2
        have := Kd.R_lt h.rv k h3.symm
        omega
set_option maxRecDepth 100000 in
set_option maxHeartbeats 4000000 in
theorem Keep {w : World} {kb base lo : Nat} {u v : Value} {J : List It} {A : Option Addr} {n c : Nat} {xs : List P.S25} (h : Kp w kb base lo u v J) (hx : Kd.R P.k25 25 w base (fun _ => True) (.slice A n c) xs)
    (hap : ∀ k, (Value.slice A n c).ownBlock = some k → some k ≠ u.ownBlock ∧ some k ≠ v.ownBlock) (hlo : lo ≤ w.heap.size) (hpw : ∀ it ∈ J, ∀ k, (sl it.h).ownBlock = some k → (Value.slice A n c).ownBlock ≠ some k) (hbs : base ≤ w.heap.size) (hJ : J.length ≤ 100) (hl : n ≤ 1000000) :
    Calls Try.prog 35 #[.pointer (some ⟨kb, 0, none⟩), .slice A n c] w fun e w' => e = .returned (.tuple #[]) ∧ ∃ u1 v1 y, Kp w' kb base lo u1 v1 (J ++ [⟨(A, n, c), y, xs⟩]) ∧ Fr w w' (fun k => k = kb ∨ some k = u.ownBlock ∨ some k = v.ownBlock) ∧ y.2.1 = n ∧ n ≤ y.2.2 ∧ (∀ k, k < w.heap.size → some k = v1.ownBlock → some k = v.ownBlock) ∧ (∀ k, k < w.heap.size → some k = u1.ownBlock → some k = u.ownBlock) := by
  have hh := Aside0.mk h
  have hxx := Aside0.mk hx
  have haa := Aside0.mk hap
  have hll := Aside0.mk hlo
  have hpp := Aside0.mk hpw
  have hb0 := Aside0.mk hbs
  have hn9 := Aside0.mk hl
  have hlen : Aside0 (((J.map It.h).length + 1) * 24 ≤ 140737488355328) := ⟨by rw [List.length_map]; omega⟩
  have hlen2 : Aside0 (((J.map It.y).length + 1) * 24 ≤ 140737488355328) := ⟨by rw [List.length_map]; omega⟩
  have q0 := h.bx.cell0
  have q1 := h.bx.frozen 0
  have hfv : Aside0 (∀ k, w.heap.size ≤ k → some k ≠ v.ownBlock) := ⟨fun k hk e => by have := Kd.R_lt h.rv k e.symm; omega⟩
  obtain ⟨Ax, cx, exs, hcx, hCx⟩ := Kd.R_reads hx
  injection exs with e1 e2 e3
  subst e1 e2 e3
  have hCC := Aside0.mk hCx
  have hcc := Aside0.mk hcx
  clear h hx hap hlo hpw hbs hJ hl hcx hCx
  obtain ⟨n, hn⟩ : ∃ n, n = xs.length := ⟨_, rfl⟩
  have hnn := Aside0.mk hn
  rw [← hn] at hxx haa hpp hn9 hCC hcc ⊢
  clear hn
  go_enter Try.func35, Try.ntmps35
  go_upto_region 1 with (at_builtin; go_loud (refine Kd.R_append dsc (w0 := w) base rfl _ _ 68 57 (.slice none 0 0) 24 rfl Try.underlying68 infoL rfl (by decide) (by decide) u (J.map It.h) (A, n, c) [.slice A n c] (fun k => some k ≠ v.ownBlock) (fun _ => False) rfl rfl rfl (fun k hk => hk.elim) hfv.out hh.out.ru (Below.refl _ _) hb0.out hlen.out ?_; intro u1 w1 hR1 hb1 hg1 hat1; obtain ⟨O1, k1, hO1⟩ := Kd.R_slice hR1; generalize (J.map It.h ++ [(A, n, c)]).length = m1 at hO1; have hU := Aside0.mk (hh.out.stepU hR1 hg1 hat1 hll.out hxx.out haa.out); subst hO1; clear hR1 hb1 hg1 hat1; have q2 := hU.out.1.cell0; have q3 := hU.out.1.frozen 0))
  obtain ⟨y0, hy0⟩ : ∃ y0, y0 = w1.setCell ⟨kb, 0, none⟩ (.slice O1 m1 k1) := ⟨_, rfl⟩
  rw [← hy0]
  have hbx0 := Aside0.mk (show Box2 y0 kb 70 (.slice O1 m1 k1) v by rw [hy0]; exact hU.out.1.set0 _)
  have hru0 := Aside0.mk (show Kd.R dsc 57 y0 base (fun k => some k ≠ v.ownBlock) (.slice O1 m1 k1) (J.map It.h ++ [(A, n, c)]) by rw [hy0]; exact hU.out.2.1)
  have hrv0 := Aside0.mk (show Kd.R dsc 57 y0 base (fun k => some k ≠ (Value.slice O1 m1 k1).ownBlock) v (J.map It.y) by rw [hy0]; exact hU.out.2.2.1)
  have hF0 := Aside0.mk (show Fr w y0 (fun k => k = kb ∨ some k = u.ownBlock ∨ some k = v.ownBlock) by rw [hy0]; exact hU.out.2.2.2.1)
  have hun0 := Aside0.mk hU.out.2.2.2.2.1
  have hul0 := Aside0.mk hU.out.2.2.2.2.2
  have hCy0 : Aside0 (Kd.C P.k25 y0 A n xs) := ⟨by
    have h1 := R_frm flat.E hxx.out hF0.out (fun k hk hs => by
      have h2 := Kd.R_base hxx.out k hk
      have h3 := hh.out.kl
      rcases hs with e | e | e
      · omega
      · exact (haa.out k hk).1 e
      · exact (haa.out k hk).2 e)
    have h2 := (Kd.R_reads' h1).2.2
    rw [← hnn.out] at h2
    exact h2⟩
  clear hU q0 q1 q2 q3 hy0
  have hcell := hbx0.out.cell1
  refine start_ (n := 13) (S := (fun w' => w'.cell? ⟨kb, 1, none⟩ = some v)) (ds := [12]) #[false, false, false, false, false, false, false, false, false, false, false, false, false] (by kernel_rfl) rfl rfl hcell (fun hHeld => ?_)
  refine pure_ (i := 0) (N := some 14) (v := ?_) (a' := ?_) #[true, false, false, false, false, false, false, false, false, false, false, false, false] rfl rfl (by kernel_rfl) (fun _ _ _ h => h) (Or.inl ⟨by rfl, ?_⟩) ?_ ?_
  rotate_left
  · intro w'
    go_simp
    with_reducible rfl
  rotate_left
  · simp only [Act.put, List.setIfInBounds_toArray, List.set_cons_zero, List.set_cons_succ, i64_w, i32_w]
    rfl
  refine pure_ (i := 1) (N := some 15) (v := ?_) (a' := ?_) #[true, true, false, false, false, false, false, false, false, false, false, false, false] rfl rfl (by kernel_rfl) (fun _ _ _ h => h) (Or.inl ⟨by rfl, ?_⟩) ?_ ?_
  rotate_left
  · intro w'
    go_simp
    with_reducible rfl
  rotate_left
  · simp only [Act.put, List.setIfInBounds_toArray, List.set_cons_zero, List.set_cons_succ, i64_w, i32_w]
    rfl
  refine pure_ (i := 2) (N := some 16) (v := ?_) (a' := ?_) #[true, true, true, false, false, false, false, false, false, false, false, false, false] rfl rfl (by kernel_rfl) (fun _ _ _ h => h) (Or.inl ⟨by rfl, ?_⟩) ?_ ?_
  rotate_left
  · intro w'
    go_simp
    with_reducible rfl
  rotate_left
  · simp only [Act.put, List.setIfInBounds_toArray, List.set_cons_zero, List.set_cons_succ, i64_w, i32_w]
    rfl
  refine pure_ (i := 3) (N := some 17) (v := ?_) (a' := ?_) #[true, true, true, true, false, false, false, false, false, false, false, false, false] rfl rfl (by kernel_rfl) (fun _ _ _ h => h) (Or.inl ⟨by rfl, ?_⟩) ?_ ?_
  rotate_left
  · intro w'
    go_simp
    with_reducible rfl
  rotate_left
  · simp only [Act.put, List.setIfInBounds_toArray, List.set_cons_zero, List.set_cons_succ, i64_w, i32_w]
    rfl
  refine take_ (i := 4) (N := some 18) (v := ?_) (a' := ?_) #[true, true, true, true, true, false, false, false, false, false, false, false, false] rfl rfl (by kernel_rfl) (fun _ _ _ h => h) (Or.inl ⟨by rfl, ?_⟩) hHeld ?_ ?_
  rotate_left
  · rintro w' hSw
    go_simp
    with_reducible rfl
  rotate_left
  · simp only [Act.put, List.setIfInBounds_toArray, List.set_cons_zero, List.set_cons_succ, i64_w, i32_w]
    rfl
  refine pure_ (i := 6) (N := some 20) (v := ?_) (a' := ?_) #[true, true, true, true, true, false, true, false, false, false, false, false, false] rfl rfl (by kernel_rfl) (fun _ _ _ h => h) (Or.inl ⟨by rfl, ?_⟩) ?_ ?_
  rotate_left
  · intro w'
    go_simp
    with_reducible rfl
  rotate_left
  · simp only [Act.put, List.setIfInBounds_toArray, List.set_cons_zero, List.set_cons_succ, i64_w, i32_w]
    rfl
  refine one_ (i := 5) (N := some 19) #[true, true, true, true, true, true, true, false, false, false, false, false, false] rfl rfl (by kernel_rfl) (by decide) (fun K hK => ?_)
  refine value_ (v := .slice (some ⟨y0.heap.size, 0, none⟩) 0 0) (w1 := (y0.alloc (.cells #[] 25)).drew) (by rfl) rfl (by go_simp) ?_
  refine hK.out _ _ ((below_drew (below_alloc (Below.refl y0.heap.size y0) (.cells #[] 25))).cell (p := ⟨kb, 1, none⟩) hbx0.out.lt |>.trans hcell) (fun hHeld2 => ?_)
  clear hK
  refine norm_ (a' := ?_) ?_ ?_
  rotate_left
  · show Act.put _ (some 19) _ = _
    simp only [Act.put, List.setIfInBounds_toArray, List.set_cons_zero, List.set_cons_succ, i64_w, i32_w]
    rfl
  refine one_ (i := 7) (N := some 21) #[true, true, true, true, true, true, true, true, false, false, false, false, false] rfl rfl (by kernel_rfl) (by decide) (fun K hK => ?_)
  refine Kd.R_append_rows_step P.k25 (w0 := y0) y0.heap.size (by rfl) (.tmp 19) (.tmp 20) 57 25 (.agg #[(.int .i64 0), (.int .i64 0)]) 16 rfl Try.underlying57 infoP rfl (by decide) (by decide) (.slice (some ⟨y0.heap.size, 0, none⟩) 0 0) [] xs A n c (fun _ => True) (fun _ => False) rfl rfl (Kd.R_below (R_made25 y0) (below_drew (Below.refl _ _))) (Kd.C_below hCy0.out (below_drew (below_alloc (Below.refl _ _) _))) (fun x cs hK => by have := P.k25_open hK; subst this; exact P.k25_mkM _ _ _ x) (fun k hk => hk.elim) (fun _ _ => trivial) (below_drew (below_alloc (Below.refl _ _) _)) (by have := (below_drew (below_alloc (Below.refl y0.heap.size y0) (.cells #[] 25))).size; exact this) (by have := hn9.out; simp; omega) ?_
  intro y2v y2 hR2 hb2 _ _
  rw [List.nil_append] at hR2
  obtain ⟨A2, c2, e2, hc2, _⟩ := Kd.R_reads hR2
  rw [← hnn.out] at e2 hc2
  subst e2
  have hR2a := Aside0.mk hR2
  have hb2a := Aside0.mk hb2
  have hc2a := Aside0.mk hc2
  clear hR2 hb2 hc2
  have hbx2 := Aside0.mk (hbx0.out.fr (Fr.of_below hb2a.out (fun _ => False)) (fun e => e))
  refine hK.out _ _ hbx2.out.cell1 (fun hHeld3 => ?_)
  clear hK
  refine norm_ (a' := ?_) ?_ ?_
  rotate_left
  · show Act.put _ (some 21) _ = _
    simp only [Act.put, List.setIfInBounds_toArray, List.set_cons_zero, List.set_cons_succ, i64_w, i32_w]
    rfl
  refine one_ (i := 8) (N := some 22) #[true, true, true, true, true, true, true, true, true, false, false, false, false] rfl rfl (by kernel_rfl) (by decide) (fun K hK => ?_)
  refine value_ (v := .slice (some ⟨y2.heap.size, 0, none⟩) 1 1) (w1 := y2.alloc (.cells #[.slice A2 n c2] 57)) (by rfl) rfl (by go_simp) ?_
  refine hK.out _ _ ((below_alloc (Below.refl y2.heap.size y2) (.cells #[.slice A2 n c2] 57)).cell (p := ⟨kb, 1, none⟩) hbx2.out.lt |>.trans hbx2.out.cell1) (fun hHeld3 => ?_)
  clear hK
  refine norm_ (a' := ?_) ?_ ?_
  rotate_left
  · show Act.put _ (some 22) _ = _
    simp only [Act.put, List.setIfInBounds_toArray, List.set_cons_zero, List.set_cons_succ, i64_w, i32_w]
    rfl
  refine one_ (i := 9) (N := some 23) #[true, true, true, true, true, true, true, true, true, true, false, false, false] rfl rfl (by kernel_rfl) (by decide) (fun K hK => ?_)
  refine Kd.R_append_step dsc (w0 := y2) base (by rfl) (.tmp 18) (.tmp 22) 68 57 (.slice none 0 0) 24 rfl Try.underlying68 infoL rfl (by decide) (by decide) v (J.map It.y) (A2, n, c2) [.slice A2 n c2] (fun k => some k ≠ (Value.slice O1 m1 k1).ownBlock) (fun _ => False) rfl rfl rfl (fun k hk => hk.elim) (fun k hk e => by have := Kd.R_lt hru0.out k e.symm; have := hb2a.out.size; omega) (Kd.R_below hrv0.out hb2a.out) (Below.refl _ _) (by have := hb0.out; have := hF0.out.size; have := hb2a.out.size; omega) hlen2.out ?_
  intro v1 z1 hR3 hb3 hg3 hat3
  obtain ⟨O3, k3, hO3⟩ := Kd.R_slice hR3
  generalize (J.map It.y ++ [(A2, n, c2)]).length = m3 at hO3
  have hfin := Aside0.mk (hh.out.stepV (x := (A, n, c)) (y := (A2, n, c2)) (z := y2) (z1 := z1) (W := w) (W2 := w) hxx.out haa.out hll.out hpp.out hbx2.out (Kd.R_below hru0.out hb2a.out) (hF0.out.trans (Fr.of_below hb2a.out (fun _ => False)) (fun _ _ e => e.elim)) hun0.out hul0.out (Kd.R_lower hR2a.out (by have := hb0.out; have := hF0.out.size; omega)) (fun k hk => by have h1 := Kd.R_base hR2a.out k hk; have h2 := hF0.out.size; exact ⟨by omega, fun e => by have := Kd.R_lt hru0.out k e.symm; omega⟩) hR3 hg3 hat3)
  have hbx3 := hbx2.out.fr (fr_grown hg3) (hh.out.kbv)
  have qz := hbx3.cell1
  have qf := hbx3.frozen 1
  subst hO3
  clear hR3 hb3 hg3 hat3 hbx3
  refine hK.out _ _ qz (fun hHeld5 => ?_)
  clear hK
  refine norm_ (a' := ?_) ?_ ?_
  rotate_left
  · show Act.put _ (some 23) _ = _
    simp only [Act.put, List.setIfInBounds_toArray, List.set_cons_zero, List.set_cons_succ, i64_w, i32_w]
    rfl
  refine pure_ (i := 10) (N := some 24) (v := ?_) (a' := ?_) #[true, true, true, true, true, true, true, true, true, true, true, false, false] rfl rfl (by kernel_rfl) (fun _ _ _ h => h) (Or.inl ⟨by rfl, ?_⟩) ?_ ?_
  rotate_left
  · intro w'
    go_simp
    with_reducible rfl
  rotate_left
  · simp only [Act.put, List.setIfInBounds_toArray, List.set_cons_zero, List.set_cons_succ, i64_w, i32_w]
    rfl
  refine pure_ (i := 11) (N := some 25) (v := ?_) (a' := ?_) #[true, true, true, true, true, true, true, true, true, true, true, true, false] rfl rfl (by kernel_rfl) (fun _ _ _ h => h) (Or.inl ⟨by rfl, ?_⟩) ?_ ?_
  rotate_left
  · intro w'
    go_simp
    with_reducible rfl
  rotate_left
  · simp only [Act.put, List.setIfInBounds_toArray, List.set_cons_zero, List.set_cons_succ, i64_w, i32_w]
    rfl
  refine last_ (i := 12) (N := none) #[true, true, true, true, true, true, true, true, true, true, true, true, true] rfl rfl (by kernel_rfl) (by decide) (fun K hK => ?_)
  refine skip_ (w1 := z1.setCell ⟨kb, 1, none⟩ (.slice O3 m3 k3)) (by rfl) rfl (by go_simp) ?_
  refine hK.out _ _ ?_
  clear hK
  refine done_ (by kernel_rfl) ?_
  go_wp2
  go_end0
  exact ⟨rfl, _, _, (A2, n, c2), hfin.out.1, hfin.out.2.1, rfl, hc2a.out, hfin.out.2.2.1, hfin.out.2.2.2⟩
/-- what was kept is apart -/
theorem Kp.apart {W : World} {kb base lo : Nat} {u v : Value} {J : List It} (h : Kp W kb base lo u v J) (hp : 0 < J.length) (hJ : J.length ≤ 100) (hb : base ≤ W.heap.size) (hx : ∀ it ∈ J, it.xs.length ≤ 1000000) :
    Calls Try.prog 37 #[.pointer (some ⟨kb, 0, none⟩)] W fun e w' => e = .returned (.bool true) ∧ Fr W w' (fun q => kb ≤ q) := by
  obtain ⟨O, k1, eu, hO1, hO2, _⟩ := Kd.R_form h.ru (by rw [List.length_map]; exact hp)
  obtain ⟨O2, k2, ev, _, _, _⟩ := Kd.R_form h.rv (by rw [List.length_map]; exact hp)
  rw [List.length_map] at eu ev
  let z : It := ⟨(none, 0, 0), (none, 0, 0), []⟩
  have hmem : ∀ j, j < J.length → J.getD j z ∈ J := fun j hj => by
    rw [List.getD_eq_getElem?_getD, List.getElem?_eq_getElem hj]; exact List.getElem_mem hj
  have hR1 := h.ru
  have hR2 := h.rv
  rw [eu] at hR1
  rw [ev] at hR2
  have hc1 : ∀ j, j < J.length → W.cell? ⟨O, j, none⟩ = some (sl (J.getD j z).h) := fun j hj => by
    have h1 := (Kd.R_celln (none, 0, 0) hR1 (j : Int) (by omega) (by omega)).1
    rw [Int.toNat_natCast] at h1
    rw [h1]
    simp [rdOf, List.getD_eq_getElem?_getD, hj, sl]
  have hc2 : ∀ j, j < J.length → W.cell? ⟨O2, j, none⟩ = some (sl (J.getD j z).y) := fun j hj => by
    have h1 := (Kd.R_celln (none, 0, 0) hR2 (j : Int) (by omega) (by omega)).1
    rw [Int.toNat_natCast] at h1
    rw [h1]
    simp [rdOf, List.getD_eq_getElem?_getD, hj, sl]
  refine (Apart (w := W) (base := base) (n := J.length) (O := O) (O2 := O2) (c := k1) (d := k2) (kb := kb) (V := fun j => sl (J.getD j z).h) (L := fun j => (J.getD j z).xs.length) (X := fun j => (J.getD j z).xs) ⟨fun j hj => h.rh _ (hmem j hj), fun j _ => rfl, ?_⟩ hc1 ?_ hO2 hJ (fun j hj => by have := hx _ (hmem j hj); show (J.getD j z).xs.length ≤ 1000000000; omega) hb (by rw [← eu]; exact h.bx.cell0) (by rw [← ev]; exact h.bx.cell1) ?_ ?_).mono ?_
  · intro i j hi hj hij q hq hq2
    rcases Nat.lt_or_gt_of_ne hij with hlt | hlt
    · have := List.pairwise_iff_getElem.1 h.pw i j hi hj hlt q
      simp [List.getD_eq_getElem?_getD, hi, hj] at hq hq2
      exact this hq hq2
    · have := List.pairwise_iff_getElem.1 h.pw j i hj hi hlt q
      simp [List.getD_eq_getElem?_getD, hi, hj] at hq hq2
      exact this hq2 hq
  · intro j hj e
    have := (h.ap _ (hmem j hj) O (.inl e)).1
    rw [eu] at this
    exact this rfl
  · intro j hj e
    have := Kd.R_base (h.rh _ (hmem j hj)) kb e
    have := h.kl
    omega
  · intro j hj
    have h1 := h.ry _ (hmem j hj)
    obtain ⟨e1, l1, C1⟩ := Kd.R_reads' h1
    refine ⟨(J.getD j z).y.1, (J.getD j z).y.2.2, ?_, by omega, C1⟩
    rw [hc2 j hj, sl, e1]
  · rintro e w' ⟨he, hF⟩
    refine ⟨he, hF.mono (fun q hq hs => ?_)⟩
    obtain ⟨j, hj, e⟩ := hs
    have := Kd.R_base (h.rh _ (hmem j hj)) q e
    have := h.kl
    omega
end Go.Proofs.Ytjphhnhloeanlaa.Gp
