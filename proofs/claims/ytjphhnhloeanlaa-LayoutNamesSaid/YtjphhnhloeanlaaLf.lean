/- wisplaw12.fixed: the worked example. -/
import Derived.Test.YtjphhnhloeanlaaLo
namespace Go.Proofs.Ytjphhnhloeanlaa.P
open Go.RowKit Go.Shelf Go.Proofs.YtjphhnhloeanlaaW.PrintWords Go.Proofs.YtjphhnhloeanlaaW.PrintLast Go.Proofs.YtjphhnhloeanlaaW.PrintMore Go.Proofs.Ytjphhnhloeanlaa.Mem
set_option linter.unusedVariables false
set_option linter.unusedSimpArgs false
theorem flat_at {sz : Nat} : ∀ (css : List (List Value)), (∀ cs ∈ css, cs.length = sz) → ∀ (j i : Nat) (cs : List Value), css[j]? = some cs → i < sz → css.flatten[j * sz + i]? = cs[i]?
  | [], _, j, i, cs, h, _ => by simp at h
  | c :: css, hl, 0, i, cs, h, hi => by
    simp at h
    subst h
    rw [List.flatten_cons, Nat.zero_mul, Nat.zero_add, List.getElem?_append_left (by rw [hl c List.mem_cons_self]; exact hi)]
  | c :: css, hl, j + 1, i, cs, h, hi => by
    have hc := hl c List.mem_cons_self
    rw [List.flatten_cons, List.getElem?_append_right (by rw [hc, Nat.add_mul]; omega)]
    rw [show (j + 1) * sz + i - c.length = j * sz + i by rw [hc, Nat.add_mul]; omega]
    exact flat_at css (fun cs h => hl cs (List.mem_cons_of_mem _ h)) j i cs (by simpa using h) hi
/-- rows of cells, in step with what they hold -/
inductive Rws {α : Type} (K : α → List Value → Prop) : List α → List (List Value) → Prop
  | nil : Rws K [] []
  | cons {x cs xs css} : K x cs → Rws K xs css → Rws K (x :: xs) (cs :: css)
theorem Rws.len {α : Type} {K : α → List Value → Prop} {xs : List α} {css : List (List Value)} (h : Rws K xs css) : css.length = xs.length := by
  induction h with
  | nil => rfl
  | cons _ _ ih => simp [ih]
theorem Rws.at {α : Type} {K : α → List Value → Prop} {xs : List α} {css : List (List Value)} (h : Rws K xs css) : ∀ (j : Nat) (p : α), xs[j]? = some p → ∃ cs, css[j]? = some cs ∧ K p cs := by
  induction h with
  | nil => intro j p h; simp at h
  | cons h1 _ ih =>
    intro j p hj
    cases j with
    | zero => simp at hj; subst hj; exact ⟨_, rfl, h1⟩
    | succ j => simpa using ih j p (by simpa using hj)
/-- a block that is known whole -/
theorem C_block {α : Type} {d : Kd α} {W : World} {g : Nat} {cells : List Value} {t : TypeId} {fr : Nat × Nat} {xs : List α} (css : List (List Value)) (hb : W.heap[g]? = some (Obj.cells cells.toArray t fr)) (hc : css.flatten = cells) (hK : Rws (d.K W) xs css) (hn : xs.length ≤ 1000000) : d.C W (some ⟨g, 0, none⟩) xs.length xs := by
  have hsz : ∀ cs ∈ css, cs.length = d.sz := by
    clear hc hb hn
    induction hK with
    | nil => intro cs h; cases h
    | cons h1 _ ih =>
      intro cs h
      rcases List.mem_cons.1 h with rfl | h
      · exact d.K_len h1
      · exact ih cs h
  refine ⟨rfl, by omega, fun _ => ⟨_, rfl, fun j p hj => ?_⟩⟩
  obtain ⟨cs, h1, h2⟩ := hK.at j p hj
  refine ⟨cs, d.K_len h2, h2, fun i u hu => ?_⟩
  have hi : i < d.sz := by rw [← d.K_len h2]; exact (List.getElem?_eq_some_iff.1 hu).1
  have h3 := flat_at css hsz j i cs h1 hi
  rw [hc, hu] at h3
  rw [add_plain]
  simp only [World.cell?, hb]
  simpa using h3
theorem name_call {P : Program} {f : FuncId} {args : Array Value} {w : World} {R : Ending → World → Prop} (Rw : World → Prop) (h : Rw w) (k : ∀ wy, Rw wy → Calls P f args wy R) : Calls P f args w R := k w h
theorem name_wp {P : Program} {c : Code} {Q : Exit → Act → World → Prop} {a : Act} {w : World} (Rw : World → Prop) (h : Rw w) (k : ∀ wy, Rw wy → Code.wp P c Q a wy) : Code.wp P c Q a w := k w h
def nLit (v : Int) : Nd := ⟨2, 0, v, ⟨#[]⟩, [], [], false, ⟨0, 0⟩⟩
def nPrim (o : Int) : Nd := ⟨1, o, 0, ⟨#[]⟩, [], [], false, ⟨0, 0⟩⟩
def nCall (s : ByteArray) : Nd := ⟨3, 0, 0, s, [], [], false, ⟨0, 0⟩⟩
def nIf : Nd := ⟨4, 0, 0, ⟨#[]⟩, [nLit 1], [nLit 2], true, ⟨0, 0⟩⟩
def fBody : List Nd := [nCall ⟨#[118]⟩, nPrim 50, nCall ⟨#[107]⟩, nPrim 50, nIf]
def fDefs : List Df := [⟨2, ⟨#[107]⟩, 5, [], ⟨0, 0⟩⟩, ⟨3, ⟨#[118]⟩, 2, [], ⟨0, 0⟩⟩, ⟨3, ⟨#[98]⟩, 10, [], ⟨0, 0⟩⟩, ⟨1, ⟨#[109, 97, 105, 110]⟩, 0, fBody, ⟨0, 0⟩⟩]
abbrev cNode (k o v : Int) (s : ByteArray) (t e : Value) (h : Bool) : List Value := [.int .i64 k, .int .i64 o, .int .u16 v, .string s, t, e, .bool h, .int .i64 0, .int .i64 0]
abbrev cDef (k : Int) (s : ByteArray) (v : Int) (b : Value) : List Value := [.int .i64 k, .string s, .int .u16 v, b, .int .i64 0, .int .i64 0]
theorem C_none0 {α : Type} (d : Kd α) (W : World) : d.C W none 0 [] := ⟨rfl, by omega, fun h => by omega⟩
theorem K_leaf (W : World) (k o v : Int) (s : ByteArray) : k38.K W ⟨k, o, v, s, [], [], false, ⟨0, 0⟩⟩ (cNode k o v s (.slice none 0 0) (.slice none 0 0) false) :=
  k38_mk W ⟨k, o, v, s, [], [], false, ⟨0, 0⟩⟩ (A4 := none) (c4 := 0) (Nat.le_refl _) (C_none0 _ _) (A5 := none) (c5 := 0) (Nat.le_refl _) (C_none0 _ _)
theorem K_dleaf (W : World) (k : Int) (s : ByteArray) (v : Int) : k36.K W ⟨k, s, v, [], ⟨0, 0⟩⟩ (cDef k s v (.slice none 0 0)) :=
  k36_mk W ⟨k, s, v, [], ⟨0, 0⟩⟩ (A3 := none) (c3 := 0) (Nat.le_refl _) (C_none0 _ _)
theorem C_lits {W : World} {b : Nat} {v : Int} (h : W.heap[b]? = some (Obj.cells (cNode 2 0 v ⟨#[]⟩ (.slice none 0 0) (.slice none 0 0) false).toArray 38)) : k38.C W (some ⟨b, 0, none⟩) 1 [nLit v] :=
  C_block (xs := [nLit v]) [_] h (by simp) (.cons (K_leaf W 2 0 v _) .nil) (by simp)
theorem K_if {W : World} {b1 b2 : Nat} (h1 : k38.C W (some ⟨b1, 0, none⟩) 1 [nLit 1]) (h2 : k38.C W (some ⟨b2, 0, none⟩) 1 [nLit 2]) : k38.K W nIf (cNode 4 0 0 ⟨#[]⟩ (.slice (some ⟨b1, 0, none⟩) 1 1) (.slice (some ⟨b2, 0, none⟩) 1 1) true) :=
  k38_mk W nIf (Nat.le_refl _) h1 (Nat.le_refl _) h2
theorem fDefs_ok : OkD fDefs := ⟨by decide, by decide, by decide⟩
theorem ofA_fixed : ofA fDefs = ([⟨⟨#[107]⟩, 128, 4, 0⟩, ⟨⟨#[118]⟩, 132, 4, 32768⟩, ⟨⟨#[98]⟩, 136, 4, 32770⟩, ⟨⟨#[109, 97, 105, 110]⟩, 140, 28, 0⟩], 168, 12, 0, 0, 0) := by kernel_rfl
theorem szL_if : szL [nIf] = 16 := by kernel_rfl
set_option maxRecDepth 100000 in
set_option maxHeartbeats 4000000 in
theorem fixed_at (w : World) : Calls Try.prog 13 #[] w fun e w' => e = .returned (.bool true) ∧ Below w.heap.size w w' := by
  go_enter Try.func13, Try.ntmps13
  go_wp2_with fail
  obtain ⟨H, hH⟩ : ∃ H, w.heap.size = H := ⟨_, rfl⟩
  obtain ⟨b1, hb1⟩ : ∃ b, H + 1 = b := ⟨_, rfl⟩
  obtain ⟨b2, hb2⟩ : ∃ b, b1 + 1 = b := ⟨_, rfl⟩
  obtain ⟨b3, hb3⟩ : ∃ b, b2 + 1 = b := ⟨_, rfl⟩
  obtain ⟨b4, hb4⟩ : ∃ b, b3 + 1 = b := ⟨_, rfl⟩
  obtain ⟨b5, hb5⟩ : ∃ b, b4 + 1 = b := ⟨_, rfl⟩
  obtain ⟨b6, hb6⟩ : ∃ b, b5 + 1 = b := ⟨_, rfl⟩
  obtain ⟨b7, hb7⟩ : ∃ b, b6 + 1 = b := ⟨_, rfl⟩
  rw [hH, hb1, hb2, hb3, hb4, hb5, hb6, hb7]
  refine name_call (fun wy => wy.heap[b1]? = some (Obj.cells (cNode 2 0 1 ⟨#[]⟩ (.slice none 0 0) (.slice none 0 0) false).toArray 38) ∧ wy.heap[b2]? = some (Obj.cells (cNode 2 0 2 ⟨#[]⟩ (.slice none 0 0) (.slice none 0 0) false).toArray 38) ∧ wy.heap[b3]? = some (Obj.cells (cNode 4 0 0 ⟨#[]⟩ (.slice (some ⟨b1, 0, none⟩) 1 1) (.slice (some ⟨b2, 0, none⟩) 1 1) true).toArray 38) ∧ (∃ cs : List Value, wy.heap[b4]? = some (Obj.cells cs.toArray 38) ∧ cs = [cNode 3 0 0 ⟨#[118]⟩ (.slice none 0 0) (.slice none 0 0) false, cNode 1 50 0 ⟨#[]⟩ (.slice none 0 0) (.slice none 0 0) false, cNode 3 0 0 ⟨#[107]⟩ (.slice none 0 0) (.slice none 0 0) false, cNode 1 50 0 ⟨#[]⟩ (.slice none 0 0) (.slice none 0 0) false, cNode 4 0 0 ⟨#[]⟩ (.slice (some ⟨b1, 0, none⟩) 1 1) (.slice (some ⟨b2, 0, none⟩) 1 1) true].flatten) ∧ (∃ cs : List Value, wy.heap[b6]? = some (Obj.cells cs.toArray 36) ∧ cs = [cDef 2 ⟨#[107]⟩ 5 (.slice none 0 0), cDef 3 ⟨#[118]⟩ 2 (.slice none 0 0), cDef 3 ⟨#[98]⟩ 10 (.slice none 0 0), cDef 1 ⟨#[109, 97, 105, 110]⟩ 0 (.slice (some ⟨b4, 0, none⟩) 5 5)].flatten) ∧ Below w.heap.size w wy ∧ wy.heap.size = H + 8) ⟨?_, ?_, ?_, ⟨_, ?_, rfl⟩, ⟨_, ?_, rfl⟩, ?_, ?_⟩ ?_
  · exact hpB (hpB (hpB (hpB (hpB (hpB (hpA (by simp only [World.size_alloc]; omega)))))))
  · exact hpB (hpB (hpB (hpB (hpB (hpA (by simp only [World.size_alloc]; omega))))))
  · exact hpB (hpB (hpB (hpB (hpA (by simp only [World.size_alloc]; omega)))))
  · exact hpB (hpB (hpB (hpA (by simp only [World.size_alloc]; omega))))
  · exact hpB (hpA (by simp only [World.size_alloc]; omega))
  · repeat (first | exact Below.refl _ _ | refine below_alloc ?_ _)
  · simp only [World.size_alloc]; omega
  rintro wy ⟨h1, h2, h3, ⟨cs4, h4, e4⟩, ⟨cs6, h6, e6⟩, hbl, hsz⟩
  have g1 := C_lits h1
  have g2 := C_lits h2
  have g4 : k38.C wy (some ⟨b4, 0, none⟩) 5 fBody := C_block (xs := fBody) _ h4 e4.symm (.cons (K_leaf wy 3 0 0 _) (.cons (K_leaf wy 1 50 0 _) (.cons (K_leaf wy 3 0 0 _) (.cons (K_leaf wy 1 50 0 _) (.cons (K_if g1 g2) .nil))))) (by decide)
  have g6 : k36.C wy (some ⟨b6, 0, none⟩) 4 fDefs := C_block (xs := fDefs) _ h6 e6.symm (.cons (K_dleaf wy 2 _ 5) (.cons (K_dleaf wy 3 _ 2) (.cons (K_dleaf wy 3 _ 10) (.cons (k36_mk wy ⟨1, ⟨#[109, 97, 105, 110]⟩, 0, fBody, ⟨0, 0⟩⟩ (Nat.le_refl _) g4) .nil)))) (by decide)
  refine (Of_at (c := 4) (n2 := 0) (c2 := 0) (A2 := none) g6 rfl fDefs_ok).mono ?_
  rintro e w1 ⟨v, rfl, hR, hb⟩
  rw [ofA_fixed] at hR ⊢
  have h31 := (hb.block b3 (by omega)).trans h3
  have g11 := Aside0.mk (Kd.C_below g1 hb)
  have g21 := Aside0.mk (Kd.C_below g2 hb)
  have hbl1 := Aside0.mk (hbl.trans (hb.mono hbl.size))
  obtain ⟨gv, cv, ev, _⟩ := Kd.R_form hR (by decide)
  subst ev
  have hCA := Aside0.mk (Kd.R_reads' hR).2.2
  have hb1A := Aside0.mk hb
  clear g1 g2 g4 g6 h1 h2 h3 h4 h6 e4 e6 hbl hR
  dsimp only [List.length_cons, List.length_nil]
  have cl : ∀ k, w1.cell? ⟨b3, k, none⟩ = (cNode 4 0 0 ⟨#[]⟩ (.slice (some ⟨b1, 0, none⟩) 1 1) (.slice (some ⟨b2, 0, none⟩) 1 1) true)[k]? := fun k => by simp only [World.cell?, h31]; simp
  have k0 := cl 0
  have k1 := cl 1
  have k2 := cl 2
  have k3 := cl 3
  have k4 := cl 4
  have k5 := cl 5
  have k6 := cl 6
  have k7 := cl 7
  have k8 := cl 8
  simp only [List.getElem?_cons_zero, List.getElem?_cons_succ] at k0 k1 k2 k3 k4 k5 k6 k7 k8
  clear cl h31
  obtain ⟨ad, ea, y0, y1, y2, y3⟩ := at_T50 hCA.out 2 (by decide) (by decide)
  obtain ⟨ad', ea', z0, z1, z2, z3⟩ := at_T50 hCA.out 3 (by decide) (by decide)
  obtain rfl := Option.some.inj ea
  obtain rfl := Option.some.inj ea'
  simp only [add_plain, rd_T50, List.getD_cons_zero, List.getD_cons_succ, show Int.toNat 2 = 2 from rfl, show Int.toNat 3 = 3 from rfl, Nat.reduceMul, Nat.reduceAdd] at y0 y1 y2 y3 z0 z1 z2 z3
  clear ea ea' hCA
  go_upto_region 6 with (fail)
  refine name_wp (fun wz => ((wz.cell? ⟨b3, 0, none⟩ = some (.int .i64 4) ∧ wz.cell? ⟨b3, 1, none⟩ = some (.int .i64 0) ∧ wz.cell? ⟨b3, 2, none⟩ = some (.int .u16 0) ∧ wz.cell? ⟨b3, 3, none⟩ = some (.string ⟨#[]⟩) ∧ wz.cell? ⟨b3, 4, none⟩ = some (.slice (some ⟨b1, 0, none⟩) 1 1) ∧ wz.cell? ⟨b3, 5, none⟩ = some (.slice (some ⟨b2, 0, none⟩) 1 1) ∧ wz.cell? ⟨b3, 6, none⟩ = some (.bool true) ∧ wz.cell? ⟨b3, 7, none⟩ = some (.int .i64 0) ∧ wz.cell? ⟨b3, 8, none⟩ = some (.int .i64 0)) ∧ PosB wz w1.heap.size 0 0) ∧ (∀ p v, w1.cell? p = some v → wz.cell? p = some v) ∧ Below w1.heap.size w1 wz) ⟨⟨⟨cell_al k0 _, cell_al k1 _, cell_al k2 _, cell_al k3 _, cell_al k4 _, cell_al k5 _, cell_al k6 _, cell_al k7 _, cell_al k8 _⟩, hpA rfl⟩, fun p v h => cell_al h _, below_alloc (Below.refl _ _) _⟩ ?_
  rintro wz ⟨⟨⟨l0, l1, l2, l3, l4, l5, l6, l7, l8⟩, hp⟩, hcm, hbz⟩
  obtain ⟨p0, p1, _⟩ := hp.cells
  replace y0 := hcm _ _ y0
  replace y1 := hcm _ _ y1
  replace y2 := hcm _ _ y2
  replace y3 := hcm _ _ y3
  replace z0 := hcm _ _ z0
  replace z1 := hcm _ _ z1
  replace z2 := hcm _ _ z2
  replace z3 := hcm _ _ z3
  have h11 := Kd.C_below g11.out hbz
  have h21 := Kd.C_below g21.out hbz
  have hSz : Aside0 (Calls Try.prog 18 #[.slice (some ⟨wz.heap.size, 0, none⟩) 1 1] (wz.alloc (Obj.cells (cNode 4 0 0 ⟨#[]⟩ (.slice (some ⟨b1, 0, none⟩) 1 1) (.slice (some ⟨b2, 0, none⟩) 1 1) true).toArray 38)) fun e w' => e = .returned (.int .i64 16) ∧ ∃ q, w' = (wz.alloc (Obj.cells (cNode 4 0 0 ⟨#[]⟩ (.slice (some ⟨b1, 0, none⟩) 1 1) (.slice (some ⟨b2, 0, none⟩) 1 1) true).toArray 38)).drewN q) := ⟨by
    have h := Size_at (c := 1) (n := 1) (l := [nIf]) (C_block (xs := [nIf]) [_] (hpA (w := wz) (o := Obj.cells (cNode 4 0 0 ⟨#[]⟩ (.slice (some ⟨b1, 0, none⟩) 1 1) (.slice (some ⟨b2, 0, none⟩) 1 1) true).toArray 38) rfl) (by simp) (.cons (K_if (Kd.C_alloc h11 _) (Kd.C_alloc h21 _)) .nil) (by simp)) rfl (by decide)
    rw [szL_if] at h
    exact h⟩
  have hfin := Aside0.mk (hbl1.out.trans (hbz.mono hbl1.out.size))
  have hsz1 := hbl1.out.size
  have hsz2 := hbz.size
  clear k0 k1 k2 k3 k4 k5 k6 k7 k8 hcm hbz h11 h21 g11 g21 hp
  go_wp2_with (go_at_call 18; (refine hSz.out.mono ?_); rintro e w2 ⟨rfl, q, hq⟩; have hc2 : ∀ p v, wz.cell? p = some v → w2.cell? p = some v := (fun p v h => by rw [hq]; exact cell_al h _); have hb2 := Aside0.mk (show Below w.heap.size w w2 by rw [hq]; exact pw_below_drewN (below_alloc hfin.out _) _); replace y0 := hc2 _ _ y0; replace y1 := hc2 _ _ y1; replace y2 := hc2 _ _ y2; replace y3 := hc2 _ _ y3; replace z0 := hc2 _ _ z0; replace z1 := hc2 _ _ z1; replace z2 := hc2 _ _ z2; replace z3 := hc2 _ _ z3; clear hq hc2)
  go_ret
  exact ⟨rfl, hb2.out⟩
end Go.Proofs.Ytjphhnhloeanlaa.P
