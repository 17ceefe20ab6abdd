/- Nodes and definitions that came in, opened: by the bulk of what is read. -/
import Derived.Test.YtjphhnhloeanlaaOp
import Derived.Test.YtjphhnhloeanlaaLz
namespace Go.Proofs.Ytjphhnhloeanlaa.P
open Go Go.ChangeShapes Go.WideShapes Go.ChangeAt Go.RowKit Go.Proofs.YtjphhnhloeanlaaW.PrintWords Go.Proofs.YtjphhnhloeanlaaW.PrintLast Go.Proofs.YtjphhnhloeanlaaW.PrintMore Go.Proofs.Ytjphhnhloeanlaa.Mem Go.Proofs.Ytjphhnhloeanlaa.Op
open Go.Proofs.Ytjphhnhloeanlaa.Rows (uptoBulk uptoBulkAll uptoSmall)
set_option linter.unusedVariables false
set_option linter.unusedSimpArgs false
/-- whatever reads as a datum of type t, of bulk at most K, holds a value of kind d -/
def IsK {H : Type} (K : Nat) (enc : TypeId × Value → H) (P : Program) (W : World) (t : TypeId) {α : Type} (d : Kd α) (b : α → Nat) : Prop :=
  ∀ (fuel : Nat) (cs : List Value) (x : DataW H × List MemPlace), DataW.trod enc P W 0 (fun _ => true) true fuel t cs = some x → uptoBulk x.1 ≤ K → ∃ a, d.K W a cs ∧ b a ≤ uptoBulk x.1
section
variable {H : Type} {enc : TypeId × Value → H} {P : Program} {W : World} {t e : TypeId} {α : Type}
theorem bulk_mem {D : Nat → DataW H} : ∀ (l : List Nat) (i : Nat), i ∈ l → uptoBulk (D i) ≤ uptoBulkAll (l.map D)
  | j :: l, i, h => by
    rw [List.map_cons, uptoBulkAll]
    rcases List.mem_cons.1 h with rfl | h
    · omega
    · have := bulk_mem (D := D) l i h; omega
theorem IsK.slice [Inhabited α] {K : Nat} {d : Kd α} {b : α → Nat} (ht : P.underlying t = some (.slice e)) (hc : P.cellsOf e = d.sz) (h : IsK K enc P W e d b) :
    IsK (K + 1) enc P W t (Kd.slice e d) (fun l => (l.map b).sum + 1) := by
  intro fuel cs x hx hK
  rcases Deep.open_slice ht hx with ⟨rfl, rfl⟩ | ⟨a, len, cap, m, n, D, Pl, rfl, hb, hl, hm, hmm, rfl, hel⟩
  · exact ⟨[], ⟨none, 0, rfl, Nat.le_refl _, Kd.C_nil _ _⟩, by simp [uptoBulk]⟩
  · have hml : len ≤ m := by rw [hmm]; split <;> omega
    simp only [uptoBulk] at hK
    obtain ⟨A, hA⟩ := Deep.choose_lt (n := len) (p := fun i (y : α) => ∃ cs', W.cells? 0 (a.add (i * P.cellsOf e)) (P.cellsOf e) = some cs' ∧ d.K W y cs' ∧ b y ≤ uptoBulk (D i)) (fun i hi => by
      obtain ⟨cs', h1, h2⟩ := hel i (Nat.lt_of_lt_of_le hi hml)
      have hD := bulk_mem (D := D) (List.range len) i (by simpa using hi)
      obtain ⟨y, k1, k3⟩ := h n cs' _ h2 (by show uptoBulk (D i) ≤ K; omega)
      exact ⟨y, cs', h1, k1, k3⟩)
    have hlen : ((List.range len).map A).length = len := by simp
    refine ⟨(List.range len).map A, ⟨some a, cap, by rw [hlen], by rw [hlen]; exact hl, ?_⟩, ?_⟩
    · rw [hlen]
      refine ⟨hlen, by simp only [maxLen] at hm; omega, fun _ => ⟨a, rfl, fun j p hj => ?_⟩⟩
      have hjl : j < len := by
        have := (List.getElem?_eq_some_iff.1 hj).1
        simpa using this
      have hp : p = A j := by simpa [hjl] using hj.symm
      subst hp
      obtain ⟨cs', h1, k1, _⟩ := hA j hjl
      obtain ⟨_, hl2, hcell⟩ := World.cells?_some h1
      rw [hc] at hcell hl2
      refine ⟨cs', hl2, k1, fun i u hu => ?_⟩
      have hi : i < d.sz := by rw [← hl2]; exact (List.getElem?_eq_some_iff.1 hu).1
      have h9 := hcell i hi
      rw [Deep.add_add, hu] at h9
      exact h9
    · have h1 := bulk_map (D := D) (a := A) (b := b) (List.range len) (fun i hi => by
        obtain ⟨_, _, _, k3⟩ := hA i (by simpa using hi)
        exact k3)
      simp only [uptoBulk]
      omega
end
theorem cnL_sum : ∀ l : List Nd, cnL l = (l.map cnN).sum
  | [] => by simp [cnL]
  | x :: l => by rw [cnL, cnL_sum l]; rfl
theorem fld {H : Type} {enc : TypeId × Value → H} {P : Program} {W : World} {n : Nat} {fs : Array Field} {cs : List Value} {xs : List (DataW H × List MemPlace)} (hf : ∀ (i : Nat) (f : Field), fs[i]? = some f → DataW.trod enc P W 0 (fun _ => true) true n f.type ((cs.drop f.offset).take (P.cellsOf f.type)) = xs[i]?) (i : Nat) (t : TypeId) (o m : Nat) (f : Field) (hfi : fs[i]? = some f) (ht : f.type = t) (ho : f.offset = o) (hm : P.cellsOf t = m) {y : DataW H × List MemPlace} (hx : xs[i]? = some y) : DataW.trod enc P W 0 (fun _ => true) true n t ((cs.drop o).take m) = some y := by
  subst ht ho hm
  exact (hf i f hfi).trans hx
instance : Inhabited Nd := ⟨z38⟩
theorem co1 {t : TypeId} (h : (Try.prog.cellsOf t == 1) = true) : Try.prog.cellsOf t = 1 := by simpa using h
set_option maxRecDepth 100000 in
theorem pos_is {H : Type} (enc : TypeId × Value → H) (W : World) {fuel : Nat} {cs : List Value} {x : DataW H × List MemPlace} (h : DataW.trod enc Try.prog W 0 (fun _ => true) true fuel 25 cs = some x) : ∃ i j : Int, cs = [.int .i64 i, .int .i64 j] := by
  obtain ⟨y0, y1, n, rfl, hl, k0, k1⟩ := ChangeShapes.trod_struct2 Try.underlying25 h
  rw [show Try.prog.cellsOf 25 = 2 by kernel_rfl] at hl
  match cs, hl with
  | [c0, c1], _ =>
    rw [show Try.prog.cellsOf 3 = 1 by kernel_rfl] at k0 k1
    obtain ⟨i, e0, _, _⟩ := DataW.trod_int Try.underlying3 k0
    obtain ⟨j, e1, _, _⟩ := DataW.trod_int Try.underlying3 k1
    simp at e0 e1
    exact ⟨i, j, by rw [e0, e1]⟩
set_option maxRecDepth 100000 in
theorem IsK.node {H : Type} (enc : TypeId × Value → H) (W : World) : ∀ K, IsK K enc Try.prog W 38 k38 cnN
  | 0 => fun fuel cs x hx hK => by
    obtain ⟨xs, n, _, rfl, _, _, _⟩ := DataW.trod_struct Try.underlying38 hx
    simp [uptoBulk] at hK
  | K + 1 => fun fuel cs x hx hK => by
    have ih := IsK.slice (P := Try.prog) (t := 34) Try.underlying34 (by rw [show k38.sz = 9 from rfl]; kernel_rfl) (IsK.node enc W K)
    obtain ⟨xs, n, _, rfl, hl, hlx, hf⟩ := DataW.trod_struct Try.underlying38 hx
    rw [show Try.prog.cellsOf 38 = 9 by kernel_rfl] at hl
    match cs, hl, xs, hlx with
    | [c0, c1, c2, c3, c4, c5, c6, c7, c8], _, [y0, y1, y2, y3, y4, y5, y6, y7], _ =>
      have k0 : DataW.trod enc Try.prog W 0 (fun _ => true) true n 3 [c0] = some y0 := fld hf 0 3 0 1 _ rfl rfl rfl (by kernel_rfl) rfl
      have k1 : DataW.trod enc Try.prog W 0 (fun _ => true) true n 3 [c1] = some y1 := fld hf 1 3 1 1 _ rfl rfl rfl (by kernel_rfl) rfl
      have k2 : DataW.trod enc Try.prog W 0 (fun _ => true) true n 33 [c2] = some y2 := fld hf 2 33 2 1 _ rfl rfl rfl (by kernel_rfl) rfl
      have k3 : DataW.trod enc Try.prog W 0 (fun _ => true) true n 9 [c3] = some y3 := fld hf 3 9 3 1 _ rfl rfl rfl (by kernel_rfl) rfl
      have k4 : DataW.trod enc Try.prog W 0 (fun _ => true) true n 34 [c4] = some y4 := fld hf 4 34 4 1 _ rfl rfl rfl (by kernel_rfl) rfl
      have k5 : DataW.trod enc Try.prog W 0 (fun _ => true) true n 34 [c5] = some y5 := fld hf 5 34 5 1 _ rfl rfl rfl (by kernel_rfl) rfl
      have k6 : DataW.trod enc Try.prog W 0 (fun _ => true) true n 4 [c6] = some y6 := fld hf 6 4 6 1 _ rfl rfl rfl (by kernel_rfl) rfl
      have k7 : DataW.trod enc Try.prog W 0 (fun _ => true) true n 25 [c7, c8] = some y7 := fld hf 7 25 7 2 _ rfl rfl rfl (by kernel_rfl) rfl
      simp only [List.map_cons, List.map_nil, uptoBulk, uptoBulkAll] at hK ⊢
      obtain ⟨x0, e0, _, _⟩ := DataW.trod_int Try.underlying3 k0
      obtain ⟨x1, e1, _, _⟩ := DataW.trod_int Try.underlying3 k1
      obtain ⟨x2, e2, _, _⟩ := DataW.trod_int Try.underlying33 k2
      obtain ⟨x3, e3, _, _⟩ := DataW.trod_string Try.underlying9 k3
      obtain ⟨l4, ⟨A4, m4, e4, g4, C4⟩, b4⟩ := ih _ _ _ k4 (by omega)
      obtain ⟨l5, ⟨A5, m5, e5, g5, C5⟩, b5⟩ := ih _ _ _ k5 (by omega)
      obtain ⟨x6, e6, _⟩ := DataW.trod_bool Try.underlying4 k6
      obtain ⟨x7, x8, e7⟩ := pos_is enc W k7
      simp only [List.cons.injEq, and_true] at e0 e1 e2 e3 e4 e5 e6 e7
      obtain ⟨rfl, rfl⟩ := e7
      subst e0 e1 e2 e3 e4 e5 e6
      refine ⟨⟨x0, x1, x2, x3, l4, l5, x6, ⟨x7, x8⟩⟩, k38_mk W ⟨x0, x1, x2, x3, l4, l5, x6, ⟨x7, x8⟩⟩ g4 C4 g5 C5, ?_⟩
      rw [cnN, cnL_sum, cnL_sum]
      replace b4 : (List.map cnN l4).sum + 1 ≤ _ := b4
      replace b5 : (List.map cnN l5).sum + 1 ≤ _ := b5
      omega
theorem nodes_is {H : Type} (enc : TypeId × Value → H) (W : World) : Is enc Try.prog W 34 (Kd.slice 38 k38) (fun _ => True) (fun l => cnL l + 1) := fun fuel cs x hx => by
  obtain ⟨a, h1, h2⟩ := IsK.slice (P := Try.prog) (t := 34) Try.underlying34 (by rw [show k38.sz = 9 from rfl]; kernel_rfl) (IsK.node enc W (uptoBulk x.1)) fuel cs x hx (by omega)
  exact ⟨a, h1, trivial, by show cnL a + 1 ≤ _; rw [cnL_sum]; exact h2⟩
end Go.Proofs.Ytjphhnhloeanlaa.P
