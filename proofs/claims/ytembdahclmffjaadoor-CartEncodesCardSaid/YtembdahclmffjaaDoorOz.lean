/- What came in, opened, with the sizes that each slice inside may have (the weights). -/
import Derived.Test.YtembdahclmffjaaDoorOp
import Derived.SizedLaws
namespace Go.Proofs.YtembdahclmffjaaDoor.Op
open Go Go.ChangeShapes Go.WideShapes Go.ChangeAt Go.RowKit Go.Proofs.YtembdahclmffjaaDoorW.PrintWords Go.Proofs.YtembdahclmffjaaDoorW.PrintLast Go.Proofs.YtembdahclmffjaaDoorW.PrintMore Go.Proofs.YtembdahclmffjaaDoor.Mem
set_option linter.unusedVariables false
def Iz {H : Type} (enc : TypeId × Value → H) (P : Program) (W : World) (t : TypeId) {α : Type} (d : Kd α) (wf : α → Prop) : Prop :=
  ∀ (fuel : Nat) (cs : List Value) (x : DataW H × List MemPlace), DataW.trod enc P W 0 (fun _ => true) true fuel t cs = some x → (∀ n ∈ x.1.weights P t, n ≤ reachBytes) → ∃ a, d.K W a cs ∧ wf a
section
variable {H : Type} {enc : TypeId × Value → H} {P : Program} {W : World} {t e : TypeId} {α β γ δ ε : Type}
theorem Is.z {d : Kd α} {wf : α → Prop} {b : α → Nat} (h : Is enc P W t d wf b) : Iz enc P W t d wf := fun fuel cs x hx _ => by
  obtain ⟨a, h1, h2, _⟩ := h fuel cs x hx
  exact ⟨a, h1, h2⟩
theorem mem_weightsAll {d : DataW H} {n : Nat} : ∀ {l : List (DataW H)}, d ∈ l → n ∈ d.weights P e → n ∈ DataW.weightsAll P e l
  | [], h, _ => by cases h
  | x :: l, h, hn => by
    simp only [DataW.weightsAll, List.mem_append]
    rcases List.mem_cons.1 h with rfl | h
    · exact .inl hn
    · exact .inr (mem_weightsAll h hn)
theorem Iz.slice [Inhabited α] {d : Kd α} {wf : α → Prop} {B : Nat} (ht : P.underlying t = some (.slice e)) (hc : P.cellsOf e = d.sz) (hB : P.bytesOf e = B) (h : Iz enc P W e d wf) :
    Iz enc P W t (Kd.slice e d) (fun l => l.length * B ≤ reachBytes ∧ ∀ x ∈ l, wf x) := by
  intro fuel cs x hx hw
  rcases Deep.open_slice ht hx with ⟨rfl, rfl⟩ | ⟨a, len, cap, m, n, D, Pl, rfl, hb, hl, hm, hmm, rfl, hel⟩
  · exact ⟨[], ⟨none, 0, rfl, Nat.le_refl _, Kd.C_nil _ _⟩, by simp, fun x hx => by simp at hx⟩
  · have hml : len ≤ m := by rw [hmm]; split <;> omega
    have hw' : ∀ k ∈ DataW.weights P t (.slice ((List.range len).map D) ((List.range (m - len)).map fun j => D (len + j))), k ≤ reachBytes := hw
    simp only [DataW.weights, ht, List.length_map, List.length_range] at hw'
    have hlen0 : len * B ≤ reachBytes := by
      have h1 := hw' _ List.mem_cons_self
      rw [hB] at h1
      exact Nat.le_trans (Nat.mul_le_mul_right _ (Nat.le_add_right _ _)) h1
    obtain ⟨A, hA⟩ := Deep.choose_lt (n := len) (p := fun i (y : α) => ∃ cs', W.cells? 0 (a.add (i * P.cellsOf e)) (P.cellsOf e) = some cs' ∧ d.K W y cs' ∧ wf y) (fun i hi => by
      obtain ⟨cs', h1, h2⟩ := hel i (Nat.lt_of_lt_of_le hi hml)
      obtain ⟨y, k1, k2⟩ := h n cs' _ h2 (fun k hk => hw' k (List.mem_cons_of_mem _ (List.mem_append_left _ (mem_weightsAll (List.mem_map.2 ⟨i, List.mem_range.2 hi, rfl⟩) hk))))
      exact ⟨y, cs', h1, k1, k2⟩)
    have hlen : ((List.range len).map A).length = len := by simp
    refine ⟨(List.range len).map A, ⟨some a, cap, by rw [hlen], by rw [hlen]; exact hl, ?_⟩, by rw [hlen]; exact hlen0, ?_⟩
    · rw [hlen]
      refine ⟨hlen, by simp only [maxLen] at hm; omega, fun _ => ⟨a, rfl, fun j p hj => ?_⟩⟩
      have hjl : j < len := by
        have := (List.getElem?_eq_some_iff.1 hj).1
        simpa using this
      have hp : p = A j := by simpa [hjl] using hj.symm
      subst hp
      obtain ⟨cs', h1, k1, _⟩ := hA j hjl
      obtain ⟨_, hl2, hcell⟩ := World.cells?_some h1
      rw [hc] at hcell hl2
      refine ⟨cs', hl2, k1, fun i u hu => ?_⟩
      have hi : i < d.sz := by rw [← hl2]; exact (List.getElem?_eq_some_iff.1 hu).1
      have h9 := hcell i hi
      rw [Deep.add_add, hu] at h9
      exact h9
    · intro x hx
      obtain ⟨i, hi, rfl⟩ := List.mem_map.1 hx
      obtain ⟨_, _, _, k2⟩ := hA i (by simpa using hi)
      exact k2
theorem Iz.struct2 {f0 f1 : Field} {d0 : Kd α} {d1 : Kd β} {w0 : α → Prop} {w1 : β → Prop} (ht : P.underlying t = some (.struct #[f0, f1])) (hc : P.cellsOf t = 2)
    (c0 : f0.offset = 0 ∧ P.cellsOf f0.type = 1) (c1 : f1.offset = 1 ∧ P.cellsOf f1.type = 1) (h0 : Iz enc P W f0.type d0 w0) (h1 : Iz enc P W f1.type d1 w1) :
    Iz enc P W t (Kd.pair d0 d1) (fun x => w0 x.1 ∧ w1 x.2) := by
  intro fuel cs x hx hw
  obtain ⟨y0, y1, n, rfl, hl, k0, k1⟩ := ChangeShapes.trod_struct2 ht hx
  rw [hc] at hl
  rw [c0.1, c0.2, one_cell hl (by decide)] at k0
  rw [c1.1, c1.2, one_cell hl (by decide)] at k1
  have hw' : ∀ k ∈ DataW.weights P t (.agg [y0.1, y1.1]), k ≤ reachBytes := hw
  simp only [DataW.weights, ht, DataW.weightsEach, List.map_cons, List.map_nil, List.mem_append, List.not_mem_nil, or_false] at hw'
  obtain ⟨a0, m0, v0⟩ := h0 _ _ _ k0 (fun k hk => hw' k (by simp [hk]))
  obtain ⟨a1, m1, v1⟩ := h1 _ _ _ k1 (fun k hk => hw' k (by simp [hk]))
  refine ⟨(a0, a1), ⟨_, _, ?_, m0, m1⟩, ⟨v0, v1⟩⟩
  match cs, hl with
  | [_, _], _ => rfl
theorem Iz.struct3 {f0 f1 f2 : Field} {d0 : Kd α} {d1 : Kd β} {d2 : Kd γ} {w0 : α → Prop} {w1 : β → Prop} {w2 : γ → Prop} (ht : P.underlying t = some (.struct #[f0, f1, f2])) (hc : P.cellsOf t = 3)
    (c0 : f0.offset = 0 ∧ P.cellsOf f0.type = 1) (c1 : f1.offset = 1 ∧ P.cellsOf f1.type = 1) (c2 : f2.offset = 2 ∧ P.cellsOf f2.type = 1) (h0 : Iz enc P W f0.type d0 w0) (h1 : Iz enc P W f1.type d1 w1) (h2 : Iz enc P W f2.type d2 w2) :
    Iz enc P W t (Kd.pair d0 (Kd.pair d1 d2)) (fun x => w0 x.1 ∧ w1 x.2.1 ∧ w2 x.2.2) := by
  intro fuel cs x hx hw
  obtain ⟨y0, y1, y2, n, rfl, hl, k0, k1, k2⟩ := Deep.trod_struct3 ht hx
  rw [hc] at hl
  rw [c0.1, c0.2, one_cell hl (by decide)] at k0
  rw [c1.1, c1.2, one_cell hl (by decide)] at k1
  rw [c2.1, c2.2, one_cell hl (by decide)] at k2
  have hw' : ∀ k ∈ DataW.weights P t (.agg [y0.1, y1.1, y2.1]), k ≤ reachBytes := hw
  simp only [DataW.weights, ht, DataW.weightsEach, List.map_cons, List.map_nil, List.mem_append, List.not_mem_nil, or_false] at hw'
  obtain ⟨a0, m0, v0⟩ := h0 _ _ _ k0 (fun k hk => hw' k (by simp [hk]))
  obtain ⟨a1, m1, v1⟩ := h1 _ _ _ k1 (fun k hk => hw' k (by simp [hk]))
  obtain ⟨a2, m2, v2⟩ := h2 _ _ _ k2 (fun k hk => hw' k (by simp [hk]))
  refine ⟨(a0, a1, a2), ⟨_, _, ?_, m0, _, _, rfl, m1, m2⟩, ⟨v0, v1, v2⟩⟩
  match cs, hl with
  | [_, _, _], _ => rfl
theorem Iz.struct4 {f0 f1 f2 f3 : Field} {d0 : Kd α} {d1 : Kd β} {d2 : Kd γ} {d3 : Kd ε} {w0 : α → Prop} {w1 : β → Prop} {w2 : γ → Prop} {w3 : ε → Prop} (ht : P.underlying t = some (.struct #[f0, f1, f2, f3])) (hc : P.cellsOf t = 4)
    (c0 : f0.offset = 0 ∧ P.cellsOf f0.type = 1) (c1 : f1.offset = 1 ∧ P.cellsOf f1.type = 1) (c2 : f2.offset = 2 ∧ P.cellsOf f2.type = 1) (c3 : f3.offset = 3 ∧ P.cellsOf f3.type = 1) (h0 : Iz enc P W f0.type d0 w0) (h1 : Iz enc P W f1.type d1 w1) (h2 : Iz enc P W f2.type d2 w2) (h3 : Iz enc P W f3.type d3 w3) :
    Iz enc P W t (Kd.pair d0 (Kd.pair d1 (Kd.pair d2 d3))) (fun x => w0 x.1 ∧ w1 x.2.1 ∧ w2 x.2.2.1 ∧ w3 x.2.2.2) := by
  intro fuel cs x hx hw
  obtain ⟨y0, y1, y2, y3, n, rfl, hl, k0, k1, k2, k3⟩ := Joins.trod_struct4 ht hx
  rw [hc] at hl
  rw [c0.1, c0.2, one_cell hl (by decide)] at k0
  rw [c1.1, c1.2, one_cell hl (by decide)] at k1
  rw [c2.1, c2.2, one_cell hl (by decide)] at k2
  rw [c3.1, c3.2, one_cell hl (by decide)] at k3
  have hw' : ∀ k ∈ DataW.weights P t (.agg [y0.1, y1.1, y2.1, y3.1]), k ≤ reachBytes := hw
  simp only [DataW.weights, ht, DataW.weightsEach, List.map_cons, List.map_nil, List.mem_append, List.not_mem_nil, or_false] at hw'
  obtain ⟨a0, m0, v0⟩ := h0 _ _ _ k0 (fun k hk => hw' k (by simp [hk]))
  obtain ⟨a1, m1, v1⟩ := h1 _ _ _ k1 (fun k hk => hw' k (by simp [hk]))
  obtain ⟨a2, m2, v2⟩ := h2 _ _ _ k2 (fun k hk => hw' k (by simp [hk]))
  obtain ⟨a3, m3, v3⟩ := h3 _ _ _ k3 (fun k hk => hw' k (by simp [hk]))
  refine ⟨(a0, a1, a2, a3), ⟨_, _, ?_, m0, _, _, rfl, m1, _, _, rfl, m2, m3⟩, ⟨v0, v1, v2, v3⟩⟩
  match cs, hl with
  | [_, _, _, _], _ => rfl
end
end Go.Proofs.YtembdahclmffjaaDoor.Op
