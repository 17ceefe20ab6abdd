/- What came in, opened: a datum's reading as a value of a kind (numbers, strings, slices, structs of one-cell fields, nested), and its bulk. -/
import Derived.Test.YtpjdgndbcjinjaaDoorMem
import Derived.Test.YtpjdgndbcjinjaaDoorRows
import Derived.Deep.Slices
import Derived.Deep.Strs
import Derived.ProofKit
import Derived.OpenShut
import Derived.Lib.SmallJoins
namespace Go.Proofs.YtpjdgndbcjinjaaDoor.Op
open Go Go.ChangeShapes Go.WideShapes Go.ChangeAt Go.RowKit Go.Proofs.YtpjdgndbcjinjaaDoorW.PrintWords Go.Proofs.YtpjdgndbcjinjaaDoorW.PrintLast Go.Proofs.YtpjdgndbcjinjaaDoorW.PrintMore Go.Proofs.YtpjdgndbcjinjaaDoor.Mem
set_option linter.unusedVariables false
open Go.Proofs.YtpjdgndbcjinjaaDoor.Rows (uptoBulk uptoBulkAll uptoSmall)
/-- whatever reads as a datum of type t holds a value of kind d -/
def Is {H : Type} (enc : TypeId × Value → H) (P : Program) (W : World) (t : TypeId) {α : Type} (d : Kd α) (wf : α → Prop) (b : α → Nat) : Prop :=
  ∀ (fuel : Nat) (cs : List Value) (x : DataW H × List MemPlace), DataW.trod enc P W 0 (fun _ => true) true fuel t cs = some x → ∃ a, d.K W a cs ∧ wf a ∧ b a ≤ uptoBulk x.1
section
variable {H : Type} {enc : TypeId × Value → H} {P : Program} {W : World} {t e : TypeId} {α β γ δ : Type}
theorem Is.int {k : IntKind} (ht : P.underlying t = some (.int k)) : Is enc P W t (Kd.int k) (fun x => (Lit.int k x).wf = true) (fun _ => 1) := by
  intro fuel cs x h
  obtain ⟨m, rfl, rfl, hw⟩ := DataW.trod_int ht h
  exact ⟨m, rfl, hw, by simp [uptoBulk]⟩
theorem Is.bool (ht : P.underlying t = some .bool) : Is enc P W t Kd.bool (fun _ => True) (fun _ => 1) := by
  intro fuel cs x h
  obtain ⟨m, rfl, rfl⟩ := DataW.trod_bool ht h
  exact ⟨m, rfl, trivial, by simp [uptoBulk]⟩
theorem Is.string (ht : P.underlying t = some .string) : Is enc P W t Kd.string (fun _ => True) (fun s => s.size + 1) := by
  intro fuel cs x h
  obtain ⟨s, rfl, rfl, hs⟩ := DataW.trod_string ht h
  exact ⟨s, rfl, trivial, by simp [uptoBulk]⟩
theorem bulk_map {D : Nat → DataW H} {a : Nat → α} {b : α → Nat} : ∀ (l : List Nat), (∀ i ∈ l, b (a i) ≤ uptoBulk (D i)) → ((l.map a).map b).sum ≤ uptoBulkAll (l.map D)
  | [], _ => by simp
  | i :: l, h => by
    have h1 := h i (List.mem_cons_self)
    have h2 := bulk_map (D := D) (a := a) (b := b) l (fun j hj => h j (List.mem_cons_of_mem _ hj))
    simp only [List.map_cons, List.sum_cons, uptoBulkAll]
    omega
theorem Is.slice [Inhabited α] {d : Kd α} {wf : α → Prop} {b : α → Nat} (ht : P.underlying t = some (.slice e)) (hc : P.cellsOf e = d.sz) (h : Is enc P W e d wf b) :
    Is enc P W t (Kd.slice e d) (fun l => ∀ x ∈ l, wf x) (fun l => (l.map b).sum + 1) := by
  intro fuel cs x hx
  rcases Deep.open_slice ht hx with ⟨rfl, rfl⟩ | ⟨a, len, cap, m, n, D, Pl, rfl, hb, hl, hm, hmm, rfl, hel⟩
  · exact ⟨[], ⟨none, 0, rfl, Nat.le_refl _, Kd.C_nil _ _⟩, fun x hx => by simp at hx, by simp [uptoBulk]⟩
  · have hml : len ≤ m := by rw [hmm]; split <;> omega
    obtain ⟨A, hA⟩ := Deep.choose_lt (n := len) (p := fun i (y : α) => ∃ cs', W.cells? 0 (a.add (i * P.cellsOf e)) (P.cellsOf e) = some cs' ∧ d.K W y cs' ∧ wf y ∧ b y ≤ uptoBulk (D i)) (fun i hi => by
      obtain ⟨cs', h1, h2⟩ := hel i (Nat.lt_of_lt_of_le hi hml)
      obtain ⟨y, k1, k2, k3⟩ := h n cs' _ h2
      exact ⟨y, cs', h1, k1, k2, k3⟩)
    have hlen : ((List.range len).map A).length = len := by simp
    refine ⟨(List.range len).map A, ⟨some a, cap, by rw [hlen], by rw [hlen]; exact hl, ?_⟩, ?_, ?_⟩
    · rw [hlen]
      refine ⟨hlen, by simp only [maxLen] at hm; omega, fun _ => ⟨a, rfl, fun j p hj => ?_⟩⟩
      have hjl : j < len := by
        have := (List.getElem?_eq_some_iff.1 hj).1
        simpa using this
      have hp : p = A j := by simpa [hjl] using hj.symm
      subst hp
      obtain ⟨cs', h1, k1, _⟩ := hA j hjl
      obtain ⟨_, hl2, hcell⟩ := World.cells?_some h1
      rw [hc] at hcell hl2
      refine ⟨cs', hl2, k1, fun i u hu => ?_⟩
      have hi : i < d.sz := by rw [← hl2]; exact (List.getElem?_eq_some_iff.1 hu).1
      have h9 := hcell i hi
      rw [Deep.add_add, hu] at h9
      exact h9
    · intro x hx
      obtain ⟨i, hi, rfl⟩ := List.mem_map.1 hx
      obtain ⟨_, _, _, k2, _⟩ := hA i (by simpa using hi)
      exact k2
    · have h1 := bulk_map (D := D) (a := A) (b := b) (List.range len) (fun i hi => by
        obtain ⟨_, _, _, _, k3⟩ := hA i (by simpa using hi)
        exact k3)
      simp only [uptoBulk]
      omega
theorem Is.mono {d : Kd α} {wf wf' : α → Prop} {b b' : α → Nat} (h : Is enc P W t d wf b) (hw : ∀ a, wf a → wf' a) (hb : ∀ a, b' a ≤ b a) : Is enc P W t d wf' b' := fun fuel cs x hx => by
  obtain ⟨a, h1, h2, h3⟩ := h fuel cs x hx
  exact ⟨a, h1, hw a h2, Nat.le_trans (hb a) h3⟩
theorem one_cell {cs : List Value} {n i : Nat} (hl : cs.length = n) (hi : i < n) : (cs.drop i).take 1 = [cs[i]] := by
  rw [List.drop_eq_getElem_cons (by omega)]; rfl
theorem Is.struct2 {f0 f1 : Field} {d0 : Kd α} {d1 : Kd β} {w0 : α → Prop} {w1 : β → Prop} {b0 : α → Nat} {b1 : β → Nat} (ht : P.underlying t = some (.struct #[f0, f1])) (hc : P.cellsOf t = 2)
    (c0 : f0.offset = 0 ∧ P.cellsOf f0.type = 1) (c1 : f1.offset = 1 ∧ P.cellsOf f1.type = 1) (h0 : Is enc P W f0.type d0 w0 b0) (h1 : Is enc P W f1.type d1 w1 b1) :
    Is enc P W t (Kd.pair d0 d1) (fun x => w0 x.1 ∧ w1 x.2) (fun x => b0 x.1 + b1 x.2) := by
  intro fuel cs x hx
  obtain ⟨y0, y1, n, rfl, hl, k0, k1⟩ := ChangeShapes.trod_struct2 ht hx
  rw [hc] at hl
  rw [c0.1, c0.2, one_cell hl (by decide)] at k0
  rw [c1.1, c1.2, one_cell hl (by decide)] at k1
  obtain ⟨a0, m0, v0, u0⟩ := h0 _ _ _ k0
  obtain ⟨a1, m1, v1, u1⟩ := h1 _ _ _ k1
  refine ⟨(a0, a1), ⟨_, _, ?_, m0, m1⟩, ⟨v0, v1⟩, by simp only [uptoBulk, uptoBulkAll]; omega⟩
  match cs, hl with
  | [_, _], _ => rfl
theorem Is.struct3 {f0 f1 f2 : Field} {d0 : Kd α} {d1 : Kd β} {d2 : Kd γ} {w0 : α → Prop} {w1 : β → Prop} {w2 : γ → Prop} {b0 : α → Nat} {b1 : β → Nat} {b2 : γ → Nat} (ht : P.underlying t = some (.struct #[f0, f1, f2])) (hc : P.cellsOf t = 3)
    (c0 : f0.offset = 0 ∧ P.cellsOf f0.type = 1) (c1 : f1.offset = 1 ∧ P.cellsOf f1.type = 1) (c2 : f2.offset = 2 ∧ P.cellsOf f2.type = 1) (h0 : Is enc P W f0.type d0 w0 b0) (h1 : Is enc P W f1.type d1 w1 b1) (h2 : Is enc P W f2.type d2 w2 b2) :
    Is enc P W t (Kd.pair d0 (Kd.pair d1 d2)) (fun x => w0 x.1 ∧ w1 x.2.1 ∧ w2 x.2.2) (fun x => b0 x.1 + b1 x.2.1 + b2 x.2.2) := by
  intro fuel cs x hx
  obtain ⟨y0, y1, y2, n, rfl, hl, k0, k1, k2⟩ := Deep.trod_struct3 ht hx
  rw [hc] at hl
  rw [c0.1, c0.2, one_cell hl (by decide)] at k0
  rw [c1.1, c1.2, one_cell hl (by decide)] at k1
  rw [c2.1, c2.2, one_cell hl (by decide)] at k2
  obtain ⟨a0, m0, v0, u0⟩ := h0 _ _ _ k0
  obtain ⟨a1, m1, v1, u1⟩ := h1 _ _ _ k1
  obtain ⟨a2, m2, v2, u2⟩ := h2 _ _ _ k2
  refine ⟨(a0, a1, a2), ⟨_, _, ?_, m0, _, _, rfl, m1, m2⟩, ⟨v0, v1, v2⟩, by simp only [uptoBulk, uptoBulkAll]; omega⟩
  match cs, hl with
  | [_, _, _], _ => rfl
theorem Is.struct4 {ε : Type} {f0 f1 f2 f3 : Field} {d0 : Kd α} {d1 : Kd β} {d2 : Kd γ} {d3 : Kd ε} {w0 : α → Prop} {w1 : β → Prop} {w2 : γ → Prop} {w3 : ε → Prop} {b0 : α → Nat} {b1 : β → Nat} {b2 : γ → Nat} {b3 : ε → Nat} (ht : P.underlying t = some (.struct #[f0, f1, f2, f3])) (hc : P.cellsOf t = 4)
    (c0 : f0.offset = 0 ∧ P.cellsOf f0.type = 1) (c1 : f1.offset = 1 ∧ P.cellsOf f1.type = 1) (c2 : f2.offset = 2 ∧ P.cellsOf f2.type = 1) (c3 : f3.offset = 3 ∧ P.cellsOf f3.type = 1) (h0 : Is enc P W f0.type d0 w0 b0) (h1 : Is enc P W f1.type d1 w1 b1) (h2 : Is enc P W f2.type d2 w2 b2) (h3 : Is enc P W f3.type d3 w3 b3) :
    Is enc P W t (Kd.pair d0 (Kd.pair d1 (Kd.pair d2 d3))) (fun x => w0 x.1 ∧ w1 x.2.1 ∧ w2 x.2.2.1 ∧ w3 x.2.2.2) (fun x => b0 x.1 + b1 x.2.1 + b2 x.2.2.1 + b3 x.2.2.2) := by
  intro fuel cs x hx
  obtain ⟨y0, y1, y2, y3, n, rfl, hl, k0, k1, k2, k3⟩ := Joins.trod_struct4 ht hx
  rw [hc] at hl
  rw [c0.1, c0.2, one_cell hl (by decide)] at k0
  rw [c1.1, c1.2, one_cell hl (by decide)] at k1
  rw [c2.1, c2.2, one_cell hl (by decide)] at k2
  rw [c3.1, c3.2, one_cell hl (by decide)] at k3
  obtain ⟨a0, m0, v0, u0⟩ := h0 _ _ _ k0
  obtain ⟨a1, m1, v1, u1⟩ := h1 _ _ _ k1
  obtain ⟨a2, m2, v2, u2⟩ := h2 _ _ _ k2
  obtain ⟨a3, m3, v3, u3⟩ := h3 _ _ _ k3
  refine ⟨(a0, a1, a2, a3), ⟨_, _, ?_, m0, _, _, rfl, m1, _, _, rfl, m2, m3⟩, ⟨v0, v1, v2, v3⟩, by simp only [uptoBulk, uptoBulkAll]; omega⟩
  match cs, hl with
  | [_, _, _, _], _ => rfl
/-- a slice that came in as an argument -/
theorem slice_arg {d : Kd α} {wf : List α → Prop} {b : List α → Nat} {a : Option Addr} {len cap : Nat} {D : DataW H} {p : List MemPlace} (h : Is enc P W t (Kd.slice e d) wf b) (ht : DataW.Trod enc P W 0 (fun _ => true) true t (.slice a len cap) D p) :
    ∃ xs, xs.length = len ∧ len ≤ cap ∧ d.C W a xs.length xs ∧ wf xs ∧ b xs ≤ uptoBulk D := by
  obtain ⟨fuel, hf⟩ := ht
  obtain ⟨xs, ⟨A, c, e1, h1, h2⟩, h3, h4⟩ := h _ _ _ hf
  simp [Value.cells] at e1
  obtain ⟨rfl, rfl, rfl⟩ := e1
  exact ⟨xs, rfl, h1, h2, h3, h4⟩
end
end Go.Proofs.YtpjdgndbcjinjaaDoor.Op
