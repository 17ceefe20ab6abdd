/- Programs that came in, opened. -/
import Derived.Test.YtjphhnhloeanlaaLn
import Derived.Test.YtjphhnhloeanlaaLp
namespace Go.Proofs.Ytjphhnhloeanlaa.P
open Go Go.ChangeShapes Go.WideShapes Go.ChangeAt Go.RowKit Go.Proofs.YtjphhnhloeanlaaW.PrintWords Go.Proofs.YtjphhnhloeanlaaW.PrintLast Go.Proofs.YtjphhnhloeanlaaW.PrintMore Go.Proofs.Ytjphhnhloeanlaa.Mem Go.Proofs.Ytjphhnhloeanlaa.Op
open Go.Proofs.Ytjphhnhloeanlaa.Rows (uptoBulk uptoBulkAll uptoSmall)
set_option linter.unusedVariables false
set_option linter.unusedSimpArgs false
instance : Inhabited Df := ⟨z36⟩
set_option maxRecDepth 100000 in
theorem def_is {H : Type} (enc : TypeId × Value → H) (W : World) : Is enc Try.prog W 36 k36 (fun d => 0 ≤ d.f2 ∧ d.f2 ≤ 65535) (fun d => cnL d.f3 + 1) := fun fuel cs x hx => by
  obtain ⟨xs, n, _, rfl, hl, hlx, hf⟩ := DataW.trod_struct Try.underlying36 hx
  rw [show Try.prog.cellsOf 36 = 6 by kernel_rfl] at hl
  match cs, hl, xs, hlx with
  | [c0, c1, c2, c3, c4, c5], _, [y0, y1, y2, y3, y4], _ =>
    have k0 : DataW.trod enc Try.prog W 0 (fun _ => true) true n 3 [c0] = some y0 := fld hf 0 3 0 1 _ rfl rfl rfl (by kernel_rfl) rfl
    have k1 : DataW.trod enc Try.prog W 0 (fun _ => true) true n 9 [c1] = some y1 := fld hf 1 9 1 1 _ rfl rfl rfl (by kernel_rfl) rfl
    have k2 : DataW.trod enc Try.prog W 0 (fun _ => true) true n 33 [c2] = some y2 := fld hf 2 33 2 1 _ rfl rfl rfl (by kernel_rfl) rfl
    have k3 : DataW.trod enc Try.prog W 0 (fun _ => true) true n 34 [c3] = some y3 := fld hf 3 34 3 1 _ rfl rfl rfl (by kernel_rfl) rfl
    have k4 : DataW.trod enc Try.prog W 0 (fun _ => true) true n 25 [c4, c5] = some y4 := fld hf 4 25 4 2 _ rfl rfl rfl (by kernel_rfl) rfl
    obtain ⟨x0, e0, _, _⟩ := DataW.trod_int Try.underlying3 k0
    obtain ⟨x1, e1, _, _⟩ := DataW.trod_string Try.underlying9 k1
    obtain ⟨x2, e2, _, v2⟩ := DataW.trod_int Try.underlying33 k2
    obtain ⟨l3, ⟨A3, m3, e3, g3, C3⟩, _, b3⟩ := nodes_is enc W _ _ _ k3
    obtain ⟨x7, x8, e4⟩ := pos_is enc W k4
    simp only [List.cons.injEq, and_true] at e0 e1 e2 e3 e4
    obtain ⟨rfl, rfl⟩ := e4
    subst e0 e1 e2 e3
    refine ⟨⟨x0, x1, x2, l3, ⟨x7, x8⟩⟩, k36_mk W ⟨x0, x1, x2, l3, ⟨x7, x8⟩⟩ g3 C3, ?_, ?_⟩
    · have h := v2
      simp [Lit.wf] at h
      rw [show IntKind.u16.min = 0 from rfl, show IntKind.u16.max = 65535 from rfl] at h
      exact h
    · replace b3 : cnL l3 + 1 ≤ _ := b3
      simp only [List.map_cons, List.map_nil, uptoBulk, uptoBulkAll]
      omega
theorem defs_is {H : Type} (enc : TypeId × Value → H) (W : World) : Is enc Try.prog W 29 (Kd.slice 36 k36) (fun l => ∀ x ∈ l, 0 ≤ x.f2 ∧ x.f2 ≤ 65535) (fun l => (l.map fun d : Df => cnL d.f3 + 1).sum + 1) :=
  Is.slice Try.underlying29 (by rw [show k36.sz = 6 from rfl]; kernel_rfl) (def_is enc W)
theorem sum_plus : ∀ ds : List Df, (ds.map fun d : Df => cnL d.f3 + 1).sum = cnD ds + ds.length
  | [] => by simp [cnD]
  | d :: ds => by
    have h := sum_plus ds
    simp only [List.map_cons, List.sum_cons, List.length_cons, cnD] at *
    omega
set_option maxRecDepth 100000 in
theorem prog_is {H : Type} (enc : TypeId × Value → H) (W : World) {fuel : Nat} {cs : List Value} {x : DataW H × List MemPlace} (hx : DataW.trod enc Try.prog W 0 (fun _ => true) true fuel 32 cs = some x) (hb : uptoBulk x.1 ≤ 1048576) :
    ∃ (A : Option Addr) (n c : Nat) (A2 : Option Addr) (n2 c2 : Nat) (ds : List Df), cs = [.slice A n c, .slice A2 n2 c2] ∧ n = ds.length ∧ n ≤ c ∧ k36.C W A n ds ∧ OkD ds := by
  obtain ⟨xs, n, _, rfl, hl, hlx, hf⟩ := DataW.trod_struct Try.underlying32 hx
  rw [show Try.prog.cellsOf 32 = 2 by kernel_rfl] at hl
  match cs, hl, xs, hlx with
  | [c0, c1], _, [y0, y1], _ =>
    have k0 : DataW.trod enc Try.prog W 0 (fun _ => true) true n 29 [c0] = some y0 := fld hf 0 29 0 1 _ rfl rfl rfl (by kernel_rfl) rfl
    have k1 : DataW.trod enc Try.prog W 0 (fun _ => true) true n 30 [c1] = some y1 := fld hf 1 30 1 1 _ rfl rfl rfl (by kernel_rfl) rfl
    obtain ⟨ds, ⟨A, c, e0, g0, C0⟩, v0, b0⟩ := defs_is enc W _ _ _ k0
    replace b0 : (ds.map fun d : Df => cnL d.f3 + 1).sum + 1 ≤ _ := b0
    rw [sum_plus] at b0
    simp only [List.map_cons, List.map_nil, uptoBulk, uptoBulkAll] at hb
    have hok : OkD ds := ⟨by omega, by omega, v0⟩
    simp only [List.cons.injEq, and_true] at e0
    subst e0
    rcases DataW.trod_slice Try.underlying30 k1 with ⟨e1, _⟩ | ⟨a, len, cap, _, _, _, _, e1, _⟩
    · simp only [List.cons.injEq, and_true] at e1
      subst e1
      exact ⟨A, _, c, none, 0, 0, ds, rfl, rfl, g0, C0, hok⟩
    · simp only [List.cons.injEq, and_true] at e1
      subst e1
      exact ⟨A, _, c, some a, len, cap, ds, rfl, rfl, g0, C0, hok⟩
end Go.Proofs.Ytjphhnhloeanlaa.P
