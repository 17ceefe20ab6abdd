/- An out that came in as an argument. -/
import Derived.Test.YtpjdgndbcjinjaaDoorSw
import Derived.Test.YtpjdgndbcjinjaaDoorOp
import Derived.Lib.SmallJoins
namespace Go.Proofs.YtpjdgndbcjinjaaDoor.Pk
open Go Go.RowKit Go.Proofs.YtpjdgndbcjinjaaDoorW.PrintWords Go.Proofs.YtpjdgndbcjinjaaDoorW.PrintLast Go.Proofs.YtpjdgndbcjinjaaDoorW.PrintMore Go.Proofs.YtpjdgndbcjinjaaDoor.Mem
open Go.ChangeShapes Go.WideShapes Go.ChangeAt
open Go.Proofs.YtpjdgndbcjinjaaDoor.Rows (uptoBulk uptoBulkAll uptoSmall)
set_option linter.unusedVariables false
set_option linter.unusedSimpArgs false
theorem array7 {α : Type} {cs : Array α} (h : cs.size = 7) : ∃ c0 c1 c2 c3 c4 c5 c6, cs = #[c0, c1, c2, c3, c4, c5, c6] := by
  obtain ⟨l⟩ := cs
  match l, h with
  | [c0, c1, c2, c3, c4, c5, c6], _ => exact ⟨c0, c1, c2, c3, c4, c5, c6, rfl⟩
section
variable {H : Type} {enc : TypeId × Value → H} {P : Program} {w : World} {base : Nat} {spare : Nat → Bool} {held : Bool}
theorem trod_struct7 {t : TypeId} {f0 f1 f2 f3 f4 f5 f6 : Field} {fuel : Nat} {cs : List Value} {x : DataW H × List MemPlace} (ht : P.underlying t = some (.struct #[f0, f1, f2, f3, f4, f5, f6])) (h : DataW.trod enc P w base spare held fuel t cs = some x) :
    ∃ y0 y1 y2 y3 y4 y5 y6 n, x.1 = .agg [y0.1, y1.1, y2.1, y3.1, y4.1, y5.1, y6.1] ∧ cs.length = P.cellsOf t ∧ DataW.trod enc P w base spare held n f0.type ((cs.drop f0.offset).take (P.cellsOf f0.type)) = some y0 ∧
      DataW.trod enc P w base spare held n f1.type ((cs.drop f1.offset).take (P.cellsOf f1.type)) = some y1 ∧ DataW.trod enc P w base spare held n f2.type ((cs.drop f2.offset).take (P.cellsOf f2.type)) = some y2 ∧
      DataW.trod enc P w base spare held n f3.type ((cs.drop f3.offset).take (P.cellsOf f3.type)) = some y3 ∧ DataW.trod enc P w base spare held n f4.type ((cs.drop f4.offset).take (P.cellsOf f4.type)) = some y4 ∧
      DataW.trod enc P w base spare held n f5.type ((cs.drop f5.offset).take (P.cellsOf f5.type)) = some y5 ∧ DataW.trod enc P w base spare held n f6.type ((cs.drop f6.offset).take (P.cellsOf f6.type)) = some y6 := by
  obtain ⟨xs, n, _, rfl, hl, hlen, hf⟩ := DataW.trod_struct ht h
  match xs, hlen with
  | [y0, y1, y2, y3, y4, y5, y6], _ => exact ⟨y0, y1, y2, y3, y4, y5, y6, n, by simp, hl, by simpa using hf 0 f0 rfl, by simpa using hf 1 f1 rfl, by simpa using hf 2 f2 rfl, by simpa using hf 3 f3 rfl, by simpa using hf 4 f4 rfl, by simpa using hf 5 f5 rfl, by simpa using hf 6 f6 rfl⟩
end
section
variable {H : Type} (enc : TypeId × Value → H) (W : World)
theorem is_bytes : Op.Is enc Tryd.prog W 24 (Kd.slice 5 (Kd.int .u8)) (fun l => ∀ x ∈ l, (Lit.int .u8 x).wf = true) (fun l => (l.map fun _ => 1).sum + 1) :=
  Op.Is.slice Tryd.underlying24 (by kernel_rfl) (Op.Is.int Tryd.underlying5)
theorem is_tones : Op.Is enc Tryd.prog W 25 (Kd.slice 35 kT) (fun l => ∀ x ∈ l, (Lit.int .i64 x.1).wf = true ∧ (Lit.int .u16 x.2.1).wf = true ∧ (Lit.int .u8 x.2.2).wf = true) (fun l => (l.map fun x => 1 + 1 + 1).sum + 1) :=
  Op.Is.slice Tryd.underlying25 (by kernel_rfl) (Op.Is.struct3 Tryd.underlying35 (by kernel_rfl) ⟨rfl, by kernel_rfl⟩ ⟨rfl, by kernel_rfl⟩ ⟨rfl, by kernel_rfl⟩ (Op.Is.int (by kernel_rfl)) (Op.Is.int (by kernel_rfl)) (Op.Is.int (by kernel_rfl)))
theorem sum_const {α : Type} (k : Nat) : ∀ l : List α, (l.map fun _ => k).sum = k * l.length
  | [] => by simp
  | x :: l => by rw [List.map_cons, List.sum_cons, sum_const k l, List.length_cons, Nat.mul_succ]; omega
theorem slice_k {e : TypeId} {α : Type} {d : Kd α} {xs : List α} {v : Value} (h : (Kd.slice e d).K W xs [v]) : ∃ A c, v = .slice A xs.length c ∧ xs.length ≤ c ∧ d.C W A xs.length xs := by
  obtain ⟨A, c, e1, h1, h2⟩ := h
  exact ⟨A, c, by simpa using e1, h1, h2⟩
theorem out_arg {enc : TypeId × Value → H} {W : World} {v : Value} {d : DataW H} {p : List MemPlace} {base : Nat} (hv : Value.okWide Tryd.prog W .any base 27 v) (h : DataW.Trod enc Tryd.prog W 0 (fun _ => true) true 27 v d p) :
    ∃ A5 c5 A6 c6 o, v = outA A5 c5 A6 c6 o ∧ (OutV W A5 c5 A6 c6 o ∧ OutB o) ∧ o.scr.length + 3 * o.ts.length ≤ uptoBulk d := by
  obtain ⟨cs, rfl, hs⟩ := okWide_struct Tryd.underlying27 hv
  rw [show Tryd.prog.cellsOf 27 = 7 by kernel_rfl] at hs
  obtain ⟨v0, v1, v2, v3, v4, v5, v6, rfl⟩ := array7 hs
  obtain ⟨fuel, hf⟩ := h
  obtain ⟨y0, y1, y2, y3, y4, y5, y6, n, hx, _, k0, k1, k2, k3, k4, k5, k6⟩ := trod_struct7 Tryd.underlying27 hf
  have hx' : d = .agg [y0.1, y1.1, y2.1, y3.1, y4.1, y5.1, y6.1] := hx
  subst hx'
  have c0 : Tryd.prog.cellsOf 22 = 1 := by kernel_rfl
  have c1 : Tryd.prog.cellsOf 23 = 1 := by kernel_rfl
  have c2 : Tryd.prog.cellsOf 3 = 1 := by kernel_rfl
  have c3 : Tryd.prog.cellsOf 24 = 1 := by kernel_rfl
  have c4 : Tryd.prog.cellsOf 25 = 1 := by kernel_rfl
  simp only [Value.cells, c0, c1, c2, c3, c4] at k0 k1 k2 k3 k4 k5 k6
  replace k0 : DataW.trod enc Tryd.prog W 0 (fun _ => true) true n 22 [v0] = some y0 := by simpa using k0
  replace k1 : DataW.trod enc Tryd.prog W 0 (fun _ => true) true n 23 [v1] = some y1 := by simpa using k1
  replace k2 : DataW.trod enc Tryd.prog W 0 (fun _ => true) true n 3 [v2] = some y2 := by simpa using k2
  replace k3 : DataW.trod enc Tryd.prog W 0 (fun _ => true) true n 3 [v3] = some y3 := by simpa using k3
  replace k4 : DataW.trod enc Tryd.prog W 0 (fun _ => true) true n 3 [v4] = some y4 := by simpa using k4
  replace k5 : DataW.trod enc Tryd.prog W 0 (fun _ => true) true n 24 [v5] = some y5 := by simpa using k5
  replace k6 : DataW.trod enc Tryd.prog W 0 (fun _ => true) true n 25 [v6] = some y6 := by simpa using k6
  obtain ⟨z0, e0, _⟩ := Op.Is.int (enc := enc) (W := W) (k := .i64) (P := Tryd.prog) (t := 22) (by kernel_rfl) _ _ _ k0
  obtain ⟨z1, e1, _⟩ := Op.Is.int (enc := enc) (W := W) (k := .i64) (P := Tryd.prog) (t := 23) (by kernel_rfl) _ _ _ k1
  obtain ⟨z2, e2, _⟩ := Op.Is.int (enc := enc) (W := W) (k := .i64) (P := Tryd.prog) (t := 3) (by kernel_rfl) _ _ _ k2
  obtain ⟨z3, e3, _⟩ := Op.Is.int (enc := enc) (W := W) (k := .i64) (P := Tryd.prog) (t := 3) (by kernel_rfl) _ _ _ k3
  obtain ⟨z4, e4, _⟩ := Op.Is.int (enc := enc) (W := W) (k := .i64) (P := Tryd.prog) (t := 3) (by kernel_rfl) _ _ _ k4
  obtain ⟨scr, e5, w5, b5⟩ := is_bytes enc W _ _ _ k5
  obtain ⟨ts, e6, w6, b6⟩ := is_tones enc W _ _ _ k6
  obtain rfl : v0 = .int .i64 z0 := (List.cons.inj (show [v0] = [Value.int .i64 z0] from e0)).1
  obtain rfl : v1 = .int .i64 z1 := (List.cons.inj (show [v1] = [Value.int .i64 z1] from e1)).1
  obtain rfl : v2 = .int .i64 z2 := (List.cons.inj (show [v2] = [Value.int .i64 z2] from e2)).1
  obtain rfl : v3 = .int .i64 z3 := (List.cons.inj (show [v3] = [Value.int .i64 z3] from e3)).1
  obtain rfl : v4 = .int .i64 z4 := (List.cons.inj (show [v4] = [Value.int .i64 z4] from e4)).1
  obtain ⟨A5, c5, rfl, l5, hC5⟩ := slice_k W e5
  obtain ⟨A6, c6, rfl, l6, hC6⟩ := slice_k W e6
  have ht : ∀ t ∈ ts, 0 ≤ t.2.1 ∧ t.2.1 ≤ 65535 ∧ isB t.2.2 := fun t ht => by
    have h := w6 t ht
    have h16 := h.2.1
    simp [Lit.wf] at h16
    rw [show IntKind.u16.min = 0 from rfl, show IntKind.u16.max = 65535 from rfl] at h16
    exact ⟨by omega, by omega, wfB h.2.2⟩
  refine ⟨A5, c5, A6, c6, ⟨z0, z1, z2, z3, z4, scr, ts⟩, rfl, ⟨⟨l5, l6, hC5, hC6, fun t h => ⟨(ht t h).1, (ht t h).2.1⟩⟩, ⟨fun x hx => wfB (w5 x hx), ht⟩⟩, ?_⟩
  have b5' : (scr.map fun _ => 1).sum + 1 ≤ uptoBulk y5.1 := b5
  have b6' : (ts.map fun _ => 3).sum + 1 ≤ uptoBulk y6.1 := b6
  rw [sum_const] at b5' b6'
  simp only [uptoBulk, uptoBulkAll]
  show scr.length + 3 * ts.length ≤ _
  omega
end
end Go.Proofs.YtpjdgndbcjinjaaDoor.Pk
