/- An out that came in as an argument, its tones' numbers of their kinds; and the program's tables as the door lays them. -/
import Derived.Test.YtpjdgndbcjinjaaDoorIa
import Derived.Test.YtpjdgndbcjinjaaDoorTo
import Derived.Lib.SmallJoins
import Derived.Test.YtpjdgndbcjinjaaDoorRows
import Derived.Stop.LaidErr
import Derived.ProofKit
import Derived.LaidMore
import Derived.OpenShut
import Derived.Stop.Joined
import Derived.Lib.LaidTab
namespace Go.Proofs.YtpjdgndbcjinjaaDoor.Pk
open Go Go.RowKit Go.Proofs.YtpjdgndbcjinjaaDoorW.PrintWords Go.Proofs.YtpjdgndbcjinjaaDoorW.PrintLast Go.Proofs.YtpjdgndbcjinjaaDoorW.PrintMore Go.Proofs.YtpjdgndbcjinjaaDoor.Mem
open Go.ChangeShapes Go.WideShapes Go.ChangeAt
open Go.Proofs.YtpjdgndbcjinjaaDoor.Rows (uptoBulk uptoBulkAll uptoSmall)
set_option linter.unusedVariables false
set_option linter.unusedSimpArgs false
section
variable {H : Type} (enc : TypeId × Value → H) (W : World)
theorem out_argT {enc : TypeId × Value → H} {W : World} {v : Value} {d : DataW H} {p : List MemPlace} {base : Nat} (hv : Value.okWide Tryd.prog W .any base 27 v) (h : DataW.Trod enc Tryd.prog W 0 (fun _ => true) true 27 v d p) :
    ∃ A5 c5 A6 c6 o, v = outA A5 c5 A6 c6 o ∧ (OutV W A5 c5 A6 c6 o ∧ OutB o ∧ TnW o.ts) ∧ o.scr.length + 3 * o.ts.length ≤ uptoBulk d := by
  obtain ⟨cs, rfl, hs⟩ := okWide_struct Tryd.underlying27 hv
  rw [show Tryd.prog.cellsOf 27 = 7 by kernel_rfl] at hs
  obtain ⟨v0, v1, v2, v3, v4, v5, v6, rfl⟩ := array7 hs
  obtain ⟨fuel, hf⟩ := h
  obtain ⟨y0, y1, y2, y3, y4, y5, y6, n, hx, _, k0, k1, k2, k3, k4, k5, k6⟩ := trod_struct7 Tryd.underlying27 hf
  have hx' : d = .agg [y0.1, y1.1, y2.1, y3.1, y4.1, y5.1, y6.1] := hx
  subst hx'
  have c0 : Tryd.prog.cellsOf 22 = 1 := by kernel_rfl
  have c1 : Tryd.prog.cellsOf 23 = 1 := by kernel_rfl
  have c2 : Tryd.prog.cellsOf 3 = 1 := by kernel_rfl
  have c3 : Tryd.prog.cellsOf 24 = 1 := by kernel_rfl
  have c4 : Tryd.prog.cellsOf 25 = 1 := by kernel_rfl
  simp only [Value.cells, c0, c1, c2, c3, c4] at k0 k1 k2 k3 k4 k5 k6
  replace k0 : DataW.trod enc Tryd.prog W 0 (fun _ => true) true n 22 [v0] = some y0 := by simpa using k0
  replace k1 : DataW.trod enc Tryd.prog W 0 (fun _ => true) true n 23 [v1] = some y1 := by simpa using k1
  replace k2 : DataW.trod enc Tryd.prog W 0 (fun _ => true) true n 3 [v2] = some y2 := by simpa using k2
  replace k3 : DataW.trod enc Tryd.prog W 0 (fun _ => true) true n 3 [v3] = some y3 := by simpa using k3
  replace k4 : DataW.trod enc Tryd.prog W 0 (fun _ => true) true n 3 [v4] = some y4 := by simpa using k4
  replace k5 : DataW.trod enc Tryd.prog W 0 (fun _ => true) true n 24 [v5] = some y5 := by simpa using k5
  replace k6 : DataW.trod enc Tryd.prog W 0 (fun _ => true) true n 25 [v6] = some y6 := by simpa using k6
  obtain ⟨z0, e0, _⟩ := Op.Is.int (enc := enc) (W := W) (k := .i64) (P := Tryd.prog) (t := 22) (by kernel_rfl) _ _ _ k0
  obtain ⟨z1, e1, _⟩ := Op.Is.int (enc := enc) (W := W) (k := .i64) (P := Tryd.prog) (t := 23) (by kernel_rfl) _ _ _ k1
  obtain ⟨z2, e2, _⟩ := Op.Is.int (enc := enc) (W := W) (k := .i64) (P := Tryd.prog) (t := 3) (by kernel_rfl) _ _ _ k2
  obtain ⟨z3, e3, _⟩ := Op.Is.int (enc := enc) (W := W) (k := .i64) (P := Tryd.prog) (t := 3) (by kernel_rfl) _ _ _ k3
  obtain ⟨z4, e4, _⟩ := Op.Is.int (enc := enc) (W := W) (k := .i64) (P := Tryd.prog) (t := 3) (by kernel_rfl) _ _ _ k4
  obtain ⟨scr, e5, w5, b5⟩ := is_bytes enc W _ _ _ k5
  obtain ⟨ts, e6, w6, b6⟩ := is_tones enc W _ _ _ k6
  obtain rfl : v0 = .int .i64 z0 := (List.cons.inj (show [v0] = [Value.int .i64 z0] from e0)).1
  obtain rfl : v1 = .int .i64 z1 := (List.cons.inj (show [v1] = [Value.int .i64 z1] from e1)).1
  obtain rfl : v2 = .int .i64 z2 := (List.cons.inj (show [v2] = [Value.int .i64 z2] from e2)).1
  obtain rfl : v3 = .int .i64 z3 := (List.cons.inj (show [v3] = [Value.int .i64 z3] from e3)).1
  obtain rfl : v4 = .int .i64 z4 := (List.cons.inj (show [v4] = [Value.int .i64 z4] from e4)).1
  obtain ⟨A5, c5, rfl, l5, hC5⟩ := slice_k W e5
  obtain ⟨A6, c6, rfl, l6, hC6⟩ := slice_k W e6
  have ht : ∀ t ∈ ts, 0 ≤ t.2.1 ∧ t.2.1 ≤ 65535 ∧ isB t.2.2 := fun t ht => by
    have h := w6 t ht
    have h16 := h.2.1
    simp [Lit.wf] at h16
    rw [show IntKind.u16.min = 0 from rfl, show IntKind.u16.max = 65535 from rfl] at h16
    exact ⟨by omega, by omega, wfB h.2.2⟩
  have h64 : ∀ t ∈ ts, -9223372036854775808 ≤ t.1 ∧ t.1 ≤ 9223372036854775807 := fun t ht => by
    have h := (w6 t ht).1
    simp [Lit.wf] at h
    rw [show IntKind.i64.min = -9223372036854775808 from rfl] at h
    exact h
  refine ⟨A5, c5, A6, c6, ⟨z0, z1, z2, z3, z4, scr, ts⟩, rfl, ⟨⟨l5, l6, hC5, hC6, fun t h => ⟨(ht t h).1, (ht t h).2.1⟩⟩, ⟨fun x hx => wfB (w5 x hx), ht⟩, fun t h => ⟨h64 t h, ht t h⟩⟩, ?_⟩
  have b5' : (scr.map fun _ => 1).sum + 1 ≤ uptoBulk y5.1 := b5
  have b6' : (ts.map fun _ => 3).sum + 1 ≤ uptoBulk y6.1 := b6
  rw [sum_const] at b5' b6'
  simp only [uptoBulk, uptoBulkAll]
  show scr.length + 3 * ts.length ≤ _
  omega
end
end Go.Proofs.YtpjdgndbcjinjaaDoor.Pk
namespace Go.Proofs.YtpjdgndbcjinjaaDoor.LaidT
open Go Go.ChangeShapes Go.WideShapes Go.ChangeAt Go.RowKit
set_option linter.unusedVariables false
abbrev laid : List (String × DataW Unit) := [("math/bits.deBruijn32tab", Rows.laid_math_bits_deBruijn32tab), ("math/bits.deBruijn64tab", Rows.laid_math_bits_deBruijn64tab), ("internal/strconv.uint64pow10", Rows.laid_internal_strconv_uint64pow10), ("wisp/pack.table", Rows.laid_wisp_pack_table)]
theorem own : ownKnob Tryd.prog.godebug = none := by kernel_rfl
theorem laidOut : laidOutB Tryd.prog = true := by kernel_rfl
theorem gTab : Tryd.prog.globalNamed "wisp/pack.table" = some 0 := by kernel_rfl
theorem met (os : Os) (args : Array Value) : laidMetH Tryd.prog laid ((World.doorLaid Tryd.prog 400 os).forCall (fun _ _ => 0) ⟨#[], args, []⟩).memory :=
  laidMetH_of_parts3 (fuel := 8) (laidMet_of_run' 8 (by kernel_rfl) (by kernel_rfl)) (by kernel_rfl) (by kernel_rfl)
theorem tab {W : World} (h : laidMetH Tryd.prog laid W) : Pk.Tab W := by
  rw [MakeChecks.laidMetH_plain _ _ _ (by kernel_rfl)] at h
  have hT : Lib.TabIs Tryd.prog W "wisp/pack.table" .u32 Pk.tabI := Lib.tabIs_of_head (t := 74) (e := 28) (n := 16) gTab (by kernel_rfl) Tryd.underlying74 Tryd.underlying28 (by kernel_rfl) (by kernel_rfl) h.tail.tail.tail
  have hc : ∀ i : Nat, i < 16 → W.cell? ⟨0, i, none⟩ = some (.int .u32 (Go.Proofs.YtpjdgndbcjinjaaDoorW.PrintWords.rd Pk.tabI (i : Int))) := fun i hi => by
    have h1 := hT.cell gTab i (by simpa [Pk.tabI] using hi)
    rw [h1]
    simp [Go.Proofs.YtpjdgndbcjinjaaDoorW.PrintWords.rd]
  exact ⟨Nat.lt_of_le_of_lt (Nat.zero_le _) (World.block_lt_of_cell? _ _ (hc 0 (by decide))), hc⟩
theorem gPow : Tryd.prog.globalNamed "internal/strconv.uint64pow10" = some 2 := by kernel_rfl
theorem pow {W : World} (h : laidMetH Tryd.prog laid W) : Pk.Pow W.heap.size W := by
  rw [MakeChecks.laidMetH_plain _ _ _ (by kernel_rfl)] at h
  have h2 := h.tail.tail
  have e : (Rows.laid_internal_strconv_uint64pow10 : DataW Unit) = Lib.tabData .u64 Lib.pow10Tab := by rfl
  rw [e] at h2
  exact Lib.tabBelow_of_tabIs (Lib.tabIs_of_head (t := 96) (e := 80) (n := 20) gPow (by kernel_rfl) Tryd.underlying96 Tryd.underlying80 (by kernel_rfl) (by kernel_rfl) h2)
end Go.Proofs.YtpjdgndbcjinjaaDoor.LaidT
