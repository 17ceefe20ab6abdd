/- strconv.AppendInt at base 10, by the library's contract, laid at this program in plain words (lay-shelf.mjs, lay-plain.mjs; then shell.py). -/
import Derived.Shelf.LaysM
import Derived.Shelf.Strconv.AppendIntPublic10
import Derived.Test.YtpjdgndbcjinjaaDoorProg
namespace Go.Proofs.YtpjdgndbcjinjaaDoor.Sh
open Go.Shelf
def laysM176_ren : Go.Shelf.Ren := ⟨fun | 176 => 26 | 249 => 37 | 288 => 43 | 283 => 46 | 284 => 47 | 285 => 48 | 286 => 49 | 129 => 51 | 317 => 50 | 318 => 52 | 319 => 53 | 320 => 54 | 337 => 55 | 338 => 56 | n => n, fun | 37 => 24 | 2 => 2 | 3 => 3 | 53 => 80 | 4 => 4 | 9 => 9 | 171 => 89 | 0 => 0 | 173 => 92 | 212 => 96 | 51 => 28 | 5 => 5 | 20 => 20 | 213 => 97 | 46 => 70 | 232 => 101 | 233 => 102 | n => n, fun | 17 => 2 | 18 => 3 | 19 => 4 | n => n⟩
theorem laysM176 : Go.Proofs.LaysM.n176 Tryd.prog laysM176_ren := {
  mixed := by kernel_rfl
  f129 := Tryd.func51.trans (congrArg some (by kernel_rfl))
  f176 := Tryd.func26.trans (congrArg some (by kernel_rfl))
  f249 := Tryd.func37.trans (congrArg some (by kernel_rfl))
  f283 := Tryd.func46.trans (congrArg some (by kernel_rfl))
  f284 := Tryd.func47.trans (congrArg some (by kernel_rfl))
  f285 := Tryd.func48.trans (congrArg some (by kernel_rfl))
  f286 := Tryd.func49.trans (congrArg some (by kernel_rfl))
  f288 := Tryd.func43.trans (congrArg some (by kernel_rfl))
  f317 := Tryd.func50.trans (congrArg some (by kernel_rfl))
  f318 := Tryd.func52.trans (congrArg some (by kernel_rfl))
  f319 := Tryd.func53.trans (congrArg some (by kernel_rfl))
  f320 := Tryd.func54.trans (congrArg some (by kernel_rfl))
  f337 := Tryd.func55.trans (congrArg some (by kernel_rfl))
  f338 := Tryd.func56.trans (congrArg some (by kernel_rfl))
  t0 := Tryd.underlying0
  a0 := Tryd.isAgg0
  z0 := Tryd.sizeOf0
  v0 := Tryd.zeroValue0
  t2 := Tryd.underlying2
  a2 := Tryd.isAgg2
  z2 := Tryd.sizeOf2
  v2 := Tryd.zeroValue2
  t3 := Tryd.underlying3
  a3 := Tryd.isAgg3
  z3 := Tryd.sizeOf3
  v3 := Tryd.zeroValue3
  t4 := Tryd.underlying4
  a4 := Tryd.isAgg4
  z4 := Tryd.sizeOf4
  v4 := Tryd.zeroValue4
  t5 := Tryd.underlying5
  a5 := Tryd.isAgg5
  z5 := Tryd.sizeOf5
  v5 := Tryd.zeroValue5
  t9 := Tryd.underlying9
  a9 := Tryd.isAgg9
  z9 := Tryd.sizeOf9
  v9 := Tryd.zeroValue9
  t20 := Tryd.underlying20
  a20 := Tryd.isAgg20
  z20 := Tryd.sizeOf20
  v20 := Tryd.zeroValue20
  t37 := Tryd.underlying24
  a37 := Tryd.isAgg24
  z37 := Tryd.sizeOf24
  v37 := Tryd.zeroValue24
  t46 := Tryd.underlying70
  a46 := Tryd.isAgg70
  z46 := Tryd.sizeOf70
  v46 := Tryd.zeroValue70
  t51 := Tryd.underlying28
  a51 := Tryd.isAgg28
  z51 := Tryd.sizeOf28
  v51 := Tryd.zeroValue28
  t53 := Tryd.underlying80
  a53 := Tryd.isAgg80
  z53 := Tryd.sizeOf80
  v53 := Tryd.zeroValue80
  t171 := Tryd.underlying89
  a171 := Tryd.isAgg89
  z171 := Tryd.sizeOf89
  v171 := Tryd.zeroValue89
  t173 := Tryd.underlying92
  a173 := Tryd.isAgg92
  z173 := Tryd.sizeOf92
  v173 := Tryd.zeroValue92
  t212 := Tryd.underlying96
  a212 := Tryd.isAgg96
  z212 := Tryd.sizeOf96
  v212 := Tryd.zeroValue96
  t213 := Tryd.underlying97
  a213 := Tryd.isAgg97
  z213 := Tryd.sizeOf97
  t232 := Tryd.underlying101
  a232 := Tryd.isAgg101
  z232 := Tryd.sizeOf101
  v232 := Tryd.zeroValue101
  t233 := Tryd.underlying102
  a233 := Tryd.isAgg102
  z233 := Tryd.sizeOf102
  v233 := Tryd.zeroValue102
  g17 := by kernel_rfl
  g18 := by kernel_rfl
  g19 := by kernel_rfl
  i0 := by kernel_rfl
  i2 := by kernel_rfl
  i3 := by kernel_rfl
  i4 := by kernel_rfl
  i5 := by kernel_rfl
  i9 := by kernel_rfl
  i20 := by kernel_rfl
  i37 := by kernel_rfl
  i46 := by kernel_rfl
  i51 := by kernel_rfl
  i53 := by kernel_rfl
  i171 := by kernel_rfl
  i173 := by kernel_rfl
  i212 := by kernel_rfl
  i232 := by kernel_rfl
  i233 := by kernel_rfl
  m17 := by kernel_rfl
  m18 := by kernel_rfl
  m19 := by kernel_rfl }
open Go.RowKit Go.Sort Go.Lib in
theorem strconv_AppendInt_10 (B n : Nat) (i : Int) (h0 : -9223372036854775808 ≤ i) (h1 : i ≤ 9223372036854775807) (sv : Value) (xs : List Value) (w : World) (hown : w.ownsRow B 5 1 sv n xs) (hBw : B ≤ w.heap.size) (hlim : n + 21 ≤ 140737488355328) (htab : Lib.TabBelow Tryd.prog B w "internal/strconv.uint64pow10" .u64 Lib.pow10Tab) :
    Calls Tryd.prog 26 #[sv, .int .i64 i, .int .i64 10] w fun e w' => ∃ v', e = .returned v' ∧ w'.ownsRow B 5 1 v' (n + (Lib.itoa i).length) (xs ++ Lib.byteCells (Lib.itoa i)) ∧ Below B w w' ∧ Lib.OthersKept 5 none w w' := Any.strconv_AppendInt_10 laysM176 B n i h0 h1 sv xs w hown hBw hlim htab
end Go.Proofs.YtpjdgndbcjinjaaDoor.Sh
