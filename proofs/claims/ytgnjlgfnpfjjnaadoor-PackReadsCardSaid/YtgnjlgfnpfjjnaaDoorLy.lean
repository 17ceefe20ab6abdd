/- The document's forms (wispref03.Low, wispref03.Number): their contracts; a row that grows by one byte. -/
import Derived.Test.YtgnjlgfnpfjjnaaDoorRo
import Derived.Test.YtgnjlgfnpfjjnaaDoorCs
namespace Go.Proofs.YtgnjlgfnpfjjnaaDoor.Pk
open Go.RowKit Go.Proofs.YtgnjlgfnpfjjnaaDoorW.PrintWords Go.Proofs.YtgnjlgfnpfjjnaaDoorW.PrintLast Go.Proofs.YtgnjlgfnpfjjnaaDoorW.PrintMore Go.Proofs.YtgnjlgfnpfjjnaaDoor.Mem
set_option linter.unusedVariables false
set_option linter.unusedSimpArgs false
/-- a row of one's own, and one byte behind it -/
theorem appOne {ops : Array Oper} {Q : Exit → Act → World → Prop} {o : Oper} {rest : List Oper} {a : Act} {w0 W : World} (base : Nat) (v : Value) (xs : List Int) (y : Int) (hgd : o.guard = none) (s x : Operand)
    (ho : o.op = .call { callee := .builtin .append, args := #[s, x], argTypes := #[23, 23] }) (hs : a.eval s = v) (hx : a.eval x = .slice (some ⟨W.heap.size, 0, none⟩) 1 1)
    (HO : Kd.R (Kd.int .u8) 5 W base (fun _ => True) v xs) (HB : Below base w0 W) (hbase : base ≤ W.heap.size) (hl : xs.length + 1 ≤ 140737488355328)
    (h : ∀ v1 w1, Kd.R (Kd.int .u8) 5 w1 base (fun _ => True) v1 (xs ++ [y]) → Below base w0 w1 → wpList Tryd.prog ops Q rest (a.put o.dst v1) w1) : wpList Tryd.prog ops Q (o :: rest) a (W.alloc (.cells #[.int .u8 y] 5)) :=
  Kd.R_append (Kd.int .u8) (w0 := w0) base hgd s x 23 5 (.int .u8 0) 1 ho Tryd.underlying23 infoB rfl (by decide) (by decide) v xs y [.int .u8 y] (fun _ => True) (fun _ => False) hs hx rfl (fun _ hk => hk.elim) (fun _ _ => trivial) HO HB hbase (by omega) (fun v1 w1 h1 h2 _ _ => h v1 w1 h1 h2)
/-- the lowest k bytes of a number -/
def lowI : Nat → Int → List Int
  | 0, _ => []
  | k + 1, x => x % 256 :: lowI k (x / 256)
theorem lowI_len : ∀ k x, (lowI k x).length = k
  | 0, _ => rfl
  | k + 1, x => by simp [lowI, lowI_len k]
set_option maxRecDepth 100000 in
set_option maxHeartbeats 4000000 in
theorem Low (w : World) (x : Int) (k : Nat) (hx0 : 0 ≤ x) (hx1 : x ≤ 18446744073709551615) (hk : k ≤ 8) :
    Calls Tryd.prog 31 #[.int .u64 x, .int .i64 (k : Int)] w fun e w' => ∃ v, e = .returned v ∧ Kd.R (Kd.int .u8) 5 w' w.heap.size (fun _ => True) v (lowI k x) ∧ Below w.heap.size w w' := by
  go_enter Tryd.func31, Tryd.ntmps31
  go_wp2
  go_loopg [0, 5, 6] k (fun gk v0 v5 v6 wr => ∃ (i : Nat) (y : Int) (v : Value) (pre : List Int), v5 = v ∧ v0 = .int .u64 y ∧ v6 = .int .i64 (i : Int) ∧ 0 ≤ y ∧ y ≤ 18446744073709551615 ∧ i + gk = k ∧ Aside0 (pre ++ lowI gk y = lowI k x) ∧ Aside0 (Kd.R (Kd.int .u8) 5 wr w.heap.size (fun _ => True) v pre) ∧ Aside0 (Below w.heap.size w wr))
  case atStart => exact ⟨0, x, _, [], rfl, rfl, rfl, hx0, hx1, by omega, ⟨rfl⟩, ⟨Kd.R_nil _ _ _ _ _⟩, ⟨Below.refl _ _⟩⟩
  case round =>
    obtain ⟨i, y, v3, pre, hv3, rfl, rfl, hy0, hy1, hi, hp, hR, hb⟩ := hrel
    replace hv3 := hv3.symm
    subst hv3
    cases gk with
    | zero =>
      have hd : decide ((i : Int) < (k : Int)) = false := decide_eq_false (by omega)
      have hd' : decide (i < k) = false := decide_eq_false (by omega)
      go_wp2
      go_ret
      refine ⟨v3, rfl, ?_, hb.out⟩
      have h1 := hp.out
      simp only [lowI, List.append_nil] at h1
      rw [← h1]; exact hR.out
    | succ k1 =>
      have hd : decide ((i : Int) < (k : Int)) = true := decide_eq_true (by omega)
      have hd' : decide (i < k) = true := decide_eq_true (by omega)
      have hs := hb.out.size
      have hpl : Aside0 (pre.length + 1 ≤ 140737488355328) := ⟨by
        have h1 := congrArg List.length hp.out
        simp only [List.length_append, lowI_len] at h1
        omega⟩
      go_wp2_with (at_builtin; refine appOne (w0 := w) w.heap.size v3 pre (y % 256) rfl _ _ rfl rfl rfl hR.out hb.out hs hpl.out ?_; intro v1 w1 ho hbl; have ho1 := Aside0.mk ho; have hb1 := Aside0.mk hbl; clear ho hbl)
      go_roundg k1
      case measure => omega
      case rel => exact ⟨i + 1, y / 256, v1, pre ++ [y % 256], rfl, rfl, rfl, by omega, by omega, by omega, ⟨by rw [← hp.out]; simp [lowI]⟩, ho1, hb1⟩
theorem or_128 : ∀ b : Fin 256, Go.bits .or .u8 (b.val : Int) 128 = (b.val : Int) % 128 + 128 := by decide +kernel
theorem or128 (x : Int) : Go.bits .or .u8 (x % 256) 128 = x % 128 + 128 := by
  obtain ⟨n, hn⟩ := Int.eq_ofNat_of_zero_le (show 0 ≤ x % 256 by omega)
  have h := or_128 ⟨n, by omega⟩
  rw [hn]
  simp only at h
  rw [h]
  omega
set_option maxRecDepth 100000 in
set_option maxHeartbeats 4000000 in
theorem RefNumber (w : World) (n : Int) :
    Calls Tryd.prog 34 #[.int .i64 n] w fun e w' => ∃ v, e = .returned v ∧ Kd.R (Kd.int .u8) 5 w' w.heap.size (fun _ => True) v (numOf n) ∧ Below w.heap.size w w' := by
  obtain ⟨N, hN⟩ : ∃ N, N = n % 4294967296 := ⟨_, rfl⟩
  have hN0 : 0 ≤ N := by omega
  have hN1 : N < 4294967296 := by omega
  have hNN := Aside0.mk hN
  have hP : Aside0 (N < 16 * (128 : Int) ^ 4) := ⟨by rw [show (16 * (128 : Int) ^ 4) = 4294967296 by decide]; exact hN1⟩
  have hx : IntKind.u32.wrap n = N := by rw [IntKind.wrap_u32]; exact hN.symm
  clear hN
  go_enter Tryd.func34, Tryd.ntmps34
  go_wp2
  go_loopg [3, 4] 4 (fun gk v3 v4 wr => ∃ (x : Int) (v : Value) (pre : List Int), v4 = v ∧ v3 = .int .u64 x ∧ 0 ≤ x ∧ x < 4294967296 ∧ Aside0 (x < 16 * (128 : Int) ^ gk) ∧ Aside0 (pre ++ vl gk x = vl 4 N) ∧ Aside0 (pre.length + gk = 4) ∧ Aside0 (Kd.R (Kd.int .u8) 5 wr w.heap.size (fun _ => True) v pre) ∧ Aside0 (Below w.heap.size w wr))
  case atStart => exact ⟨N, _, [], rfl, rfl, hN0, hN1, hP, ⟨rfl⟩, ⟨rfl⟩, ⟨Kd.R_nil _ _ _ _ _⟩, ⟨Below.refl _ _⟩⟩
  case round =>
    obtain ⟨x, v4, pre, hv4, rfl, hx0, hx1, hp, hv, hpl, hR, hb⟩ := hrel
    replace hv4 := hv4.symm
    subst hv4
    have hs := hb.out.size
    have hl1 : Aside0 (pre.length + 1 ≤ 140737488355328) := ⟨by have := hpl.out; omega⟩
    by_cases hc : x ≥ 128
    · cases gk with
      | zero => exact absurd hp.out (by rw [Int.pow_zero]; omega)
      | succ k1 =>
        have hd : decide (x ≥ 128) = true := decide_eq_true hc
        go_wp2_with (at_builtin; refine appOne (w0 := w) w.heap.size v4 pre (x % 128 + 128) rfl _ _ rfl rfl rfl hR.out hb.out hs hl1.out ?_; intro v1 w1 ho hbl; have ho1 := Aside0.mk ho; have hb1 := Aside0.mk hbl; clear ho hbl)
        go_roundg k1
        case measure => omega
        case rel => exact ⟨x / 128, v1, pre ++ [x % 128 + 128], rfl, rfl, by omega, by omega, ⟨pow_step k1 x hx0 hp.out⟩, ⟨by rw [← hv.out]; simp only [vl]; rw [if_pos hc, or128, List.append_assoc]; rfl⟩, ⟨by have := hpl.out; simp; omega⟩, ho1, hb1⟩
    · have hd : decide (x ≥ 128) = false := decide_eq_false hc
      have hvx : vl gk x = [x] := by
        have e : x % 256 = x := by omega
        cases gk with
        | zero => simp only [vl]; rw [e]
        | succ k1 => simp only [vl]; rw [if_neg hc, e]
      have hvv := Aside0.mk hvx
      clear hvx
      go_wp2_with (at_builtin; refine appOne (w0 := w) w.heap.size v4 pre x rfl _ _ rfl rfl rfl hR.out hb.out hs hl1.out ?_; intro v1 w1 ho hbl; have ho1 := Aside0.mk ho; have hb1 := Aside0.mk hbl; clear ho hbl)
      go_ret
      refine ⟨v1, rfl, ?_, hb1.out⟩
      have h7 := ho1.out
      rw [← hvv.out, hv.out, hNN.out] at h7
      exact h7
end Go.Proofs.YtgnjlgfnpfjjnaaDoor.Pk
