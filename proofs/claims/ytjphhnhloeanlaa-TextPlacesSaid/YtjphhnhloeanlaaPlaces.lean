/- The places of offsets in a text (text.Places): what the program's function answers, and that it does; its range over the string by hand, the rest as the turned print tells it. -/
import Derived.Test.YtjphhnhloeanlaaPx0
import Derived.Test.YtjphhnhloeanlaaPx3
import Derived.WalkSmall
import Derived.Lib.OthersKept
namespace Go.Proofs.Ytjphhnhloeanlaa.P
open Go.RowKit Go.Proofs.YtjphhnhloeanlaaW.PrintWords Go.Proofs.YtjphhnhloeanlaaW.PrintLast Go.Proofs.YtjphhnhloeanlaaW.PrintMore Go.Proofs.Ytjphhnhloeanlaa.Mine
attribute [local go_sem] max2_int min2_int max_two min_two max_three min_three max_four min_four
set_option linter.unusedVariables false
set_option linter.unusedSimpArgs false
/-- Where lines begin in the first bytes of a text (but the first line). -/
def lnsTo (s : ByteArray) : Nat → List Int
  | 0 => []
  | n + 1 => lnsTo s n ++ (if bt s n = 10 then [(n : Int) + 1] else [])
def text_lines.f (s : ByteArray) (xs : List Int) : Option (List Int) := if s.size ≤ 1000000000000 then some (xs ++ lnsTo s s.size) else none
theorem text_lines_some {s : ByteArray} {xs r : List Int} (h : text_lines.f s xs = some r) : s.size ≤ 1000000000000 ∧ r = xs ++ lnsTo s s.size := by
  unfold text_lines.f at h
  split at h
  · exact ⟨‹_›, (Option.some.inj h).symm⟩
  · cases h
theorem lnsTo_length (s : ByteArray) (n : Nat) : (lnsTo s n).length ≤ n := by
  induction n with
  | zero => simp [lnsTo]
  | succ n ih => simp only [lnsTo, List.length_append]; split <;> simp <;> omega
theorem bt_lt (s : ByteArray) (i : Nat) (h : i < s.size) : bt s i = ((s[i]'h).toNat : Int) := by simp [bt, h]
theorem get_bt (s : ByteArray) (i : Nat) (h : i < s.size) : ((s.get! i).toNat : Int) = bt s i := by
  rw [bt_lt s i h]
  simp [ByteArray.get!, getElem!_pos, h]
  rfl
/-- A rune's bytes behind the first are none below 128; its number is 10 just if its first byte is. -/
theorem decode_shape (s : ByteArray) (pos : Nat) (h : pos < s.size) : (((Utf8.decode s pos).1 : Int) = 10 ↔ bt s pos = 10) ∧ 1 ≤ (Utf8.decode s pos).2 ∧ ∀ j, 1 ≤ j → j < (Utf8.decode s pos).2 → pos + j < s.size ∧ 128 ≤ bt s ((pos + j : Nat) : Int) := by
  by_cases ha : (s[pos]'h).toNat < 128
  · rw [decode_ascii s pos h ha, bt_lt s pos h]
    exact ⟨Iff.rfl, Nat.le_refl _, fun j h1 h2 => by simp at h2; omega⟩
  · have hh := decode_high s pos h (by omega)
    refine ⟨by rw [bt_lt s pos h]; omega, hh.2, ?_⟩
    intro j h1 h2
    have g : ∀ k, pos + k < s.size → (s.get! (pos + k)).toNat / 64 = 2 → pos + k < s.size ∧ 128 ≤ bt s ((pos + k : Nat) : Int) := fun k hk hc => ⟨hk, by rw [← get_bt s (pos + k) hk]; omega⟩
    revert h2
    unfold Utf8.decode
    dsimp only
    repeat' split
    all_goals intro h2
    all_goals simp only [Bool.and_eq_true, decide_eq_true_eq, beq_iff_eq] at *
    all_goals try omega
    · obtain rfl : j = 1 := by omega
      exact g 1 (by omega) (by omega)
    · obtain rfl | rfl : j = 1 ∨ j = 2 := by omega
      · exact g 1 (by omega) (by omega)
      · exact g 2 (by omega) (by omega)
    · obtain rfl | rfl | rfl : j = 1 ∨ j = 2 ∨ j = 3 := by omega
      · exact g 1 (by omega) (by omega)
      · exact g 2 (by omega) (by omega)
      · exact g 3 (by omega) (by omega)
theorem lnsTo_skip (s : ByteArray) (n d : Nat) (h : ∀ j, j < d → bt s ((n + j : Nat) : Int) ≠ 10) : lnsTo s (n + d) = lnsTo s n := by
  induction d with
  | zero => rfl
  | succ d ih =>
    show lnsTo s (n + d) ++ (if bt s ((n + d : Nat) : Int) = 10 then [((n + d : Nat) : Int) + 1] else []) = _
    rw [ih (fun j hj => h j (by omega)), if_neg (h d (by omega)), List.append_nil]
theorem lnsTo_step (s : ByteArray) (pos : Nat) (h : pos < s.size) : lnsTo s (pos + (Utf8.decode s pos).2) = lnsTo s pos ++ (if ((Utf8.decode s pos).1 : Int) = 10 then [(pos : Int) + 1] else []) := by
  obtain ⟨h1, h2, h3⟩ := decode_shape s pos h
  obtain ⟨d, hd⟩ : ∃ d, (Utf8.decode s pos).2 = d + 1 := ⟨(Utf8.decode s pos).2 - 1, by omega⟩
  rw [hd, show pos + (d + 1) = (pos + 1) + d by omega, lnsTo_skip s (pos + 1) d (fun j hj => by
    have := (h3 (1 + j) (by omega) (by omega)).2
    rw [show pos + 1 + j = pos + (1 + j) by omega]; omega)]
  show lnsTo s pos ++ _ = _
  by_cases c : bt s pos = 10
  · rw [if_pos c, if_pos (h1.2 c)]
  · rw [if_neg c, if_neg (mt h1.1 c)]
theorem pos_le (s : ByteArray) (pos : Nat) (h : pos < s.size) : pos + (Utf8.decode s pos).2 ≤ s.size := by
  obtain ⟨_, h2, h3⟩ := decode_shape s pos h
  by_cases c : (Utf8.decode s pos).2 = 1
  · omega
  · have := (h3 ((Utf8.decode s pos).2 - 1) (by omega) (by omega)).1
    omega
theorem iter_grown {α : Type} {d : Kd α} {e : Nat} {W w1 : World} {base : Nat} {ok : Nat → Prop} {v : Value} {xs : List α} {s : ByteArray} {p k : Nat} (h : d.R e W base ok v xs) (hk : W.heap[k]? = some (.stringIter s p)) (hg : W.grownBy w1 v.ownBlock) : w1.heap[k]? = some (.stringIter s p) := by
  rw [hg.block k (Array.getElem?_eq_some_iff.1 hk).1 (fun hv => by
    obtain ⟨c, hc⟩ := Kd.R_typed h k hv.symm
    rw [hk] at hc; cases hc)]
  exact hk
theorem R_iterAt {α : Type} {d : Kd α} {e : Nat} {w : World} {base : Nat} {v : Value} {xs : List α} {s : ByteArray} {p q k : Nat} (h : d.R e w base (fun _ => True) v xs) (hk : w.heap[k]? = some (.stringIter s p)) : d.R e (w.iterAt k s q) base (fun _ => True) v xs :=
  Kd.R_mono (Kd.R_step (Kd.R_bound h) (fun j hj _ => Lib.iterAt_other w k j s q (by
    rintro rfl
    obtain ⟨_, _, _, _, _, c, hc⟩ := hj
    rw [hk] at hc; cases hc))) (fun _ _ => trivial)
/-! ### text_Places: function 26 -/
def text_Places.l0 : Nat → ByteArray → List Int → List (S25) → List Int → Int → Int → Option ((List (S25)))
  | 0, _, _, _, _, _, _ => none
  | k + 1, x0, x5, x8, x27, x28, x29 => if x29 < x28 then (if 0 ≤ x29 then (if x29 < (x27.length : Int) then ((slices_BinarySearch_int_int.f k x5 (mn (mx (rd x27 x29) 0) (x0.size : Int))).bind fun bt125 => (if bt125.2 = true then (if 0 ≤ bt125.1 then (if bt125.1 < (x5.length : Int) then (if x8.length < 8796093022208 then (text_Places.l0 k x0 x5 (x8 ++ [(⟨wrap64 (bt125.1 + 1), wrap64 ((wrap64 ((mn (mx (rd x27 x29) 0) (x0.size : Int)) - (rd x5 bt125.1))) + 1)⟩ : S25)]) x27 x28 (wrap64 (x29 + 1))) else (none)) else (none)) else (none)) else (if 0 ≤ (wrap64 (bt125.1 - 1)) then (if (wrap64 (bt125.1 - 1)) < (x5.length : Int) then (if x8.length < 8796093022208 then (text_Places.l0 k x0 x5 (x8 ++ [(⟨wrap64 ((wrap64 (bt125.1 - 1)) + 1), wrap64 ((wrap64 ((mn (mx (rd x27 x29) 0) (x0.size : Int)) - (rd x5 (wrap64 (bt125.1 - 1))))) + 1)⟩ : S25)]) x27 x28 (wrap64 (x29 + 1))) else (none)) else (none)) else (none)))) else (none)) else (none)) else (some x8)
def text_Places.f (k : Nat) (a0 : ByteArray) (l1 : List Int) : Option ((List (S25))) := (text_lines.f a0 (([0] : List Int))).bind fun t121 => (text_Places.l0 k a0 t121 ([] : List (S25)) l1 (l1.length : Int) 0)
theorem text_Places.mono_l : ∀ k, (∀ y0 y1 y2 y3 y4 y5, LeO (text_Places.l0 k y0 y1 y2 y3 y4 y5) (text_Places.l0 (k + 1) y0 y1 y2 y3 y4 y5))
  | 0 => fun _ _ _ _ _ _ r h => by simp [text_Places.l0] at h
  | k + 1 => by
    have ih0 := text_Places.mono_l k
    · intro y0 y1 y2 y3 y4 y5
      unfold text_Places.l0
      repeat' first
      | (with_reducible exact ih0 _ _ _ _ _ _)
      | (with_reducible exact slices_BinarySearch_int_int.mono _ _ _)
      | (with_reducible exact LeO.refl _)
      | (with_reducible exact LeO.none _)
      | (with_reducible refine LeO.ite ?_ ?_)
      | (with_reducible refine LeO.bind ?_ (fun _ => ?_))
      | exact ih0 _ _ _ _ _ _
      | exact slices_BinarySearch_int_int.mono _ _ _
      | exact LeO.none _
      | refine LeO.ite ?_ ?_
      | refine LeO.bind ?_ (fun _ => ?_)
theorem text_Places.mono : ∀ a0 a1 k, LeO (text_Places.f k a0 a1) (text_Places.f (k + 1) a0 a1) := by
  intro a0 a1 k
  have ih0 := text_Places.mono_l k
  unfold text_Places.f
  repeat' first
      | (with_reducible exact ih0 _ _ _ _ _ _)
      | (with_reducible exact slices_BinarySearch_int_int.mono _ _ _)
      | (with_reducible exact LeO.refl _)
      | (with_reducible exact LeO.none _)
      | (with_reducible refine LeO.ite ?_ ?_)
      | (with_reducible refine LeO.bind ?_ (fun _ => ?_))
      | exact ih0 _ _ _ _ _ _
      | exact slices_BinarySearch_int_int.mono _ _ _
      | exact LeO.none _
      | refine LeO.ite ?_ ?_
      | refine LeO.bind ?_ (fun _ => ?_)
set_option maxHeartbeats 8000000 in
set_option maxRecDepth 100000 in
theorem text_Places.calls (k : Nat) (a0 : ByteArray) (A1 : Option Addr) (c1 : Nat) (l1 : List Int) (r : List (S25)) (w : World) (hr1 : Kd.C (Kd.int .i64) w A1 l1.length l1) (hc1 : l1.length ≤ c1) (h : text_Places.f k a0 l1 = some r) :
    Calls Try.prog 26 #[.string a0, .slice A1 l1.length c1] w fun e w' => ∃ v0_ : Value, e = .returned (v0_) ∧ Kd.R k25 25 w' w.heap.size (fun _ => True) v0_ r ∧ Below w.heap.size w w' := by
  have hu25 := Try.underlying25
  have HR1 := Aside0.mk hr1
  have HC1 := Aside0.mk hc1
  clear hr1 hc1
  have HB := Aside0.mk (Below.refl w.heap.size w)
  have H : ((text_lines.f a0 (([0] : List Int))).bind fun t121 => (text_Places.l0 k a0 t121 ([] : List (S25)) l1 (l1.length : Int) 0)) = some r := h
  clear h
  obtain ⟨y118, hy118⟩ : ∃ y_ : List Int, y_ = (([0] : List Int)) := ⟨_, rfl⟩
  replace H : ((text_lines.f a0 y118).bind fun t121 => (text_Places.l0 k a0 t121 ([] : List (S25)) l1 (l1.length : Int) 0)) = some r := by first | (rw [hy118]; with_reducible exact H) | (have H2_ := (Option.bind_some _ _).symm.trans H; rw [hy118]; with_reducible exact H2_) | (have H2_ := (Option.bind_some _ _).symm.trans H; with_reducible exact H2_) | with_reducible exact H | (rw [hy118]; exact H) | exact H
  have Ny118 := Aside0.mk hy118
  clear hy118
  replace H := Option.bind_eq_some_iff.mp H
  obtain ⟨t121, A30, H⟩ := H
  replace H : (text_Places.l0 k a0 t121 ([] : List (S25)) l1 (l1.length : Int) 0) = some r := H
  have A3 := Aside0.mk A30
  clear A30
  have H' := Aside0.mk H
  clear H
  go_enter Try.func26, Try.ntmps26
  go_wp2_with (first | ((with_reducible refine gate_dst (N := 13) rfl ?_); refine Kd.R_lit (Kd.int .i64) _ 3 ?hg (N := 13) ?hd (xs := ([0] : List Int)) (inner := [.int .i64 0]) (ok := fun _ => True) (okp := fun _ => True) ?hr ?hp (fun _ hk => hk) trivial (Below.refl _ _) (Nat.le_refl _) (by simp) ?_; (case hd => rfl); (case hg => rfl); (case hr => first | (go_simp; done) | (go_simp; rfl)); (case hp => exact (Reps.one (show Kd.M (Kd.int .i64) _ _ _ 0 [.int .i64 0] from rfl) (Reps.none _ _))); intro v119 w4 ho5 hb hg_ hnew_; clear hg_ hnew_; (first | rw [← Ny118.out] at ho5 | (simp only [Int.reduceToNat] at ho5; rw [← Ny118.out] at ho5)); have n0_ := Aside0.mk (Kd.R_lower ho5 (below_size (by repeat (first | (with_reducible first | exact HB.out | apply below_alloc | apply pw_below_drewN | apply below_drew1) | exact HB.out)))); have n1_ := Aside0.mk (below_step (by repeat (first | (with_reducible first | exact HB.out | apply below_alloc | apply pw_below_drewN | apply below_drew1) | exact HB.out)) hb); clear HB; have HO120 := n0_; have HB := n1_; clear n0_ n1_; clear hb ho5; obtain ⟨Ao6, co6, eo6⟩ := Kd.R_slice HO120.out; subst eo6))
  have HL4 := Aside0.mk (below_size HB.out)
  have HY := Ny118
  clear Ny118
  obtain ⟨hsz, ht121⟩ := text_lines_some A3.out
  have hrun := fun W : World => run_range_string (P := Try.prog) W 9 a0 Try.underlying9
  go_loopw [5] (fun v5 W' => ∃ pos : Nat, Aside0 (Kd.R (Kd.int .i64) 3 W' w.heap.size (fun _ => True) v5 (y118 ++ lnsTo a0 pos)) ∧ Aside0 (W'.heap[w4.heap.size]? = some (.stringIter a0 pos)) ∧ Aside0 (Below w.heap.size w W') ∧ pos ≤ a0.size)
    (fun _ W' => a0.size - W'.iterPos w4.heap.size)
  case atStart =>
    refine ⟨0, ⟨?_⟩, ⟨?_⟩, ⟨?_⟩, Nat.zero_le _⟩
    · rw [show y118 ++ lnsTo a0 0 = y118 from List.append_nil _]; exact Kd.R_alloc HO120.out (.stringIter a0 0)
    · exact World.iter_heap w4 a0 0
    · exact below_alloc HB.out _
  case round =>
    obtain ⟨pos, HR_5, HI_, HB, hp0⟩ := hrel
    by_cases hp : pos < a0.size
    · have ST := Aside0.mk (lnsTo_step a0 pos hp)
      have hle := pos_le a0 pos hp
      have LN := Aside0.mk (lnsTo_length a0 pos)
      have WD := Aside0.mk (decode_shape a0 pos hp).2.1
      have hnx : ∀ ty, (Instr.next (.pointer (some ⟨w4.heap.size, 0, none⟩)) true ty).run Try.prog wr = .ok (.tuple #[.bool true, .int .i64 pos, .int .i32 (Utf8.decode a0 pos).1]) (wr.iterAt w4.heap.size a0 (pos + (Utf8.decode a0 pos).2)) := fun ty => Lib.run_next_any_at wr w4.heap.size a0 pos ty HI_.out hp
      have HR2 := Aside0.mk (R_iterAt (q := pos + (Utf8.decode a0 pos).2) HR_5.out HI_.out)
      have HI2 := Aside0.mk (Lib.iterAt_heap wr w4.heap.size a0 pos (pos + (Utf8.decode a0 pos).2) HI_.out)
      have HB2 := Aside0.mk (Lib.below_iterAt HB.out HL4.out a0 (pos + (Utf8.decode a0 pos).2))
      have MS := Aside0.mk (iterPos_of HI_.out)
      generalize wr.iterAt w4.heap.size a0 (pos + (Utf8.decode a0 pos).2) = w5 at hnx HR2 HI2 HB2
      have HQ := Aside0.mk (show pos < pos + (Utf8.decode a0 pos).2 by have := WD.out; omega)
      generalize pos + (Utf8.decode a0 pos).2 = q at hle ST HI2 HQ
      generalize ((Utf8.decode a0 pos).1 : Int) = ru at hnx ST
      have HO_5 := HR2
      have HB5 := HB2
      have LM := Aside0.mk (show (y118 ++ lnsTo a0 pos).length < 1000000000009 by rw [HY.out]; have := LN.out; simp; omega)
      by_cases c : ru = 10
      · have c1 : (ru == 10) = true := beq_iff_eq.mpr c
        have SX := Aside0.mk (show lnsTo a0 q = lnsTo a0 pos ++ [(pos : Int) + 1] by rw [ST.out, if_pos c])
        clear ST c
        go_wp2_with (first | ((with_reducible refine gate_builtin (b := .append) (xs := #[.tmp 22, .tmp 25]) rfl ?_); at_builtin; refine Kd.R_append (Kd.int .i64) (w0 := w) w.heap.size rfl (.tmp 22) (.tmp 25) 66 3 (.int .i64 0) 8 rfl Try.underlying66 info3 rfl (by decide) (by omega) u5 (y118 ++ lnsTo a0 pos) ((pos : Int) + 1) [.int .i64 ((pos : Int) + 1)] (fun _ => True) (fun _ => False) rfl rfl ?aP (fun _ hk => hk.elim) ?aF ?aO ?aB ?aS ?aL ?_; (case aP => exact rfl); (case aB => exact HB5.out); (case aF => exact (fun _ _ => trivial)); (case aO => exact HO_5.out); (case aS => exact (below_size HB5.out)); (case aL => have := LM.out; omega); intro v244 w17 ho hb hg hat; have n0_ := Aside0.mk (hb); have n1_ := Aside0.mk (ho); have n2_ := Aside0.mk (iter_grown HO_5.out HI2.out hg); clear ho hb hg hat))
        go_roundw
        case rel => exact ⟨q, ⟨by rw [SX.out, ← List.append_assoc]; exact n1_.out⟩, n2_, n0_, hle⟩
        case measure => rw [MS.out, iterPos_of n2_.out]; have := WD.out; have := HQ.out; omega
      · have c1 : (ru == 10) = false := beq_eq_false_iff_ne.mpr c
        have SX := Aside0.mk (show lnsTo a0 q = lnsTo a0 pos by rw [ST.out, if_neg c, List.append_nil])
        clear ST c
        go_wp2
        go_roundw
        case rel => exact ⟨q, ⟨by rw [SX.out]; exact HO_5.out⟩, HI2, HB5, hle⟩
        case measure => rw [MS.out, iterPos_of HI2.out]; have := WD.out; have := HQ.out; omega
    · have hnx : ∀ ty, (Instr.next (.pointer (some ⟨w4.heap.size, 0, none⟩)) true ty).run Try.prog wr = .ok (.tuple #[.bool false]) wr := fun ty => Lib.run_next_end_at wr w4.heap.size a0 pos ty HI_.out hp
      have HO123 := Aside0.mk (show Kd.R (Kd.int .i64) 3 wr w.heap.size (fun _ => True) u5 t121 by rw [ht121, show a0.size = pos by omega]; exact HR_5.out)
      clear HR_5 HI_ HY A3 ht121 HL4
      go_wp2
      go_loopg [8, 29] k (fun kq v8 v29 w' => ∃ (x8_1 : List (S25)) (x29_1 : Int), v29 = .int .i64 x29_1 ∧ Aside0 (text_Places.l0 kq a0 t121 x8_1 l1 (l1.length : Int) x29_1 = some r) ∧ Aside0 (kq ≤ k) ∧ Aside0 (Kd.R (Kd.int .i64) 3 w' w.heap.size (fun _ => True) u5 t121) ∧ Aside0 (Kd.R k25 25 w' w.heap.size (fun _ => True) v8 x8_1) ∧ Aside0 (Below w.heap.size w w'))
      case atStart => exact ⟨(([] : List (S25))), (0), (by first | rfl | (simp; done) | (simp [*]; done)), H', ⟨Nat.le_refl _⟩, ⟨by (with_reducible repeat (first | apply Kd.R_alloc | apply Kd.R_drewN | apply Kd.R_drew)); exact Kd.R_mono HO123.out (fun _ hk => trivial)⟩, ⟨by first | exact Kd.R_nil _ _ _ _ _ | exact Kd.N_nil _ _ _ _ _ | exact Kd.V_nil _ _ _ _ _ | exact Kd.Q_nil _ _ _ _ _ | exact Kd.S_nil _ _ _ _ _⟩, ⟨by repeat (first | (with_reducible first | exact HB.out | apply below_alloc | apply pw_below_drewN | apply below_drew1) | exact HB.out)⟩⟩
      case round =>
        clear H'
        try clear c1
        try clear c2
        try clear p2
        obtain ⟨x8_1, x29_1, rfl, HA, HK1, HO_5, HO_8, HB⟩ := hrel
        cases gk with
        | zero => exact absurd HA.out (by simp [text_Places.l0])
        | succ k1 =>
          have H := HA.out
          clear HA
          simp only [text_Places.l0] at H
          by_cases c8 : x29_1 < (l1.length : Int)
          · rw [if_pos c8] at H
            have c8b0 : decide (x29_1 < (l1.length : Int)) = true := decide_eq_true c8
            clear c8
            by_cases c9 : 0 ≤ x29_1
            · rw [if_pos c9] at H
              have c9b0 : decide (0 ≤ x29_1) = true := decide_eq_true c9
              clear c9
              by_cases c10 : x29_1 < (l1.length : Int)
              · rw [if_pos c10] at H
                have c10b0 : decide (x29_1 < (l1.length : Int)) = true := decide_eq_true c10
                clear c10
                obtain ⟨ji11, hji11⟩ : ∃ j_ : Int, (mx (rd l1 x29_1) 0) = j_ := ⟨_, rfl⟩
                replace H : ((slices_BinarySearch_int_int.f k1 t121 (mn (ji11) (a0.size : Int))).bind fun bt125 => (if bt125.2 = true then (if 0 ≤ bt125.1 then (if bt125.1 < (t121.length : Int) then (if x8_1.length < 8796093022208 then (text_Places.l0 k1 a0 t121 (x8_1 ++ [(⟨wrap64 (bt125.1 + 1), wrap64 ((wrap64 ((mn (ji11) (a0.size : Int)) - (rd t121 bt125.1))) + 1)⟩ : S25)]) l1 (l1.length : Int) (wrap64 (x29_1 + 1))) else (none)) else (none)) else (none)) else (if 0 ≤ (wrap64 (bt125.1 - 1)) then (if (wrap64 (bt125.1 - 1)) < (t121.length : Int) then (if x8_1.length < 8796093022208 then (text_Places.l0 k1 a0 t121 (x8_1 ++ [(⟨wrap64 ((wrap64 (bt125.1 - 1)) + 1), wrap64 ((wrap64 ((mn (ji11) (a0.size : Int)) - (rd t121 (wrap64 (bt125.1 - 1))))) + 1)⟩ : S25)]) l1 (l1.length : Int) (wrap64 (x29_1 + 1))) else (none)) else (none)) else (none)))) = some r := by first | (rw [hji11] at H; exact H) | (simp only [hji11] at H ⊢; exact H)
                have hji11_ : (if (rd l1 x29_1) < 0 then 0 else (rd l1 x29_1)) = ji11 := hji11
                obtain ⟨ji12, hji12⟩ : ∃ j_ : Int, (mn (ji11) (a0.size : Int)) = j_ := ⟨_, rfl⟩
                replace H : ((slices_BinarySearch_int_int.f k1 t121 (ji12)).bind fun bt125 => (if bt125.2 = true then (if 0 ≤ bt125.1 then (if bt125.1 < (t121.length : Int) then (if x8_1.length < 8796093022208 then (text_Places.l0 k1 a0 t121 (x8_1 ++ [(⟨wrap64 (bt125.1 + 1), wrap64 ((wrap64 ((ji12) - (rd t121 bt125.1))) + 1)⟩ : S25)]) l1 (l1.length : Int) (wrap64 (x29_1 + 1))) else (none)) else (none)) else (none)) else (if 0 ≤ (wrap64 (bt125.1 - 1)) then (if (wrap64 (bt125.1 - 1)) < (t121.length : Int) then (if x8_1.length < 8796093022208 then (text_Places.l0 k1 a0 t121 (x8_1 ++ [(⟨wrap64 ((wrap64 (bt125.1 - 1)) + 1), wrap64 ((wrap64 ((ji12) - (rd t121 (wrap64 (bt125.1 - 1))))) + 1)⟩ : S25)]) l1 (l1.length : Int) (wrap64 (x29_1 + 1))) else (none)) else (none)) else (none)))) = some r := by first | (rw [hji12] at H; exact H) | (simp only [hji12] at H ⊢; exact H)
                have hji12_ : (if (a0.size : Int) < (ji11) then (a0.size : Int) else (ji11)) = ji12 := hji12
                replace H := Option.bind_eq_some_iff.mp H
                obtain ⟨⟨t125, t126⟩, A130, H⟩ := H
                replace H : (if t126 = true then (if 0 ≤ t125 then (if t125 < (t121.length : Int) then (if x8_1.length < 8796093022208 then (text_Places.l0 k1 a0 t121 (x8_1 ++ [(⟨wrap64 (t125 + 1), wrap64 ((wrap64 ((ji12) - (rd t121 t125))) + 1)⟩ : S25)]) l1 (l1.length : Int) (wrap64 (x29_1 + 1))) else (none)) else (none)) else (none)) else (if 0 ≤ (wrap64 (t125 - 1)) then (if (wrap64 (t125 - 1)) < (t121.length : Int) then (if x8_1.length < 8796093022208 then (text_Places.l0 k1 a0 t121 (x8_1 ++ [(⟨wrap64 ((wrap64 (t125 - 1)) + 1), wrap64 ((wrap64 ((ji12) - (rd t121 (wrap64 (t125 - 1))))) + 1)⟩ : S25)]) l1 (l1.length : Int) (wrap64 (x29_1 + 1))) else (none)) else (none)) else (none))) = some r := H
                have A13 := Aside0.mk A130
                clear A130
                by_cases c14 : t126 = true
                · subst c14
                  have H1 : (if 0 ≤ t125 then (if t125 < (t121.length : Int) then (if x8_1.length < 8796093022208 then (text_Places.l0 k1 a0 t121 (x8_1 ++ [(⟨wrap64 (t125 + 1), wrap64 ((wrap64 ((ji12) - (rd t121 t125))) + 1)⟩ : S25)]) l1 (l1.length : Int) (wrap64 (x29_1 + 1))) else (none)) else (none)) else (none)) = some r := by rw [if_pos rfl] at H; exact H
                  clear H
                  have H := H1
                  clear H1
                  by_cases c15 : 0 ≤ t125
                  · rw [if_pos c15] at H
                    have c15b0 : decide (0 ≤ t125) = true := decide_eq_true c15
                    clear c15
                    by_cases c16 : t125 < (t121.length : Int)
                    · rw [if_pos c16] at H
                      have c16b0 : decide (t125 < (t121.length : Int)) = true := decide_eq_true c16
                      clear c16
                      by_cases c17 : x8_1.length < 8796093022208
                      · rw [if_pos c17] at H
                        have LMc17 := Aside0.mk c17
                        clear c17
                        obtain ⟨y128, hy128⟩ : ∃ y_ : List (S25), y_ = (x8_1 ++ [(⟨wrap64 (t125 + 1), wrap64 ((wrap64 ((ji12) - (rd t121 t125))) + 1)⟩ : S25)]) := ⟨_, rfl⟩
                        replace H : (text_Places.l0 k1 a0 t121 y128 l1 (l1.length : Int) (wrap64 (x29_1 + 1))) = some r := by first | (rw [hy128]; with_reducible exact H) | (have H2_ := (Option.bind_some _ _).symm.trans H; rw [hy128]; with_reducible exact H2_) | (have H2_ := (Option.bind_some _ _).symm.trans H; with_reducible exact H2_) | with_reducible exact H | (rw [hy128]; exact H) | exact H
                        have Ny128 := Aside0.mk hy128
                        clear hy128
                        have H' := Aside0.mk H
                        clear H
                        have p124 : 0 ≤ (x29_1 : Int) := of_decide_eq_true (by first | (with_reducible assumption) | assumption)
                        have q124 : x29_1 < (l1.length : Int) := of_decide_eq_true (by first | (with_reducible assumption) | assumption)
                        obtain ⟨ad124, e124, hx124_0⟩ := Kd.at_int HR1.out x29_1 p124 q124
                        cases e124
                        replace hx124_0 := (HB.out.cell (World.block_lt_of_cell? w _ hx124_0)).trans hx124_0
                        replace p124 := eq_true p124
                        replace q124 := eq_true q124
                        obtain ⟨Ao18, co18, eo18⟩ := Kd.R_slice HO_5.out
                        subst eo18
                        go_wp2_with (first | ((with_reducible refine gate_callee (f := 45) rfl ?_); refine goesL_ (some 41) rfl rfl Try.func45 (by kernel_rfl) rfl #[.slice Ao18 t121.length co18, .int .i64 ji12] rfl (by (try simp only [List.map_toArray, List.map_cons, List.map_nil]); first | done | (simp only [hji12]; rfl) | rfl | (simp only [List.length_drop, List.length_take]; rfl)) ?_; (with_reducible refine (slices_BinarySearch_int_int.calls k1 _ _ t121 ji12 t125 true _ ?side1 ?side2 A13.out).mono ?_); (case side1 => repeat (first | exact (Kd.R_reads' HO_5.out).2.2 | (with_reducible refine Kd.C_alloc ?_ _) | (with_reducible refine Kd.C_drewN ?_ _) | (with_reducible refine Kd.C_drew ?_))); (case side2 => exact (Kd.R_reads' HO_5.out).2.1); rintro e w' ⟨rfl, ⟨nd, rfl⟩⟩; refine ⟨_, rfl, ?_⟩; have p127 : 0 ≤ (t125 : Int) := of_decide_eq_true (by first | (with_reducible assumption) | assumption); have q127 : t125 < (t121.length : Int) := of_decide_eq_true (by first | (with_reducible assumption) | assumption); obtain ⟨ad127, e127, hx127_0⟩ := Kd.at_int (Kd.R_reads' HO_5.out).2.2 t125 p127 q127; cases e127; replace p127 := eq_true p127; replace q127 := eq_true q127) | ((with_reducible refine gate_builtin (b := .append) (xs := #[.tmp 48, .tmp 59]) rfl ?_); at_builtin; refine Kd.R_append k25 (w0 := w) w.heap.size rfl (.tmp 48) (.tmp 59) 57 25 (.agg #[(.int .i64 0), (.int .i64 0)]) 16 rfl Try.underlying57 info25 rfl (by decide) (by omega) u8 x8_1 (⟨wrap64 (t125 + 1), wrap64 ((wrap64 ((ji12) - (rd t121 t125))) + 1)⟩ : S25) [.int .i64 (wrap64 (t125 + 1)), .int .i64 (wrap64 ((wrap64 ((ji12) - (rd t121 t125))) + 1))] (fun _ => True) (fun _ => False) rfl rfl ?aP (fun _ hk => hk.elim) ?aF ?aO ?aB ?aS ?aL ?_; (case aP => exact k25_mkM _ _ _ (⟨wrap64 (t125 + 1), wrap64 ((wrap64 ((ji12) - (rd t121 t125))) + 1)⟩ : S25)); (case aB => exact (by repeat (first | (with_reducible first | exact HB.out | apply below_alloc | apply pw_below_drewN | apply below_drew1) | exact HB.out))); (case aF => exact (fun _ _ => trivial)); (case aO => exact (by (with_reducible repeat (first | apply Kd.R_alloc | apply Kd.R_drewN | apply Kd.R_drew)); exact HO_8.out)); (case aS => exact (below_size (by repeat (first | (with_reducible first | exact HB.out | apply below_alloc | apply pw_below_drewN | apply below_drew1) | exact HB.out)))); (case aL => have := LMc17.out; omega); intro v129 w19 ho hb hg hat; rw [← Ny128.out] at ho; have n0_ := Aside0.mk (Kd.R_over' (by (with_reducible repeat (first | apply Kd.R_alloc | apply Kd.R_drewN | apply Kd.R_drew)); exact HO_5.out) (Kd.R_typed (by (with_reducible repeat (first | apply Kd.R_alloc | apply Kd.R_drewN | apply Kd.R_drew)); exact HO_8.out)) (by decide) hg); have n1_ := Aside0.mk (hb); have n2_ := Aside0.mk (ho); clear HO_5; clear HB; clear HO_8; have HO_5 := n0_; have HB := n1_; have HO130 := n2_; clear n0_ n1_ n2_; clear ho hb hg hat))
                        go_roundg k1
                        case measure => have := HK1.out; omega
                        case rel => exact ⟨(y128), (wrap64 (x29_1 + 1)), (by first | rfl | (simp; done) | (simp [*]; done)), H', ⟨by have := HK1.out; omega⟩, ⟨by (with_reducible repeat (first | apply Kd.R_alloc | apply Kd.R_drewN | apply Kd.R_drew)); exact HO_5.out⟩, ⟨by (with_reducible repeat (first | apply Kd.R_alloc | apply Kd.R_drewN | apply Kd.R_drew)); exact HO130.out⟩, ⟨by repeat (first | (with_reducible first | exact HB.out | apply below_alloc | apply pw_below_drewN | apply below_drew1) | exact HB.out)⟩⟩
                      · rw [if_neg c17] at H
                        exact absurd H (by simp)
                    · rw [if_neg c16] at H
                      exact absurd H (by simp)
                  · rw [if_neg c15] at H
                    exact absurd H (by simp)
                · replace c14 := Bool.eq_false_iff.mpr c14
                  subst c14
                  have H1 : (if 0 ≤ (wrap64 (t125 - 1)) then (if (wrap64 (t125 - 1)) < (t121.length : Int) then (if x8_1.length < 8796093022208 then (text_Places.l0 k1 a0 t121 (x8_1 ++ [(⟨wrap64 ((wrap64 (t125 - 1)) + 1), wrap64 ((wrap64 ((ji12) - (rd t121 (wrap64 (t125 - 1))))) + 1)⟩ : S25)]) l1 (l1.length : Int) (wrap64 (x29_1 + 1))) else (none)) else (none)) else (none)) = some r := by rw [if_neg (show ¬ (false = true) by decide)] at H; exact H
                  clear H
                  have H := H1
                  clear H1
                  obtain ⟨ji20, hji20⟩ : ∃ j_ : Int, (wrap64 (t125 - 1)) = j_ := ⟨_, rfl⟩
                  replace H : (if 0 ≤ (ji20) then (if (ji20) < (t121.length : Int) then (if x8_1.length < 8796093022208 then (text_Places.l0 k1 a0 t121 (x8_1 ++ [(⟨wrap64 ((ji20) + 1), wrap64 ((wrap64 ((ji12) - (rd t121 (ji20)))) + 1)⟩ : S25)]) l1 (l1.length : Int) (wrap64 (x29_1 + 1))) else (none)) else (none)) else (none)) = some r := by first | (rw [hji20] at H; exact H) | (simp only [hji20] at H ⊢; exact H)
                  (try rw [hji20] at A13)
                  have hji20w : (IntKind.i64.wrap (t125 - 1)) = ji20 := (i64_w _).trans hji20
                  by_cases c21 : 0 ≤ (ji20)
                  · rw [if_pos c21] at H
                    have c21b0 : decide (0 ≤ (ji20)) = true := decide_eq_true c21
                    clear c21
                    by_cases c22 : (ji20) < (t121.length : Int)
                    · rw [if_pos c22] at H
                      have c22b0 : decide ((ji20) < (t121.length : Int)) = true := decide_eq_true c22
                      clear c22
                      by_cases c23 : x8_1.length < 8796093022208
                      · rw [if_pos c23] at H
                        have LMc23 := Aside0.mk c23
                        clear c23
                        obtain ⟨y132, hy132⟩ : ∃ y_ : List (S25), y_ = (x8_1 ++ [(⟨wrap64 ((ji20) + 1), wrap64 ((wrap64 ((ji12) - (rd t121 (ji20)))) + 1)⟩ : S25)]) := ⟨_, rfl⟩
                        replace H : (text_Places.l0 k1 a0 t121 y132 l1 (l1.length : Int) (wrap64 (x29_1 + 1))) = some r := by first | (rw [hy132]; with_reducible exact H) | (have H2_ := (Option.bind_some _ _).symm.trans H; rw [hy132]; with_reducible exact H2_) | (have H2_ := (Option.bind_some _ _).symm.trans H; with_reducible exact H2_) | with_reducible exact H | (rw [hy132]; exact H) | exact H
                        have Ny132 := Aside0.mk hy132
                        clear hy132
                        have H' := Aside0.mk H
                        clear H
                        have p124 : 0 ≤ (x29_1 : Int) := of_decide_eq_true (by first | (with_reducible assumption) | assumption)
                        have q124 : x29_1 < (l1.length : Int) := of_decide_eq_true (by first | (with_reducible assumption) | assumption)
                        obtain ⟨ad124, e124, hx124_0⟩ := Kd.at_int HR1.out x29_1 p124 q124
                        cases e124
                        replace hx124_0 := (HB.out.cell (World.block_lt_of_cell? w _ hx124_0)).trans hx124_0
                        replace p124 := eq_true p124
                        replace q124 := eq_true q124
                        obtain ⟨Ao24, co24, eo24⟩ := Kd.R_slice HO_5.out
                        subst eo24
                        go_wp2_with (first | ((with_reducible refine gate_callee (f := 45) rfl ?_); refine goesL_ (some 41) rfl rfl Try.func45 (by kernel_rfl) rfl #[.slice Ao24 t121.length co24, .int .i64 ji12] rfl (by (try simp only [List.map_toArray, List.map_cons, List.map_nil]); first | done | (simp only [hji12]; rfl) | rfl | (simp only [List.length_drop, List.length_take]; rfl)) ?_; (with_reducible refine (slices_BinarySearch_int_int.calls k1 _ _ t121 ji12 t125 false _ ?side1 ?side2 A13.out).mono ?_); (case side1 => repeat (first | exact (Kd.R_reads' HO_5.out).2.2 | (with_reducible refine Kd.C_alloc ?_ _) | (with_reducible refine Kd.C_drewN ?_ _) | (with_reducible refine Kd.C_drew ?_))); (case side2 => exact (Kd.R_reads' HO_5.out).2.1); rintro e w' ⟨rfl, ⟨nd, rfl⟩⟩; refine ⟨_, rfl, ?_⟩; have p131 : 0 ≤ ((ji20) : Int) := of_decide_eq_true (by first | (with_reducible assumption) | assumption); have q131 : (ji20) < (t121.length : Int) := of_decide_eq_true (by first | (with_reducible assumption) | assumption); obtain ⟨ad131, e131, hx131_0⟩ := Kd.at_int (Kd.R_reads' HO_5.out).2.2 (ji20) p131 q131; cases e131; replace p131 := eq_true p131; replace q131 := eq_true q131) | ((with_reducible refine gate_builtin (b := .append) (xs := #[.tmp 48, .tmp 59]) rfl ?_); at_builtin; refine Kd.R_append k25 (w0 := w) w.heap.size rfl (.tmp 48) (.tmp 59) 57 25 (.agg #[(.int .i64 0), (.int .i64 0)]) 16 rfl Try.underlying57 info25 rfl (by decide) (by omega) u8 x8_1 (⟨wrap64 ((ji20) + 1), wrap64 ((wrap64 ((ji12) - (rd t121 (ji20)))) + 1)⟩ : S25) [.int .i64 (wrap64 ((ji20) + 1)), .int .i64 (wrap64 ((wrap64 ((ji12) - (rd t121 (ji20)))) + 1))] (fun _ => True) (fun _ => False) rfl rfl ?aP (fun _ hk => hk.elim) ?aF ?aO ?aB ?aS ?aL ?_; (case aP => exact k25_mkM _ _ _ (⟨wrap64 ((ji20) + 1), wrap64 ((wrap64 ((ji12) - (rd t121 (ji20)))) + 1)⟩ : S25)); (case aB => exact (by repeat (first | (with_reducible first | exact HB.out | apply below_alloc | apply pw_below_drewN | apply below_drew1) | exact HB.out))); (case aF => exact (fun _ _ => trivial)); (case aO => exact (by (with_reducible repeat (first | apply Kd.R_alloc | apply Kd.R_drewN | apply Kd.R_drew)); exact HO_8.out)); (case aS => exact (below_size (by repeat (first | (with_reducible first | exact HB.out | apply below_alloc | apply pw_below_drewN | apply below_drew1) | exact HB.out)))); (case aL => have := LMc23.out; omega); intro v133 w25 ho hb hg hat; rw [← Ny132.out] at ho; have n0_ := Aside0.mk (Kd.R_over' (by (with_reducible repeat (first | apply Kd.R_alloc | apply Kd.R_drewN | apply Kd.R_drew)); exact HO_5.out) (Kd.R_typed (by (with_reducible repeat (first | apply Kd.R_alloc | apply Kd.R_drewN | apply Kd.R_drew)); exact HO_8.out)) (by decide) hg); have n1_ := Aside0.mk (hb); have n2_ := Aside0.mk (ho); clear HO_5; clear HB; clear HO_8; have HO_5 := n0_; have HB := n1_; have HO134 := n2_; clear n0_ n1_ n2_; clear ho hb hg hat))
                        go_roundg k1
                        case measure => have := HK1.out; omega
                        case rel => exact ⟨(y132), (wrap64 (x29_1 + 1)), (by first | rfl | (simp; done) | (simp [*]; done)), H', ⟨by have := HK1.out; omega⟩, ⟨by (with_reducible repeat (first | apply Kd.R_alloc | apply Kd.R_drewN | apply Kd.R_drew)); exact HO_5.out⟩, ⟨by (with_reducible repeat (first | apply Kd.R_alloc | apply Kd.R_drewN | apply Kd.R_drew)); exact HO134.out⟩, ⟨by repeat (first | (with_reducible first | exact HB.out | apply below_alloc | apply pw_below_drewN | apply below_drew1) | exact HB.out)⟩⟩
                      · rw [if_neg c23] at H
                        exact absurd H (by simp)
                    · rw [if_neg c22] at H
                      exact absurd H (by simp)
                  · rw [if_neg c21] at H
                    exact absurd H (by simp)
              · rw [if_neg c10] at H
                exact absurd H (by simp)
            · rw [if_neg c9] at H
              exact absurd H (by simp)
          · rw [if_neg c8] at H
            have c8b0 : decide (x29_1 < (l1.length : Int)) = false := decide_eq_false c8
            clear c8
            obtain rfl := Option.some.inj H
            go_wp2
            go_ret
            exact ⟨_, by first | rfl | (simp [errW_none, errW_some] <;> rfl) | (simp [*, errW_none, errW_some] <;> rfl), by (with_reducible repeat (first | apply Kd.R_alloc | apply Kd.R_drewN | apply Kd.R_drew)); exact HO_8.out, by repeat (first | (with_reducible first | exact HB.out | apply below_alloc | apply pw_below_drewN | apply below_drew1) | exact HB.out)⟩
    
    end Go.Proofs.Ytjphhnhloeanlaa.P
