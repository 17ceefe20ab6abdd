import Derived.RangeFuncBox
import Derived.RangeFuncLeaves
import Derived.RangeFuncNested
import Derived.Shelf.Abstract
import Derived.WalkKit
import Derived.OwnWalkIn
import Derived.TacticsInMore
import Derived.LoopNIn
import Derived.LoopIn
import Derived.Maps.AppendAt
import Derived.Sort.EveryDepth
import Derived.RegionIn
import Derived.Shelf.RegionOpen
import Derived.Sort.QuietIn
import Derived.Test.YtpjdgndbcjinjaaDoorPx0
import Derived.Test.YtpjdgndbcjinjaaDoorWWords
import Derived.Test.YtpjdgndbcjinjaaDoorWMore
namespace Go.Proofs.YtpjdgndbcjinjaaDoor.P
open Go.RowKit Go.Shelf Go.Proofs.YtpjdgndbcjinjaaDoorW.PrintWords
attribute [local go_sem] Oper.semAt_some
set_option linter.unusedVariables false
set_option linter.unusedSimpArgs false

def rl (x : Int) : Nat → List Int → Nat
  | 0, _ => 0
  | _, [] => 0
  | k + 1, y :: ys => if y = x then rl x k ys + 1 else 0
theorem rl_le (x : Int) : ∀ k l, rl x k l ≤ l.length
  | 0, _ => by simp [rl]
  | _ + 1, [] => by simp [rl]
  | k + 1, y :: ys => by simp only [rl]; split <;> simp [rl_le x k ys]
theorem rl_le_k (x : Int) : ∀ k l, rl x k l ≤ k
  | 0, _ => by simp [rl]
  | _ + 1, [] => by simp [rl]
  | k + 1, y :: ys => by simp only [rl]; split <;> simp [rl_le_k x k ys]
/-- the runs -/
def runsOf : Nat → List Int → List (Nat × Int)
  | 0, _ => []
  | _, [] => []
  | k + 1, x :: t => (rl x 255 t + 1, x) :: runsOf k (t.drop (rl x 255 t))
theorem runsOf_fuel : ∀ (k m : Nat) (l : List Int), l.length ≤ k → l.length ≤ m → runsOf k l = runsOf m l
  | 0, m, [], _, _ => by cases m <;> rfl
  | k + 1, 0, [], _, _ => rfl
  | k + 1, m + 1, [], _, _ => rfl
  | 0, m, _ :: _, h, _ => by simp at h
  | k + 1, 0, _ :: _, _, h => by simp at h
  | k + 1, m + 1, x :: t, h, h' => by
    simp only [runsOf]; rw [runsOf_fuel k m _ (by simp at *; omega) (by simp at *; omega)]
theorem runsOf_len : ∀ (k : Nat) (l : List Int), (runsOf k l).length ≤ l.length
  | 0, _ => by simp [runsOf]
  | _ + 1, [] => by simp [runsOf]
  | k + 1, x :: t => by have := runsOf_len k (t.drop (rl x 255 t)); simp [runsOf] at *; omega
/-- how far: the loop's end tells the run -/
theorem rl_of (x : Int) : ∀ (k : Nat) (l : List Int) (m : Nat), m ≤ k → m ≤ l.length → (∀ i, i < m → l.getD i 0 = x) → (m = k ∨ m = l.length ∨ l.getD m 0 ≠ x) → rl x k l = m
  | 0, l, m, h, _, _, _ => by simp [rl]; omega
  | k + 1, [], m, _, h, _, _ => by simp [rl] at *; omega
  | k + 1, y :: ys, 0, _, _, _, h => by
    simp only [rl]; rw [if_neg]
    rcases h with h | h | h
    · omega
    · simp at h
    · simpa using h
  | k + 1, y :: ys, m + 1, h1, h2, h3, h4 => by
    simp only [rl]
    rw [if_pos (by simpa using h3 0 (by omega)), rl_of x k ys m (by omega) (by simpa using h2) (fun i hi => by simpa using h3 (i + 1) (by omega)) (by simpa using h4)]

def lenAt (W : World) (B : Nat) : Nat := match W.cell? ⟨B, 0, none⟩ with
  | some (.slice _ n _) => n
  | _ => 0
theorem lenAt_eq {W : World} {B : Nat} {t : TypeId} {A : Option Addr} {n c : Nat} (h : Boxed W B t (.slice A n c)) : lenAt W B = n := by simp [lenAt, h.cell]

abbrev FF (D : Nat) : Fence := Fence.list [25, 32, 36, 42] (some D)
theorem run_step {rest : List Int} {m : Nat} (hml : m ≤ rest.length) (hm1 : 1 ≤ m) (hm2 : m ≤ 256) (hall : ∀ i < m, rest.getD i 0 = rest.getD 0 0) (hend : m = 256 ∨ m = rest.length ∨ rd rest m ≠ rd rest 0) :
    runsOf rest.length rest = (m, rd rest 0) :: runsOf (rest.drop m).length (rest.drop m) := by
  cases rest with
  | nil => simp at hml; omega
  | cons x t =>
    have hr : rl x 255 t = m - 1 := rl_of x 255 t (m - 1) (by omega) (by simp at hml; omega) (fun i hi => by simpa using hall (i + 1) (by omega)) (by
      rcases hend with h | h | h
      · left; omega
      · right; left; simp at h; omega
      · right; right
        obtain ⟨k, rfl⟩ : ∃ k, m = k + 1 := ⟨m - 1, by omega⟩
        have e : (((k + 1 : Nat) : Int)).toNat = k + 1 := by omega
        simp only [rd, e] at h
        simpa using h)
    obtain ⟨k, rfl⟩ : ∃ k, m = k + 1 := ⟨m - 1, by omega⟩
    simp only [List.length_cons, runsOf, hr, List.drop_succ_cons, Nat.add_sub_cancel]
    rw [runsOf_fuel t.length (t.drop k).length _ (by simp) (Nat.le_refl _)]
    simp [rd]
theorem cut_ex {w0 : World} {A : Option Addr} {c m : Nat} {rest : List Int} (hC : Kd.C (Kd.int .u8) w0 A rest.length rest) (hc : rest.length ≤ c) (hm : m ≤ rest.length) :
    ∃ A', (∀ W : World, (Instr.slice 24 (.slice A rest.length c) (some (.int .i64 (m : Int))) none none).run Tryd.prog W = .ok (.slice A' (rest.length - m) (c - m)) W) ∧ Kd.C (Kd.int .u8) w0 A' (rest.drop m).length (rest.drop m) := by
  obtain ⟨i0, hi, hz0, hz1, hz2⟩ := info_parts info5
  refine ⟨_, fun W => ?_, Kd.C_drop hC hm hc⟩
  have := cut_from (P := Tryd.prog) 24 5 .i64 Tryd.underlying24 hi 1 hz1 A rest.length c m (by omega) (by omega) W
  rw [Int.toNat_natCast] at this
  exact this
theorem wrap_succ {m : Nat} (h : m < 256) : wrap64 ((m : Int) + 1) = ((m + 1 : Nat) : Int) := by unfold wrap64; omega
theorem v_succ (m : Nat) : Value.int .i64 ((m : Int) + 1) = Value.int .i64 ((m + 1 : Nat) : Int) := by rw [Int.natCast_succ]
theorem m_succ {m : Nat} (h : m < 256) : 256 - (intOf (Value.int .i64 ((m : Int) + 1))).toNat < 256 - (intOf (Value.int .i64 (m : Int))).toNat := by
  simp only [intOf]; omega
theorem pre_lt {s rest : List Int} {pre : List (Nat × Int)} {r : Nat × Int} {q : List (Nat × Int)} (hrun : runsOf s.length s = pre ++ runsOf rest.length rest) (hru : runsOf rest.length rest = r :: q) : pre.length < s.length := by
  have := runsOf_len s.length s; rw [hrun, hru] at this; simp at this; omega
theorem run_next {s rest : List Int} {pre : List (Nat × Int)} {r : Nat × Int} {q : List (Nat × Int)} (hrun : runsOf s.length s = pre ++ runsOf rest.length rest) (hru : runsOf rest.length rest = r :: q) : runsOf s.length s = (pre ++ [r]) ++ q := by
  rw [hrun, hru]; simp
theorem drop_le {rest : List Int} {m c : Nat} (h : rest.length ≤ c) : (rest.drop m).length ≤ c - m := by rw [List.length_drop]; omega
theorem drop_le' {rest : List Int} {m c : Nat} (h : rest.length ≤ c) : (rest.drop m).length ≤ c := by rw [List.length_drop]; omega
theorem sub_lt' {a b : Nat} (h : 1 ≤ b) (h2 : b ≤ a) : a - b < a := by omega
theorem m_eq {m : Nat} (h : m ≤ 256) (h2 : (256 : Int) ≤ (m : Int)) : m = 256 := by omega
theorem all_succ {rest : List Int} {m : Nat} (hall : ∀ i < m, rest.getD i 0 = rest.getD 0 0) (h3 : rd rest m = rd rest 0) : ∀ i < m + 1, rest.getD i 0 = rest.getD 0 0 := fun i hi => by
  rcases Nat.lt_or_ge i m with h | h
  · exact hall i h
  · obtain rfl : i = m := by omega
    simpa [rd] using h3
/-- What a round keeps. -/
def KpB (n₀ Bn : Nat) (A B : World) : Prop := Below n₀ A B ∧ B.heap[Bn]? = A.heap[Bn]?

set_option maxRecDepth 100000 in
set_option maxHeartbeats 4000000 in
theorem runs1_in (D : Nat) (n : Nat) (hn : 1 ≤ n) (l Bn : Nat) (w0 : World) (A0 : Option Addr) (c0 : Nat) (s : List Int) (hC : Kd.C (Kd.int .u8) w0 A0 s.length s) (hc0 : s.length ≤ c0)
    (J : List (Nat × Int) → World → Prop) (B0 : Nat) (hJa : AbidesFrom B0 J) (hJb : ∀ pre W v, J pre W → J pre (W.setCell ⟨Bn, 0, none⟩ v)) (hBw : w0.heap.size ≤ Bn)
    (hY : ∀ pre x W, J pre W → pre.length < s.length → YieldAt (FF D) (n - 1) Tryd.prog l #[.int .i64 (x.1 : Int), .int .u8 x.2] W fun e W' =>
      (e = .returned (.bool true) ∧ J (pre ++ [x]) W' ∧ KpB w0.heap.size Bn W W') ∨ (e = .returned (.bool false) ∧ False))
    (W : World) (hBn : Boxed W Bn 24 (.slice A0 s.length c0)) (hB : Below w0.heap.size w0 W) (h0 : J [] W) :
    CallsIn (FF D) n Tryd.prog 42 #[.func (.yield l) #[] #[], .pointer (some ⟨Bn, 0, none⟩)] W fun e W' => (∃ v, e = .returned v) ∧ ∃ ys, ys = runsOf s.length s ∧ J ys W' := by
  have hmx : Tryd.prog.follows .mixedOrders = true := by kernel_rfl
  refine callsIn_of_wp Tryd.func42 rfl (by simp [Fence.list]) ?_ rfl
  simp only [Tryd.ntmps42, List.size_toArray, List.length_cons, List.length_nil, Nat.reduceAdd, Nat.reduceSub, Array.replicate_succ, Array.replicate_zero, List.push_toArray, List.append_toArray, List.nil_append, List.cons_append]
  gi_wp2
  gi_loopw [3] (fun _ wr => ∃ (pre : List (Nat × Int)) (rest : List Int) (A : Option Addr) (c : Nat), Boxed wr Bn 24 (.slice A rest.length c) ∧ rest.length ≤ c ∧ rest.length ≤ s.length ∧ Kd.C (Kd.int .u8) w0 A rest.length rest ∧ runsOf s.length s = pre ++ runsOf rest.length rest ∧ Below w0.heap.size w0 wr ∧ J pre wr)
    (fun _ wr => lenAt wr Bn)
  case atStart =>
    exact ⟨[], s, A0, c0, hBn, hc0, Nat.le_refl _, hC, rfl, hB, h0⟩
  case round =>
    obtain ⟨pre, rest, A, c, hbx, hcc, hrs, hCr, hrun, hBr, hJr⟩ := hrel
    have hcell := hbx.cell
    have hlm := lenAt_eq hbx
    by_cases hr0 : 0 < rest.length
    · have hpos : decide (0 < rest.length) = true := decide_eq_true hr0
      gi_wp2
      obtain ⟨wo, rfl⟩ : ∃ wo : World, wo = wr := ⟨_, rfl⟩
      gi_loopw [3] (fun v wi => ∃ m : Nat, v = .int .i64 (m : Int) ∧ 1 ≤ m ∧ m ≤ rest.length ∧ m ≤ 256 ∧ (∀ i < m, rest.getD i 0 = rest.getD 0 0) ∧ Boxed wi Bn 24 (.slice A rest.length c) ∧ Below w0.heap.size w0 wi ∧ J pre wi)
        (fun v _ => 256 - (intOf v).toNat)
      case atStart =>
        exact ⟨1, rfl, Nat.le_refl _, hr0, by omega, fun i hi => by rw [show i = 0 by omega], hbx, hBr, hJr⟩
      case round =>
        obtain ⟨m, rfl, hm1, hml, hm2, hall, hbi, hBi, hJi⟩ := hrel
        have hci := hbi.cell
        obtain ⟨a0, e0, hx0⟩ := Kd.at_int hCr 0 (by omega) (by omega)
        obtain rfl := e0
        replace hx0 := (hBi.cell (World.block_lt_of_cell? _ _ hx0)).trans hx0
        rw [show a0.add (Int.toNat 0) = a0 from by simp [Addr.add]] at hx0
        by_cases h1 : m < rest.length
        · have d1 : decide (m < rest.length) = true := decide_eq_true h1
          obtain ⟨a1, e1, hx1⟩ := Kd.at_int hCr m (by omega) (by omega)
          obtain rfl := Option.some.inj e1
          replace hx1 := (hBi.cell (World.block_lt_of_cell? _ _ hx1)).trans hx1
          rw [Int.toNat_natCast] at hx1
          by_cases h2 : (m : Int) < 256
          · have d2 : decide ((m : Int) < 256) = true := decide_eq_true h2
            have hm256 : m < 256 := by clear hci hx1 hx0 hbi hBi hJi d1 d2 hall; omega
            have hw := wrap_succ hm256
            by_cases h3 : rd rest m = rd rest 0
            · have d3 : (rd rest m == rd rest 0) = true := beq_iff_eq.mpr h3
              gi_wp2
              gi_quiet (fail)
              gi_wp2
              go_roundw
              case rel =>
                refine ⟨m + 1, ?_, Nat.le_add_left 1 m, h1, Nat.succ_le_of_lt hm256, all_succ hall h3, hbi, pw_below_drewN hBi nq, hJa pre _ _ none hJi ⟨rfl, rfl, rfl, Nat.le_refl _, fun _ _ _ => rfl⟩ (fun _ e => by cases e)⟩
                exact v_succ m
              case measure => exact m_succ hm256
            · have d3 : (rd rest m == rd rest 0) = false := beq_eq_false_iff_ne.mpr h3
              gi_wp2
              gi_quiet (fail)
              have hendm : (m = 256 ∨ m = rest.length ∨ rd rest m ≠ rd rest 0) := .inr (.inr h3)
              obtain ⟨A', hcut, hCd⟩ := cut_ex hCr hcc hml
              have hby : Boxed (wr.drewN nq) Bn 24 (.slice (some a0) rest.length c) := hbi
              have hBy : Below w0.heap.size w0 (wr.drewN nq) := pw_below_drewN hBi nq
              have hJy : J pre (wr.drewN nq) := hJa pre _ _ none hJi ⟨rfl, rfl, rfl, Nat.le_refl _, fun _ _ _ => rfl⟩ (fun _ e => by cases e)
              have hxy : (wr.drewN nq).cell? a0 = some (.int .u8 (rd rest 0)) := hx0
              have hcy := hby.cell
              have hru := run_step hml hm1 hm2 hall hendm
              have hpl : pre.length < s.length := pre_lt hrun hru
              clear hx0 hci hbi hBi hJi hcell hbx hBr hJr
              generalize wr.drewN nq = wy at hby hBy hJy hxy hcy ⊢
              obtain ⟨fn, tmps, assign, body, hy, hR⟩ := hY pre (m, rd rest 0) wy hJy hpl
              gi_wp2
              refine hR.mono ?_
              rintro e W3 (⟨rfl, hJ3, hB3, hk3⟩ | ⟨_, hF⟩)
              · have hb3 : Boxed W3 Bn 24 (.slice (some a0) rest.length c) := hk3.trans hby
                have hc3 := hb3.cell
                have hf3 := hb3.frozen
                gi_wp2
                have hs3 := hb3.set (.slice A' (rest.length - m) (c - m))
                refine ⟨⟨pre ++ [(m, rd rest 0)], rest.drop m, A', c - m, ?_, drop_le hcc, drop_le' hrs, hCd, run_next hrun hru, (hBy.trans hB3).setCell (p := ⟨Bn, 0, none⟩) hBw _, hJb _ _ _ hJ3⟩, ?_⟩
                · rw [List.length_drop]; exact hs3
                · rw [lenAt_eq hs3, hlm]; exact sub_lt' hm1 hml
              · exact hF.elim
          · have d2 : decide ((m : Int) < 256) = false := decide_eq_false h2
            gi_wp2
            gi_quiet (fail)
            have hendm : (m = 256 ∨ m = rest.length ∨ rd rest m ≠ rd rest 0) := .inl (m_eq hm2 h2)
            obtain ⟨A', hcut, hCd⟩ := cut_ex hCr hcc hml
            have hby : Boxed (wr.drewN nq) Bn 24 (.slice (some a0) rest.length c) := hbi
            have hBy : Below w0.heap.size w0 (wr.drewN nq) := pw_below_drewN hBi nq
            have hJy : J pre (wr.drewN nq) := hJa pre _ _ none hJi ⟨rfl, rfl, rfl, Nat.le_refl _, fun _ _ _ => rfl⟩ (fun _ e => by cases e)
            have hxy : (wr.drewN nq).cell? a0 = some (.int .u8 (rd rest 0)) := hx0
            have hcy := hby.cell
            have hru := run_step hml hm1 hm2 hall hendm
            have hpl : pre.length < s.length := pre_lt hrun hru
            clear hx0 hci hbi hBi hJi hcell hbx hBr hJr
            generalize wr.drewN nq = wy at hby hBy hJy hxy hcy ⊢
            obtain ⟨fn, tmps, assign, body, hy, hR⟩ := hY pre (m, rd rest 0) wy hJy hpl
            gi_wp2
            refine hR.mono ?_
            rintro e W3 (⟨rfl, hJ3, hB3, hk3⟩ | ⟨_, hF⟩)
            · have hb3 : Boxed W3 Bn 24 (.slice (some a0) rest.length c) := hk3.trans hby
              have hc3 := hb3.cell
              have hf3 := hb3.frozen
              gi_wp2
              have hs3 := hb3.set (.slice A' (rest.length - m) (c - m))
              refine ⟨⟨pre ++ [(m, rd rest 0)], rest.drop m, A', c - m, ?_, drop_le hcc, drop_le' hrs, hCd, run_next hrun hru, (hBy.trans hB3).setCell (p := ⟨Bn, 0, none⟩) hBw _, hJb _ _ _ hJ3⟩, ?_⟩
              · rw [List.length_drop]; exact hs3
              · rw [lenAt_eq hs3, hlm]; exact sub_lt' hm1 hml
            · exact hF.elim
        · have d1 : decide (m < rest.length) = false := decide_eq_false h1
          gi_wp2
          gi_quiet (fail)
          have hendm : (m = 256 ∨ m = rest.length ∨ rd rest m ≠ rd rest 0) := .inr (.inl (Nat.le_antisymm hml (Nat.le_of_not_lt h1)))
          obtain ⟨A', hcut, hCd⟩ := cut_ex hCr hcc hml
          have hby : Boxed (wr.drewN nq) Bn 24 (.slice (some a0) rest.length c) := hbi
          have hBy : Below w0.heap.size w0 (wr.drewN nq) := pw_below_drewN hBi nq
          have hJy : J pre (wr.drewN nq) := hJa pre _ _ none hJi ⟨rfl, rfl, rfl, Nat.le_refl _, fun _ _ _ => rfl⟩ (fun _ e => by cases e)
          have hxy : (wr.drewN nq).cell? a0 = some (.int .u8 (rd rest 0)) := hx0
          have hcy := hby.cell
          have hru := run_step hml hm1 hm2 hall hendm
          have hpl : pre.length < s.length := pre_lt hrun hru
          clear hx0 hci hbi hBi hJi hcell hbx hBr hJr
          generalize wr.drewN nq = wy at hby hBy hJy hxy hcy ⊢
          obtain ⟨fn, tmps, assign, body, hy, hR⟩ := hY pre (m, rd rest 0) wy hJy hpl
          gi_wp2
          refine hR.mono ?_
          rintro e W3 (⟨rfl, hJ3, hB3, hk3⟩ | ⟨_, hF⟩)
          · have hb3 : Boxed W3 Bn 24 (.slice (some a0) rest.length c) := hk3.trans hby
            have hc3 := hb3.cell
            have hf3 := hb3.frozen
            gi_wp2
            have hs3 := hb3.set (.slice A' (rest.length - m) (c - m))
            refine ⟨⟨pre ++ [(m, rd rest 0)], rest.drop m, A', c - m, ?_, drop_le hcc, drop_le' hrs, hCd, run_next hrun hru, (hBy.trans hB3).setCell (p := ⟨Bn, 0, none⟩) hBw _, hJb _ _ _ hJ3⟩, ?_⟩
            · rw [List.length_drop]; exact hs3
            · rw [lenAt_eq hs3, hlm]; exact sub_lt' hm1 hml
          · exact hF.elim
    · have hneg : decide (0 < rest.length) = false := decide_eq_false hr0
      gi_wp2
      go_end0
      obtain rfl : rest = [] := List.eq_nil_of_length_eq_zero (by omega)
      exact ⟨⟨_, rfl⟩, pre, by rw [hrun]; simp [runsOf], hJr⟩
/-! ### the loop over the iterator: its body never jumps; the iterator may store into one box -/
theorem range_box {α : Type} {F : Fence} {n : Nat} {P : Program} {g : Operand} {ps : Array Tmp} {assign body : Code} {Q : Exit → Act → World → Prop} {a : Act} {w : World}
    (hro : F.round = none) (h1 : 1 ≤ n) {gf : Nat} {lb : Array Value} (hg : a.eval g = .func (.func gf) #[] lb) (hFg : F.fn gf) (eg : ∀ args w, (callFunc gf args).run P w = .ok (.enter gf args) w)
    {encs : α → Array Value} (hps : ∀ x, (encs x).size = ps.size) {Kp : World → World → Prop} (hKt : ∀ {A B C : World}, Kp A B → Kp B C → Kp A C)
    (hKb : ∀ (W : World) (l : Nat) (o o' : Obj), w.heap.size ≤ l → W.heap[l]? = some o → o.isCells = false → o.isWalk = false → Kp W (W.putObj l o')) {S : List α → Prop} {N Bn : Nat} (hBn : Bn < w.heap.size)
    (I : List α → World → Prop) (hI : OwnFrom w.heap.size I) (hIb : ∀ pre A v, I pre A → I pre (A.setCell ⟨Bn, 0, none⟩ v)) (h0 : I [] w)
    (hseq : ∀ (l : Nat) (J : List α → World → Prop) (W : World), AbidesFrom W.heap.size J → (∀ pre A v, J pre A → J pre (A.setCell ⟨Bn, 0, none⟩ v)) →
      (∀ pre x W1, J pre W1 → pre.length < N → YieldAt F (n - 1 - 1) P l (encs x) W1 fun e W' => (e = .returned (.bool true) ∧ J (pre ++ [x]) W' ∧ Kp W1 W') ∨ (e = .returned (.bool false) ∧ False)) →
      Below w.heap.size w W → J [] W →
      CallsIn F (n - 1) P gf (#[.func (.yield l) #[] #[]] ++ lb) W fun e W' => (∃ v, e = .returned v) ∧ ∃ xs, S xs ∧ J xs W')
    (a₁ : α → Act)
    (hassign : ∀ (l : Nat) (x : α) (W : World) (K : Act → World → Prop), K (a₁ x) W →
      assign.wpIn (F.inRound l) (n - 1 - 1) P (Exit.then K (fun _ _ _ => False)) { tmps := (ps.zip (encs x)).foldl (fun t (p, v) => t.setIfInBounds p v) a.tmps, defers := [] } W)
    (hbody : ∀ (l : Nat) (pre : List α) (x : α) (W : World), I pre W → pre.length < N → body.wpIn (F.inRound l) (n - 1 - 1) P (fun e _ W' => e = .normal ∧ KeepsFrom w.heap.size W W' ∧ Kp W W' ∧ I (pre ++ [x]) W') (a₁ x) W)
    (hdone : ∀ (D : Nat) (xs : List α) (W : World), w.heap.size ≤ D → S xs → I xs W → W.heap[D]? = some (.deferred (some [])) → Q .normal { a with defers := { target := .collected D, args := #[] } :: a.defers } W) :
    (Code.rangeFunc g ps assign body).wpIn F n P Q a w := by
  refine wpIn_rangeFunc ?_
  intro fn hfn
  rw [hro]
  obtain ⟨rc, hrc⟩ : ∃ rc : LoopState → Option Code → Loop, rc = fun st pe => { state := st, pending := pe, fn, tmps := a.tmps, params := ps, assign, body, defers := w.heap.size } := ⟨_, rfl⟩
  obtain ⟨b, hb⟩ : ∃ b, b = w.heap.size := ⟨_, rfl⟩
  obtain ⟨V, hV⟩ : ∃ V, (w.alloc (.deferred (some []))).alloc (.loop (rc .ready none)) = V := ⟨_, rfl⟩
  have hL : V.heap[b + 1]? = some (.loop (rc .ready none)) := by
    rw [← hV, hb]; have := World.alloc_heap_new (w.alloc (.deferred (some []))) (.loop (rc .ready none)); rwa [World.size_alloc] at this
  have hD : V.heap[b]? = some (.deferred (some [])) := by
    rw [← hV, hb]; exact (Below.heap_alloc _ _ _ (by simp)).trans (World.alloc_heap_new w _)
  have hsz : V.heap.size = b + 2 := by rw [← hV, hb]; simp
  have hIV : I [] V := by rw [← hV]; exact hI.alloc _ (hI.alloc _ h0)
  have hbV : Below w.heap.size w V := by rw [← hV]; exact ((Below.refl _ w).alloc (Nat.le_refl _) _).alloc (by simp) _
  refine ⟨b + 1, [{ target := .collected b, args := #[] }], V, { target := .fn (.func gf) lb, args := #[.func (.yield (b + 1)) #[] #[]] }, V, gf, #[.func (.yield (b + 1)) #[] #[]] ++ lb, V, ?_, ?_, ?_, ?_, fun _ => h1, ?_⟩
  · rw [← hV, hrc, hb]; exact run_enterLoop_outer _ _ _ _ _
  · simp only [resolve, hg]
    simp [go_sem]
  · intro f' hf'; simp [Target.leads] at hf'; subst hf'; exact hFg
  · simp [invoke, go_sem, eg]
  · refine (hseq (b + 1) (fun pre W => I pre W ∧ W.heap[b + 1]? = some (.loop (rc .ready none)) ∧ W.heap[b]? = some (.deferred (some []))) V
      (fun s A B row hs hg' hr => ?_) (fun pre A v hs => ?_) ?_ hbV ⟨hIV, hL, hD⟩).mono ?_
    · have hnc : ∀ r, row = some r → ∃ o : Obj, A.heap[r]? = some o ∧ o.isCells = false := fun r e => by
        obtain ⟨_, o, ho, hw⟩ := hr r e; exact ⟨o, ho, Obj.not_cells_of_walk hw⟩
      refine ⟨hI s A B row hs.1 hg' (fun r e => ⟨by have := (hr r e).1; omega, hnc r e⟩), ?_, ?_⟩
      · exact (grownBy_keeps hg' (fun r e => (hr r e).2) hs.2.1 rfl).trans hs.2.1
      · exact (grownBy_keeps hg' (fun r e => (hr r e).2) hs.2.2 rfl).trans hs.2.2
    · exact ⟨hIb _ _ _ hs.1, (Below.heap_setCell _ _ _ (b + 1) (by show b + 1 ≠ Bn; omega)).trans hs.2.1, (Below.heap_setCell _ _ _ b (by show b ≠ Bn; omega)).trans hs.2.2⟩
    · rintro pre x W ⟨hi, hl, hk⟩ hlen
      have hlt : b + 1 < W.heap.size := (Array.getElem?_eq_some_iff.1 hl).1
      have hy := run_yield (P := P) (args := encs x) hl (by rw [hrc]; exact hps x)
      rw [hrc] at hy
      refine ⟨fn, _, assign, body, hy, roundIn_of_wpIn hfn (hassign _ x W _ ?_)⟩
      refine ⟨_, run_beginRound hl (by rw [hrc]), ?_⟩
      have hl2 : (W.putObj (b + 1) (.loop { rc .ready none with state := .busy })).heap[b + 1]? = some (.loop { rc .ready none with state := .busy }) := World.putObj_heap_same hlt
      have hk2 : (W.putObj (b + 1) (.loop { rc .ready none with state := .busy })).heap[b]? = some (.deferred (some [])) := (World.putObj_heap_other (by omega)).trans hk
      have hw2 : Kp W (W.putObj (b + 1) (.loop { rc .ready none with state := .busy })) := hKb _ _ _ _ (by omega) hl rfl rfl
      refine wpIn_mono (hbody _ pre x _ (hI.putObj _ hi (by omega) hl rfl) hlen) ?_
      rintro e a3 W3 ⟨rfl, hk3, hkp3, hi3⟩
      have hl3 := hk3.same _ _ (by omega) hl2 rfl
      have hd3 := hk3.same _ _ (by omega) hk2 rfl
      have hr := run_endRound (P := P) none hl3
      rw [hrc] at hr
      refine ⟨_, _, hr, .inl ⟨rfl, ⟨hI.putObj _ hi3 (by omega) hl3 rfl, ?_, ?_⟩, hKt (hKt hw2 hkp3) (hKb _ _ _ _ (by omega) hl3 rfl rfl)⟩⟩
      · rw [hrc]; exact World.putObj_heap_same (Array.getElem?_eq_some_iff.1 hl3).1
      · exact (World.putObj_heap_other (by omega)).trans hd3
    · rintro e W2 ⟨⟨v, rfl⟩, xs, hS, hi, hl, hk⟩
      exact ⟨none, _, by have := run_endLoop (P := P) hl (by rw [hrc]; simp); rw [hrc] at this; exact this, hdone b xs _ (by omega) hS (hI.putObj _ hi (by omega) hl rfl) ((World.putObj_heap_other (by omega)).trans hk)⟩
end Go.Proofs.YtpjdgndbcjinjaaDoor.P
