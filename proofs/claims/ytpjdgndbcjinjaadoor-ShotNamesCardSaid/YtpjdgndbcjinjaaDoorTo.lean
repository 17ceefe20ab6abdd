/- shot.Tones: the walk, over strconv.AppendInt's contract. -/
import Derived.Test.YtpjdgndbcjinjaaDoorSw
import Derived.Test.YtpjdgndbcjinjaaDoorSh
import Derived.Lib.ItoaLen
import Derived.Lib.LaidTab
namespace Go.Proofs.YtpjdgndbcjinjaaDoor.Pk
open Go.RowKit Go.Proofs.YtpjdgndbcjinjaaDoorW.PrintWords Go.Proofs.YtpjdgndbcjinjaaDoorW.PrintLast Go.Proofs.YtpjdgndbcjinjaaDoorW.PrintMore Go.Proofs.YtpjdgndbcjinjaaDoor.Mem
set_option linter.unusedVariables false
set_option linter.unusedSimpArgs false
/-- a number's decimal numeral, as bytes -/
def itB (n : Int) : List Int := (Lib.itoa n).map fun b => (b.toNat : Int)
def tnB (t : ToneT) : List Int := ((((itB t.1 ++ [32]) ++ itB t.2.1) ++ [32]) ++ itB t.2.2) ++ [10]
def tnsB (ts : List ToneT) : List Int := ts.flatMap tnB
/-- tones whose numbers are of their kinds -/
def TnW (ts : List ToneT) : Prop := ∀ t ∈ ts, (-9223372036854775808 ≤ t.1 ∧ t.1 ≤ 9223372036854775807) ∧ 0 ≤ t.2.1 ∧ t.2.1 ≤ 65535 ∧ isB t.2.2
theorem itB_len {n : Int} (h0 : -9223372036854775808 ≤ n) (h1 : n ≤ 9223372036854775807) : (itB n).length ≤ 21 := by
  rw [itB, List.length_map]; exact Lib.itoa_length_le n h0 h1
theorem tnB_len {t : ToneT} (h : (-9223372036854775808 ≤ t.1 ∧ t.1 ≤ 9223372036854775807) ∧ 0 ≤ t.2.1 ∧ t.2.1 ≤ 65535 ∧ isB t.2.2) : (tnB t).length ≤ 66 := by
  have h1 := itB_len h.1.1 h.1.2
  have h2 := itB_len (n := t.2.1) (by omega) (by omega)
  have h3 := itB_len (n := t.2.2) (by have := h.2.2.2.1; omega) (by have := h.2.2.2.2; omega)
  simp only [tnB, List.length_append, List.length_cons, List.length_nil]
  omega
theorem tnsB_len : ∀ {ts : List ToneT}, TnW ts → (tnsB ts).length ≤ 66 * ts.length
  | [], _ => by simp [tnsB]
  | t :: ts, h => by
    have h1 := tnB_len (h t List.mem_cons_self)
    have h2 := tnsB_len (ts := ts) (fun x hx => h x (List.mem_cons_of_mem _ hx))
    unfold tnsB at h2 ⊢
    rw [List.flatMap_cons, List.length_append, List.length_cons]
    omega
theorem byte_cells (l : List UInt8) : Lib.byteCells l = (l.map fun b => (b.toNat : Int)).map (Value.int .u8) := by simp [Lib.byteCells]
theorem heap_grown {w w1 : World} {v : Value} {k : Nat} {o : Obj} (hg : w.grownBy w1 v.ownBlock) (h : w.heap[k]? = some o) (hne : some k ≠ v.ownBlock) : w1.heap[k]? = some o := (hg.block k (heap_lt h) hne).trans h
/-- the table of powers lies in its variable -/
abbrev Pow (B : Nat) (w : World) : Prop := Lib.TabBelow Tryd.prog B w "internal/strconv.uint64pow10" .u64 Lib.pow10Tab
theorem AppI {w : World} {B : Nat} {v : Value} {xs : List Int} {i : Int} (h0 : -9223372036854775808 ≤ i) (h1 : i ≤ 9223372036854775807) (hR : Kd.R (Kd.int .u8) 5 w B (fun _ => True) v xs) (hB : B ≤ w.heap.size) (hl : xs.length + 21 ≤ 140737488355328) (hT : Pow B w) :
    Calls Tryd.prog 26 #[v, .int .i64 i, .int .i64 10] w fun e w' => ∃ v', e = .returned v' ∧ Kd.R (Kd.int .u8) 5 w' B (fun _ => True) v' (xs ++ itB i) ∧ Below B w w' ∧ Lib.OthersKept 5 none w w' := by
  have ho := Kd.own_of_R hR
  refine (Sh.strconv_AppendInt_10 B xs.length i h0 h1 v (encs (Value.int .u8) xs) w ho hB hl hT).mono ?_
  rintro e w' ⟨v', rfl, h2, h3, h4⟩
  refine ⟨v', rfl, Kd.R_of_own (h1 := fun _ => rfl) ?_ (fun _ _ => trivial), h3, h4⟩
  rw [List.length_append, show (itB i).length = (Lib.itoa i).length by rw [itB, List.length_map]]
  have e : encs (Value.int .u8) (xs ++ itB i) = encs (Value.int .u8) xs ++ Lib.byteCells (Lib.itoa i) := by
    rw [byte_cells]; simp [encs, itB]
  rw [e]
  exact h2
/-- one byte behind a row of one's own -/
theorem appC {ops : Array Oper} {Q : Exit → Act → World → Prop} {o : Oper} {rest : List Oper} {a : Act} {w X : World} (v : Value) (xs : List Int) (z : Int) (hgd : o.guard = none) (s x : Operand)
    (ho : o.op = .call { callee := .builtin .append, args := #[s, x], argTypes := #[24, 24] }) (hs : a.eval s = v) (hx : a.eval x = .slice (some ⟨X.heap.size, 0, none⟩) 1 1)
    (hR : Kd.R (Kd.int .u8) 5 X w.heap.size (fun _ => True) v xs) (hB : Below w.heap.size w X) (hl : xs.length + 1 ≤ 140737488355328)
    (h : ∀ v1 w1, Kd.R (Kd.int .u8) 5 w1 w.heap.size (fun _ => True) v1 (xs ++ [z]) → Below w.heap.size w w1 → X.grownBy w1 v.ownBlock → wpList Tryd.prog ops Q rest (a.put o.dst v1) w1) : wpList Tryd.prog ops Q (o :: rest) a (X.alloc (.cells #[.int .u8 z] 5)) :=
  Kd.R_append (Kd.int .u8) (w0 := w) w.heap.size hgd s x 24 5 (.int .u8 0) 1 ho Tryd.underlying24 infoB rfl (by decide) (by decide) v xs z [.int .u8 z] (fun _ => True) (fun _ => False) hs hx rfl (fun k hk => hk.elim) (fun _ _ => trivial) hR hB hB.size (by omega) (fun v1 w1 h1 h2 h3 _ => h v1 w1 h1 h2 h3)
set_option maxRecDepth 100000 in
set_option maxHeartbeats 4000000 in
theorem Tones {w : World} {A : Option Addr} {n c : Nat} {ts : List ToneT} (hC : kT.C w A n ts) (hn : n = ts.length) (hw : TnW ts) (hl : n ≤ 100000000) (hT : Pow w.heap.size w) :
    Calls Tryd.prog 9 #[.slice A n c] w fun e w' => e = .returned (.string (strOfNums (tnsB ts))) ∧ Below w.heap.size w w' := by
  have hTT := Aside0.mk hT
  have hC6 : Aside0 (∀ W (i : Nat), Below w.heap.size w W → i < n → ∃ ad, A = some ad ∧ W.cell? (ad.add (i * 3)) = some (.int .i64 (ts.getD i (0, 0, 0)).1) ∧ W.cell? ⟨(ad.add (i * 3)).block, (ad.add (i * 3)).off + 1, none⟩ = some (.int .u16 (ts.getD i (0, 0, 0)).2.1) ∧ W.cell? ⟨(ad.add (i * 3)).block, (ad.add (i * 3)).off + 2, none⟩ = some (.int .u8 (ts.getD i (0, 0, 0)).2.2) ∧ ((-9223372036854775808 ≤ (ts.getD i (0, 0, 0)).1 ∧ (ts.getD i (0, 0, 0)).1 ≤ 9223372036854775807) ∧ 0 ≤ (ts.getD i (0, 0, 0)).2.1 ∧ (ts.getD i (0, 0, 0)).2.1 ≤ 65535 ∧ isB (ts.getD i (0, 0, 0)).2.2)) := ⟨fun W i hb hi => by
    obtain ⟨ad, e, h0, h1, h2⟩ := atT (Kd.C_below hC hb) i hi
    exact ⟨ad, e, h0, h1, h2, hw _ (by rw [List.getD_eq_getElem?_getD, List.getElem?_eq_getElem (by omega)]; exact List.getElem_mem (by omega))⟩⟩
  obtain ⟨Q, hQ⟩ : ∃ f : Nat → List Int, f = fun i => tnsB (ts.take i) := ⟨_, rfl⟩
  have hQ0 : Aside0 (Q 0 = [] ∧ Q n = tnsB ts) := ⟨by rw [hQ, hn]; exact ⟨by simp [tnsB], by simp only [List.take_length]⟩⟩
  have hQs : Aside0 (∀ i : Nat, i < n → Q (i + 1) = (((((Q i ++ itB (ts.getD i (0, 0, 0)).1) ++ [32]) ++ itB (ts.getD i (0, 0, 0)).2.1) ++ [32]) ++ itB (ts.getD i (0, 0, 0)).2.2) ++ [10]) := ⟨fun i hi => by
    rw [hQ]
    show (ts.take (i + 1)).flatMap tnB = ((((((ts.take i).flatMap tnB ++ _) ++ _) ++ _) ++ _) ++ _) ++ _
    rw [flat_snoc tnB ts i (0, 0, 0) (by omega)]
    simp [tnB]⟩
  have hQl : Aside0 (∀ i : Nat, i ≤ n → (Q i).length ≤ 6600000000) := ⟨fun i hi => by
    rw [hQ]
    show (tnsB (ts.take i)).length ≤ _
    have h1 := tnsB_len (ts := ts.take i) (fun x hx => hw x (List.mem_of_mem_take hx))
    rw [List.length_take] at h1
    omega⟩
  obtain ⟨tt, htt⟩ : ∃ f : Nat → ToneT, f = fun i => ts.getD i (0, 0, 0) := ⟨_, rfl⟩
  replace hC6 : Aside0 (∀ W (i : Nat), Below w.heap.size w W → i < n → ∃ ad, A = some ad ∧ W.cell? (ad.add (i * 3)) = some (.int .i64 (tt i).1) ∧ W.cell? ⟨(ad.add (i * 3)).block, (ad.add (i * 3)).off + 1, none⟩ = some (.int .u16 (tt i).2.1) ∧ W.cell? ⟨(ad.add (i * 3)).block, (ad.add (i * 3)).off + 2, none⟩ = some (.int .u8 (tt i).2.2) ∧ ((-9223372036854775808 ≤ (tt i).1 ∧ (tt i).1 ≤ 9223372036854775807) ∧ 0 ≤ (tt i).2.1 ∧ (tt i).2.1 ≤ 65535 ∧ isB (tt i).2.2)) := ⟨by rw [htt]; exact hC6.out⟩
  replace hQs : Aside0 (∀ i : Nat, i < n → Q (i + 1) = (((((Q i ++ itB (tt i).1) ++ [32]) ++ itB (tt i).2.1) ++ [32]) ++ itB (tt i).2.2) ++ [10]) := ⟨by rw [htt]; exact hQs.out⟩
  obtain ⟨S, hS⟩ : ∃ s, strOfNums (tnsB ts) = s := ⟨_, rfl⟩
  have hSS : Aside0 (strOfNums (Q n) = S) := ⟨by rw [hQ0.out.2]; exact hS⟩
  rw [hS]
  clear hC hn hw hQ htt hT hS
  go_enter Tryd.func9, Tryd.ntmps9
  go_wp2
  go_loopg [3, 8] n (fun gk v3 v8 wr => ∃ (i : Nat) (v : Value), v3 = v ∧ v8 = .int .i64 (i : Int) ∧ i + gk = n ∧ Aside0 (Below w.heap.size w wr) ∧ Aside0 (Kd.R (Kd.int .u8) 5 wr w.heap.size (fun _ => True) v (Q i)))
  case atStart => exact ⟨0, _, rfl, rfl, by omega, ⟨Below.refl _ _⟩, ⟨by rw [hQ0.out.1]; exact Kd.R_nil _ _ _ _ _⟩⟩
  case round =>
    obtain ⟨i, v3, hv3, rfl, hi, hB, hR⟩ := hrel
    replace hv3 := hv3.symm
    subst hv3
    cases gk with
    | succ k1 =>
      have hd : decide ((i : Int) < (n : Int)) = true := decide_eq_true (by omega)
      have hd' : decide (i < n) = true := decide_eq_true (by omega)
      have hin : i < n := by omega
      obtain ⟨ad, e1, x0, x1, x2, hu_⟩ := hC6.out _ i hB.out hin
      subst e1
      have hQi := Aside0.mk (hQs.out i hin)
      have hQm := Aside0.mk (hQl.out i (by omega))
      generalize tt i = t at x0 x1 x2 hu_ hQi
      obtain ⟨t0, t1, t2⟩ := t
      dsimp only at x0 x1 x2 hu_ hQi
      obtain ⟨⟨u0, u1⟩, u2, u3, u4, u5⟩ := hu_
      have l0 := Aside0.mk (itB_len u0 u1)
      have l1 := Aside0.mk (itB_len (n := t1) (by omega) (by omega))
      have l2 := Aside0.mk (itB_len (n := t2) (by omega) (by omega))
      have hu := Aside0.mk (And.intro (And.intro u0 u1) (And.intro u2 (And.intro u3 (And.intro u4 u5))))
      have wt1 : IntKind.i64.wrap t1 = t1 := by rw [IntKind.wrap_i64]; omega
      have wt2 : IntKind.i64.wrap t2 = t2 := by rw [IntKind.wrap_i64]; omega
      clear u0 u1
      have hbx := Aside0.mk (World.alloc_heap_new wr (.cells #[.int .i64 t0, .int .u16 t1, .int .u8 t2] 35))
      have hb0_ := below_alloc (Below.refl wr.heap.size wr) (.cells #[.int .i64 t0, .int .u16 t1, .int .u8 t2] 35)
      have n0_ := Aside0.mk (Kd.R_below hR.out hb0_)
      have n1_ := Aside0.mk (hB.out.trans (hb0_.mono hB.out.size))
      clear hR hB hb0_
      have hR := n0_
      have hB := n1_
      clear n0_ n1_
      go_upto_region 5 with (fail)
      obtain ⟨Y, hY⟩ : ∃ Y, Y = wr.alloc (.cells #[.int .i64 t0, .int .u16 t1, .int .u8 t2] 35) := ⟨_, rfl⟩
      rw [← hY] at hbx hB hR ⊢
      obtain ⟨q, hq⟩ : ∃ q, wr.heap.size = q := ⟨_, rfl⟩
      rw [hq] at hbx ⊢
      clear hY x0 x1 x2 hq
      have z0 := cellH (o := 0) hbx.out
      go_wp2_with (first | (go_at_call 26; ((with_reducible refine (AppI (i := t0) (by have := hu.out; exact hu.out.1.1) (by have := hu.out; exact hu.out.1.2) hR.out hB.out.size (by have := hQm.out; (try simp only [List.length_append, List.length_cons, List.length_nil]); omega) (hTT.out.on hB.out)).mono ?_); rintro e X1 ⟨v9, rfl, hR_, hb_, hk_⟩; have n1_ := Aside0.mk (hk_ _ _ hbx.out (by simp) (fun c fz e => by injection e with _ e _; exact absurd e (by decide))); clear hbx; have hbx := n1_; clear n1_; have n2_ := Aside0.mk (hB.out.trans hb_); clear hB; have hB := n2_; clear n2_; have n0_ := Aside0.mk hR_; clear hR; have hR := n0_; clear n0_ hR_ hb_ hk_; (try clear z0 z1 z2); have z0 := cellH (o := 0) hbx.out; have z1 := cellH (o := 1) hbx.out; have z2 := cellH (o := 2) hbx.out)) | (at_builtin; (refine appC (w := w) _ _ 32 rfl _ _ rfl rfl rfl hR.out hB.out (by have := hQm.out; have := l0.out; (try simp only [List.length_append, List.length_cons, List.length_nil]); omega) ?_); intro v9 X1 hR_ hb_ hg_; have n1_ := Aside0.mk (heap_grown hg_ hbx.out (Kd.R_ne hR.out hbx.out (by decide))); clear hbx; have hbx := n1_; clear n1_; clear hB; have hB := Aside0.mk hb_; clear hR; have hR := Aside0.mk hR_; clear hR_ hb_ hg_; (try clear z0 z1 z2); have z0 := cellH (o := 0) hbx.out; have z1 := cellH (o := 1) hbx.out; have z2 := cellH (o := 2) hbx.out) | (go_at_call 26; ((with_reducible refine (AppI (i := t1) (by have := hu.out; omega) (by have := hu.out; omega) hR.out hB.out.size (by have := hQm.out; have := l0.out; (try simp only [List.length_append, List.length_cons, List.length_nil]); omega) (hTT.out.on hB.out)).mono ?_); rintro e X1 ⟨v9, rfl, hR_, hb_, hk_⟩; have n1_ := Aside0.mk (hk_ _ _ hbx.out (by simp) (fun c fz e => by injection e with _ e _; exact absurd e (by decide))); clear hbx; have hbx := n1_; clear n1_; have n2_ := Aside0.mk (hB.out.trans hb_); clear hB; have hB := n2_; clear n2_; have n0_ := Aside0.mk hR_; clear hR; have hR := n0_; clear n0_ hR_ hb_ hk_; (try clear z0 z1 z2); have z0 := cellH (o := 0) hbx.out; have z1 := cellH (o := 1) hbx.out; have z2 := cellH (o := 2) hbx.out)) | (at_builtin; (refine appC (w := w) _ _ 32 rfl _ _ rfl rfl rfl hR.out hB.out (by have := hQm.out; have := l0.out; have := l1.out; (try simp only [List.length_append, List.length_cons, List.length_nil]); omega) ?_); intro v9 X1 hR_ hb_ hg_; have n1_ := Aside0.mk (heap_grown hg_ hbx.out (Kd.R_ne hR.out hbx.out (by decide))); clear hbx; have hbx := n1_; clear n1_; clear hB; have hB := Aside0.mk hb_; clear hR; have hR := Aside0.mk hR_; clear hR_ hb_ hg_; (try clear z0 z1 z2); have z0 := cellH (o := 0) hbx.out; have z1 := cellH (o := 1) hbx.out; have z2 := cellH (o := 2) hbx.out) | (go_at_call 26; ((with_reducible refine (AppI (i := t2) (by have := hu.out; omega) (by have := hu.out; omega) hR.out hB.out.size (by have := hQm.out; have := l0.out; have := l1.out; (try simp only [List.length_append, List.length_cons, List.length_nil]); omega) (hTT.out.on hB.out)).mono ?_); rintro e X1 ⟨v9, rfl, hR_, hb_, hk_⟩; have n1_ := Aside0.mk (hk_ _ _ hbx.out (by simp) (fun c fz e => by injection e with _ e _; exact absurd e (by decide))); clear hbx; have hbx := n1_; clear n1_; have n2_ := Aside0.mk (hB.out.trans hb_); clear hB; have hB := n2_; clear n2_; have n0_ := Aside0.mk hR_; clear hR; have hR := n0_; clear n0_ hR_ hb_ hk_; (try clear z0 z1 z2); have z0 := cellH (o := 0) hbx.out; have z1 := cellH (o := 1) hbx.out; have z2 := cellH (o := 2) hbx.out)) | (at_builtin; (refine appC (w := w) _ _ 10 rfl _ _ rfl rfl rfl hR.out hB.out (by have := hQm.out; have := l0.out; have := l1.out; have := l2.out; (try simp only [List.length_append, List.length_cons, List.length_nil]); omega) ?_); intro v9 X1 hR_ hb_ hg_; have n1_ := Aside0.mk (heap_grown hg_ hbx.out (Kd.R_ne hR.out hbx.out (by decide))); clear hbx; have hbx := n1_; clear n1_; clear hB; have hB := Aside0.mk hb_; clear hR; have hR := Aside0.mk hR_; clear hR_ hb_ hg_; (try clear z0 z1 z2); have z0 := cellH (o := 0) hbx.out; have z1 := cellH (o := 1) hbx.out; have z2 := cellH (o := 2) hbx.out))
      go_roundg k1
      case measure => omega
      case rel => exact ⟨i + 1, _, rfl, by first | rfl | (unfold wrap64; congr 1; omega), by omega, hB, ⟨by rw [hQi.out]; exact hR.out⟩⟩
    | zero =>
      have hd : decide ((i : Int) < (n : Int)) = false := decide_eq_false (by omega)
      have hd' : decide (i < n) = false := decide_eq_false (by omega)
      obtain rfl : i = n := by omega
      obtain ⟨A9, c9, e9, hl9, hC9⟩ := Kd.R_reads hR.out
      subst e9
      have hcv := Kd.C_string (P := Tryd.prog) (c := c9) Tryd.underlying24 Tryd.underlying5 Tryd.underlying9 hC9
      rw [hSS.out] at hcv
      clear hC9 hl9
      generalize (Q i).length = m9 at *
      go_wp2
      go_ret
      exact ⟨rfl, hB.out⟩
end Go.Proofs.YtpjdgndbcjinjaaDoor.Pk
