/- wisplaw12.LayoutNames: the walk. -/
import Derived.Test.YtjphhnhloeanlaaLs
import Derived.Test.YtjphhnhloeanlaaLa
namespace Go.Proofs.Ytjphhnhloeanlaa.P
open Go.RowKit Go.Shelf Go.Proofs.YtjphhnhloeanlaaW.PrintWords Go.Proofs.YtjphhnhloeanlaaW.PrintLast Go.Proofs.YtjphhnhloeanlaaW.PrintMore Go.Proofs.Ytjphhnhloeanlaa.Mem
set_option linter.unusedVariables false
set_option linter.unusedSimpArgs false
/-- Of, where the answer is named -/
theorem Of_nm {w W : World} {A : Option Addr} {n c : Nat} {ds : List Df} {R : Ending → World → Prop} (hC : k36.C W A n ds) (hn : n = ds.length) (hok : OkD ds) (hb : Below w.heap.size w W)
    (k : ∀ W' A4 c4, kP.C W' A4 (ofA ds).1.length (ofA ds).1 → Below W.heap.size W W' → Below w.heap.size w W' → R (.returned (.tuple #[.slice A4 (ofA ds).1.length c4, .int .i64 (ofA ds).2.1, .int .i64 (ofA ds).2.2.1, .agg #[.int .i64 (ofA ds).2.2.2.1, .int .i64 (ofA ds).2.2.2.2.1], .int .i64 (ofA ds).2.2.2.2.2])) W') :
    Calls Try.prog 14 #[.agg #[.slice A n c, .slice none 0 0]] W R := by
  refine (Of_at hC hn hok).mono ?_
  rintro e W' ⟨v, rfl, hR, hb1⟩
  obtain ⟨A4, c4, rfl, _, hC4⟩ := Kd.R_reads hR
  exact k W' A4 c4 hC4 hb1 (hb.trans (hb1.mono hb.size))
theorem szk36 : k36.sz = 6 := rfl
theorem infoDf : (Try.prog.info? 36).map (fun i => (i.zero, i.size, i.bytes)) = some (some (.agg #[(.int .i64 0), (.string ⟨#[]⟩), (.int .u16 0), (.slice none 0 0), (.int .i64 0), (.int .i64 0)]), 6, 72) := by kernel_rfl
/-- append of one definition -/
theorem appD {ops : Array Oper} {rest : List Oper} {o : Oper} {a : Act} {Q : Exit → Act → World → Prop} {w0 W : World} (base : Nat) (hgd : o.guard = none) (s x : Operand)
    (ho : o.op = .call { callee := .builtin .append, args := #[s, x], argTypes := #[29, 29] })
    (v : Value) (xs : List Df) (p : Df) (cs : List Value) (hs : a.eval s = v) (hx : a.eval x = .slice (some ⟨W.heap.size, 0, none⟩) 1 1) (hp : ∀ w b, k36.M w b (fun _ => False) p cs)
    (HO : k36.R 36 W base (fun _ => True) v xs) (HB : Below base w0 W) (hbase : base ≤ W.heap.size) (hl : (xs.length + 1) * 72 ≤ 140737488355328)
    (h : ∀ v1 w1, k36.R 36 w1 base (fun _ => True) v1 (xs ++ [p]) → Below base w0 w1 → wpList Try.prog ops Q rest (a.put o.dst v1) w1) :
    wpList Try.prog ops Q (o :: rest) a (W.alloc (.cells cs.toArray 36)) :=
  Kd.R_append (P := Try.prog) k36 (w0 := w0) base hgd s x 29 36 (.agg #[(.int .i64 0), (.string ⟨#[]⟩), (.int .u16 0), (.slice none 0 0), (.int .i64 0), (.int .i64 0)]) 72 ho Try.underlying29 (by rw [szk36]; exact infoDf) (by rw [szk36]; rfl) (by rw [szk36]; decide) (by decide) v xs p cs (fun _ => True) (fun _ => False) hs hx (hp _ _) (fun k hk => hk.elim) (fun _ _ => trivial) HO HB hbase hl (fun v1 w1 hN hB _ _ => h v1 w1 hN hB)
theorem mk_dN (w : World) (b : Nat) (i : Nat) : k36.M w b (fun _ => False) (dN i) [.int .i64 2, .string ⟨#[]⟩, .int .u16 0, .slice none 0 0, .int .i64 i, .int .i64 0] := k36_mkM w b _ (dN i) (Kd.R_nil _ _ _ _ _)
abbrev cB : List Value := [.int .i64 1, .int .i64 12, .int .u16 0, .string ⟨#[]⟩, .slice none 0 0, .slice none 0 0, .bool false, .int .i64 0, .int .i64 0]
theorem mk_nB (w : World) (b : Nat) : k38.M w b (fun _ => False) nB cB := k38_mkM w b _ nB (Kd.R_nil _ _ _ _ _) (Kd.R_nil _ _ _ _ _)
theorem mk_z (w : World) (b : Nat) : k38.M w b (fun _ => False) z38 (Value.cells (.agg #[(.int .i64 0), (.int .i64 0), (.int .u16 0), (.string ⟨#[]⟩), (.slice none 0 0), (.slice none 0 0), (.bool false), (.int .i64 0), (.int .i64 0)])).toList := k38_mkM w b _ z38 (Kd.R_nil _ _ _ _ _) (Kd.R_nil _ _ _ _ _)
theorem mkB {ops : Array Oper} {rest : List Oper} {o : Oper} {a : Act} {Q : Exit → Act → World → Prop} {w0 W : World} (base : Nat) (hgd : o.guard = none) {N : Tmp} (hd : o.dst = some N) (x y : Operand) (ho : o.op = .makeSlice 34 x y) (hx : a.eval x = .int .i64 8126) (hy : a.eval y = .int .i64 8126) (HB : Below base w0 W) (hbase : base ≤ W.heap.size)
    (h : ∀ g cap w1, k38.R 38 w1 base (fun _ => True) (.slice (some ⟨g, 0, none⟩) 8126 cap) (List.replicate 8126 z38) → Below base w0 w1 → wpList Try.prog ops Q rest (a.put o.dst (.slice (some ⟨g, 0, none⟩) 8126 cap)) w1) : wpList Try.prog ops Q (o :: rest) a W :=
  Kd.R_make (P := Try.prog) k38 (w0 := w0) base 38 hgd hd 34 x y ho 8126 hx hy Try.underlying34 (.agg #[(.int .i64 0), (.int .i64 0), (.int .u16 0), (.string ⟨#[]⟩), (.slice none 0 0), (.slice none 0 0), (.bool false), (.int .i64 0), (.int .i64 0)]) 112 (by rw [szk38]; exact infoNode) (by rw [szk38]; rfl) (by rw [szk38]; decide) (by decide) z38 (ok := fun _ => True) (okp := fun _ => False) (mk_z _ _) (fun _ hk => hk.elim) trivial (by decide) (by decide) HB hbase (fun v1 w1 hR hB _ _ => by
    obtain ⟨g, cap, rfl, _⟩ := Kd.R_form hR (by rw [List.length_replicate]; decide)
    rw [List.length_replicate] at hR ⊢
    exact h g cap w1 hR hB)
theorem stB {ops : Array Oper} {rest : List Oper} {o : Oper} {a : Act} {Q : Exit → Act → World → Prop} {w0 W : World} (base : Nat) (hN : o.dst = none) (hgd : o.guard = none) (p x : Operand) (ho : o.op = .store 38 p x) {g n cap o' : Nat} (i : Nat) (xs : List Nd)
    (haddr : a.eval p = .pointer (some ⟨g, o', none⟩)) (hoff : o' = i * 9) (hx : a.eval x = .agg cB.toArray) (HO : k38.R 38 W base (fun _ => True) (.slice (some ⟨g, 0, none⟩) n cap) xs) (hi : i < n) (HB : Below base w0 W)
    (h : ∀ w1, k38.R 38 w1 base (fun _ => True) (.slice (some ⟨g, 0, none⟩) n cap) (xs.set i nB) → Below base w0 w1 → wpList Try.prog ops Q rest a w1) : wpList Try.prog ops Q (o :: rest) a W := by
  obtain ⟨cs, hcl, hM, hcc, _⟩ := Kd.R_elem HO z38 (i : Int) (by omega) (by omega)
  have e9 : cs.length = 9 := by rw [hcl, szk38]
  have eM : cs.take 0 ++ cB ++ cs.drop (0 + cB.length) = cB := by
    rw [List.drop_eq_nil_of_le (by simp [e9])]; simp
  have h2 := Kd.R_store (P := Try.prog) (ops := ops) (rest := rest) (Q := Q) (a := a) (o := o) k38 (w0 := w0) base hN hgd 38 p x ho 38 (g := g) (n := n) (cap := cap) (o' := o') (i : Int) 0 xs nB (.agg cB.toArray) cB cs (fun _ => True) (fun _ => False) haddr (by rw [szk38, Int.toNat_natCast]; omega) hx rfl (by kernel_rfl) (by simp [Value.oneCell']) HO (by omega) (by omega) hcl hcc (by rw [szk38]; decide) (by rw [eM]; exact mk_nB _ _) (fun _ hk => hk.elim) HB
  rw [Int.toNat_natCast] at h2
  exact h2 (fun w1 h3 h4 _ => h w1 h3 h4)
theorem fill_succ {i : Nat} (hi : i < 8126) : (List.replicate i nB ++ List.replicate (8126 - i) z38).set i nB = List.replicate (i + 1) nB ++ List.replicate (8126 - (i + 1)) z38 := by
  rw [List.set_append_right _ _ (by simp), List.length_replicate, Nat.sub_self, show 8126 - i = (8126 - (i + 1)) + 1 by omega, List.replicate_succ, List.set_cons_zero, List.replicate_succ', List.append_assoc]
  rfl
structure Ax (w : World) (B p q r : Nat) (W : World) : Prop where
  hp : PosB W p 7 3
  hq : PosB W q 7 3
  hr : PosB W r 512 0
  hb : Below w.heap.size w W
  hs : B ≤ W.heap.size
theorem Ax.step {w : World} {B p q r : Nat} {W W' : World} (h : Ax w B p q r W) (hb : Below W.heap.size W W') : Ax w B p q r W' :=
  ⟨(hb.block p (hpLt h.hp)).trans h.hp, (hb.block q (hpLt h.hq)).trans h.hq, (hb.block r (hpLt h.hr)).trans h.hr, h.hb.trans (hb.mono h.hb.size), Nat.le_trans h.hs hb.size⟩
structure Lts (w : World) (B p q r : Nat) : Prop where
  p : p < B
  q : q < B
  r : r < B
  w : w.heap.size ≤ B
theorem Ax.step5 {w : World} {B p q r : Nat} {W W' : World} (h : Ax w B p q r W) (l : Lts w B p q r) (hb : Below B W W') : Ax w B p q r W' :=
  ⟨(hb.block p l.p).trans h.hp, (hb.block q l.q).trans h.hq, (hb.block r l.r).trans h.hr, h.hb.trans (hb.mono l.w), Nat.le_trans h.hs hb.size⟩
theorem Ax.put {w : World} {B p q r : Nat} {W : World} {b : Nat} (h : Ax w B p q r W) (l : Lts w B p q r) (hb : B ≤ b) (x y : Value) : Ax w B p q r ((W.setCell ⟨b, 0, none⟩ x).setCell ⟨b, 1, none⟩ y) := by
  have l1 := l.p
  have l2 := l.q
  have l3 := l.r
  have l4 := l.w
  exact ⟨(h.hp.other (p := ⟨b, 0, none⟩) (by show b ≠ p; omega) _).other (p := ⟨b, 1, none⟩) (by show b ≠ p; omega) _, (h.hq.other (p := ⟨b, 0, none⟩) (by show b ≠ q; omega) _).other (p := ⟨b, 1, none⟩) (by show b ≠ q; omega) _, (h.hr.other (p := ⟨b, 0, none⟩) (by show b ≠ r; omega) _).other (p := ⟨b, 1, none⟩) (by show b ≠ r; omega) _, (h.hb.setCell (p := ⟨b, 0, none⟩) (by show _ ≤ b; omega) _).setCell (p := ⟨b, 1, none⟩) (by show _ ≤ b; omega) _, by have := h.hs; simpa [World.setCell] using this⟩
theorem hpK {W W' : World} {k : Nat} {o : Obj} (h : W.heap[k]? = some o) (hb : Below W.heap.size W W') : W'.heap[k]? = some o := (hb.block k (hpLt h)).trans h
abbrev cN (v4 v5 : Value) : List Value := [.int .i64 1, .int .i64 12, .int .u16 0, .string ⟨#[]⟩, v4, v5, .bool false, .int .i64 0, .int .i64 0]
theorem rr1 {W : World} {X : Nat} {v4 v5 : Value} (h : W.heap[X]? = some (Obj.cells (cN v4 v5).toArray 38)) : ReadsRow (fun x cs => x = nB ∧ cs = cN v4 v5) k38.sz W (some ⟨X, 0, none⟩) 1 [nB] := by
  refine ⟨rfl, by omega, fun _ => ⟨_, rfl, fun j p hj => ?_⟩⟩
  cases j with
  | zero =>
    simp at hj
    subst hj
    refine ⟨cN v4 v5, rfl, ⟨rfl, rfl⟩, fun i u hu => ?_⟩
    rw [add_plain]
    simp only [World.cell?, h]
    simpa using hu
  | succ j => simp at hj
theorem node0 {W : World} {B g cap : Nat} (h : k38.R 38 W B (fun _ => True) (.slice (some ⟨g, 0, none⟩) 8126 cap) (List.replicate 8126 nB)) : ∃ v4 v5, (∀ (k : Nat) (u : Value), (cN v4 v5)[k]? = some u → W.cell? ⟨g, k, none⟩ = some u) ∧ k38.M W B (fun k => True ∧ k ≠ g) nB (cN v4 v5) := by
  obtain ⟨cs, hcl, hM, hcc, _⟩ := Kd.R_elem h z38 0 (by omega) (by omega)
  have e : (List.replicate 8126 nB).getD (0 : Int).toNat z38 = nB := by rw [show (0 : Int).toNat = 0 from rfl, show (8126 : Nat) = 8125 + 1 from rfl, List.replicate_succ]; rfl
  rw [e] at hM
  have hM2 : k38.M W B (fun k => True ∧ k ≠ g) nB cs := hM
  obtain ⟨v4, v5, rfl, h4, h5⟩ := k38_openM hM2
  refine ⟨v4, v5, fun k u hu => ?_, hM2⟩
  have := hcc k u hu
  simpa using this
set_option maxRecDepth 100000 in
set_option maxHeartbeats 40000000 in
theorem Names_at (w : World) : Calls Try.prog 3 #[] w fun e w' => e = .returned (.bool true) ∧ Below w.heap.size w w' := by
  go_enter Try.func3, Try.ntmps3
  go_wp2_with (go_at_call 13; ((with_reducible refine (fixed_at w).mono ?_)); rintro e wa ⟨rfl, hb⟩)
  refine Of_nm (c := 0) (A := none) (n := 0) (ds := []) (C_none0 _ _) rfl ⟨by decide, by decide, by simp⟩ hb ?_
  rw [ofA_nil]
  intro W1 A1 c1 _ hb1 hbw1
  dsimp only [List.length_nil]
  clear hb hb1
  go_wp2_with fail
  obtain ⟨p, ep⟩ : ∃ p, W1.heap.size + 1 = p := ⟨_, rfl⟩
  rw [ep]
  refine name_call (fun wy => PosB wy p 7 3 ∧ (∃ cs : List Value, wy.heap[p + 1]? = some (Obj.cells cs.toArray 36) ∧ cs = [cDef 3 ⟨#[]⟩ 16384 (.slice none 0 0), [.int .i64 3, .string ⟨#[]⟩, .int .u16 1, .slice none 0 0, .int .i64 7, .int .i64 3]].flatten) ∧ Below w.heap.size w wy ∧ p < wy.heap.size) ⟨hpB (hpA (by simp only [World.size_alloc]; omega)), ⟨_, hpA (by simp only [World.size_alloc]; omega), rfl⟩, below_alloc (below_alloc (below_alloc hbw1 _) _) _, by simp only [World.size_alloc]; omega⟩ ?_
  rintro wy ⟨hp, ⟨cs, h1, e1⟩, hb, hlt⟩
  have g1 : k36.C wy (some ⟨p + 1, 0, none⟩) 2 big2 := C_block (xs := big2) _ h1 e1.symm (.cons (K_dleaf wy 3 _ 16384) (.cons (k36_mk wy ⟨3, ⟨#[]⟩, 1, [], ⟨7, 3⟩⟩ (Nat.le_refl _) (C_none0 _ _)) .nil)) (by decide)
  refine Of_nm (c := 2) (ds := big2) g1 rfl ⟨by decide, by decide, by decide⟩ hb ?_
  rw [ofA_big]
  intro W2 A2 c2 _ hb2 hbw2
  dsimp only [List.length_nil]
  have hp2 : PosB W2 p 7 3 := (hb2.block p hlt).trans hp
  clear hb hb2 h1 e1 g1 hp hlt
  go_wp2_with fail
  obtain ⟨q, eq⟩ : ∃ q, W2.heap.size = q := ⟨_, rfl⟩
  rw [eq]
  refine name_wp (fun wy => PosB wy p 7 3 ∧ PosB wy q 7 3 ∧ Below w.heap.size w wy) ⟨hpB hp2, hpA eq.symm, below_alloc hbw2 _⟩ ?_
  rintro V ⟨hp3, hq3, hbV⟩
  have hpA3 := Aside0.mk hp3
  have hqA3 := Aside0.mk hq3
  have hbA := Aside0.mk hbV
  clear hp3 hq3 hbV hp2 hbw2 eq
  have h0R : Aside0 (k36.R 36 V V.heap.size (fun _ => True) (.slice none 0 0) (dL 0)) := ⟨Kd.R_nil _ _ _ _ _⟩
  have h0B : Aside0 (Below V.heap.size V V) := ⟨Below.refl _ _⟩
  go_loopg [13, 14] 513 (fun gk v13 v14 wr => ∃ (i : Nat), v14 = .int .i64 (i : Int) ∧ i + gk = 513 ∧ Aside0 (k36.R 36 wr V.heap.size (fun _ => True) v13 (dL i)) ∧ Aside0 (Below V.heap.size V wr))
  case atStart => exact ⟨0, rfl, rfl, h0R, h0B⟩
  case round =>
    obtain ⟨i, rfl, hi, hR, hB⟩ := hrel
    cases gk with
    | zero =>
      obtain rfl : i = 513 := by omega
      obtain ⟨A3, c3, rfl, hc3, hC3⟩ := Kd.R_reads hR.out
      rw [dL_len] at hc3 hC3 ⊢
      have hC3A := Aside0.mk hC3
      clear hR hC3
      go_wp2_with fail
      have hbw := Aside0.mk (hbA.out.trans (hB.out.mono hbA.out.size))
      have hpw : PosB wr p 7 3 := (hB.out.block p (hpLt hpA3.out)).trans hpA3.out
      have hqw : PosB wr q 7 3 := (hB.out.block q (hpLt hqA3.out)).trans hqA3.out
      refine Of_nm (c := c3) (ds := dL 513) hC3A.out (dL_len _).symm (ok_dL (by omega)) hbw.out ?_
      rw [ofA_513]
      intro W3 A5 c5 _ hb5 hbw5
      dsimp only [List.length_nil]
      have hpw3 : PosB W3 p 7 3 := (hb5.block p (hpLt hpw)).trans hpw
      have hqw3 : PosB W3 q 7 3 := (hb5.block q (hpLt hqw)).trans hqw
      have hC5 := Kd.C_below hC3A.out hb5
      have hC5b : k36.C W3 A3 512 (dL 512) := by
        have h := hC5
        rw [show (513 : Nat) = (dL 513).length from (dL_len _).symm] at h
        have h2 := Kd.C_take (m := 512) h (by rw [dL_len]; omega)
        rw [dL_take (by omega), dL_len] at h2
        exact h2
      clear hpw hqw hC3A hb5 hbw hbA hB hpA3 hqA3 hC5
      go_wp2_with fail
      obtain ⟨r, er⟩ : ∃ r, W3.heap.size = r := ⟨_, rfl⟩
      refine name_call (fun wy => PosB wy p 7 3 ∧ PosB wy q 7 3 ∧ PosB wy r 512 0 ∧ k36.C wy A3 512 (dL 512) ∧ Below w.heap.size w wy) ⟨hpB hpw3, hpB hqw3, hpA er.symm, Kd.C_alloc hC5b _, below_alloc hbw5 _⟩ ?_
      rintro W4 ⟨hp4, hq4, hr4, hC4, hb4⟩
      refine Of_nm (c := c3) (ds := dL 512) hC4 (dL_len _).symm (ok_dL (by omega)) hb4 ?_
      rw [ofA_512.1, ofA_512.2]
      generalize (ofA (dL 512)).2.1 = z1
      generalize (ofA (dL 512)).2.2.1 = z2
      generalize (ofA (dL 512)).2.2.2.1 = z3
      generalize (ofA (dL 512)).2.2.2.2.1 = z4
      intro W6 A7 c7 _ hb7 hbw7
      have hp7 := Aside0.mk (show PosB W6 p 7 3 from (hb7.block p (hpLt hp4)).trans hp4)
      have hq7 := Aside0.mk (show PosB W6 q 7 3 from (hb7.block q (hpLt hq4)).trans hq4)
      have hr7 := Aside0.mk (show PosB W6 r 512 0 from (hb7.block r (hpLt hr4)).trans hr4)
      have hbA7 := Aside0.mk hbw7
      rw [er]
      clear hp4 hq4 hr4 hC4 hb4 hb7 hbw7 er hpw3 hqw3 hC5b hbw5
      go_upto_region 16 with (fail)
      refine name_wp (fun wy => PosB wy p 7 3 ∧ PosB wy q 7 3 ∧ PosB wy r 512 0 ∧ Below w.heap.size w wy) ⟨hpB hp7.out, hpB hq7.out, hpB hr7.out, below_alloc hbA7.out _⟩ ?_
      rintro V ⟨hp8, hq8, hr8, hb8⟩
      have hpA := Aside0.mk hp8
      have hqA := Aside0.mk hq8
      have hrA := Aside0.mk hr8
      have hbA := Aside0.mk hb8
      clear hp8 hq8 hr8 hb8 hp7 hq7 hr7 hbA7
      go_wp2_with (at_make; refine mkB (w0 := V) V.heap.size rfl rfl _ _ rfl rfl rfl (Below.refl _ _) (Nat.le_refl _) ?_; intro g cap wm hRm hBm; have hRm := Aside0.mk hRm; have hBm := Aside0.mk hBm)
      go_loopg [26] 8126 (fun gk v26 wr => ∃ (i : Nat), v26 = .int .i64 (i : Int) ∧ i + gk = 8126 ∧ Aside0 (k38.R 38 wr V.heap.size (fun _ => True) (.slice (some ⟨g, 0, none⟩) 8126 cap) (List.replicate i nB ++ List.replicate (8126 - i) z38)) ∧ Aside0 (Below V.heap.size V wr))
      case atStart => exact ⟨0, rfl, rfl, hRm, hBm⟩
      case round =>
        obtain ⟨i, rfl, hi, hR, hB⟩ := hrel
        cases gk with
        | zero =>
          obtain rfl : i = 8126 := by omega
          have hCB : k38.C wr (some ⟨g, 0, none⟩) 8126 (List.replicate 8126 nB) := by
            have h := (Kd.R_reads' hR.out).2.2
            simpa using h
          have hCBA := Aside0.mk hCB
          have hcap : 8126 ≤ cap := by simpa using (Kd.R_reads' hR.out).2.1
          have hRB := Aside0.mk hR.out
          rw [show (8126 - 8126 : Nat) = 0 from rfl, List.replicate_zero, List.append_nil] at hRB
          have hbx := Aside0.mk (hbA.out.trans (hB.out.mono hbA.out.size))
          have hp9 : PosB wr p 7 3 := (hB.out.block p (hpLt hpA.out)).trans hpA.out
          have hq9 : PosB wr q 7 3 := (hB.out.block q (hpLt hqA.out)).trans hqA.out
          have hr9 : PosB wr r 512 0 := (hB.out.block r (hpLt hrA.out)).trans hrA.out
          have hsV := hB.out.size
          have hlt : Aside0 (Lts w V.heap.size p q r) := ⟨⟨hpLt hpA.out, hpLt hqA.out, hpLt hrA.out, hbA.out.size⟩⟩
          clear hR hCB hbA hB hpA hqA hrA
          go_wp2_with fail
          refine name_call (fun wy => PosB wy p 7 3 ∧ PosB wy q 7 3 ∧ PosB wy r 512 0 ∧ k38.R 38 wy V.heap.size (fun _ => True) (.slice (some ⟨g, 0, none⟩) 8126 cap) (List.replicate 8126 nB) ∧ k36.C wy (some ⟨wr.heap.size, 0, none⟩) 1 [dB 8126 0 0] ∧ Below w.heap.size w wy ∧ V.heap.size ≤ wy.heap.size) ⟨hpB hp9, hpB hq9, hpB hr9, Kd.R_alloc hRB.out _, ?_, below_alloc hbx.out _, by rw [World.size_alloc]; omega⟩ ?_
          · exact C_block (xs := [dB 8126 0 0]) [_] (hpA rfl) (by simp [dB]) (.cons (k36_mk _ (dB 8126 0 0) (A3 := some ⟨g, 0, none⟩) (c3 := cap) (by simpa [dB] using hcap) (by simpa [dB] using Kd.C_alloc hCBA.out _)) .nil) (by simp)
          rintro W4 ⟨hp4, hq4, hr4, hR4, hC4, hb4, hs4⟩
          refine Of_nm (c := 1) (ds := [dB 8126 0 0]) hC4 rfl (ok_dB (by omega) 0 0) hb4 ?_
          rw [ofA_full.1, ofA_full.2]
          generalize (ofA [dB 8126 0 0]).1.length = z0
          generalize (ofA [dB 8126 0 0]).2.2.1 = y2
          generalize (ofA [dB 8126 0 0]).2.2.2.1 = y3
          generalize (ofA [dB 8126 0 0]).2.2.2.2.1 = y4
          intro W6 A9 c9 _ hb6 hbw6
          have hpZ := Aside0.mk (show PosB W6 p 7 3 from (hb6.block p (hpLt hp4)).trans hp4)
          have hqZ := Aside0.mk (show PosB W6 q 7 3 from (hb6.block q (hpLt hq4)).trans hq4)
          have hrZ := Aside0.mk (show PosB W6 r 512 0 from (hb6.block r (hpLt hr4)).trans hr4)
          have hRZ := Aside0.mk (Kd.R_below hR4 hb6)
          have hbZ := Aside0.mk hbw6
          have hsZ := Aside0.mk (Nat.le_trans hs4 hb6.size)
          clear hp4 hq4 hr4 hR4 hC4 hb4 hs4 hb6 hbw6 hp9 hq9 hr9 hbx hRB hCBA
          go_upto_region 22 with (fail)
          refine name_wp (fun wy => Ax w V.heap.size p q r wy ∧ k38.R 38 wy V.heap.size (fun _ => True) (.slice (some ⟨g, 0, none⟩) 8126 cap) (List.replicate 8126 nB)) ⟨Ax.step ⟨hpZ.out, hqZ.out, hrZ.out, hbZ.out, hsZ.out⟩ (below_alloc (Below.refl _ _) _), Kd.R_alloc hRZ.out _⟩ ?_
          rintro UU ⟨hA1, hR1⟩
          have hdr : Below UU.heap.size UU UU.drew := below_drew1 (Below.refl _ _)
          have hA := Aside0.mk (hA1.step hdr)
          have hR := Aside0.mk (Kd.R_below hR1 hdr)
          clear hpZ hqZ hrZ hbZ hsZ hRZ hA1 hR1 hdr
          refine start_ (n := 23) (S := (fun w' => PosB w' p 7 3)) (ds := []) #[false, false, false, false, false, false, false, false, false, false, false, false, false, false, false, false, false, false, false, false, false, false, false] (by kernel_rfl) rfl rfl hA.out.hp (fun hHeld => ?_)
          generalize UU.drew = U at *
          have hgl : Aside0 (g < U.heap.size) := ⟨Kd.R_lt hR.out g (by simp [Value.ownBlock])⟩
          have hs0 : Aside0 (g < U.heap.size) := hgl
          have hs1 : Aside0 (V.heap.size ≤ U.heap.size) := ⟨hA.out.hs⟩
          have hsz : Aside0 (U.heap.size ≤ U.heap.size) := ⟨Nat.le_refl _⟩
          refine pure_ (i := 0) (N := some 128) (v := ?_) (a' := ?_) #[true, false, false, false, false, false, false, false, false, false, false, false, false, false, false, false, false, false, false, false, false, false, false] rfl rfl (by kernel_rfl) (fun _ _ _ h => h) (Or.inl ⟨by rfl, ?_⟩) ?_ ?_
          rotate_left
          · intro w'
            go_simp
            with_reducible rfl
          rotate_left
          · simp only [Act.put, List.setIfInBounds_toArray, List.set_cons_zero, List.set_cons_succ, i64_w, i32_w]
            rfl
          refine pure_ (i := 1) (N := some 129) (v := ?_) (a' := ?_) #[true, true, false, false, false, false, false, false, false, false, false, false, false, false, false, false, false, false, false, false, false, false, false] rfl rfl (by kernel_rfl) (fun _ _ _ h => h) (Or.inl ⟨by rfl, ?_⟩) ?_ ?_
          rotate_left
          · intro w'
            go_simp
            with_reducible rfl
          rotate_left
          · simp only [Act.put, List.setIfInBounds_toArray, List.set_cons_zero, List.set_cons_succ, i64_w, i32_w]
            rfl
          refine pure_ (i := 2) (N := some 130) (v := ?_) (a' := ?_) #[true, true, true, false, false, false, false, false, false, false, false, false, false, false, false, false, false, false, false, false, false, false, false] rfl rfl (by kernel_rfl) (fun _ _ _ h => h) (Or.inl ⟨by rfl, ?_⟩) ?_ ?_
          rotate_left
          · intro w'
            go_simp
            with_reducible rfl
          rotate_left
          · simp only [Act.put, List.setIfInBounds_toArray, List.set_cons_zero, List.set_cons_succ, i64_w, i32_w]
            rfl
          refine take_ (i := 6) (N := some 134) (v := ?_) (a' := ?_) #[true, true, true, false, false, false, true, false, false, false, false, false, false, false, false, false, false, false, false, false, false, false, false] rfl rfl (by kernel_rfl) (fun _ _ _ h => h) (Or.inl ⟨by rfl, ?_⟩) hHeld ?_ ?_
          rotate_left
          · rintro w' hSw
            obtain ⟨e0, e1, _⟩ := PosB.cells hSw
            go_simp
            with_reducible rfl
          rotate_left
          · simp only [Act.put, List.setIfInBounds_toArray, List.set_cons_zero, List.set_cons_succ, i64_w, i32_w]
            rfl
          refine two_ (i := 3) (j := 17) (Ni := some 131) (Nj := some 35) #[true, true, true, true, false, false, true, false, false, false, false, false, false, false, false, false, false, false, false, false, false, false, false] #[true, true, true, false, false, false, true, false, false, false, false, false, false, false, false, false, false, true, false, false, false, false, false] rfl rfl rfl rfl (by kernel_rfl) (by decide) (by decide) (fun K hK => ?_) (fun K hK => ?_)
          · obtain ⟨v4, v5, hcl, hM0⟩ := node0 hR.out
            have n0 := hcl 0 _ rfl
            have n1 := hcl 1 _ rfl
            have n2 := hcl 2 _ rfl
            have n3 := hcl 3 _ rfl
            have n4 := hcl 4 _ rfl
            have n5 := hcl 5 _ rfl
            have n6 := hcl 6 _ rfl
            have n7 := hcl 7 _ rfl
            have n8 := hcl 8 _ rfl
            have hM := Aside0.mk hM0
            clear hcl hM0
            refine value_ (v := .agg (cN v4 v5).toArray) (w1 := U) (by rfl) rfl (by go_simp; try rfl) ?_
            refine hK.out _ _ hA.out.hp (fun hHeld => ?_)
            clear hK
            clear n0 n1 n2 n3 n4 n5 n6 n7 n8
            refine norm_ (a' := ?_) ?_ ?_
            rotate_left
            · show Act.put _ (some 131) _ = _
              simp only [Act.put, List.setIfInBounds_toArray, List.set_cons_zero, List.set_cons_succ, i64_w, i32_w]
              rfl
            refine two_ (i := 4) (j := 17) (Ni := some 132) (Nj := some 35) #[true, true, true, true, true, false, true, false, false, false, false, false, false, false, false, false, false, false, false, false, false, false, false] #[true, true, true, true, false, false, true, false, false, false, false, false, false, false, false, false, false, true, false, false, false, false, false] rfl rfl rfl rfl (by kernel_rfl) (by decide) (by decide) (fun K hK => ?_) (fun K hK => ?_)
            · obtain ⟨X, eX⟩ : ∃ x, x = U.heap.size := ⟨_, rfl⟩
              obtain ⟨u2, hu⟩ : ∃ x, x = U.alloc (.cells (cN v4 v5).toArray 38) := ⟨_, rfl⟩
              have hB : Below U.heap.size U u2 := hu ▸ below_alloc (Below.refl _ _) _
              have hA := Aside0.mk (hA.out.step hB)
              have hR := Aside0.mk (Kd.R_below hR.out hB)
              have hM := Aside0.mk (Kd.M_below hM.out hB)
              have hX : Aside0 (u2.heap[X]? = some (Obj.cells (cN v4 v5).toArray 38)) := ⟨by rw [hu, eX]; exact hpA rfl⟩
              refine value_ (v := (.slice (some ⟨X, 0, none⟩) 1 1)) (w1 := u2) (by rfl) rfl (by rw [hu, eX]; go_simp; try rfl) ?_
              have hsz := Aside0.mk (Nat.le_trans hsz.out hB.size)
              clear hu hB eX
              refine hK.out _ _ hA.out.hp (fun hHeld => ?_)
              clear hK
              refine norm_ (a' := ?_) ?_ ?_
              rotate_left
              · show Act.put _ (some 132) _ = _
                simp only [Act.put, List.setIfInBounds_toArray, List.set_cons_zero, List.set_cons_succ, i64_w, i32_w]
                rfl
              refine two_ (i := 5) (j := 17) (Ni := some 133) (Nj := some 35) #[true, true, true, true, true, true, true, false, false, false, false, false, false, false, false, false, false, false, false, false, false, false, false] #[true, true, true, true, true, false, true, false, false, false, false, false, false, false, false, false, false, true, false, false, false, false, false] rfl rfl rfl rfl (by kernel_rfl) (by decide) (by decide) (fun K hK => ?_) (fun K hK => ?_)
              · refine Kd.R_append_rows_step (P := Try.prog) k38 (w0 := u2) V.heap.size (by rfl) (.tmp 128) (.tmp 132) 34 38 (.agg #[(.int .i64 0), (.int .i64 0), (.int .u16 0), (.string ⟨#[]⟩), (.slice none 0 0), (.slice none 0 0), (.bool false), (.int .i64 0), (.int .i64 0)]) 112 rfl Try.underlying34 (by rw [szk38]; exact infoNode) (by rw [szk38]; rfl) (by rw [szk38]; decide) (by decide) (.slice (some ⟨g, 0, none⟩) 8126 cap) (List.replicate 8126 nB) [nB] (some ⟨X, 0, none⟩) 1 1 (fun _ => True) (fun k => True ∧ k ≠ g) rfl rfl hR.out (rr1 hX.out) (by rintro _ _ ⟨rfl, rfl⟩; exact hM.out) (fun k hk => ⟨trivial, fun e => hk.2 (by simpa [Value.ownBlock] using e)⟩) (fun _ _ => trivial) (Below.refl _ _) hA.out.hs (by rw [List.length_replicate]; decide) ?_
                intro v1 u3 hR5 hB5 hg5 _
                rw [show List.replicate 8126 nB ++ [nB] = List.replicate 8127 nB from (List.replicate_succ' (n := 8126)).symm] at hR5
                obtain ⟨A4, c4, rfl, hc5, hC5⟩ := Kd.R_reads hR5
                rw [List.length_replicate] at hc5 hC5 ⊢
                have hc4 := Aside0.mk hc5
                have hC := Aside0.mk hC5
                have hA := Aside0.mk (hA.out.step5 hlt.out hB5)
                have hsz := Aside0.mk (Nat.le_trans hsz.out hB5.size)
                clear hR5 hB5 hg5 hc5 hC5
                refine hK.out _ _ hA.out.hp (fun hHeld => ?_)
                clear hK
                refine norm_ (a' := ?_) ?_ ?_
                rotate_left
                · show Act.put _ (some 133) _ = _
                  simp only [Act.put, List.setIfInBounds_toArray, List.set_cons_zero, List.set_cons_succ, i64_w, i32_w]
                  rfl
                refine pure_ (i := 7) (N := some 135) (v := ?_) (a' := ?_) #[true, true, true, true, true, true, true, true, false, false, false, false, false, false, false, false, false, false, false, false, false, false, false] rfl rfl (by kernel_rfl) (fun _ _ _ h => h) (Or.inl ⟨by rfl, ?_⟩) ?_ ?_
                rotate_left
                · intro w'
                  go_simp
                  with_reducible rfl
                rotate_left
                · simp only [Act.put, List.setIfInBounds_toArray, List.set_cons_zero, List.set_cons_succ, i64_w, i32_w]
                  rfl
                refine two_ (i := 8) (j := 17) (Ni := some 136) (Nj := some 35) #[true, true, true, true, true, true, true, true, true, false, false, false, false, false, false, false, false, false, false, false, false, false, false] #[true, true, true, true, true, true, true, true, false, false, false, false, false, false, false, false, false, true, false, false, false, false, false] rfl rfl rfl rfl (by kernel_rfl) (by decide) (by decide) (fun K hK => ?_) (fun K hK => ?_)
                · obtain ⟨Y, eX⟩ : ∃ x, x = u3.heap.size := ⟨_, rfl⟩
                  obtain ⟨u4, hu⟩ : ∃ x, x = u3.alloc (.cells #[.int .i64 1, .string ⟨#[]⟩, .int .u16 0, .slice A4 8127 c4, .int .i64 7, .int .i64 3] 36) := ⟨_, rfl⟩
                  have hB : Below u3.heap.size u3 u4 := hu ▸ below_alloc (Below.refl _ _) _
                  have hA := Aside0.mk (hA.out.step hB)
                  have hC := Aside0.mk (Kd.C_below hC.out hB)
                  have hY : Aside0 (u4.heap[Y]? = some (Obj.cells #[.int .i64 1, .string ⟨#[]⟩, .int .u16 0, .slice A4 8127 c4, .int .i64 7, .int .i64 3] 36)) := ⟨by rw [hu, eX]; exact hpA rfl⟩
                  refine value_ (v := (.slice (some ⟨Y, 0, none⟩) 1 1)) (w1 := u4) (by rfl) rfl (by rw [hu, eX]; go_simp; try rfl) ?_
                  have hsz := Aside0.mk (Nat.le_trans hsz.out hB.size)
                  clear hu hB eX
                  refine hK.out _ _ hA.out.hp (fun hHeld => ?_)
                  clear hK
                  refine norm_ (a' := ?_) ?_ ?_
                  rotate_left
                  · show Act.put _ (some 136) _ = _
                    simp only [Act.put, List.setIfInBounds_toArray, List.set_cons_zero, List.set_cons_succ, i64_w, i32_w]
                    rfl
                  refine pure_ (i := 9) (N := some 137) (v := ?_) (a' := ?_) #[true, true, true, true, true, true, true, true, true, true, false, false, false, false, false, false, false, false, false, false, false, false, false] rfl rfl (by kernel_rfl) (fun _ _ _ h => h) (Or.inl ⟨by rfl, ?_⟩) ?_ ?_
                  rotate_left
                  · intro w'
                    go_simp
                    with_reducible rfl
                  rotate_left
                  · simp only [Act.put, List.setIfInBounds_toArray, List.set_cons_zero, List.set_cons_succ, i64_w, i32_w]
                    rfl
                  refine two_ (i := 10) (j := 17) (Ni := some 138) (Nj := some 35) #[true, true, true, true, true, true, true, true, true, true, true, false, false, false, false, false, false, false, false, false, false, false, false] #[true, true, true, true, true, true, true, true, true, true, false, false, false, false, false, false, false, true, false, false, false, false, false] rfl rfl rfl rfl (by kernel_rfl) (by decide) (by decide) (fun K hK => ?_) (fun K hK => ?_)
                  · refine goes_ Try.func14 (by kernel_rfl) rfl #[.agg #[.slice (some ⟨Y, 0, none⟩) 1 1, .slice none 0 0]] (by rfl) rfl rfl (by first | rfl | kernel_rfl | simp [Act.eval]) ?_
                    refine Of_nm (w := w) (c := 1) (ds := [dB 8127 7 3]) (C_block (xs := [dB 8127 7 3]) [_] hY.out (by simp [dB]) (.cons (k36_mk _ (dB 8127 7 3) (A3 := A4) (c3 := c4) (by simpa [dB] using hc4.out) (by simpa [dB] using hC.out)) .nil) (by simp)) rfl (ok_dB (by omega) 7 3) hA.out.hb ?_
                    rw [ofA_over]
                    intro u5 A6 c6 _ hB _
                    dsimp only [List.length_nil]
                    have hA := Aside0.mk (hA.out.step hB)
                    have hsz := Aside0.mk (Nat.le_trans hsz.out hB.size)
                    clear hB
                    refine ⟨_, rfl, hK.out _ _ hA.out.hp (fun hHeld => ?_)⟩
                    clear hK
                    refine norm_ (a' := ?_) ?_ ?_
                    rotate_left
                    · show Act.put _ (some 138) _ = _
                      simp only [Act.put, List.setIfInBounds_toArray, List.set_cons_zero, List.set_cons_succ, i64_w, i32_w]
                      rfl
                    refine pure_ (i := 11) (N := some 127) (v := ?_) (a' := ?_) #[true, true, true, true, true, true, true, true, true, true, true, true, false, false, false, false, false, false, false, false, false, false, false] rfl rfl (by kernel_rfl) (fun _ _ _ h => h) (Or.inl ⟨by rfl, ?_⟩) ?_ ?_
                    rotate_left
                    · intro w'
                      go_simp
                      with_reducible rfl
                    rotate_left
                    · simp only [Act.put, List.setIfInBounds_toArray, List.set_cons_zero, List.set_cons_succ, i64_w, i32_w]
                      rfl
                    refine pure_ (i := 12) (N := some 139) (v := ?_) (a' := ?_) #[true, true, true, true, true, true, true, true, true, true, true, true, true, false, false, false, false, false, false, false, false, false, false] rfl rfl (by kernel_rfl) (fun _ _ _ h => h) (Or.inl ⟨by rfl, ?_⟩) ?_ ?_
                    rotate_left
                    · intro w'
                      go_simp
                      with_reducible rfl
                    rotate_left
                    · simp only [Act.put, List.setIfInBounds_toArray, List.set_cons_zero, List.set_cons_succ, i64_w, i32_w]
                      rfl
                    refine pure_ (i := 13) (N := some 140) (v := ?_) (a' := ?_) #[true, true, true, true, true, true, true, true, true, true, true, true, true, true, false, false, false, false, false, false, false, false, false] rfl rfl (by kernel_rfl) (fun _ _ _ h => h) (Or.inl ⟨by rfl, ?_⟩) ?_ ?_
                    rotate_left
                    · intro w'
                      go_simp
                      with_reducible rfl
                    rotate_left
                    · simp only [Act.put, List.setIfInBounds_toArray, List.set_cons_zero, List.set_cons_succ, i64_w, i32_w]
                      rfl
                    refine pure_ (i := 14) (N := some 141) (v := ?_) (a' := ?_) #[true, true, true, true, true, true, true, true, true, true, true, true, true, true, true, false, false, false, false, false, false, false, false] rfl rfl (by kernel_rfl) (fun _ _ _ h => h) (Or.inl ⟨by rfl, ?_⟩) ?_ ?_
                    rotate_left
                    · intro w'
                      go_simp
                      with_reducible rfl
                    rotate_left
                    · simp only [Act.put, List.setIfInBounds_toArray, List.set_cons_zero, List.set_cons_succ, i64_w, i32_w]
                      rfl
                    refine pure_ (i := 15) (N := some 142) (v := ?_) (a' := ?_) #[true, true, true, true, true, true, true, true, true, true, true, true, true, true, true, true, false, false, false, false, false, false, false] rfl rfl (by kernel_rfl) (fun _ _ _ h => h) (Or.inl ⟨by rfl, ?_⟩) ?_ ?_
                    rotate_left
                    · intro w'
                      go_simp
                      with_reducible rfl
                    rotate_left
                    · simp only [Act.put, List.setIfInBounds_toArray, List.set_cons_zero, List.set_cons_succ, i64_w, i32_w]
                      rfl
                    refine pure_ (i := 16) (N := some 143) (v := ?_) (a' := ?_) #[true, true, true, true, true, true, true, true, true, true, true, true, true, true, true, true, true, false, false, false, false, false, false] rfl rfl (by kernel_rfl) (fun _ _ _ h => h) (Or.inl ⟨by rfl, ?_⟩) ?_ ?_
                    rotate_left
                    · intro w'
                      go_simp
                      with_reducible rfl
                    rotate_left
                    · simp only [Act.put, List.setIfInBounds_toArray, List.set_cons_zero, List.set_cons_succ, i64_w, i32_w]
                      rfl
                    refine one_ (i := 17) (N := some 35) #[true, true, true, true, true, true, true, true, true, true, true, true, true, true, true, true, true, true, false, false, false, false, false] rfl rfl (by kernel_rfl) (by decide) (fun K hK => ?_)
                    obtain ⟨b35, eX⟩ : ∃ x, x = u5.heap.size := ⟨_, rfl⟩
                    obtain ⟨u6, hu⟩ : ∃ x, x = u5.alloc (.cells #[.int .i64 0, .int .i64 0] 25) := ⟨_, rfl⟩
                    have hB : Below u5.heap.size u5 u6 := hu ▸ below_alloc (Below.refl _ _) _
                    have hA := Aside0.mk (hA.out.step hB)
                    have hb35 : Aside0 (u6.heap[b35]? = some (Obj.cells #[.int .i64 0, .int .i64 0] 25)) := ⟨by rw [hu, eX]; exact hpA rfl⟩
                    have hgb : Aside0 (g < b35 ∧ V.heap.size ≤ b35) := ⟨by have := hs0.out; have := hsz.out; omega, by have := hsz.out; have := hs1.out; omega⟩
                    refine value_ (v := (.pointer (some ⟨b35, 0, none⟩))) (w1 := u6) (by rfl) rfl (by rw [hu, eX]; go_simp; try rfl) ?_
                    have hsz := Aside0.mk (Nat.le_trans hsz.out hB.size)
                    clear hu hB eX
                    refine hK.out _ _ hA.out.hp (fun hHeld => ?_)
                    clear hK
                    refine norm_ (a' := ?_) ?_ ?_
                    rotate_left
                    · show Act.put _ (some 35) _ = _
                      simp only [Act.put, List.setIfInBounds_toArray, List.set_cons_zero, List.set_cons_succ, i64_w, i32_w]
                      rfl
                    refine pure_ (i := 18) (N := some 32) (v := ?_) (a' := ?_) #[true, true, true, true, true, true, true, true, true, true, true, true, true, true, true, true, true, true, true, false, false, false, false] rfl rfl (by kernel_rfl) (fun _ _ _ h => h) (Or.inl ⟨by rfl, ?_⟩) ?_ ?_
                    rotate_left
                    · intro w'
                      go_simp
                      with_reducible rfl
                    rotate_left
                    · simp only [Act.put, List.setIfInBounds_toArray, List.set_cons_zero, List.set_cons_succ, i64_w, i32_w]
                      rfl
                    refine pure_ (i := 19) (N := some 33) (v := ?_) (a' := ?_) #[true, true, true, true, true, true, true, true, true, true, true, true, true, true, true, true, true, true, true, true, false, false, false] rfl rfl (by kernel_rfl) (fun _ _ _ h => h) (Or.inl ⟨by rfl, ?_⟩) ?_ ?_
                    rotate_left
                    · intro w'
                      go_simp
                      with_reducible rfl
                    rotate_left
                    · simp only [Act.put, List.setIfInBounds_toArray, List.set_cons_zero, List.set_cons_succ, i64_w, i32_w]
                      rfl
                    refine pure_ (i := 20) (N := some 34) (v := ?_) (a' := ?_) #[true, true, true, true, true, true, true, true, true, true, true, true, true, true, true, true, true, true, true, true, true, false, false] rfl rfl (by kernel_rfl) (fun _ _ _ h => h) (Or.inl ⟨by rfl, ?_⟩) ?_ ?_
                    rotate_left
                    · intro w'
                      go_simp
                      with_reducible rfl
                    rotate_left
                    · simp only [Act.put, List.setIfInBounds_toArray, List.set_cons_zero, List.set_cons_succ, i64_w, i32_w]
                      rfl
                    refine one_ (i := 21) (N := none) #[true, true, true, true, true, true, true, true, true, true, true, true, true, true, true, true, true, true, true, true, true, true, false] rfl rfl (by kernel_rfl) (by decide) (fun K hK => ?_)
                    obtain ⟨e0, e1, e2⟩ := PosB.cells hb35.out
                    have f0 := e2 0
                    have f1 := e2 1
                    obtain ⟨uz, hu⟩ : ∃ x, x = (u6.setCell ⟨b35, 0, none⟩ (.int .i64 7)).setCell ⟨b35, 1, none⟩ (.int .i64 3) := ⟨_, rfl⟩
                    refine skip_ (w1 := uz) (by rfl) rfl ?_ ?_
                    · rw [hu]
                      go_simp
                      try rfl
                    clear e0 e1 e2 f0 f1
                    have hA : Aside0 (Ax w V.heap.size p q r uz) := ⟨by rw [hu]; exact hA.out.put hlt.out hgb.out.2 (.int .i64 7) (.int .i64 3)⟩
                    have hb35 : Aside0 (PosB uz b35 7 3) := ⟨by rw [hu]; exact PosB.set (l := 0) (c := 0) hb35.out 7 3⟩
                    clear hu
                    refine hK.out _ _ hA.out.hp (fun hHeld => ?_)
                    clear hK
                    refine pure_ (i := 22) (N := some 36) (v := ?_) (a' := ?_) #[true, true, true, true, true, true, true, true, true, true, true, true, true, true, true, true, true, true, true, true, true, true, true] rfl rfl (by kernel_rfl) (fun _ _ _ h => h) (Or.inl ⟨by rfl, ?_⟩) ?_ ?_
                    rotate_left
                    · intro w'
                      go_simp
                      with_reducible rfl
                    rotate_left
                    · simp only [Act.put, List.setIfInBounds_toArray, List.set_cons_zero, List.set_cons_succ, i64_w, i32_w]
                      rfl
                    refine done_ (by kernel_rfl) ?_
                    have hw := Aside0.mk hA.out.hb
                    obtain ⟨p0, p1, _⟩ := PosB.cells hA.out.hp
                    obtain ⟨q0, q1, _⟩ := PosB.cells hA.out.hq
                    obtain ⟨r0, r1, _⟩ := PosB.cells hA.out.hr
                    obtain ⟨s0, s1, _⟩ := PosB.cells hb35.out
                    clear hA hb35 hHeld
                    go_wp2
                    go_ret
                    exact ⟨rfl, hw.out⟩
                  · obtain ⟨b35, eX⟩ : ∃ x, x = u4.heap.size := ⟨_, rfl⟩
                    obtain ⟨u7, hu⟩ : ∃ x, x = u4.alloc (.cells #[.int .i64 0, .int .i64 0] 25) := ⟨_, rfl⟩
                    have hB : Below u4.heap.size u4 u7 := hu ▸ below_alloc (Below.refl _ _) _
                    have hA := Aside0.mk (hA.out.step hB)
                    have hC := Aside0.mk (Kd.C_below hC.out hB)
                    have hY := Aside0.mk (hpK hY.out hB)
                    have hb35 : Aside0 (u7.heap[b35]? = some (Obj.cells #[.int .i64 0, .int .i64 0] 25)) := ⟨by rw [hu, eX]; exact hpA rfl⟩
                    have hgb : Aside0 (g < b35 ∧ V.heap.size ≤ b35) := ⟨by have := hs0.out; have := hsz.out; omega, by have := hsz.out; have := hs1.out; omega⟩
                    refine value_ (v := (.pointer (some ⟨b35, 0, none⟩))) (w1 := u7) (by rfl) rfl (by rw [hu, eX]; go_simp; try rfl) ?_
                    have hsz := Aside0.mk (Nat.le_trans hsz.out hB.size)
                    clear hu hB eX
                    refine hK.out _ _ hA.out.hp (fun hHeld => ?_)
                    clear hK
                    refine norm_ (a' := ?_) ?_ ?_
                    rotate_left
                    · show Act.put _ (some 35) _ = _
                      simp only [Act.put, List.setIfInBounds_toArray, List.set_cons_zero, List.set_cons_succ, i64_w, i32_w]
                      rfl
                    refine one_ (i := 10) (N := some 138) #[true, true, true, true, true, true, true, true, true, true, true, false, false, false, false, false, false, true, false, false, false, false, false] rfl rfl (by kernel_rfl) (by decide) (fun K hK => ?_)
                    refine goes_ Try.func14 (by kernel_rfl) rfl #[.agg #[.slice (some ⟨Y, 0, none⟩) 1 1, .slice none 0 0]] (by rfl) rfl rfl (by first | rfl | kernel_rfl | simp [Act.eval]) ?_
                    refine Of_nm (w := w) (c := 1) (ds := [dB 8127 7 3]) (C_block (xs := [dB 8127 7 3]) [_] hY.out (by simp [dB]) (.cons (k36_mk _ (dB 8127 7 3) (A3 := A4) (c3 := c4) (by simpa [dB] using hc4.out) (by simpa [dB] using hC.out)) .nil) (by simp)) rfl (ok_dB (by omega) 7 3) hA.out.hb ?_
                    rw [ofA_over]
                    intro u8 A6 c6 _ hB _
                    dsimp only [List.length_nil]
                    have hA := Aside0.mk (hA.out.step hB)
                    have hb35 := Aside0.mk (hpK (o := Obj.cells #[.int .i64 0, .int .i64 0] 25) hb35.out hB)
                    have hsz := Aside0.mk (Nat.le_trans hsz.out hB.size)
                    clear hB
                    refine ⟨_, rfl, hK.out _ _ hA.out.hp (fun hHeld => ?_)⟩
                    clear hK
                    refine norm_ (a' := ?_) ?_ ?_
                    rotate_left
                    · show Act.put _ (some 138) _ = _
                      simp only [Act.put, List.setIfInBounds_toArray, List.set_cons_zero, List.set_cons_succ, i64_w, i32_w]
                      rfl
                    refine pure_ (i := 11) (N := some 127) (v := ?_) (a' := ?_) #[true, true, true, true, true, true, true, true, true, true, true, true, false, false, false, false, false, true, false, false, false, false, false] rfl rfl (by kernel_rfl) (fun _ _ _ h => h) (Or.inl ⟨by rfl, ?_⟩) ?_ ?_
                    rotate_left
                    · intro w'
                      go_simp
                      with_reducible rfl
                    rotate_left
                    · simp only [Act.put, List.setIfInBounds_toArray, List.set_cons_zero, List.set_cons_succ, i64_w, i32_w]
                      rfl
                    refine pure_ (i := 12) (N := some 139) (v := ?_) (a' := ?_) #[true, true, true, true, true, true, true, true, true, true, true, true, true, false, false, false, false, true, false, false, false, false, false] rfl rfl (by kernel_rfl) (fun _ _ _ h => h) (Or.inl ⟨by rfl, ?_⟩) ?_ ?_
                    rotate_left
                    · intro w'
                      go_simp
                      with_reducible rfl
                    rotate_left
                    · simp only [Act.put, List.setIfInBounds_toArray, List.set_cons_zero, List.set_cons_succ, i64_w, i32_w]
                      rfl
                    refine pure_ (i := 13) (N := some 140) (v := ?_) (a' := ?_) #[true, true, true, true, true, true, true, true, true, true, true, true, true, true, false, false, false, true, false, false, false, false, false] rfl rfl (by kernel_rfl) (fun _ _ _ h => h) (Or.inl ⟨by rfl, ?_⟩) ?_ ?_
                    rotate_left
                    · intro w'
                      go_simp
                      with_reducible rfl
                    rotate_left
                    · simp only [Act.put, List.setIfInBounds_toArray, List.set_cons_zero, List.set_cons_succ, i64_w, i32_w]
                      rfl
                    refine pure_ (i := 14) (N := some 141) (v := ?_) (a' := ?_) #[true, true, true, true, true, true, true, true, true, true, true, true, true, true, true, false, false, true, false, false, false, false, false] rfl rfl (by kernel_rfl) (fun _ _ _ h => h) (Or.inl ⟨by rfl, ?_⟩) ?_ ?_
                    rotate_left
                    · intro w'
                      go_simp
                      with_reducible rfl
                    rotate_left
                    · simp only [Act.put, List.setIfInBounds_toArray, List.set_cons_zero, List.set_cons_succ, i64_w, i32_w]
                      rfl
                    refine pure_ (i := 15) (N := some 142) (v := ?_) (a' := ?_) #[true, true, true, true, true, true, true, true, true, true, true, true, true, true, true, true, false, true, false, false, false, false, false] rfl rfl (by kernel_rfl) (fun _ _ _ h => h) (Or.inl ⟨by rfl, ?_⟩) ?_ ?_
                    rotate_left
                    · intro w'
                      go_simp
                      with_reducible rfl
                    rotate_left
                    · simp only [Act.put, List.setIfInBounds_toArray, List.set_cons_zero, List.set_cons_succ, i64_w, i32_w]
                      rfl
                    refine pure_ (i := 16) (N := some 143) (v := ?_) (a' := ?_) #[true, true, true, true, true, true, true, true, true, true, true, true, true, true, true, true, true, true, false, false, false, false, false] rfl rfl (by kernel_rfl) (fun _ _ _ h => h) (Or.inl ⟨by rfl, ?_⟩) ?_ ?_
                    rotate_left
                    · intro w'
                      go_simp
                      with_reducible rfl
                    rotate_left
                    · simp only [Act.put, List.setIfInBounds_toArray, List.set_cons_zero, List.set_cons_succ, i64_w, i32_w]
                      rfl
                    refine pure_ (i := 18) (N := some 32) (v := ?_) (a' := ?_) #[true, true, true, true, true, true, true, true, true, true, true, true, true, true, true, true, true, true, true, false, false, false, false] rfl rfl (by kernel_rfl) (fun _ _ _ h => h) (Or.inl ⟨by rfl, ?_⟩) ?_ ?_
                    rotate_left
                    · intro w'
                      go_simp
                      with_reducible rfl
                    rotate_left
                    · simp only [Act.put, List.setIfInBounds_toArray, List.set_cons_zero, List.set_cons_succ, i64_w, i32_w]
                      rfl
                    refine pure_ (i := 19) (N := some 33) (v := ?_) (a' := ?_) #[true, true, true, true, true, true, true, true, true, true, true, true, true, true, true, true, true, true, true, true, false, false, false] rfl rfl (by kernel_rfl) (fun _ _ _ h => h) (Or.inl ⟨by rfl, ?_⟩) ?_ ?_
                    rotate_left
                    · intro w'
                      go_simp
                      with_reducible rfl
                    rotate_left
                    · simp only [Act.put, List.setIfInBounds_toArray, List.set_cons_zero, List.set_cons_succ, i64_w, i32_w]
                      rfl
                    refine pure_ (i := 20) (N := some 34) (v := ?_) (a' := ?_) #[true, true, true, true, true, true, true, true, true, true, true, true, true, true, true, true, true, true, true, true, true, false, false] rfl rfl (by kernel_rfl) (fun _ _ _ h => h) (Or.inl ⟨by rfl, ?_⟩) ?_ ?_
                    rotate_left
                    · intro w'
                      go_simp
                      with_reducible rfl
                    rotate_left
                    · simp only [Act.put, List.setIfInBounds_toArray, List.set_cons_zero, List.set_cons_succ, i64_w, i32_w]
                      rfl
                    refine one_ (i := 21) (N := none) #[true, true, true, true, true, true, true, true, true, true, true, true, true, true, true, true, true, true, true, true, true, true, false] rfl rfl (by kernel_rfl) (by decide) (fun K hK => ?_)
                    obtain ⟨e0, e1, e2⟩ := PosB.cells hb35.out
                    have f0 := e2 0
                    have f1 := e2 1
                    obtain ⟨uz, hu⟩ : ∃ x, x = (u8.setCell ⟨b35, 0, none⟩ (.int .i64 7)).setCell ⟨b35, 1, none⟩ (.int .i64 3) := ⟨_, rfl⟩
                    refine skip_ (w1 := uz) (by rfl) rfl ?_ ?_
                    · rw [hu]
                      go_simp
                      try rfl
                    clear e0 e1 e2 f0 f1
                    have hA : Aside0 (Ax w V.heap.size p q r uz) := ⟨by rw [hu]; exact hA.out.put hlt.out hgb.out.2 (.int .i64 7) (.int .i64 3)⟩
                    have hb35 : Aside0 (PosB uz b35 7 3) := ⟨by rw [hu]; exact PosB.set (l := 0) (c := 0) hb35.out 7 3⟩
                    clear hu
                    refine hK.out _ _ hA.out.hp (fun hHeld => ?_)
                    clear hK
                    refine pure_ (i := 22) (N := some 36) (v := ?_) (a' := ?_) #[true, true, true, true, true, true, true, true, true, true, true, true, true, true, true, true, true, true, true, true, true, true, true] rfl rfl (by kernel_rfl) (fun _ _ _ h => h) (Or.inl ⟨by rfl, ?_⟩) ?_ ?_
                    rotate_left
                    · intro w'
                      go_simp
                      with_reducible rfl
                    rotate_left
                    · simp only [Act.put, List.setIfInBounds_toArray, List.set_cons_zero, List.set_cons_succ, i64_w, i32_w]
                      rfl
                    refine done_ (by kernel_rfl) ?_
                    have hw := Aside0.mk hA.out.hb
                    obtain ⟨p0, p1, _⟩ := PosB.cells hA.out.hp
                    obtain ⟨q0, q1, _⟩ := PosB.cells hA.out.hq
                    obtain ⟨r0, r1, _⟩ := PosB.cells hA.out.hr
                    obtain ⟨s0, s1, _⟩ := PosB.cells hb35.out
                    clear hA hb35 hHeld
                    go_wp2
                    go_ret
                    exact ⟨rfl, hw.out⟩
                · obtain ⟨b35, eX⟩ : ∃ x, x = u3.heap.size := ⟨_, rfl⟩
                  obtain ⟨u9, hu⟩ : ∃ x, x = u3.alloc (.cells #[.int .i64 0, .int .i64 0] 25) := ⟨_, rfl⟩
                  have hB : Below u3.heap.size u3 u9 := hu ▸ below_alloc (Below.refl _ _) _
                  have hA := Aside0.mk (hA.out.step hB)
                  have hC := Aside0.mk (Kd.C_below hC.out hB)
                  have hb35 : Aside0 (u9.heap[b35]? = some (Obj.cells #[.int .i64 0, .int .i64 0] 25)) := ⟨by rw [hu, eX]; exact hpA rfl⟩
                  have hgb : Aside0 (g < b35 ∧ V.heap.size ≤ b35) := ⟨by have := hs0.out; have := hsz.out; omega, by have := hsz.out; have := hs1.out; omega⟩
                  refine value_ (v := (.pointer (some ⟨b35, 0, none⟩))) (w1 := u9) (by rfl) rfl (by rw [hu, eX]; go_simp; try rfl) ?_
                  have hsz := Aside0.mk (Nat.le_trans hsz.out hB.size)
                  clear hu hB eX
                  refine hK.out _ _ hA.out.hp (fun hHeld => ?_)
                  clear hK
                  refine norm_ (a' := ?_) ?_ ?_
                  rotate_left
                  · show Act.put _ (some 35) _ = _
                    simp only [Act.put, List.setIfInBounds_toArray, List.set_cons_zero, List.set_cons_succ, i64_w, i32_w]
                    rfl
                  refine one_ (i := 8) (N := some 136) #[true, true, true, true, true, true, true, true, true, false, false, false, false, false, false, false, false, true, false, false, false, false, false] rfl rfl (by kernel_rfl) (by decide) (fun K hK => ?_)
                  obtain ⟨Y, eX⟩ : ∃ x, x = u9.heap.size := ⟨_, rfl⟩
                  obtain ⟨u10, hu⟩ : ∃ x, x = u9.alloc (.cells #[.int .i64 1, .string ⟨#[]⟩, .int .u16 0, .slice A4 8127 c4, .int .i64 7, .int .i64 3] 36) := ⟨_, rfl⟩
                  have hB : Below u9.heap.size u9 u10 := hu ▸ below_alloc (Below.refl _ _) _
                  have hA := Aside0.mk (hA.out.step hB)
                  have hC := Aside0.mk (Kd.C_below hC.out hB)
                  have hb35 := Aside0.mk (hpK (o := Obj.cells #[.int .i64 0, .int .i64 0] 25) hb35.out hB)
                  have hY : Aside0 (u10.heap[Y]? = some (Obj.cells #[.int .i64 1, .string ⟨#[]⟩, .int .u16 0, .slice A4 8127 c4, .int .i64 7, .int .i64 3] 36)) := ⟨by rw [hu, eX]; exact hpA rfl⟩
                  refine value_ (v := (.slice (some ⟨Y, 0, none⟩) 1 1)) (w1 := u10) (by rfl) rfl (by rw [hu, eX]; go_simp; try rfl) ?_
                  have hsz := Aside0.mk (Nat.le_trans hsz.out hB.size)
                  clear hu hB eX
                  refine hK.out _ _ hA.out.hp (fun hHeld => ?_)
                  clear hK
                  refine norm_ (a' := ?_) ?_ ?_
                  rotate_left
                  · show Act.put _ (some 136) _ = _
                    simp only [Act.put, List.setIfInBounds_toArray, List.set_cons_zero, List.set_cons_succ, i64_w, i32_w]
                    rfl
                  refine pure_ (i := 9) (N := some 137) (v := ?_) (a' := ?_) #[true, true, true, true, true, true, true, true, true, true, false, false, false, false, false, false, false, true, false, false, false, false, false] rfl rfl (by kernel_rfl) (fun _ _ _ h => h) (Or.inl ⟨by rfl, ?_⟩) ?_ ?_
                  rotate_left
                  · intro w'
                    go_simp
                    with_reducible rfl
                  rotate_left
                  · simp only [Act.put, List.setIfInBounds_toArray, List.set_cons_zero, List.set_cons_succ, i64_w, i32_w]
                    rfl
                  refine one_ (i := 10) (N := some 138) #[true, true, true, true, true, true, true, true, true, true, true, false, false, false, false, false, false, true, false, false, false, false, false] rfl rfl (by kernel_rfl) (by decide) (fun K hK => ?_)
                  refine goes_ Try.func14 (by kernel_rfl) rfl #[.agg #[.slice (some ⟨Y, 0, none⟩) 1 1, .slice none 0 0]] (by rfl) rfl rfl (by first | rfl | kernel_rfl | simp [Act.eval]) ?_
                  refine Of_nm (w := w) (c := 1) (ds := [dB 8127 7 3]) (C_block (xs := [dB 8127 7 3]) [_] hY.out (by simp [dB]) (.cons (k36_mk _ (dB 8127 7 3) (A3 := A4) (c3 := c4) (by simpa [dB] using hc4.out) (by simpa [dB] using hC.out)) .nil) (by simp)) rfl (ok_dB (by omega) 7 3) hA.out.hb ?_
                  rw [ofA_over]
                  intro u11 A6 c6 _ hB _
                  dsimp only [List.length_nil]
                  have hA := Aside0.mk (hA.out.step hB)
                  have hb35 := Aside0.mk (hpK (o := Obj.cells #[.int .i64 0, .int .i64 0] 25) hb35.out hB)
                  have hsz := Aside0.mk (Nat.le_trans hsz.out hB.size)
                  clear hB
                  refine ⟨_, rfl, hK.out _ _ hA.out.hp (fun hHeld => ?_)⟩
                  clear hK
                  refine norm_ (a' := ?_) ?_ ?_
                  rotate_left
                  · show Act.put _ (some 138) _ = _
                    simp only [Act.put, List.setIfInBounds_toArray, List.set_cons_zero, List.set_cons_succ, i64_w, i32_w]
                    rfl
                  refine pure_ (i := 11) (N := some 127) (v := ?_) (a' := ?_) #[true, true, true, true, true, true, true, true, true, true, true, true, false, false, false, false, false, true, false, false, false, false, false] rfl rfl (by kernel_rfl) (fun _ _ _ h => h) (Or.inl ⟨by rfl, ?_⟩) ?_ ?_
                  rotate_left
                  · intro w'
                    go_simp
                    with_reducible rfl
                  rotate_left
                  · simp only [Act.put, List.setIfInBounds_toArray, List.set_cons_zero, List.set_cons_succ, i64_w, i32_w]
                    rfl
                  refine pure_ (i := 12) (N := some 139) (v := ?_) (a' := ?_) #[true, true, true, true, true, true, true, true, true, true, true, true, true, false, false, false, false, true, false, false, false, false, false] rfl rfl (by kernel_rfl) (fun _ _ _ h => h) (Or.inl ⟨by rfl, ?_⟩) ?_ ?_
                  rotate_left
                  · intro w'
                    go_simp
                    with_reducible rfl
                  rotate_left
                  · simp only [Act.put, List.setIfInBounds_toArray, List.set_cons_zero, List.set_cons_succ, i64_w, i32_w]
                    rfl
                  refine pure_ (i := 13) (N := some 140) (v := ?_) (a' := ?_) #[true, true, true, true, true, true, true, true, true, true, true, true, true, true, false, false, false, true, false, false, false, false, false] rfl rfl (by kernel_rfl) (fun _ _ _ h => h) (Or.inl ⟨by rfl, ?_⟩) ?_ ?_
                  rotate_left
                  · intro w'
                    go_simp
                    with_reducible rfl
                  rotate_left
                  · simp only [Act.put, List.setIfInBounds_toArray, List.set_cons_zero, List.set_cons_succ, i64_w, i32_w]
                    rfl
                  refine pure_ (i := 14) (N := some 141) (v := ?_) (a' := ?_) #[true, true, true, true, true, true, true, true, true, true, true, true, true, true, true, false, false, true, false, false, false, false, false] rfl rfl (by kernel_rfl) (fun _ _ _ h => h) (Or.inl ⟨by rfl, ?_⟩) ?_ ?_
                  rotate_left
                  · intro w'
                    go_simp
                    with_reducible rfl
                  rotate_left
                  · simp only [Act.put, List.setIfInBounds_toArray, List.set_cons_zero, List.set_cons_succ, i64_w, i32_w]
                    rfl
                  refine pure_ (i := 15) (N := some 142) (v := ?_) (a' := ?_) #[true, true, true, true, true, true, true, true, true, true, true, true, true, true, true, true, false, true, false, false, false, false, false] rfl rfl (by kernel_rfl) (fun _ _ _ h => h) (Or.inl ⟨by rfl, ?_⟩) ?_ ?_
                  rotate_left
                  · intro w'
                    go_simp
                    with_reducible rfl
                  rotate_left
                  · simp only [Act.put, List.setIfInBounds_toArray, List.set_cons_zero, List.set_cons_succ, i64_w, i32_w]
                    rfl
                  refine pure_ (i := 16) (N := some 143) (v := ?_) (a' := ?_) #[true, true, true, true, true, true, true, true, true, true, true, true, true, true, true, true, true, true, false, false, false, false, false] rfl rfl (by kernel_rfl) (fun _ _ _ h => h) (Or.inl ⟨by rfl, ?_⟩) ?_ ?_
                  rotate_left
                  · intro w'
                    go_simp
                    with_reducible rfl
                  rotate_left
                  · simp only [Act.put, List.setIfInBounds_toArray, List.set_cons_zero, List.set_cons_succ, i64_w, i32_w]
                    rfl
                  refine pure_ (i := 18) (N := some 32) (v := ?_) (a' := ?_) #[true, true, true, true, true, true, true, true, true, true, true, true, true, true, true, true, true, true, true, false, false, false, false] rfl rfl (by kernel_rfl) (fun _ _ _ h => h) (Or.inl ⟨by rfl, ?_⟩) ?_ ?_
                  rotate_left
                  · intro w'
                    go_simp
                    with_reducible rfl
                  rotate_left
                  · simp only [Act.put, List.setIfInBounds_toArray, List.set_cons_zero, List.set_cons_succ, i64_w, i32_w]
                    rfl
                  refine pure_ (i := 19) (N := some 33) (v := ?_) (a' := ?_) #[true, true, true, true, true, true, true, true, true, true, true, true, true, true, true, true, true, true, true, true, false, false, false] rfl rfl (by kernel_rfl) (fun _ _ _ h => h) (Or.inl ⟨by rfl, ?_⟩) ?_ ?_
                  rotate_left
                  · intro w'
                    go_simp
                    with_reducible rfl
                  rotate_left
                  · simp only [Act.put, List.setIfInBounds_toArray, List.set_cons_zero, List.set_cons_succ, i64_w, i32_w]
                    rfl
                  refine pure_ (i := 20) (N := some 34) (v := ?_) (a' := ?_) #[true, true, true, true, true, true, true, true, true, true, true, true, true, true, true, true, true, true, true, true, true, false, false] rfl rfl (by kernel_rfl) (fun _ _ _ h => h) (Or.inl ⟨by rfl, ?_⟩) ?_ ?_
                  rotate_left
                  · intro w'
                    go_simp
                    with_reducible rfl
                  rotate_left
                  · simp only [Act.put, List.setIfInBounds_toArray, List.set_cons_zero, List.set_cons_succ, i64_w, i32_w]
                    rfl
                  refine one_ (i := 21) (N := none) #[true, true, true, true, true, true, true, true, true, true, true, true, true, true, true, true, true, true, true, true, true, true, false] rfl rfl (by kernel_rfl) (by decide) (fun K hK => ?_)
                  obtain ⟨e0, e1, e2⟩ := PosB.cells hb35.out
                  have f0 := e2 0
                  have f1 := e2 1
                  obtain ⟨uz, hu⟩ : ∃ x, x = (u11.setCell ⟨b35, 0, none⟩ (.int .i64 7)).setCell ⟨b35, 1, none⟩ (.int .i64 3) := ⟨_, rfl⟩
                  refine skip_ (w1 := uz) (by rfl) rfl ?_ ?_
                  · rw [hu]
                    go_simp
                    try rfl
                  clear e0 e1 e2 f0 f1
                  have hA : Aside0 (Ax w V.heap.size p q r uz) := ⟨by rw [hu]; exact hA.out.put hlt.out hgb.out.2 (.int .i64 7) (.int .i64 3)⟩
                  have hb35 : Aside0 (PosB uz b35 7 3) := ⟨by rw [hu]; exact PosB.set (l := 0) (c := 0) hb35.out 7 3⟩
                  clear hu
                  refine hK.out _ _ hA.out.hp (fun hHeld => ?_)
                  clear hK
                  refine pure_ (i := 22) (N := some 36) (v := ?_) (a' := ?_) #[true, true, true, true, true, true, true, true, true, true, true, true, true, true, true, true, true, true, true, true, true, true, true] rfl rfl (by kernel_rfl) (fun _ _ _ h => h) (Or.inl ⟨by rfl, ?_⟩) ?_ ?_
                  rotate_left
                  · intro w'
                    go_simp
                    with_reducible rfl
                  rotate_left
                  · simp only [Act.put, List.setIfInBounds_toArray, List.set_cons_zero, List.set_cons_succ, i64_w, i32_w]
                    rfl
                  refine done_ (by kernel_rfl) ?_
                  have hw := Aside0.mk hA.out.hb
                  obtain ⟨p0, p1, _⟩ := PosB.cells hA.out.hp
                  obtain ⟨q0, q1, _⟩ := PosB.cells hA.out.hq
                  obtain ⟨r0, r1, _⟩ := PosB.cells hA.out.hr
                  obtain ⟨s0, s1, _⟩ := PosB.cells hb35.out
                  clear hA hb35 hHeld
                  go_wp2
                  go_ret
                  exact ⟨rfl, hw.out⟩
              · obtain ⟨b35, eX⟩ : ∃ x, x = u2.heap.size := ⟨_, rfl⟩
                obtain ⟨u12, hu⟩ : ∃ x, x = u2.alloc (.cells #[.int .i64 0, .int .i64 0] 25) := ⟨_, rfl⟩
                have hB : Below u2.heap.size u2 u12 := hu ▸ below_alloc (Below.refl _ _) _
                have hA := Aside0.mk (hA.out.step hB)
                have hR := Aside0.mk (Kd.R_below hR.out hB)
                have hX := Aside0.mk (hpK hX.out hB)
                have hM := Aside0.mk (Kd.M_below hM.out hB)
                have hb35 : Aside0 (u12.heap[b35]? = some (Obj.cells #[.int .i64 0, .int .i64 0] 25)) := ⟨by rw [hu, eX]; exact hpA rfl⟩
                have hgb : Aside0 (g < b35 ∧ V.heap.size ≤ b35) := ⟨by have := hs0.out; have := hsz.out; omega, by have := hsz.out; have := hs1.out; omega⟩
                refine value_ (v := (.pointer (some ⟨b35, 0, none⟩))) (w1 := u12) (by rfl) rfl (by rw [hu, eX]; go_simp; try rfl) ?_
                have hsz := Aside0.mk (Nat.le_trans hsz.out hB.size)
                clear hu hB eX
                refine hK.out _ _ hA.out.hp (fun hHeld => ?_)
                clear hK
                refine norm_ (a' := ?_) ?_ ?_
                rotate_left
                · show Act.put _ (some 35) _ = _
                  simp only [Act.put, List.setIfInBounds_toArray, List.set_cons_zero, List.set_cons_succ, i64_w, i32_w]
                  rfl
                refine one_ (i := 5) (N := some 133) #[true, true, true, true, true, true, true, false, false, false, false, false, false, false, false, false, false, true, false, false, false, false, false] rfl rfl (by kernel_rfl) (by decide) (fun K hK => ?_)
                refine Kd.R_append_rows_step (P := Try.prog) k38 (w0 := u12) V.heap.size (by rfl) (.tmp 128) (.tmp 132) 34 38 (.agg #[(.int .i64 0), (.int .i64 0), (.int .u16 0), (.string ⟨#[]⟩), (.slice none 0 0), (.slice none 0 0), (.bool false), (.int .i64 0), (.int .i64 0)]) 112 rfl Try.underlying34 (by rw [szk38]; exact infoNode) (by rw [szk38]; rfl) (by rw [szk38]; decide) (by decide) (.slice (some ⟨g, 0, none⟩) 8126 cap) (List.replicate 8126 nB) [nB] (some ⟨X, 0, none⟩) 1 1 (fun _ => True) (fun k => True ∧ k ≠ g) rfl rfl hR.out (rr1 hX.out) (by rintro _ _ ⟨rfl, rfl⟩; exact hM.out) (fun k hk => ⟨trivial, fun e => hk.2 (by simpa [Value.ownBlock] using e)⟩) (fun _ _ => trivial) (Below.refl _ _) hA.out.hs (by rw [List.length_replicate]; decide) ?_
                intro v1 u13 hR5 hB5 hg5 _
                rw [show List.replicate 8126 nB ++ [nB] = List.replicate 8127 nB from (List.replicate_succ' (n := 8126)).symm] at hR5
                obtain ⟨A4, c4, rfl, hc5, hC5⟩ := Kd.R_reads hR5
                rw [List.length_replicate] at hc5 hC5 ⊢
                have hc4 := Aside0.mk hc5
                have hC := Aside0.mk hC5
                have hA := Aside0.mk (hA.out.step5 hlt.out hB5)
                have hsz := Aside0.mk (Nat.le_trans hsz.out hB5.size)
                have hb35 := Aside0.mk ((hg5.block b35 (hpLt hb35.out) (by simp [Value.ownBlock]; have := hgb.out; omega)).trans hb35.out)
                clear hR5 hB5 hg5 hc5 hC5
                refine hK.out _ _ hA.out.hp (fun hHeld => ?_)
                clear hK
                refine norm_ (a' := ?_) ?_ ?_
                rotate_left
                · show Act.put _ (some 133) _ = _
                  simp only [Act.put, List.setIfInBounds_toArray, List.set_cons_zero, List.set_cons_succ, i64_w, i32_w]
                  rfl
                refine pure_ (i := 7) (N := some 135) (v := ?_) (a' := ?_) #[true, true, true, true, true, true, true, true, false, false, false, false, false, false, false, false, false, true, false, false, false, false, false] rfl rfl (by kernel_rfl) (fun _ _ _ h => h) (Or.inl ⟨by rfl, ?_⟩) ?_ ?_
                rotate_left
                · intro w'
                  go_simp
                  with_reducible rfl
                rotate_left
                · simp only [Act.put, List.setIfInBounds_toArray, List.set_cons_zero, List.set_cons_succ, i64_w, i32_w]
                  rfl
                refine one_ (i := 8) (N := some 136) #[true, true, true, true, true, true, true, true, true, false, false, false, false, false, false, false, false, true, false, false, false, false, false] rfl rfl (by kernel_rfl) (by decide) (fun K hK => ?_)
                obtain ⟨Y, eX⟩ : ∃ x, x = u13.heap.size := ⟨_, rfl⟩
                obtain ⟨u14, hu⟩ : ∃ x, x = u13.alloc (.cells #[.int .i64 1, .string ⟨#[]⟩, .int .u16 0, .slice A4 8127 c4, .int .i64 7, .int .i64 3] 36) := ⟨_, rfl⟩
                have hB : Below u13.heap.size u13 u14 := hu ▸ below_alloc (Below.refl _ _) _
                have hA := Aside0.mk (hA.out.step hB)
                have hC := Aside0.mk (Kd.C_below hC.out hB)
                have hb35 := Aside0.mk (hpK (o := Obj.cells #[.int .i64 0, .int .i64 0] 25) hb35.out hB)
                have hY : Aside0 (u14.heap[Y]? = some (Obj.cells #[.int .i64 1, .string ⟨#[]⟩, .int .u16 0, .slice A4 8127 c4, .int .i64 7, .int .i64 3] 36)) := ⟨by rw [hu, eX]; exact hpA rfl⟩
                refine value_ (v := (.slice (some ⟨Y, 0, none⟩) 1 1)) (w1 := u14) (by rfl) rfl (by rw [hu, eX]; go_simp; try rfl) ?_
                have hsz := Aside0.mk (Nat.le_trans hsz.out hB.size)
                clear hu hB eX
                refine hK.out _ _ hA.out.hp (fun hHeld => ?_)
                clear hK
                refine norm_ (a' := ?_) ?_ ?_
                rotate_left
                · show Act.put _ (some 136) _ = _
                  simp only [Act.put, List.setIfInBounds_toArray, List.set_cons_zero, List.set_cons_succ, i64_w, i32_w]
                  rfl
                refine pure_ (i := 9) (N := some 137) (v := ?_) (a' := ?_) #[true, true, true, true, true, true, true, true, true, true, false, false, false, false, false, false, false, true, false, false, false, false, false] rfl rfl (by kernel_rfl) (fun _ _ _ h => h) (Or.inl ⟨by rfl, ?_⟩) ?_ ?_
                rotate_left
                · intro w'
                  go_simp
                  with_reducible rfl
                rotate_left
                · simp only [Act.put, List.setIfInBounds_toArray, List.set_cons_zero, List.set_cons_succ, i64_w, i32_w]
                  rfl
                refine one_ (i := 10) (N := some 138) #[true, true, true, true, true, true, true, true, true, true, true, false, false, false, false, false, false, true, false, false, false, false, false] rfl rfl (by kernel_rfl) (by decide) (fun K hK => ?_)
                refine goes_ Try.func14 (by kernel_rfl) rfl #[.agg #[.slice (some ⟨Y, 0, none⟩) 1 1, .slice none 0 0]] (by rfl) rfl rfl (by first | rfl | kernel_rfl | simp [Act.eval]) ?_
                refine Of_nm (w := w) (c := 1) (ds := [dB 8127 7 3]) (C_block (xs := [dB 8127 7 3]) [_] hY.out (by simp [dB]) (.cons (k36_mk _ (dB 8127 7 3) (A3 := A4) (c3 := c4) (by simpa [dB] using hc4.out) (by simpa [dB] using hC.out)) .nil) (by simp)) rfl (ok_dB (by omega) 7 3) hA.out.hb ?_
                rw [ofA_over]
                intro u15 A6 c6 _ hB _
                dsimp only [List.length_nil]
                have hA := Aside0.mk (hA.out.step hB)
                have hb35 := Aside0.mk (hpK (o := Obj.cells #[.int .i64 0, .int .i64 0] 25) hb35.out hB)
                have hsz := Aside0.mk (Nat.le_trans hsz.out hB.size)
                clear hB
                refine ⟨_, rfl, hK.out _ _ hA.out.hp (fun hHeld => ?_)⟩
                clear hK
                refine norm_ (a' := ?_) ?_ ?_
                rotate_left
                · show Act.put _ (some 138) _ = _
                  simp only [Act.put, List.setIfInBounds_toArray, List.set_cons_zero, List.set_cons_succ, i64_w, i32_w]
                  rfl
                refine pure_ (i := 11) (N := some 127) (v := ?_) (a' := ?_) #[true, true, true, true, true, true, true, true, true, true, true, true, false, false, false, false, false, true, false, false, false, false, false] rfl rfl (by kernel_rfl) (fun _ _ _ h => h) (Or.inl ⟨by rfl, ?_⟩) ?_ ?_
                rotate_left
                · intro w'
                  go_simp
                  with_reducible rfl
                rotate_left
                · simp only [Act.put, List.setIfInBounds_toArray, List.set_cons_zero, List.set_cons_succ, i64_w, i32_w]
                  rfl
                refine pure_ (i := 12) (N := some 139) (v := ?_) (a' := ?_) #[true, true, true, true, true, true, true, true, true, true, true, true, true, false, false, false, false, true, false, false, false, false, false] rfl rfl (by kernel_rfl) (fun _ _ _ h => h) (Or.inl ⟨by rfl, ?_⟩) ?_ ?_
                rotate_left
                · intro w'
                  go_simp
                  with_reducible rfl
                rotate_left
                · simp only [Act.put, List.setIfInBounds_toArray, List.set_cons_zero, List.set_cons_succ, i64_w, i32_w]
                  rfl
                refine pure_ (i := 13) (N := some 140) (v := ?_) (a' := ?_) #[true, true, true, true, true, true, true, true, true, true, true, true, true, true, false, false, false, true, false, false, false, false, false] rfl rfl (by kernel_rfl) (fun _ _ _ h => h) (Or.inl ⟨by rfl, ?_⟩) ?_ ?_
                rotate_left
                · intro w'
                  go_simp
                  with_reducible rfl
                rotate_left
                · simp only [Act.put, List.setIfInBounds_toArray, List.set_cons_zero, List.set_cons_succ, i64_w, i32_w]
                  rfl
                refine pure_ (i := 14) (N := some 141) (v := ?_) (a' := ?_) #[true, true, true, true, true, true, true, true, true, true, true, true, true, true, true, false, false, true, false, false, false, false, false] rfl rfl (by kernel_rfl) (fun _ _ _ h => h) (Or.inl ⟨by rfl, ?_⟩) ?_ ?_
                rotate_left
                · intro w'
                  go_simp
                  with_reducible rfl
                rotate_left
                · simp only [Act.put, List.setIfInBounds_toArray, List.set_cons_zero, List.set_cons_succ, i64_w, i32_w]
                  rfl
                refine pure_ (i := 15) (N := some 142) (v := ?_) (a' := ?_) #[true, true, true, true, true, true, true, true, true, true, true, true, true, true, true, true, false, true, false, false, false, false, false] rfl rfl (by kernel_rfl) (fun _ _ _ h => h) (Or.inl ⟨by rfl, ?_⟩) ?_ ?_
                rotate_left
                · intro w'
                  go_simp
                  with_reducible rfl
                rotate_left
                · simp only [Act.put, List.setIfInBounds_toArray, List.set_cons_zero, List.set_cons_succ, i64_w, i32_w]
                  rfl
                refine pure_ (i := 16) (N := some 143) (v := ?_) (a' := ?_) #[true, true, true, true, true, true, true, true, true, true, true, true, true, true, true, true, true, true, false, false, false, false, false] rfl rfl (by kernel_rfl) (fun _ _ _ h => h) (Or.inl ⟨by rfl, ?_⟩) ?_ ?_
                rotate_left
                · intro w'
                  go_simp
                  with_reducible rfl
                rotate_left
                · simp only [Act.put, List.setIfInBounds_toArray, List.set_cons_zero, List.set_cons_succ, i64_w, i32_w]
                  rfl
                refine pure_ (i := 18) (N := some 32) (v := ?_) (a' := ?_) #[true, true, true, true, true, true, true, true, true, true, true, true, true, true, true, true, true, true, true, false, false, false, false] rfl rfl (by kernel_rfl) (fun _ _ _ h => h) (Or.inl ⟨by rfl, ?_⟩) ?_ ?_
                rotate_left
                · intro w'
                  go_simp
                  with_reducible rfl
                rotate_left
                · simp only [Act.put, List.setIfInBounds_toArray, List.set_cons_zero, List.set_cons_succ, i64_w, i32_w]
                  rfl
                refine pure_ (i := 19) (N := some 33) (v := ?_) (a' := ?_) #[true, true, true, true, true, true, true, true, true, true, true, true, true, true, true, true, true, true, true, true, false, false, false] rfl rfl (by kernel_rfl) (fun _ _ _ h => h) (Or.inl ⟨by rfl, ?_⟩) ?_ ?_
                rotate_left
                · intro w'
                  go_simp
                  with_reducible rfl
                rotate_left
                · simp only [Act.put, List.setIfInBounds_toArray, List.set_cons_zero, List.set_cons_succ, i64_w, i32_w]
                  rfl
                refine pure_ (i := 20) (N := some 34) (v := ?_) (a' := ?_) #[true, true, true, true, true, true, true, true, true, true, true, true, true, true, true, true, true, true, true, true, true, false, false] rfl rfl (by kernel_rfl) (fun _ _ _ h => h) (Or.inl ⟨by rfl, ?_⟩) ?_ ?_
                rotate_left
                · intro w'
                  go_simp
                  with_reducible rfl
                rotate_left
                · simp only [Act.put, List.setIfInBounds_toArray, List.set_cons_zero, List.set_cons_succ, i64_w, i32_w]
                  rfl
                refine one_ (i := 21) (N := none) #[true, true, true, true, true, true, true, true, true, true, true, true, true, true, true, true, true, true, true, true, true, true, false] rfl rfl (by kernel_rfl) (by decide) (fun K hK => ?_)
                obtain ⟨e0, e1, e2⟩ := PosB.cells hb35.out
                have f0 := e2 0
                have f1 := e2 1
                obtain ⟨uz, hu⟩ : ∃ x, x = (u15.setCell ⟨b35, 0, none⟩ (.int .i64 7)).setCell ⟨b35, 1, none⟩ (.int .i64 3) := ⟨_, rfl⟩
                refine skip_ (w1 := uz) (by rfl) rfl ?_ ?_
                · rw [hu]
                  go_simp
                  try rfl
                clear e0 e1 e2 f0 f1
                have hA : Aside0 (Ax w V.heap.size p q r uz) := ⟨by rw [hu]; exact hA.out.put hlt.out hgb.out.2 (.int .i64 7) (.int .i64 3)⟩
                have hb35 : Aside0 (PosB uz b35 7 3) := ⟨by rw [hu]; exact PosB.set (l := 0) (c := 0) hb35.out 7 3⟩
                clear hu
                refine hK.out _ _ hA.out.hp (fun hHeld => ?_)
                clear hK
                refine pure_ (i := 22) (N := some 36) (v := ?_) (a' := ?_) #[true, true, true, true, true, true, true, true, true, true, true, true, true, true, true, true, true, true, true, true, true, true, true] rfl rfl (by kernel_rfl) (fun _ _ _ h => h) (Or.inl ⟨by rfl, ?_⟩) ?_ ?_
                rotate_left
                · intro w'
                  go_simp
                  with_reducible rfl
                rotate_left
                · simp only [Act.put, List.setIfInBounds_toArray, List.set_cons_zero, List.set_cons_succ, i64_w, i32_w]
                  rfl
                refine done_ (by kernel_rfl) ?_
                have hw := Aside0.mk hA.out.hb
                obtain ⟨p0, p1, _⟩ := PosB.cells hA.out.hp
                obtain ⟨q0, q1, _⟩ := PosB.cells hA.out.hq
                obtain ⟨r0, r1, _⟩ := PosB.cells hA.out.hr
                obtain ⟨s0, s1, _⟩ := PosB.cells hb35.out
                clear hA hb35 hHeld
                go_wp2
                go_ret
                exact ⟨rfl, hw.out⟩
            · obtain ⟨b35, eX⟩ : ∃ x, x = U.heap.size := ⟨_, rfl⟩
              obtain ⟨u16, hu⟩ : ∃ x, x = U.alloc (.cells #[.int .i64 0, .int .i64 0] 25) := ⟨_, rfl⟩
              have hB : Below U.heap.size U u16 := hu ▸ below_alloc (Below.refl _ _) _
              have hA := Aside0.mk (hA.out.step hB)
              have hR := Aside0.mk (Kd.R_below hR.out hB)
              have hM := Aside0.mk (Kd.M_below hM.out hB)
              have hb35 : Aside0 (u16.heap[b35]? = some (Obj.cells #[.int .i64 0, .int .i64 0] 25)) := ⟨by rw [hu, eX]; exact hpA rfl⟩
              have hgb : Aside0 (g < b35 ∧ V.heap.size ≤ b35) := ⟨by have := hs0.out; have := hsz.out; omega, by have := hsz.out; have := hs1.out; omega⟩
              refine value_ (v := (.pointer (some ⟨b35, 0, none⟩))) (w1 := u16) (by rfl) rfl (by rw [hu, eX]; go_simp; try rfl) ?_
              have hsz := Aside0.mk (Nat.le_trans hsz.out hB.size)
              clear hu hB eX
              refine hK.out _ _ hA.out.hp (fun hHeld => ?_)
              clear hK
              refine norm_ (a' := ?_) ?_ ?_
              rotate_left
              · show Act.put _ (some 35) _ = _
                simp only [Act.put, List.setIfInBounds_toArray, List.set_cons_zero, List.set_cons_succ, i64_w, i32_w]
                rfl
              refine one_ (i := 4) (N := some 132) #[true, true, true, true, true, false, true, false, false, false, false, false, false, false, false, false, false, true, false, false, false, false, false] rfl rfl (by kernel_rfl) (by decide) (fun K hK => ?_)
              obtain ⟨X, eX⟩ : ∃ x, x = u16.heap.size := ⟨_, rfl⟩
              obtain ⟨u17, hu⟩ : ∃ x, x = u16.alloc (.cells (cN v4 v5).toArray 38) := ⟨_, rfl⟩
              have hB : Below u16.heap.size u16 u17 := hu ▸ below_alloc (Below.refl _ _) _
              have hA := Aside0.mk (hA.out.step hB)
              have hR := Aside0.mk (Kd.R_below hR.out hB)
              have hM := Aside0.mk (Kd.M_below hM.out hB)
              have hb35 := Aside0.mk (hpK (o := Obj.cells #[.int .i64 0, .int .i64 0] 25) hb35.out hB)
              have hX : Aside0 (u17.heap[X]? = some (Obj.cells (cN v4 v5).toArray 38)) := ⟨by rw [hu, eX]; exact hpA rfl⟩
              refine value_ (v := (.slice (some ⟨X, 0, none⟩) 1 1)) (w1 := u17) (by rfl) rfl (by rw [hu, eX]; go_simp; try rfl) ?_
              have hsz := Aside0.mk (Nat.le_trans hsz.out hB.size)
              clear hu hB eX
              refine hK.out _ _ hA.out.hp (fun hHeld => ?_)
              clear hK
              refine norm_ (a' := ?_) ?_ ?_
              rotate_left
              · show Act.put _ (some 132) _ = _
                simp only [Act.put, List.setIfInBounds_toArray, List.set_cons_zero, List.set_cons_succ, i64_w, i32_w]
                rfl
              refine one_ (i := 5) (N := some 133) #[true, true, true, true, true, true, true, false, false, false, false, false, false, false, false, false, false, true, false, false, false, false, false] rfl rfl (by kernel_rfl) (by decide) (fun K hK => ?_)
              refine Kd.R_append_rows_step (P := Try.prog) k38 (w0 := u17) V.heap.size (by rfl) (.tmp 128) (.tmp 132) 34 38 (.agg #[(.int .i64 0), (.int .i64 0), (.int .u16 0), (.string ⟨#[]⟩), (.slice none 0 0), (.slice none 0 0), (.bool false), (.int .i64 0), (.int .i64 0)]) 112 rfl Try.underlying34 (by rw [szk38]; exact infoNode) (by rw [szk38]; rfl) (by rw [szk38]; decide) (by decide) (.slice (some ⟨g, 0, none⟩) 8126 cap) (List.replicate 8126 nB) [nB] (some ⟨X, 0, none⟩) 1 1 (fun _ => True) (fun k => True ∧ k ≠ g) rfl rfl hR.out (rr1 hX.out) (by rintro _ _ ⟨rfl, rfl⟩; exact hM.out) (fun k hk => ⟨trivial, fun e => hk.2 (by simpa [Value.ownBlock] using e)⟩) (fun _ _ => trivial) (Below.refl _ _) hA.out.hs (by rw [List.length_replicate]; decide) ?_
              intro v1 u18 hR5 hB5 hg5 _
              rw [show List.replicate 8126 nB ++ [nB] = List.replicate 8127 nB from (List.replicate_succ' (n := 8126)).symm] at hR5
              obtain ⟨A4, c4, rfl, hc5, hC5⟩ := Kd.R_reads hR5
              rw [List.length_replicate] at hc5 hC5 ⊢
              have hc4 := Aside0.mk hc5
              have hC := Aside0.mk hC5
              have hA := Aside0.mk (hA.out.step5 hlt.out hB5)
              have hsz := Aside0.mk (Nat.le_trans hsz.out hB5.size)
              have hb35 := Aside0.mk ((hg5.block b35 (hpLt hb35.out) (by simp [Value.ownBlock]; have := hgb.out; omega)).trans hb35.out)
              clear hR5 hB5 hg5 hc5 hC5
              refine hK.out _ _ hA.out.hp (fun hHeld => ?_)
              clear hK
              refine norm_ (a' := ?_) ?_ ?_
              rotate_left
              · show Act.put _ (some 133) _ = _
                simp only [Act.put, List.setIfInBounds_toArray, List.set_cons_zero, List.set_cons_succ, i64_w, i32_w]
                rfl
              refine pure_ (i := 7) (N := some 135) (v := ?_) (a' := ?_) #[true, true, true, true, true, true, true, true, false, false, false, false, false, false, false, false, false, true, false, false, false, false, false] rfl rfl (by kernel_rfl) (fun _ _ _ h => h) (Or.inl ⟨by rfl, ?_⟩) ?_ ?_
              rotate_left
              · intro w'
                go_simp
                with_reducible rfl
              rotate_left
              · simp only [Act.put, List.setIfInBounds_toArray, List.set_cons_zero, List.set_cons_succ, i64_w, i32_w]
                rfl
              refine one_ (i := 8) (N := some 136) #[true, true, true, true, true, true, true, true, true, false, false, false, false, false, false, false, false, true, false, false, false, false, false] rfl rfl (by kernel_rfl) (by decide) (fun K hK => ?_)
              obtain ⟨Y, eX⟩ : ∃ x, x = u18.heap.size := ⟨_, rfl⟩
              obtain ⟨u19, hu⟩ : ∃ x, x = u18.alloc (.cells #[.int .i64 1, .string ⟨#[]⟩, .int .u16 0, .slice A4 8127 c4, .int .i64 7, .int .i64 3] 36) := ⟨_, rfl⟩
              have hB : Below u18.heap.size u18 u19 := hu ▸ below_alloc (Below.refl _ _) _
              have hA := Aside0.mk (hA.out.step hB)
              have hC := Aside0.mk (Kd.C_below hC.out hB)
              have hb35 := Aside0.mk (hpK (o := Obj.cells #[.int .i64 0, .int .i64 0] 25) hb35.out hB)
              have hY : Aside0 (u19.heap[Y]? = some (Obj.cells #[.int .i64 1, .string ⟨#[]⟩, .int .u16 0, .slice A4 8127 c4, .int .i64 7, .int .i64 3] 36)) := ⟨by rw [hu, eX]; exact hpA rfl⟩
              refine value_ (v := (.slice (some ⟨Y, 0, none⟩) 1 1)) (w1 := u19) (by rfl) rfl (by rw [hu, eX]; go_simp; try rfl) ?_
              have hsz := Aside0.mk (Nat.le_trans hsz.out hB.size)
              clear hu hB eX
              refine hK.out _ _ hA.out.hp (fun hHeld => ?_)
              clear hK
              refine norm_ (a' := ?_) ?_ ?_
              rotate_left
              · show Act.put _ (some 136) _ = _
                simp only [Act.put, List.setIfInBounds_toArray, List.set_cons_zero, List.set_cons_succ, i64_w, i32_w]
                rfl
              refine pure_ (i := 9) (N := some 137) (v := ?_) (a' := ?_) #[true, true, true, true, true, true, true, true, true, true, false, false, false, false, false, false, false, true, false, false, false, false, false] rfl rfl (by kernel_rfl) (fun _ _ _ h => h) (Or.inl ⟨by rfl, ?_⟩) ?_ ?_
              rotate_left
              · intro w'
                go_simp
                with_reducible rfl
              rotate_left
              · simp only [Act.put, List.setIfInBounds_toArray, List.set_cons_zero, List.set_cons_succ, i64_w, i32_w]
                rfl
              refine one_ (i := 10) (N := some 138) #[true, true, true, true, true, true, true, true, true, true, true, false, false, false, false, false, false, true, false, false, false, false, false] rfl rfl (by kernel_rfl) (by decide) (fun K hK => ?_)
              refine goes_ Try.func14 (by kernel_rfl) rfl #[.agg #[.slice (some ⟨Y, 0, none⟩) 1 1, .slice none 0 0]] (by rfl) rfl rfl (by first | rfl | kernel_rfl | simp [Act.eval]) ?_
              refine Of_nm (w := w) (c := 1) (ds := [dB 8127 7 3]) (C_block (xs := [dB 8127 7 3]) [_] hY.out (by simp [dB]) (.cons (k36_mk _ (dB 8127 7 3) (A3 := A4) (c3 := c4) (by simpa [dB] using hc4.out) (by simpa [dB] using hC.out)) .nil) (by simp)) rfl (ok_dB (by omega) 7 3) hA.out.hb ?_
              rw [ofA_over]
              intro u20 A6 c6 _ hB _
              dsimp only [List.length_nil]
              have hA := Aside0.mk (hA.out.step hB)
              have hb35 := Aside0.mk (hpK (o := Obj.cells #[.int .i64 0, .int .i64 0] 25) hb35.out hB)
              have hsz := Aside0.mk (Nat.le_trans hsz.out hB.size)
              clear hB
              refine ⟨_, rfl, hK.out _ _ hA.out.hp (fun hHeld => ?_)⟩
              clear hK
              refine norm_ (a' := ?_) ?_ ?_
              rotate_left
              · show Act.put _ (some 138) _ = _
                simp only [Act.put, List.setIfInBounds_toArray, List.set_cons_zero, List.set_cons_succ, i64_w, i32_w]
                rfl
              refine pure_ (i := 11) (N := some 127) (v := ?_) (a' := ?_) #[true, true, true, true, true, true, true, true, true, true, true, true, false, false, false, false, false, true, false, false, false, false, false] rfl rfl (by kernel_rfl) (fun _ _ _ h => h) (Or.inl ⟨by rfl, ?_⟩) ?_ ?_
              rotate_left
              · intro w'
                go_simp
                with_reducible rfl
              rotate_left
              · simp only [Act.put, List.setIfInBounds_toArray, List.set_cons_zero, List.set_cons_succ, i64_w, i32_w]
                rfl
              refine pure_ (i := 12) (N := some 139) (v := ?_) (a' := ?_) #[true, true, true, true, true, true, true, true, true, true, true, true, true, false, false, false, false, true, false, false, false, false, false] rfl rfl (by kernel_rfl) (fun _ _ _ h => h) (Or.inl ⟨by rfl, ?_⟩) ?_ ?_
              rotate_left
              · intro w'
                go_simp
                with_reducible rfl
              rotate_left
              · simp only [Act.put, List.setIfInBounds_toArray, List.set_cons_zero, List.set_cons_succ, i64_w, i32_w]
                rfl
              refine pure_ (i := 13) (N := some 140) (v := ?_) (a' := ?_) #[true, true, true, true, true, true, true, true, true, true, true, true, true, true, false, false, false, true, false, false, false, false, false] rfl rfl (by kernel_rfl) (fun _ _ _ h => h) (Or.inl ⟨by rfl, ?_⟩) ?_ ?_
              rotate_left
              · intro w'
                go_simp
                with_reducible rfl
              rotate_left
              · simp only [Act.put, List.setIfInBounds_toArray, List.set_cons_zero, List.set_cons_succ, i64_w, i32_w]
                rfl
              refine pure_ (i := 14) (N := some 141) (v := ?_) (a' := ?_) #[true, true, true, true, true, true, true, true, true, true, true, true, true, true, true, false, false, true, false, false, false, false, false] rfl rfl (by kernel_rfl) (fun _ _ _ h => h) (Or.inl ⟨by rfl, ?_⟩) ?_ ?_
              rotate_left
              · intro w'
                go_simp
                with_reducible rfl
              rotate_left
              · simp only [Act.put, List.setIfInBounds_toArray, List.set_cons_zero, List.set_cons_succ, i64_w, i32_w]
                rfl
              refine pure_ (i := 15) (N := some 142) (v := ?_) (a' := ?_) #[true, true, true, true, true, true, true, true, true, true, true, true, true, true, true, true, false, true, false, false, false, false, false] rfl rfl (by kernel_rfl) (fun _ _ _ h => h) (Or.inl ⟨by rfl, ?_⟩) ?_ ?_
              rotate_left
              · intro w'
                go_simp
                with_reducible rfl
              rotate_left
              · simp only [Act.put, List.setIfInBounds_toArray, List.set_cons_zero, List.set_cons_succ, i64_w, i32_w]
                rfl
              refine pure_ (i := 16) (N := some 143) (v := ?_) (a' := ?_) #[true, true, true, true, true, true, true, true, true, true, true, true, true, true, true, true, true, true, false, false, false, false, false] rfl rfl (by kernel_rfl) (fun _ _ _ h => h) (Or.inl ⟨by rfl, ?_⟩) ?_ ?_
              rotate_left
              · intro w'
                go_simp
                with_reducible rfl
              rotate_left
              · simp only [Act.put, List.setIfInBounds_toArray, List.set_cons_zero, List.set_cons_succ, i64_w, i32_w]
                rfl
              refine pure_ (i := 18) (N := some 32) (v := ?_) (a' := ?_) #[true, true, true, true, true, true, true, true, true, true, true, true, true, true, true, true, true, true, true, false, false, false, false] rfl rfl (by kernel_rfl) (fun _ _ _ h => h) (Or.inl ⟨by rfl, ?_⟩) ?_ ?_
              rotate_left
              · intro w'
                go_simp
                with_reducible rfl
              rotate_left
              · simp only [Act.put, List.setIfInBounds_toArray, List.set_cons_zero, List.set_cons_succ, i64_w, i32_w]
                rfl
              refine pure_ (i := 19) (N := some 33) (v := ?_) (a' := ?_) #[true, true, true, true, true, true, true, true, true, true, true, true, true, true, true, true, true, true, true, true, false, false, false] rfl rfl (by kernel_rfl) (fun _ _ _ h => h) (Or.inl ⟨by rfl, ?_⟩) ?_ ?_
              rotate_left
              · intro w'
                go_simp
                with_reducible rfl
              rotate_left
              · simp only [Act.put, List.setIfInBounds_toArray, List.set_cons_zero, List.set_cons_succ, i64_w, i32_w]
                rfl
              refine pure_ (i := 20) (N := some 34) (v := ?_) (a' := ?_) #[true, true, true, true, true, true, true, true, true, true, true, true, true, true, true, true, true, true, true, true, true, false, false] rfl rfl (by kernel_rfl) (fun _ _ _ h => h) (Or.inl ⟨by rfl, ?_⟩) ?_ ?_
              rotate_left
              · intro w'
                go_simp
                with_reducible rfl
              rotate_left
              · simp only [Act.put, List.setIfInBounds_toArray, List.set_cons_zero, List.set_cons_succ, i64_w, i32_w]
                rfl
              refine one_ (i := 21) (N := none) #[true, true, true, true, true, true, true, true, true, true, true, true, true, true, true, true, true, true, true, true, true, true, false] rfl rfl (by kernel_rfl) (by decide) (fun K hK => ?_)
              obtain ⟨e0, e1, e2⟩ := PosB.cells hb35.out
              have f0 := e2 0
              have f1 := e2 1
              obtain ⟨uz, hu⟩ : ∃ x, x = (u20.setCell ⟨b35, 0, none⟩ (.int .i64 7)).setCell ⟨b35, 1, none⟩ (.int .i64 3) := ⟨_, rfl⟩
              refine skip_ (w1 := uz) (by rfl) rfl ?_ ?_
              · rw [hu]
                go_simp
                try rfl
              clear e0 e1 e2 f0 f1
              have hA : Aside0 (Ax w V.heap.size p q r uz) := ⟨by rw [hu]; exact hA.out.put hlt.out hgb.out.2 (.int .i64 7) (.int .i64 3)⟩
              have hb35 : Aside0 (PosB uz b35 7 3) := ⟨by rw [hu]; exact PosB.set (l := 0) (c := 0) hb35.out 7 3⟩
              clear hu
              refine hK.out _ _ hA.out.hp (fun hHeld => ?_)
              clear hK
              refine pure_ (i := 22) (N := some 36) (v := ?_) (a' := ?_) #[true, true, true, true, true, true, true, true, true, true, true, true, true, true, true, true, true, true, true, true, true, true, true] rfl rfl (by kernel_rfl) (fun _ _ _ h => h) (Or.inl ⟨by rfl, ?_⟩) ?_ ?_
              rotate_left
              · intro w'
                go_simp
                with_reducible rfl
              rotate_left
              · simp only [Act.put, List.setIfInBounds_toArray, List.set_cons_zero, List.set_cons_succ, i64_w, i32_w]
                rfl
              refine done_ (by kernel_rfl) ?_
              have hw := Aside0.mk hA.out.hb
              obtain ⟨p0, p1, _⟩ := PosB.cells hA.out.hp
              obtain ⟨q0, q1, _⟩ := PosB.cells hA.out.hq
              obtain ⟨r0, r1, _⟩ := PosB.cells hA.out.hr
              obtain ⟨s0, s1, _⟩ := PosB.cells hb35.out
              clear hA hb35 hHeld
              go_wp2
              go_ret
              exact ⟨rfl, hw.out⟩
          · obtain ⟨b35, eX⟩ : ∃ x, x = U.heap.size := ⟨_, rfl⟩
            obtain ⟨u21, hu⟩ : ∃ x, x = U.alloc (.cells #[.int .i64 0, .int .i64 0] 25) := ⟨_, rfl⟩
            have hB : Below U.heap.size U u21 := hu ▸ below_alloc (Below.refl _ _) _
            have hA := Aside0.mk (hA.out.step hB)
            have hR := Aside0.mk (Kd.R_below hR.out hB)
            have hb35 : Aside0 (u21.heap[b35]? = some (Obj.cells #[.int .i64 0, .int .i64 0] 25)) := ⟨by rw [hu, eX]; exact hpA rfl⟩
            have hgb : Aside0 (g < b35 ∧ V.heap.size ≤ b35) := ⟨by have := hs0.out; have := hsz.out; omega, by have := hsz.out; have := hs1.out; omega⟩
            refine value_ (v := (.pointer (some ⟨b35, 0, none⟩))) (w1 := u21) (by rfl) rfl (by rw [hu, eX]; go_simp; try rfl) ?_
            have hsz := Aside0.mk (Nat.le_trans hsz.out hB.size)
            clear hu hB eX
            refine hK.out _ _ hA.out.hp (fun hHeld => ?_)
            clear hK
            refine norm_ (a' := ?_) ?_ ?_
            rotate_left
            · show Act.put _ (some 35) _ = _
              simp only [Act.put, List.setIfInBounds_toArray, List.set_cons_zero, List.set_cons_succ, i64_w, i32_w]
              rfl
            refine one_ (i := 3) (N := some 131) #[true, true, true, true, false, false, true, false, false, false, false, false, false, false, false, false, false, true, false, false, false, false, false] rfl rfl (by kernel_rfl) (by decide) (fun K hK => ?_)
            obtain ⟨v4, v5, hcl, hM0⟩ := node0 hR.out
            have n0 := hcl 0 _ rfl
            have n1 := hcl 1 _ rfl
            have n2 := hcl 2 _ rfl
            have n3 := hcl 3 _ rfl
            have n4 := hcl 4 _ rfl
            have n5 := hcl 5 _ rfl
            have n6 := hcl 6 _ rfl
            have n7 := hcl 7 _ rfl
            have n8 := hcl 8 _ rfl
            have hM := Aside0.mk hM0
            clear hcl hM0
            refine value_ (v := .agg (cN v4 v5).toArray) (w1 := u21) (by rfl) rfl (by go_simp; try rfl) ?_
            refine hK.out _ _ hA.out.hp (fun hHeld => ?_)
            clear hK
            clear n0 n1 n2 n3 n4 n5 n6 n7 n8
            refine norm_ (a' := ?_) ?_ ?_
            rotate_left
            · show Act.put _ (some 131) _ = _
              simp only [Act.put, List.setIfInBounds_toArray, List.set_cons_zero, List.set_cons_succ, i64_w, i32_w]
              rfl
            refine one_ (i := 4) (N := some 132) #[true, true, true, true, true, false, true, false, false, false, false, false, false, false, false, false, false, true, false, false, false, false, false] rfl rfl (by kernel_rfl) (by decide) (fun K hK => ?_)
            obtain ⟨X, eX⟩ : ∃ x, x = u21.heap.size := ⟨_, rfl⟩
            obtain ⟨u23, hu⟩ : ∃ x, x = u21.alloc (.cells (cN v4 v5).toArray 38) := ⟨_, rfl⟩
            have hB : Below u21.heap.size u21 u23 := hu ▸ below_alloc (Below.refl _ _) _
            have hA := Aside0.mk (hA.out.step hB)
            have hR := Aside0.mk (Kd.R_below hR.out hB)
            have hM := Aside0.mk (Kd.M_below hM.out hB)
            have hb35 := Aside0.mk (hpK (o := Obj.cells #[.int .i64 0, .int .i64 0] 25) hb35.out hB)
            have hX : Aside0 (u23.heap[X]? = some (Obj.cells (cN v4 v5).toArray 38)) := ⟨by rw [hu, eX]; exact hpA rfl⟩
            refine value_ (v := (.slice (some ⟨X, 0, none⟩) 1 1)) (w1 := u23) (by rfl) rfl (by rw [hu, eX]; go_simp; try rfl) ?_
            have hsz := Aside0.mk (Nat.le_trans hsz.out hB.size)
            clear hu hB eX
            refine hK.out _ _ hA.out.hp (fun hHeld => ?_)
            clear hK
            refine norm_ (a' := ?_) ?_ ?_
            rotate_left
            · show Act.put _ (some 132) _ = _
              simp only [Act.put, List.setIfInBounds_toArray, List.set_cons_zero, List.set_cons_succ, i64_w, i32_w]
              rfl
            refine one_ (i := 5) (N := some 133) #[true, true, true, true, true, true, true, false, false, false, false, false, false, false, false, false, false, true, false, false, false, false, false] rfl rfl (by kernel_rfl) (by decide) (fun K hK => ?_)
            refine Kd.R_append_rows_step (P := Try.prog) k38 (w0 := u23) V.heap.size (by rfl) (.tmp 128) (.tmp 132) 34 38 (.agg #[(.int .i64 0), (.int .i64 0), (.int .u16 0), (.string ⟨#[]⟩), (.slice none 0 0), (.slice none 0 0), (.bool false), (.int .i64 0), (.int .i64 0)]) 112 rfl Try.underlying34 (by rw [szk38]; exact infoNode) (by rw [szk38]; rfl) (by rw [szk38]; decide) (by decide) (.slice (some ⟨g, 0, none⟩) 8126 cap) (List.replicate 8126 nB) [nB] (some ⟨X, 0, none⟩) 1 1 (fun _ => True) (fun k => True ∧ k ≠ g) rfl rfl hR.out (rr1 hX.out) (by rintro _ _ ⟨rfl, rfl⟩; exact hM.out) (fun k hk => ⟨trivial, fun e => hk.2 (by simpa [Value.ownBlock] using e)⟩) (fun _ _ => trivial) (Below.refl _ _) hA.out.hs (by rw [List.length_replicate]; decide) ?_
            intro v1 u24 hR5 hB5 hg5 _
            rw [show List.replicate 8126 nB ++ [nB] = List.replicate 8127 nB from (List.replicate_succ' (n := 8126)).symm] at hR5
            obtain ⟨A4, c4, rfl, hc5, hC5⟩ := Kd.R_reads hR5
            rw [List.length_replicate] at hc5 hC5 ⊢
            have hc4 := Aside0.mk hc5
            have hC := Aside0.mk hC5
            have hA := Aside0.mk (hA.out.step5 hlt.out hB5)
            have hsz := Aside0.mk (Nat.le_trans hsz.out hB5.size)
            have hb35 := Aside0.mk ((hg5.block b35 (hpLt hb35.out) (by simp [Value.ownBlock]; have := hgb.out; omega)).trans hb35.out)
            clear hR5 hB5 hg5 hc5 hC5
            refine hK.out _ _ hA.out.hp (fun hHeld => ?_)
            clear hK
            refine norm_ (a' := ?_) ?_ ?_
            rotate_left
            · show Act.put _ (some 133) _ = _
              simp only [Act.put, List.setIfInBounds_toArray, List.set_cons_zero, List.set_cons_succ, i64_w, i32_w]
              rfl
            refine pure_ (i := 7) (N := some 135) (v := ?_) (a' := ?_) #[true, true, true, true, true, true, true, true, false, false, false, false, false, false, false, false, false, true, false, false, false, false, false] rfl rfl (by kernel_rfl) (fun _ _ _ h => h) (Or.inl ⟨by rfl, ?_⟩) ?_ ?_
            rotate_left
            · intro w'
              go_simp
              with_reducible rfl
            rotate_left
            · simp only [Act.put, List.setIfInBounds_toArray, List.set_cons_zero, List.set_cons_succ, i64_w, i32_w]
              rfl
            refine one_ (i := 8) (N := some 136) #[true, true, true, true, true, true, true, true, true, false, false, false, false, false, false, false, false, true, false, false, false, false, false] rfl rfl (by kernel_rfl) (by decide) (fun K hK => ?_)
            obtain ⟨Y, eX⟩ : ∃ x, x = u24.heap.size := ⟨_, rfl⟩
            obtain ⟨u25, hu⟩ : ∃ x, x = u24.alloc (.cells #[.int .i64 1, .string ⟨#[]⟩, .int .u16 0, .slice A4 8127 c4, .int .i64 7, .int .i64 3] 36) := ⟨_, rfl⟩
            have hB : Below u24.heap.size u24 u25 := hu ▸ below_alloc (Below.refl _ _) _
            have hA := Aside0.mk (hA.out.step hB)
            have hC := Aside0.mk (Kd.C_below hC.out hB)
            have hb35 := Aside0.mk (hpK (o := Obj.cells #[.int .i64 0, .int .i64 0] 25) hb35.out hB)
            have hY : Aside0 (u25.heap[Y]? = some (Obj.cells #[.int .i64 1, .string ⟨#[]⟩, .int .u16 0, .slice A4 8127 c4, .int .i64 7, .int .i64 3] 36)) := ⟨by rw [hu, eX]; exact hpA rfl⟩
            refine value_ (v := (.slice (some ⟨Y, 0, none⟩) 1 1)) (w1 := u25) (by rfl) rfl (by rw [hu, eX]; go_simp; try rfl) ?_
            have hsz := Aside0.mk (Nat.le_trans hsz.out hB.size)
            clear hu hB eX
            refine hK.out _ _ hA.out.hp (fun hHeld => ?_)
            clear hK
            refine norm_ (a' := ?_) ?_ ?_
            rotate_left
            · show Act.put _ (some 136) _ = _
              simp only [Act.put, List.setIfInBounds_toArray, List.set_cons_zero, List.set_cons_succ, i64_w, i32_w]
              rfl
            refine pure_ (i := 9) (N := some 137) (v := ?_) (a' := ?_) #[true, true, true, true, true, true, true, true, true, true, false, false, false, false, false, false, false, true, false, false, false, false, false] rfl rfl (by kernel_rfl) (fun _ _ _ h => h) (Or.inl ⟨by rfl, ?_⟩) ?_ ?_
            rotate_left
            · intro w'
              go_simp
              with_reducible rfl
            rotate_left
            · simp only [Act.put, List.setIfInBounds_toArray, List.set_cons_zero, List.set_cons_succ, i64_w, i32_w]
              rfl
            refine one_ (i := 10) (N := some 138) #[true, true, true, true, true, true, true, true, true, true, true, false, false, false, false, false, false, true, false, false, false, false, false] rfl rfl (by kernel_rfl) (by decide) (fun K hK => ?_)
            refine goes_ Try.func14 (by kernel_rfl) rfl #[.agg #[.slice (some ⟨Y, 0, none⟩) 1 1, .slice none 0 0]] (by rfl) rfl rfl (by first | rfl | kernel_rfl | simp [Act.eval]) ?_
            refine Of_nm (w := w) (c := 1) (ds := [dB 8127 7 3]) (C_block (xs := [dB 8127 7 3]) [_] hY.out (by simp [dB]) (.cons (k36_mk _ (dB 8127 7 3) (A3 := A4) (c3 := c4) (by simpa [dB] using hc4.out) (by simpa [dB] using hC.out)) .nil) (by simp)) rfl (ok_dB (by omega) 7 3) hA.out.hb ?_
            rw [ofA_over]
            intro u26 A6 c6 _ hB _
            dsimp only [List.length_nil]
            have hA := Aside0.mk (hA.out.step hB)
            have hb35 := Aside0.mk (hpK (o := Obj.cells #[.int .i64 0, .int .i64 0] 25) hb35.out hB)
            have hsz := Aside0.mk (Nat.le_trans hsz.out hB.size)
            clear hB
            refine ⟨_, rfl, hK.out _ _ hA.out.hp (fun hHeld => ?_)⟩
            clear hK
            refine norm_ (a' := ?_) ?_ ?_
            rotate_left
            · show Act.put _ (some 138) _ = _
              simp only [Act.put, List.setIfInBounds_toArray, List.set_cons_zero, List.set_cons_succ, i64_w, i32_w]
              rfl
            refine pure_ (i := 11) (N := some 127) (v := ?_) (a' := ?_) #[true, true, true, true, true, true, true, true, true, true, true, true, false, false, false, false, false, true, false, false, false, false, false] rfl rfl (by kernel_rfl) (fun _ _ _ h => h) (Or.inl ⟨by rfl, ?_⟩) ?_ ?_
            rotate_left
            · intro w'
              go_simp
              with_reducible rfl
            rotate_left
            · simp only [Act.put, List.setIfInBounds_toArray, List.set_cons_zero, List.set_cons_succ, i64_w, i32_w]
              rfl
            refine pure_ (i := 12) (N := some 139) (v := ?_) (a' := ?_) #[true, true, true, true, true, true, true, true, true, true, true, true, true, false, false, false, false, true, false, false, false, false, false] rfl rfl (by kernel_rfl) (fun _ _ _ h => h) (Or.inl ⟨by rfl, ?_⟩) ?_ ?_
            rotate_left
            · intro w'
              go_simp
              with_reducible rfl
            rotate_left
            · simp only [Act.put, List.setIfInBounds_toArray, List.set_cons_zero, List.set_cons_succ, i64_w, i32_w]
              rfl
            refine pure_ (i := 13) (N := some 140) (v := ?_) (a' := ?_) #[true, true, true, true, true, true, true, true, true, true, true, true, true, true, false, false, false, true, false, false, false, false, false] rfl rfl (by kernel_rfl) (fun _ _ _ h => h) (Or.inl ⟨by rfl, ?_⟩) ?_ ?_
            rotate_left
            · intro w'
              go_simp
              with_reducible rfl
            rotate_left
            · simp only [Act.put, List.setIfInBounds_toArray, List.set_cons_zero, List.set_cons_succ, i64_w, i32_w]
              rfl
            refine pure_ (i := 14) (N := some 141) (v := ?_) (a' := ?_) #[true, true, true, true, true, true, true, true, true, true, true, true, true, true, true, false, false, true, false, false, false, false, false] rfl rfl (by kernel_rfl) (fun _ _ _ h => h) (Or.inl ⟨by rfl, ?_⟩) ?_ ?_
            rotate_left
            · intro w'
              go_simp
              with_reducible rfl
            rotate_left
            · simp only [Act.put, List.setIfInBounds_toArray, List.set_cons_zero, List.set_cons_succ, i64_w, i32_w]
              rfl
            refine pure_ (i := 15) (N := some 142) (v := ?_) (a' := ?_) #[true, true, true, true, true, true, true, true, true, true, true, true, true, true, true, true, false, true, false, false, false, false, false] rfl rfl (by kernel_rfl) (fun _ _ _ h => h) (Or.inl ⟨by rfl, ?_⟩) ?_ ?_
            rotate_left
            · intro w'
              go_simp
              with_reducible rfl
            rotate_left
            · simp only [Act.put, List.setIfInBounds_toArray, List.set_cons_zero, List.set_cons_succ, i64_w, i32_w]
              rfl
            refine pure_ (i := 16) (N := some 143) (v := ?_) (a' := ?_) #[true, true, true, true, true, true, true, true, true, true, true, true, true, true, true, true, true, true, false, false, false, false, false] rfl rfl (by kernel_rfl) (fun _ _ _ h => h) (Or.inl ⟨by rfl, ?_⟩) ?_ ?_
            rotate_left
            · intro w'
              go_simp
              with_reducible rfl
            rotate_left
            · simp only [Act.put, List.setIfInBounds_toArray, List.set_cons_zero, List.set_cons_succ, i64_w, i32_w]
              rfl
            refine pure_ (i := 18) (N := some 32) (v := ?_) (a' := ?_) #[true, true, true, true, true, true, true, true, true, true, true, true, true, true, true, true, true, true, true, false, false, false, false] rfl rfl (by kernel_rfl) (fun _ _ _ h => h) (Or.inl ⟨by rfl, ?_⟩) ?_ ?_
            rotate_left
            · intro w'
              go_simp
              with_reducible rfl
            rotate_left
            · simp only [Act.put, List.setIfInBounds_toArray, List.set_cons_zero, List.set_cons_succ, i64_w, i32_w]
              rfl
            refine pure_ (i := 19) (N := some 33) (v := ?_) (a' := ?_) #[true, true, true, true, true, true, true, true, true, true, true, true, true, true, true, true, true, true, true, true, false, false, false] rfl rfl (by kernel_rfl) (fun _ _ _ h => h) (Or.inl ⟨by rfl, ?_⟩) ?_ ?_
            rotate_left
            · intro w'
              go_simp
              with_reducible rfl
            rotate_left
            · simp only [Act.put, List.setIfInBounds_toArray, List.set_cons_zero, List.set_cons_succ, i64_w, i32_w]
              rfl
            refine pure_ (i := 20) (N := some 34) (v := ?_) (a' := ?_) #[true, true, true, true, true, true, true, true, true, true, true, true, true, true, true, true, true, true, true, true, true, false, false] rfl rfl (by kernel_rfl) (fun _ _ _ h => h) (Or.inl ⟨by rfl, ?_⟩) ?_ ?_
            rotate_left
            · intro w'
              go_simp
              with_reducible rfl
            rotate_left
            · simp only [Act.put, List.setIfInBounds_toArray, List.set_cons_zero, List.set_cons_succ, i64_w, i32_w]
              rfl
            refine one_ (i := 21) (N := none) #[true, true, true, true, true, true, true, true, true, true, true, true, true, true, true, true, true, true, true, true, true, true, false] rfl rfl (by kernel_rfl) (by decide) (fun K hK => ?_)
            obtain ⟨e0, e1, e2⟩ := PosB.cells hb35.out
            have f0 := e2 0
            have f1 := e2 1
            obtain ⟨uz, hu⟩ : ∃ x, x = (u26.setCell ⟨b35, 0, none⟩ (.int .i64 7)).setCell ⟨b35, 1, none⟩ (.int .i64 3) := ⟨_, rfl⟩
            refine skip_ (w1 := uz) (by rfl) rfl ?_ ?_
            · rw [hu]
              go_simp
              try rfl
            clear e0 e1 e2 f0 f1
            have hA : Aside0 (Ax w V.heap.size p q r uz) := ⟨by rw [hu]; exact hA.out.put hlt.out hgb.out.2 (.int .i64 7) (.int .i64 3)⟩
            have hb35 : Aside0 (PosB uz b35 7 3) := ⟨by rw [hu]; exact PosB.set (l := 0) (c := 0) hb35.out 7 3⟩
            clear hu
            refine hK.out _ _ hA.out.hp (fun hHeld => ?_)
            clear hK
            refine pure_ (i := 22) (N := some 36) (v := ?_) (a' := ?_) #[true, true, true, true, true, true, true, true, true, true, true, true, true, true, true, true, true, true, true, true, true, true, true] rfl rfl (by kernel_rfl) (fun _ _ _ h => h) (Or.inl ⟨by rfl, ?_⟩) ?_ ?_
            rotate_left
            · intro w'
              go_simp
              with_reducible rfl
            rotate_left
            · simp only [Act.put, List.setIfInBounds_toArray, List.set_cons_zero, List.set_cons_succ, i64_w, i32_w]
              rfl
            refine done_ (by kernel_rfl) ?_
            have hw := Aside0.mk hA.out.hb
            obtain ⟨p0, p1, _⟩ := PosB.cells hA.out.hp
            obtain ⟨q0, q1, _⟩ := PosB.cells hA.out.hq
            obtain ⟨r0, r1, _⟩ := PosB.cells hA.out.hr
            obtain ⟨s0, s1, _⟩ := PosB.cells hb35.out
            clear hA hb35 hHeld
            go_wp2
            go_ret
            exact ⟨rfl, hw.out⟩
        | succ k1 =>
          have hd : decide ((i : Int) < 8126) = true := decide_eq_true (by omega)
          have w3 : IntKind.i64.wrap ((i : Int) + 1) = (i : Int) + 1 := i64_in (by omega) (by omega)
          go_wp2_with (refine stB (w0 := V) V.heap.size rfl rfl _ _ rfl i _ rfl (by simp) rfl hR.out (by omega) hB.out ?_; intro w9 hR9 hB9; rw [fill_succ (by omega)] at hR9; have hR9 := Aside0.mk hR9; have hB9 := Aside0.mk hB9)
          go_roundg k1
          case measure => omega
          case rel => exact ⟨i + 1, by rw [Int.natCast_add]; rfl, by omega, hR9, hB9⟩
    | succ k1 =>
      have hd : decide ((i : Int) < 513) = true := decide_eq_true (by omega)
      have w3 : IntKind.i64.wrap ((i : Int) + 1) = (i : Int) + 1 := i64_in (by omega) (by omega)
      obtain ⟨A3, c3, rfl, hc3, hC3⟩ := Kd.R_reads hR.out
      rw [dL_len] at hC3 hc3
      have hR3 := Aside0.mk hR.out
      rw [dL_len] at hR3 ⊢
      clear hR hC3 hc3
      go_wp2_with (at_builtin; refine appD (w0 := V) V.heap.size rfl _ _ rfl (.slice A3 i c3) (dL i) (dN i) [.int .i64 2, .string ⟨#[]⟩, .int .u16 0, .slice none 0 0, .int .i64 i, .int .i64 0] rfl rfl (fun w b => mk_dN w b i) hR3.out hB.out hB.out.size (by rw [dL_len]; omega) ?_; intro v1 w9 hR9 hB9; rw [← dL_succ] at hR9; have hR9 := Aside0.mk hR9; have hB9 := Aside0.mk hB9)
      go_roundg k1
      case measure => omega
      case rel => exact ⟨i + 1, by rw [Int.natCast_add]; rfl, by omega, hR9, hB9⟩
end Go.Proofs.Ytjphhnhloeanlaa.P
