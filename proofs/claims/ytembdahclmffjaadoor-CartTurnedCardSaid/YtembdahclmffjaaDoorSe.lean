/- cart.sections: the walk. (Printed by gen_se.py.) -/
import Derived.Test.YtembdahclmffjaaDoorCk
import Derived.Test.YtembdahclmffjaaDoorZa
namespace Go.Proofs.YtembdahclmffjaaDoor.Pk
open Go.RowKit Go.Proofs.YtembdahclmffjaaDoorW.PrintWords Go.Proofs.YtembdahclmffjaaDoorW.PrintLast Go.Proofs.YtembdahclmffjaaDoorW.PrintMore Go.Proofs.YtembdahclmffjaaDoor.Mem
set_option linter.unusedVariables false
set_option linter.unusedSimpArgs false
theorem atE {w : World} {A : Option Addr} {n : Nat} {es : List EfT} (h : kE.C w A n es) (i : Nat) (hi : i < n) : ∃ ad, A = some ad ∧ w.cell? (ad.add (i * 3)) = some (.int .u16 (es.getD i (0, 0, 0)).1) ∧ w.cell? ⟨(ad.add (i * 3)).block, (ad.add (i * 3)).off + 1, none⟩ = some (.int .i64 (es.getD i (0, 0, 0)).2.1) ∧ w.cell? ⟨(ad.add (i * 3)).block, (ad.add (i * 3)).off + 2, none⟩ = some (.int .i64 (es.getD i (0, 0, 0)).2.2) := by
  obtain ⟨ad, e, h0, h1, h2⟩ := P.at_T80 (C_gE h) (i : Int) (by omega) (by omega)
  rw [rdE, Int.toNat_natCast] at h0 h1 h2
  exact ⟨ad, e, h0, h1, h2⟩
theorem atB {w : World} {A : Option Addr} {n : Nat} {bs : List BkT} (h : kB.C w A n bs) (i : Nat) (hi : i < n) : ∃ ad A1 c1, A = some ad ∧ w.cell? (ad.add (i * 2)) = some (.int .i64 (bs.getD i (0, [])).1) ∧ w.cell? ⟨(ad.add (i * 2)).block, (ad.add (i * 2)).off + 1, none⟩ = some (.slice A1 (bs.getD i (0, [])).2.length c1) ∧ (bs.getD i (0, [])).2.length ≤ c1 ∧ Kd.C (Kd.int .u8) w A1 (bs.getD i (0, [])).2.length (bs.getD i (0, [])).2 := by
  obtain ⟨ad, A1, c1, e, h0, h1, h2, h3⟩ := P.at_T82 (C_gB h) (i : Int) (by omega) (by omega)
  rw [rdBk, Int.toNat_natCast] at h0
  rw [rdBk, Int.toNat_natCast] at h1
  rw [rdBk] at h2 h3
  exact ⟨ad, A1, c1, e, h0, h1, h2, h3⟩
theorem infoS : (Tryd.prog.info? 100).map (fun i => (i.zero, i.size, i.bytes)) = some (some (.agg #[(.int .u8 0), (.int .u8 0), (.slice none 0 0)]), 3, 32) := by kernel_rfl
theorem szS : kS.sz = 3 := rfl
/-- a section's cells -/
theorem kS_mk {w : World} (k n : Int) {A : Option Addr} {c : Nat} {d : List Int} (hl : d.length ≤ c) (hC : Kd.C (Kd.int .u8) w A d.length d) : kS.K w (k, n, d) [.int .u8 k, .int .u8 n, .slice A d.length c] := ⟨[.int .u8 k], [.int .u8 n, .slice A d.length c], rfl, rfl, ⟨[.int .u8 n], [.slice A d.length c], rfl, rfl, ⟨A, c, rfl, hl, hC⟩⟩⟩
theorem FK_S {w W : World} (k n : Int) {A : Option Addr} {c : Nat} {d : List Int} (hl : d.length ≤ c) (hC : Kd.C (Kd.int .u8) w A d.length d) (hb : Below w.heap.size w W) : Kd.FK kS W (fun q => q < w.heap.size) (k, n, d) [.int .u8 k, .int .u8 n, .slice A d.length c] := fun W' hW =>
  kS_mk k n hl ((Kd.heap_int .u8).C (fun q hq => (hW q hq (Nat.lt_of_lt_of_le hq hb.size)).trans (hb.block q hq)) hC)
/-- one section behind a row of them -/
theorem appS {ops : Array Oper} {rest : List Oper} {o : Oper} {a : Act} {Q : Exit → Act → World → Prop} {w0 W : World} (base : Nat) (hgd : o.guard = none) (s x : Operand)
    (ho : o.op = .call { callee := .builtin .append, args := #[s, x], argTypes := #[97, 97] })
    (v : Value) (xs : List ScT) (p : ScT) (cs : List Value) (hs : a.eval s = v) (hx : a.eval x = .slice (some ⟨W.heap.size, 0, none⟩) 1 1) (hp : Kd.FK kS W (fun q => q < base) p cs)
    (HO : Kd.N kS 100 W base (fun _ => True) v xs) (HB : Below base w0 W) (hbase : base ≤ W.heap.size) (hl : (xs.length + 1) * 32 ≤ 140737488355328)
    (h : ∀ A1 c1 w1, Kd.N kS 100 w1 base (fun _ => True) (.slice A1 (xs ++ [p]).length c1) (xs ++ [p]) → Below base w0 w1 → wpList Tryd.prog ops Q rest (a.put o.dst (.slice A1 (xs ++ [p]).length c1)) w1) :
    wpList Tryd.prog ops Q (o :: rest) a (W.alloc (.cells cs.toArray 100)) :=
  Kd.N_append (P := Tryd.prog) kS (w0 := w0) base hgd s x 97 100 (.agg #[(.int .u8 0), (.int .u8 0), (.slice none 0 0)]) 32 ho Tryd.underlying97 (by rw [szS]; exact infoS) (by rw [szS]; rfl) (by rw [szS]; decide) (by decide) v xs p cs (fun _ => True) (fun q => q < base) hs hx hp (fun k hk => ⟨trivial, fun e => by have := Kd.N_base HO k e.symm; omega⟩) (fun _ _ => trivial) HO HB hbase hl (fun v1 w1 hN hB _ _ => by
    obtain ⟨A1, c1, rfl⟩ := Kd.N_slice hN
    exact h A1 c1 w1 hN hB)
/-- a writer at g, all ahead of g as it was in w0, and a block b that holds o -/
structure Wst (w0 W : World) (g b : Nat) (o : Obj) (xs : List Int) : Prop where
  isw : IsW W g (fun k => g < k ∧ k ≠ b) g xs
  bel : Below g w0 W
  bx : W.heap[b]? = some o
  ne : b ≠ g
namespace Wst
variable {w0 W w1 : World} {g b : Nat} {o : Obj} {xs zs : List Int}
theorem le (h : Wst w0 W g b o xs) : g ≤ W.heap.size := Nat.le_of_lt h.isw.lt
theorem lt (h : Wst w0 W g b o xs) : b < W.heap.size := heap_lt h.bx
theorem step (h : Wst w0 W g b o xs) (hW : IsW w1 g (fun k => (g < k ∧ k ≠ b) ∨ W.heap.size ≤ k) g zs) (hF : Fr W w1 (fun k => k = g ∨ (g < k ∧ k ≠ b))) : Wst w0 w1 g b o zs :=
  ⟨hW.mono (fun k hk _ _ => by
      have := h.lt; have := h.isw.lt
      rcases hk with hk | hk
      · exact hk
      · exact ⟨by omega, by omega⟩), h.bel.trans (hF.below h.le (fun k hk hs => by rcases hs with e | e <;> omega)), hF.heap h.bx (fun e => e.elim (fun e => h.ne e) (fun e => e.2 rfl)), h.ne⟩
theorem cell (h : Wst w0 W g b o xs) {cs : Array Value} {t : TypeId} {fr : Nat × Nat} (ho : o = .cells cs t fr) (j : Nat) {u : Value} (hj : cs[j]? = some u) : W.cell? ⟨b, j, none⟩ = some u := by
  have hb := h.bx
  subst ho
  simp [World.cell?, hb, hj]
theorem under (h : Wst w0 W g b o xs) {hb : Below g W w1} : True := trivial
end Wst
/-- what a writer in front of new blocks is, when a block b has come up -/
theorem Wst.of {w0 W : World} {g : Nat} {ok : Nat → Prop} {xs : List Int} (o : Obj) (hW : IsW W g ok g xs) (hk : ∀ k, ok k → g < k) (hb : Below g w0 W) : Wst w0 (W.alloc o) g W.heap.size o xs :=
  ⟨(hW.mono (ok' := fun k => g < k ∧ k ≠ W.heap.size) (fun k hk1 hB hlt => ⟨hk k hk1, by omega⟩)).lit o, hb.alloc (Nat.le_of_lt hW.lt) o, World.alloc_heap_new W o, by have := hW.lt; omega⟩
theorem effB_snoc (es : List EfT) (i : Nat) (h : i < es.length) : effB (es.take (i + 1)) = ((effB (es.take i) ++ [(es.getD i (0, 0, 0)).1 % 256, (es.getD i (0, 0, 0)).1 / 256]) ++ [(es.getD i (0, 0, 0)).2.1 % 256, (es.getD i (0, 0, 0)).2.1 / 256]) ++ [(es.getD i (0, 0, 0)).2.2 % 256, (es.getD i (0, 0, 0)).2.2 / 256] := by
  rw [List.take_succ_eq_append_getElem h, getD_at _ _ h]
  unfold effB
  rw [List.flatMap_append]
  simp only [List.flatMap_cons, List.flatMap_nil, List.append_nil, cellB, List.append_assoc]
theorem secs_snoc (bs : List BkT) (i : Nat) (h : i < bs.length) : ((bs.take (i + 1)).map fun b => ((3 : Int), b.1, b.2)) = ((bs.take i).map fun b => ((3 : Int), b.1, b.2)) ++ [((3 : Int), (bs.getD i (0, [])).1, (bs.getD i (0, [])).2)] := by
  rw [List.take_succ_eq_append_getElem h, getD_at _ _ h, List.map_append]
  rfl
set_option maxRecDepth 100000 in
set_option maxHeartbeats 4000000 in
theorem Sections {w : World} {A0 A2 A3 : Option Addr} {c0 c2 c3 : Nat} {c : CartP} (h : IsC w A0 c0 A2 c2 A3 c3 c) (hok : OkC c) (hwf : WfC c) :
    Calls Tryd.prog 49 #[crt A0 c0 A2 c2 A3 c3 c] w fun e w' => ∃ A1 c1, e = .returned (.slice A1 (secs c).length c1) ∧ (secs c).length ≤ c1 ∧ Kd.C kS w' A1 (secs c).length (secs c) ∧ Below w.heap.size w w' := by
  have hbl := bk_len hok.bs
  have hel := hok.el
  have hes := Aside0.mk hok.es
  have hbs := Aside0.mk hok.bs
  have hat := Aside0.mk hwf.ats
  have hsl := Aside0.mk (secs_len c)
  have hse : Aside0 (secs c = [((1 : Int), (0 : Int), c.code), (2, 0, effB c.efs)] ++ c.bks.map fun b => ((3 : Int), b.1, b.2)) := ⟨rfl⟩
  have hIC := Aside0.mk h
  have hC0 := Aside0.mk h.code
  have hC2 := Aside0.mk h.efs
  have hC3 := Aside0.mk h.bks
  have hl0 := Aside0.mk h.l0
  unfold crt
  obtain ⟨n2, hn2⟩ : ∃ n, n = c.efs.length := ⟨_, rfl⟩
  obtain ⟨n3, hn3⟩ : ∃ n, n = c.bks.length := ⟨_, rfl⟩
  obtain ⟨n0, hn0⟩ : ∃ n, n = c.code.length := ⟨_, rfl⟩
  obtain ⟨ent, hent⟩ : ∃ x, x = c.entry := ⟨_, rfl⟩
  rw [← hn2] at hel
  rw [← hn3] at hbl
  rw [← hn0, ← hn2, ← hn3, ← hent]
  obtain ⟨w0, hw0⟩ : ∃ w0, w0 = w.alloc (.cells #[.slice A0 n0 c0, .int .u16 ent, .slice A2 n2 c2, .slice A3 n3 c3] 28) := ⟨_, rfl⟩
  have hz0 : w0.heap.size = w.heap.size + 1 := by rw [hw0, World.size_alloc]
  have hbx0 : Aside0 (w0.heap[w.heap.size]? = some (.cells #[.slice A0 n0 c0, .int .u16 ent, .slice A2 n2 c2, .slice A3 n3 c3] 28 (0, 0))) := ⟨by rw [hw0]; exact World.alloc_heap_new w _⟩
  have hbw0 : Aside0 (Below w.heap.size w w0) := ⟨by rw [hw0]; exact below_alloc (Below.refl _ _) _⟩
  have hnn2 := Aside0.mk hn2
  have hnn3 := Aside0.mk hn3
  have hnn0 := Aside0.mk hn0
  have hen := Aside0.mk hent
  have hW0 := Aside0.mk hw0
  have hZ0 := Aside0.mk hz0
  clear h hok hwf hn2 hn3 hn0 hent hw0 hz0
  go_enter Tryd.func49, Tryd.ntmps49
  go_wp2
  go_loopg [14] n2 (fun gk v14 wr => ∃ i : Nat, v14 = .int .i64 (i : Int) ∧ i + gk = n2 ∧ Aside0 (IsW wr (w.heap.size + 1) (fun k => w.heap.size + 1 < k) (w.heap.size + 1) (effB (c.efs.take i))) ∧ Aside0 (Below (w.heap.size + 1) w0 wr))
  case atStart =>
    have e := hW0.out
    have hz := hZ0.out
    refine ⟨0, rfl, by omega, ⟨?_⟩, ⟨?_⟩⟩
    · have h1 := (IsW.new w0 w0.heap.size (Nat.le_refl _)).mono (ok' := fun k => w0.heap.size < k) (fun k hk _ _ => hk.elim)
      rw [hz] at h1
      rw [e] at h1
      exact h1
    · have h1 := below_alloc (Below.refl w0.heap.size w0) (.cells #[.slice none 0 0] 51)
      rw [hz] at h1
      rw [e] at h1 ⊢
      exact h1
  case round =>
    obtain ⟨i, rfl, hi, hW, hB⟩ := hrel
    have hBw : Aside0 (Below w.heap.size w wr) := ⟨hbw0.out.trans (hB.out.mono (by have := hZ0.out; omega))⟩
    cases gk with
    | succ k1 =>
      have hd : decide ((i : Int) < (n2 : Int)) = true := decide_eq_true (by omega)
      have hd' : decide (i < n2) = true := decide_eq_true (by omega)
      have hilt : i < c.efs.length := by have := hnn2.out; omega
      have hsn := Aside0.mk (effB_snoc c.efs i hilt)
      have hef := hes.out i hilt
      have hln := eff_len (c.efs.take i)
      rw [List.length_take] at hln
      have hln2 : Aside0 ((effB (c.efs.take i)).length ≤ 100000) := ⟨by have := hnn2.out; omega⟩
      have hatx := hat.out (c.efs.getD i (0, 0, 0)) (by rw [getD_at _ _ hilt]; exact List.getElem_mem hilt)
      obtain ⟨ad, eA, hx0, hx1, hx2⟩ := atE (Kd.C_below hC2.out hBw.out) i (by have := hnn2.out; omega)
      subst eA
      unfold okE at hef
      generalize c.efs.getD i (0, 0, 0) = x at hx0 hx1 hx2 hef hatx hsn
      obtain ⟨xa, xi, xo⟩ := x
      dsimp only at hx0 hx1 hx2 hef hatx hsn
      have p0 := hatx.1
      have p1 : xa ≤ 65535 := by have := hatx.2; omega
      have p2 := hef.1
      have p3 := hef.2.1
      have p4 := hef.2.2.1
      have p5 := hef.2.2.2.1
      clear hef hatx hln hilt
      have hS := Aside0.mk (Wst.of (.cells #[.int .u16 xa, .int .i64 xi, .int .i64 xo] 80) hW.out (fun k hk => hk) hB.out)
      go_wp2_with (first | (go_at_call 21; ((with_reducible refine (Cell xa p0 p1 hS.out.isw hS.out.le (by have := hln2.out; omega)).mono ?_); rintro e w1 ⟨rfl, hW1, hF1⟩; have hS1 := Aside0.mk (hS.out.step hW1 hF1); have y1 := hS1.out.cell rfl 1 rfl; have y2 := hS1.out.cell rfl 2 rfl; clear hW1 hF1)) | (go_at_call 21; ((with_reducible refine (Cell xi p2 (by omega) hS1.out.isw hS1.out.le (by have := hln2.out; simp; omega)).mono ?_); rintro e w2 ⟨rfl, hW1, hF1⟩; have hS2 := Aside0.mk (hS1.out.step hW1 hF1); have z2 := hS2.out.cell rfl 2 rfl; clear hW1 hF1)) | (go_at_call 21; ((with_reducible refine (Cell xo p4 (by omega) hS2.out.isw hS2.out.le (by have := hln2.out; simp; omega)).mono ?_); rintro e w3 ⟨rfl, hW1, hF1⟩; have hS3 := Aside0.mk (hS2.out.step hW1 hF1); clear hW1 hF1)))
      go_roundg k1
      case measure => omega
      case rel => exact ⟨i + 1, rfl, by omega, ⟨by rw [hsn.out]; exact hS3.out.isw.mono (fun k hk _ _ => hk.1)⟩, ⟨hS3.out.bel⟩⟩
    | zero =>
      have hd : decide ((i : Int) < (n2 : Int)) = false := decide_eq_false (by omega)
      have hd' : decide (i < n2) = false := decide_eq_false (by omega)
      have hall : c.efs.take i = c.efs := List.take_of_length_le (by have := hnn2.out; omega)
      rw [hall] at hW
      have hbx := (hB.out.block _ (by omega)).trans hbx0.out
      have q0 : wr.cell? ⟨w.heap.size, 0, none⟩ = some (.slice A0 n0 c0) := by simp [World.cell?, hbx]
      have q3 : wr.cell? ⟨w.heap.size, 3, none⟩ = some (.slice A3 n3 c3) := by simp [World.cell?, hbx]
      have hdl : Aside0 ((effB c.efs).length ≤ 140737488351232) := ⟨by rw [eff_len]; have := hnn2.out; omega⟩
      have hln9 : Aside0 (effB c.efs = effB c.efs) := ⟨rfl⟩
      have q0d := And.intro q0 q3
      have hWd := Aside0.mk ((hW.out.below (below_drew (Below.refl _ _))))
      clear hall hbx
      go_wp2
      refine start_ (n := 8) (S := (fun w' => w'.cell? ⟨w.heap.size, 0, none⟩ = some (.slice A0 n0 c0) ∧ w'.cell? ⟨w.heap.size, 3, none⟩ = some (.slice A3 n3 c3))) (ds := []) #[false, false, false, false, false, false, false, false] (by kernel_rfl) rfl rfl q0d (fun hHeld => ?_)
      refine pure_ (i := 0) (N := some 33) (v := ?_) (a' := ?_) #[true, false, false, false, false, false, false, false] rfl rfl (by kernel_rfl) (fun _ _ _ h => h) (Or.inl ⟨by rfl, ?_⟩) ?_ ?_
      rotate_left
      · intro w'
        go_simp
        with_reducible rfl
      rotate_left
      · simp only [Act.put, List.setIfInBounds_toArray, List.set_cons_zero, List.set_cons_succ, i64_w, i32_w]
        rfl
      refine take_ (i := 1) (N := some 34) (v := ?_) (a' := ?_) #[true, true, false, false, false, false, false, false] rfl rfl (by kernel_rfl) (fun _ _ _ h => h) (Or.inl ⟨by rfl, ?_⟩) hHeld ?_ ?_
      rotate_left
      · rintro w' ⟨hS0, hS3⟩
        go_simp
        with_reducible rfl
      rotate_left
      · simp only [Act.put, List.setIfInBounds_toArray, List.set_cons_zero, List.set_cons_succ, i64_w, i32_w]
        rfl
      refine pure_ (i := 2) (N := some 35) (v := ?_) (a' := ?_) #[true, true, true, false, false, false, false, false] rfl rfl (by kernel_rfl) (fun _ _ _ h => h) (Or.inl ⟨by rfl, ?_⟩) ?_ ?_
      rotate_left
      · intro w'
        go_simp
        with_reducible rfl
      rotate_left
      · simp only [Act.put, List.setIfInBounds_toArray, List.set_cons_zero, List.set_cons_succ, i64_w, i32_w]
        rfl
      refine pure_ (i := 3) (N := some 36) (v := ?_) (a' := ?_) #[true, true, true, true, false, false, false, false] rfl rfl (by kernel_rfl) (fun _ _ _ h => h) (Or.inl ⟨by rfl, ?_⟩) ?_ ?_
      rotate_left
      · intro w'
        go_simp
        with_reducible rfl
      rotate_left
      · simp only [Act.put, List.setIfInBounds_toArray, List.set_cons_zero, List.set_cons_succ, i64_w, i32_w]
        rfl
      refine one_ (i := 4) (N := some 37) #[true, true, true, true, true, false, false, false] rfl rfl (by kernel_rfl) (by decide) (fun K hK => ?_)
      refine goes_ Tryd.func23 (by kernel_rfl) rfl #[.pointer (some ⟨w.heap.size + 1, 0, none⟩)] (by rfl) rfl rfl (by first | rfl | kernel_rfl | simp [Act.eval]) ?_
      refine (Done hWd.out hdl.out).mono ?_
      rintro e w5 ⟨v5, rfl, hR5, hb5⟩
      obtain ⟨A5, c5, rfl⟩ := Kd.R_slice hR5
      have hq5 : w5.cell? ⟨w.heap.size, 0, none⟩ = some (.slice A0 n0 c0) ∧ w5.cell? ⟨w.heap.size, 3, none⟩ = some (.slice A3 n3 c3) := ⟨(hb5.cell (by have := hB.out.size; have := hZ0.out; simp; omega)).trans hHeld.1, (hb5.cell (by have := hB.out.size; have := hZ0.out; simp; omega)).trans hHeld.2⟩
      have hR6 := Aside0.mk hR5
      have hb6 := Aside0.mk hb5
      clear hR5 hb5
      refine ⟨_, rfl, hK.out _ _ hq5 (fun hHeld2 => ?_)⟩
      clear hK
      refine norm_ (a' := ?_) ?_ ?_
      rotate_left
      · show Act.put _ (some 37) _ = _
        simp only [Act.put, List.setIfInBounds_toArray, List.set_cons_zero, List.set_cons_succ, i64_w, i32_w]
        rfl
      refine pure_ (i := 5) (N := some 38) (v := ?_) (a' := ?_) #[true, true, true, true, true, true, false, false] rfl rfl (by kernel_rfl) (fun _ _ _ h => h) (Or.inl ⟨by rfl, ?_⟩) ?_ ?_
      rotate_left
      · intro w'
        go_simp
        with_reducible rfl
      rotate_left
      · simp only [Act.put, List.setIfInBounds_toArray, List.set_cons_zero, List.set_cons_succ, i64_w, i32_w]
        rfl
      refine one_ (i := 6) (N := some 39) #[true, true, true, true, true, true, true, false] rfl rfl (by kernel_rfl) (by decide) (fun K hK => ?_)
      have e1 : Aside0 (Kd.FK kS w5 (fun q => q < w5.heap.size) ((1 : Int), (0 : Int), c.code) [.int .u8 1, .int .u8 0, .slice A0 n0 c0]) := ⟨by
        have hb5w : Below w.heap.size w w5 := (hBw.out.trans (below_drew (Below.refl _ _))).trans (hb6.out.mono (by have := hBw.out.size; simp; omega))
        have h9 := FK_S (W := w5) 1 0 hl0.out hC0.out hb5w
        rw [hnn0.out]
        exact Kd.FK_mono h9 (fun q hq => Nat.lt_of_lt_of_le hq hb5w.size)⟩
      have e2 : Aside0 (Kd.FK kS w5 (fun q => q < w5.heap.size) ((2 : Int), (0 : Int), effB c.efs) [.int .u8 2, .int .u8 0, .slice A5 (effB c.efs).length c5]) := ⟨FK_S (W := w5) 2 0 (Kd.R_reads' hR6.out).2.1 (Kd.R_reads' hR6.out).2.2 (Below.refl _ _)⟩
      have e3 : Aside0 (Below w.heap.size w w5) := ⟨(hBw.out.trans (below_drew (Below.refl _ _))).trans (hb6.out.mono (by have := hBw.out.size; simp; omega))⟩
      refine Kd.N_lit_step kS (w0 := w) w.heap.size 100 (by rfl) (N' := 39) rfl (xs := [((1 : Int), (0 : Int), c.code), ((2 : Int), (0 : Int), effB c.efs)]) (inner := [.int .u8 1, .int .u8 0, .slice A0 n0 c0, .int .u8 2, .int .u8 0, .slice A5 (effB c.efs).length c5]) (ok := fun _ => True) (okp := fun q => q < w5.heap.size) (by go_simp) (Reps.c3 e1.out (Reps.c3 e2.out (Reps.none _ _))) (fun _ _ => trivial) trivial e3.out e3.out.size (by simp) ?_
      intro v9 w6 hN6 hB6 hg6 hnew6
      obtain ⟨A6, c6, rfl⟩ := Kd.N_slice hN6
      have hk6 := hg6.block w.heap.size (World.block_lt_of_cell? _ _ hHeld2.1) (by simp)
      have hq6 : w6.cell? ⟨w.heap.size, 0, none⟩ = some (.slice A0 n0 c0) ∧ w6.cell? ⟨w.heap.size, 3, none⟩ = some (.slice A3 n3 c3) := ⟨(World.cell?_of_block (a := ⟨w.heap.size, 0, none⟩) hk6).trans hHeld2.1, (World.cell?_of_block (a := ⟨w.heap.size, 3, none⟩) hk6).trans hHeld2.2⟩
      have hN7 := Aside0.mk hN6
      have hB7 := Aside0.mk hB6
      clear hN6 hB6 hg6 hnew6 hk6
      refine hK.out _ _ hq6 (fun hHeld3 => ?_)
      clear hK
      refine norm_ (a' := ?_) ?_ ?_
      rotate_left
      · show Act.put _ (some 39) _ = _
        simp only [Act.put, List.setIfInBounds_toArray, List.set_cons_zero, List.set_cons_succ, i64_w, i32_w]
        rfl
      refine pure_ (i := 7) (N := some 6) (v := ?_) (a' := ?_) #[true, true, true, true, true, true, true, true] rfl rfl (by kernel_rfl) (fun _ _ _ h => h) (Or.inl ⟨by rfl, ?_⟩) ?_ ?_
      rotate_left
      · intro w'
        go_simp
        with_reducible rfl
      rotate_left
      · simp only [Act.put, List.setIfInBounds_toArray, List.set_cons_zero, List.set_cons_succ, i64_w, i32_w]
        rfl
      refine done_ (by kernel_rfl) ?_
      have q3b := hHeld3.2
      obtain ⟨L0, hL0⟩ : ∃ L0 : List ScT, L0 = [((1 : Int), (0 : Int), c.code), ((2 : Int), (0 : Int), effB c.efs)] := ⟨_, rfl⟩
      have hL2 : Aside0 (2 = L0.length) := ⟨by rw [hL0]; rfl⟩
      rw [← hL0] at hN7
      have hLL := Aside0.mk hL0
      have hN8 := Aside0.mk hN7.out
      rw [← hL2.out] at hN8
      clear hL0 hN7 hHeld hHeld2 hHeld3 q0 q3 q0d hWd e1 e2 e3 hR6 hb6 hW hB hBw hd hd' hdl hln9 hbx0
      go_wp2
      go_loopg [6, 43] n3 (fun gk v6 v43 wr => ∃ (i : Nat) (A : Option Addr) (c' nL : Nat) (pre : List ScT), v6 = .slice A nL c' ∧ v43 = .int .i64 (i : Int) ∧ i + gk = n3 ∧ Aside0 (pre = L0 ++ (c.bks.take i).map fun b => ((3 : Int), b.1, b.2)) ∧ Aside0 (pre.length = 2 + i) ∧ Aside0 (nL = pre.length) ∧ Aside0 (Kd.N kS 100 wr w.heap.size (fun _ => True) (.slice A nL c') pre) ∧ Aside0 (Below w.heap.size w wr))
      case atStart => exact ⟨0, A6, c6, 2, L0, rfl, rfl, by omega, ⟨by simp⟩, ⟨by have := hL2.out; omega⟩, hL2, hN8, hB7⟩
      case round =>
        obtain ⟨i, A, c', nL, pre, rfl, rfl, hi, hpre, hpl, hnL, hN, hB⟩ := hrel
        cases gk with
        | succ k1 =>
          have hd : decide ((i : Int) < (n3 : Int)) = true := decide_eq_true (by omega)
          have hd' : decide (i < n3) = true := decide_eq_true (by omega)
          have hilt : i < c.bks.length := by have := hnn3.out; omega
          have hsn := Aside0.mk (secs_snoc c.bks i hilt)
          have hef := hbs.out i hilt
          obtain ⟨ad, A1, c1, eA, hx0, hx1, hx2, hx3⟩ := atB (Kd.C_below hC3.out hB.out) i (by have := hnn3.out; omega)
          obtain ⟨_, _, _, eA', _, hy1, hy2, hy3⟩ := atB hC3.out i (by have := hnn3.out; omega)
          subst eA
          injection eA' with eA'
          subst eA'
          have hy1' := (hB.out.cell (World.block_lt_of_cell? _ _ hy1)).trans hy1
          rw [hx1] at hy1'
          injection hy1' with hy1'
          injection hy1' with ea1 _ ea3
          subst ea1
          subst ea3
          clear hy1 hx3
          unfold okB at hef
          generalize c.bks.getD i (0, []) = x at hx0 hx1 hx2 hef hy2 hy3 hsn
          obtain ⟨num, d⟩ := x
          dsimp only at hx0 hx1 hx2 hef hy2 hy3 hsn
          have p0 := hef.1
          have p1 := hef.2.1
          obtain ⟨nd, hnd⟩ : ∃ n, n = d.length := ⟨_, rfl⟩
          have hndd := Aside0.mk hnd
          have hFK := FK_S (W := wr.alloc (.cells #[.int .i64 num, .slice A1 d.length c1] 82)) 3 num hy2 hy3 (below_alloc hB.out _)
          have hF2 := Aside0.mk hFK
          rw [← hnd] at hx1 hF2
          clear hef hx2 hy2 hy3 hilt hnd hFK
          go_wp2_with (at_builtin; go_must (refine appS (w0 := w) w.heap.size rfl _ _ rfl (.slice A nL c') pre ((3 : Int), num, d) [.int .u8 3, .int .u8 num, .slice A1 nd c1] rfl (by rw [World.size_alloc]; rfl) hF2.out (Kd.N_alloc hN.out _) (below_alloc hB.out _) (by have := hB.out.size; simp; omega) (by have := hpl.out; omega) ?_); intro A9 c9 w9 hN9 hB9; have hN9 := Aside0.mk hN9; have hB9 := Aside0.mk hB9)
          go_roundg k1
          case measure => omega
          case rel => exact ⟨i + 1, A9, c9, _, pre ++ [((3 : Int), num, d)], rfl, rfl, by omega, ⟨by rw [hpre.out, hsn.out, List.append_assoc]⟩, ⟨by have := hpl.out; simp; omega⟩, ⟨by simp⟩, ⟨by have h := hN9.out; rw [List.length_append] at h; exact h⟩, hB9⟩
        | zero =>
          have hd : decide ((i : Int) < (n3 : Int)) = false := decide_eq_false (by omega)
          have hd' : decide (i < n3) = false := decide_eq_false (by omega)
          have hall : c.bks.take i = c.bks := List.take_of_length_le (by have := hnn3.out; omega)
          rw [hall] at hpre
          have hp : Aside0 (pre = secs c) := ⟨by rw [hpre.out, hLL.out]; rfl⟩
          clear hall hpre
          go_wp2
          go_ret
          have e := hp.out
          subst e
          have en := hnL.out
          subst en
          have hr := Kd.N_reads' hN.out
          exact ⟨A, c', rfl, hr.2.1, hr.2.2, hB.out⟩
end Go.Proofs.YtembdahclmffjaaDoor.Pk
