/- wisplaw12.LayoutSizes: the walk. -/
import Derived.Test.YtjphhnhloeanlaaLf
import Derived.Test.YtjphhnhloeanlaaWNEv
namespace Go.Proofs.Ytjphhnhloeanlaa.P
open Go.RowKit Go.Shelf Go.Proofs.YtjphhnhloeanlaaW.PrintWords Go.Proofs.YtjphhnhloeanlaaW.PrintLast Go.Proofs.YtjphhnhloeanlaaW.PrintMore Go.Proofs.Ytjphhnhloeanlaa.Mem
set_option linter.unusedVariables false
set_option linter.unusedSimpArgs false
theorem heap_node : Kd.Heap k38 := by
  unfold k38
  refine Kd.heap_fix (fun d hd => ?_)
  unfold F38 k25
  exact Kd.heap_iso _ (Kd.heap_pair (Kd.heap_int _) (Kd.heap_pair (Kd.heap_int _) (Kd.heap_pair (Kd.heap_int _) (Kd.heap_pair Kd.heap_string (Kd.heap_pair (Kd.heap_slice _ hd) (Kd.heap_pair (Kd.heap_slice _ hd) (Kd.heap_pair Kd.heap_bool (Kd.heap_iso _ (Kd.heap_pair (Kd.heap_int _) (Kd.heap_int _))))))))))
theorem szN_even (x : Nd) (h4 : szL x.f4 % 2 = 0) (h5 : szL x.f5 % 2 = 0) : szN x % 2 = 0 := by
  rw [szN_eq]
  repeat' split
  all_goals omega
theorem szL_even : ∀ (K : Nat) (l : List Nd), cnL l ≤ K → szL l % 2 = 0
  | 0, [], _ => by simp [szL]
  | 0, x :: l, h => by
    have := cnN_eq x
    rw [cnL] at h; omega
  | K + 1, [], _ => by simp [szL]
  | K + 1, x :: l, h => by
    have e := cnN_eq x
    rw [cnL] at h
    rw [szL]
    have h1 := szL_even K x.f4 (by omega)
    have h2 := szL_even K x.f5 (by omega)
    have h3 := szL_even K l (by omega)
    have h4 := szN_even x h1 h2
    omega
theorem szL_one (x : Nd) : szL [x] = szN x := by rw [szL, szL]; rfl
theorem cnL_one (x : Nd) : cnL [x] = cnN x := by rw [cnL, cnL]; rfl
set_option maxRecDepth 100000 in
set_option maxHeartbeats 4000000 in
theorem one_at {w : World} {x : Nd} {A4 A5 : Option Addr} {n4 n5 c4 c5 : Nat} {i0 i1 i2 i7 i8 : Int} {b6 : Bool} {s3 : ByteArray} (e0 : i0 = x.f0) (e1 : i1 = x.f1) (e2 : i2 = x.f2) (e3 : s3 = x.f3) (e6 : b6 = x.f6) (e7 : i7 = x.f7.f0) (e8 : i8 = x.f7.f1) (m4 : n4 = x.f4.length) (m5 : n5 = x.f5.length) (l4 : n4 ≤ c4) (h4 : k38.C w A4 n4 x.f4) (l5 : n5 ≤ c5) (h5 : k38.C w A5 n5 x.f5) (hc : cnN x < 1000000000000) :
    Calls Try.prog 22 #[.agg #[.int .i64 i0, .int .i64 i1, .int .u16 i2, .string s3, .slice A4 n4 c4, .slice A5 n5 c5, .bool b6, .int .i64 i7, .int .i64 i8]] w fun e w' => e = .returned (.int .i64 (szN x : Nat)) ∧ Below w.heap.size w w' := by
  have hK : ∀ W, Below w.heap.size w W → k38.K W x [.int .i64 i0, .int .i64 i1, .int .u16 i2, .string s3, .slice A4 n4 c4, .slice A5 n5 c5, .bool b6, .int .i64 i7, .int .i64 i8] := fun W hW => by
    subst e0 e1 e2 e3 e6 e7 e8 m4 m5
    exact k38_mk W x l4 (Kd.C_below h4 hW) l5 (Kd.C_below h5 hW)
  have hKa := Aside0.mk hK
  clear hK h4 h5 e0 e1 e2 e3 e6 e7 e8 m4 m5 l4 l5
  go_enter Try.func22, Try.ntmps22
  go_wp2_with fail
  refine name_call (fun wy => (∃ cs : List Value, wy.heap[w.heap.size + 1]? = some (Obj.cells cs.toArray 38) ∧ cs = [.int .i64 i0, .int .i64 i1, .int .u16 i2, .string s3, .slice A4 n4 c4, .slice A5 n5 c5, .bool b6, .int .i64 i7, .int .i64 i8]) ∧ Below w.heap.size w wy) ⟨⟨_, hpA (by simp only [World.size_alloc]), rfl⟩, below_alloc (below_alloc (Below.refl _ _) _) _⟩ ?_
  rintro wy ⟨⟨cs, h1, rfl⟩, hb⟩
  have hC := C_block (W := wy) (d := k38) (xs := [x]) [_] h1 (by simp) (.cons (hKa.out wy hb) .nil) (by simp)
  have hS := Size_at (c := 1) (n := 1) (l := [x]) hC rfl (by rw [cnL_one]; exact hc)
  rw [szL_one] at hS
  clear h1 hC
  refine hS.mono ?_
  rintro e w1 ⟨rfl, q, rfl⟩
  have hb2 := Aside0.mk (pw_below_drewN hb q)
  clear hS hb hKa
  go_wp2
  go_ret
  exact ⟨rfl, hb2.out⟩
def mkN (k v : Int) (t e : List Nd) (h : Bool) : Nd := ⟨k, 0, v, ⟨#[]⟩, t, e, h, ⟨0, 0⟩⟩
theorem made38 (w : World) : Kd.N k38 38 (w.alloc (.cells #[] 38)) w.heap.size (fun _ => True) (.slice (some ⟨w.heap.size, 0, none⟩) 0 0) ([] : List Nd) :=
  Kd.R_N ⟨fun _ _ => trivial, [], World.ownsRow_made w #[] (e := 38) (size := k38.sz) 0 (Nat.le_refl _) (Nat.zero_le _) rfl, Reps.none _ _⟩
theorem infoNode : (Try.prog.info? 38).map (fun i => (i.zero, i.size, i.bytes)) = some (some (.agg #[(.int .i64 0), (.int .i64 0), (.int .u16 0), (.string ⟨#[]⟩), (.slice none 0 0), (.slice none 0 0), (.bool false), (.int .i64 0), (.int .i64 0)]), 9, 112) := by kernel_rfl
theorem szk38 : k38.sz = 9 := rfl
/-- append(v, ys...) of nodes that are read -/
theorem appN {ops : Array Oper} {rest : List Oper} {o : Oper} {a : Act} {Q : Exit → Act → World → Prop} {w0 W : World} (base : Nat) (hgd : o.guard = none) (s x : Operand)
    (ho : o.op = .call { callee := .builtin .append, args := #[s, x], argTypes := #[34, 34] })
    (v : Value) (xs ys : List Nd) (A : Option Addr) (m c : Nat) (okp : Nat → Prop) (hs : a.eval s = v) (hx : a.eval x = .slice A m c)
    (HO : Kd.N k38 38 W base (fun _ => True) v xs) (HR : Kd.F k38 W okp A m ys) (hokp : ∀ k, okp k → some k ≠ v.ownBlock)
    (HB : Below base w0 W) (hbase : base ≤ W.heap.size) (hl : (xs.length + m) * 112 ≤ 140737488355328)
    (h : ∀ A1 c1 w1, Kd.N k38 38 w1 base (fun _ => True) (.slice A1 (xs ++ ys).length c1) (xs ++ ys) → Below base w0 w1 → wpList Try.prog ops Q rest (a.put o.dst (.slice A1 (xs ++ ys).length c1)) w1) :
    wpList Try.prog ops Q (o :: rest) a W :=
  Kd.N_append_rows (P := Try.prog) k38 (w0 := w0) base hgd s x 34 38 (.agg #[(.int .i64 0), (.int .i64 0), (.int .u16 0), (.string ⟨#[]⟩), (.slice none 0 0), (.slice none 0 0), (.bool false), (.int .i64 0), (.int .i64 0)]) 112 ho Try.underlying34 (by rw [szk38]; exact infoNode) (by rw [szk38]; rfl) (by rw [szk38]; decide) (by decide) v xs ys A m c (fun _ => True) okp hs hx HO HR (fun k hk => ⟨trivial, hokp k hk⟩) (fun _ _ => trivial) HB hbase hl (fun v1 w1 hN hB _ _ => by
    obtain ⟨A1, c1, rfl⟩ := Kd.N_slice hN
    exact h A1 c1 w1 hN hB)
section
variable {w : World} {A A' : Option Addr} {n c n' c' : Nat} {body more : List Nd}
theorem size_fact (hC : k38.C w A n body) (hn : n = body.length) (hl : cnL body ≤ 10000000) {R : Int} (hR : (szL body : Nat) = R) : ∀ wy, Below w.heap.size w wy → Calls Try.prog 18 #[.slice A n c] wy fun e w' => e = .returned (.int .i64 R) ∧ Below w.heap.size w w' := fun wy hb => by
  subst hR
  refine (Size_at (Kd.C_below hC hb) hn (by omega)).mono ?_
  rintro e w1 ⟨rfl, q, rfl⟩
  exact ⟨rfl, pw_below_drewN hb q⟩
theorem node_both (hC : k38.C w A n body) (hn : n = body.length) (hc : n ≤ c) (hl : cnL body ≤ 10000000) (hC' : k38.C w A' n' more) (hn' : n' = more.length) (hc' : n' ≤ c') (hl' : cnL more ≤ 10000000) (k : Int) (h : Bool) {R : Int} (hR : (szN (mkN k 0 body more h) : Nat) = R) :
    ∀ wy, Below w.heap.size w wy → Calls Try.prog 22 #[.agg #[.int .i64 k, .int .i64 0, .int .u16 0, .string ⟨#[]⟩, .slice A n c, .slice A' n' c', .bool h, .int .i64 0, .int .i64 0]] wy fun e w' => e = .returned (.int .i64 R) ∧ Below w.heap.size w w' := fun wy hb => by
  subst hR
  refine (one_at (x := mkN k 0 body more h) rfl rfl rfl rfl rfl rfl rfl hn hn' hc (Kd.C_below hC hb) hc' (Kd.C_below hC' hb) (by rw [cnN_eq]; simp only [mkN]; omega)).mono ?_
  rintro e w1 ⟨rfl, h1⟩
  exact ⟨rfl, hb.trans (h1.mono hb.size)⟩
theorem node_body (hC : k38.C w A n body) (hn : n = body.length) (hc : n ≤ c) (hl : cnL body ≤ 10000000) (k : Int) {R : Int} (hR : (szN (mkN k 0 body [] false) : Nat) = R) :
    ∀ wy, Below w.heap.size w wy → Calls Try.prog 22 #[.agg #[.int .i64 k, .int .i64 0, .int .u16 0, .string ⟨#[]⟩, .slice A n c, .slice none 0 0, .bool false, .int .i64 0, .int .i64 0]] wy fun e w' => e = .returned (.int .i64 R) ∧ Below w.heap.size w w' := fun wy hb => by
  subst hR
  refine (one_at (x := mkN k 0 body [] false) rfl rfl rfl rfl rfl rfl rfl hn rfl hc (Kd.C_below hC hb) (Nat.le_refl _) (C_none0 _ _) (by rw [cnN_eq]; simp only [mkN, cnL]; omega)).mono ?_
  rintro e w1 ⟨rfl, h1⟩
  exact ⟨rfl, hb.trans (h1.mono hb.size)⟩
theorem node_none (w : World) (k v : Int) {R : Int} (hR : (szN (mkN k v [] [] false) : Nat) = R) :
    ∀ wy, Below w.heap.size w wy → Calls Try.prog 22 #[.agg #[.int .i64 k, .int .i64 0, .int .u16 v, .string ⟨#[]⟩, .slice none 0 0, .slice none 0 0, .bool false, .int .i64 0, .int .i64 0]] wy fun e w' => e = .returned (.int .i64 R) ∧ Below w.heap.size w w' := fun wy hb => by
  subst hR
  refine (one_at (x := mkN k v [] [] false) rfl rfl rfl rfl rfl rfl rfl rfl rfl (Nat.le_refl _) (C_none0 _ _) (Nat.le_refl _) (C_none0 _ _) (by rw [cnN_eq]; simp only [mkN, cnL]; omega)).mono ?_
  rintro e w1 ⟨rfl, h1⟩
  exact ⟨rfl, hb.trans (h1.mono hb.size)⟩
end
set_option maxRecDepth 100000 in
set_option maxHeartbeats 4000000 in
theorem Sizes_at {w : World} {A A' : Option Addr} {n c n' c' : Nat} {body more : List Nd} (hC : k38.C w A n body) (hC' : k38.C w A' n' more) (hn : n = body.length) (hn' : n' = more.length) (hc : n ≤ c) (hc' : n' ≤ c') (hl : cnL body ≤ 5000000) (hl' : cnL more ≤ 5000000) :
    Calls Try.prog 6 #[.slice A n c, .slice A' n' c'] w fun e w' => e = .returned (.bool true) ∧ Below w.heap.size w w' := by
  have bT := szL_bd _ body (Nat.le_refl _)
  have bE := szL_bd _ more (Nat.le_refl _)
  have vT := szL_even _ body (Nat.le_refl _)
  have lb := cnL_len body
  have lm := cnL_len more
  have hTE := szL_app body more
  obtain ⟨T, eT⟩ : ∃ T, szL body = T := ⟨_, rfl⟩
  obtain ⟨E, eE⟩ : ∃ E, szL more = E := ⟨_, rfl⟩
  have hl1 : cnL body ≤ 10000000 := by omega
  have hl2 : cnL more ≤ 10000000 := by omega
  have sA := Aside0.mk (size_fact (c := c) hC hn hl1 (R := (T : Int)) (by rw [eT]))
  have sB := Aside0.mk (size_fact (c := c') hC' hn' hl2 (R := (E : Int)) (by rw [eE]))
  have sN := Aside0.mk (size_fact (w := w) (A := none) (n := 0) (c := 0) (body := []) (C_none0 _ _) rfl (by simp [cnL]) (R := 0) (by simp [szL]))
  have y1 := Aside0.mk (node_body hC hn hc hl1 4 (R := 4 + (T : Int)) (by rw [szN_eq]; simp [mkN, eT]))
  have y2 := Aside0.mk (node_both hC hn hc hl1 hC' hn' hc' hl2 4 true (R := 8 + (T : Int) + (E : Int)) (by rw [szN_eq]; simp [mkN, eT, eE]))
  have y3 := Aside0.mk (node_both hC hn hc hl1 hC' hn' hc' hl2 4 false (R := 4 + (T : Int)) (by rw [szN_eq]; simp [mkN, eT, eE]))
  have y4 := Aside0.mk (node_both hC hn hc hl1 hC' hn' hc' hl2 5 false (R := (T : Int) + 4) (by rw [szN_eq]; simp [mkN, eT, eE]))
  have y5 := Aside0.mk (node_body hC hn hc hl1 7 (R := (T : Int) + 4) (by rw [szN_eq]; simp [mkN, eT]))
  have y6 := Aside0.mk (node_both hC hn hc hl1 hC' hn' hc' hl2 6 false (R := (T : Int) + (E : Int) + 8) (by rw [szN_eq]; simp [mkN, eT, eE]; omega))
  have y7 := Aside0.mk (node_both hC hn hc hl1 hC' hn' hc' hl2 8 false (R := (T : Int) + 6) (by rw [szN_eq]; simp [mkN, eT, eE]; omega))
  have y8 := Aside0.mk (node_none w 2 9 (R := 4) (by rw [szN_eq]; simp [mkN]))
  have y9 := Aside0.mk (node_none w 9 0 (R := 2) (by rw [szN_eq]; simp [mkN]))
  have y10 := Aside0.mk (node_none w 3 0 (R := 2) (by rw [szN_eq]; simp [mkN]))
  have y11 := Aside0.mk (node_body hC hn hc hl1 10 (R := 0) (by rw [szN_eq]; simp [mkN]))
  have y12 := Aside0.mk (node_none w (-1) 0 (R := 0) (by rw [szN_eq]; simp [mkN]))
  have w1 : IntKind.i64.wrap (4 + (T : Int)) = 4 + (T : Int) := i64_in (by omega) (by omega)
  have w2 : IntKind.i64.wrap (8 + (T : Int)) = 8 + (T : Int) := i64_in (by omega) (by omega)
  have w3 : IntKind.i64.wrap (8 + (T : Int) + (E : Int)) = 8 + (T : Int) + (E : Int) := i64_in (by omega) (by omega)
  have w4 : IntKind.i64.wrap ((T : Int) + 4) = (T : Int) + 4 := i64_in (by omega) (by omega)
  have w5 : IntKind.i64.wrap ((T : Int) + (E : Int)) = (T : Int) + (E : Int) := i64_in (by omega) (by omega)
  have w6 : IntKind.i64.wrap ((T : Int) + (E : Int) + 8) = (T : Int) + (E : Int) + 8 := i64_in (by omega) (by omega)
  have w7 : IntKind.i64.wrap ((T : Int) + 6) = (T : Int) + 6 := i64_in (by omega) (by omega)
  have d0 : decide ((T : Int) < 0) = false := decide_eq_false (by omega)
  have d1 : Int.tmod (T : Int) 2 = 0 := by rw [Int.tmod_eq_emod_of_nonneg (by omega)]; omega
  have hFb := Aside0.mk (Kd.C_F heap_node hC)
  have hFm := Aside0.mk (Kd.C_F heap_node hC')
  have hcn : Aside0 (cnL (body ++ more) ≤ 10000000) := ⟨by rw [cnL_app]; omega⟩
  have hsz : Aside0 (szL (body ++ more) = T + E) := ⟨by rw [hTE, eT, eE]⟩
  have hlen : Aside0 (n = body.length ∧ n' = more.length ∧ n ≤ 5000000 ∧ n' ≤ 5000000) := ⟨hn, hn', by omega, by omega⟩
  clear hC hC' hn hn' hc hc' hl hl' hl1 hl2 bT bE vT lb lm hTE eT eE
  go_enter Try.func6, Try.ntmps6
  go_wp2_with (first | (go_at_call 13; ((with_reducible refine (fixed_at w).mono ?_)); rintro e wa ⟨rfl, hb⟩; have hb := Aside0.mk hb) | (go_at_call 18; ((with_reducible refine (sA.out _ hb.out).mono ?_)); rintro e wn ⟨rfl, hb⟩; have hb := Aside0.mk hb) | (go_at_call 18; ((with_reducible refine (sB.out _ hb.out).mono ?_)); rintro e wn ⟨rfl, hb⟩; have hb := Aside0.mk hb) | (go_at_call 18; ((with_reducible refine (sC.out _ (Below.refl _ _)).mono ?_)); rintro e wn ⟨rfl, h⟩; have hb := Aside0.mk (hb.out.trans (h.mono hb.out.size)); clear h) | (go_at_call 18; ((with_reducible refine (sN.out _ hb.out).mono ?_)); rintro e wn ⟨rfl, hb⟩; have hb := Aside0.mk hb) | (at_builtin; (refine appN (w0 := wn) wn.heap.size rfl _ _ rfl (.slice A3 body.length c3) body more A' n' c' (fun k => k < w.heap.size) rfl rfl hN3.out (Kd.F_below hFm.out hb.out) (fun k hk e => by have := Kd.N_base hN3.out k e.symm; have := hbo.out; omega) hB3.out hB3.out.size (by have := hlen.out; simp; omega) ?_); intro A4 c4 wd hN hB; have hb := Aside0.mk (hbw.out.trans (hB.mono hbo.out)); have sC := Aside0.mk (size_fact (w := wd) (c := c4) (n := body.length + more.length) (by have h := (Kd.N_reads' hN).2.2; rw [List.length_append] at h; exact h) (by rw [List.length_append]) hcn.out (R := (T : Int) + (E : Int)) (by rw [hsz.out]; simp)); clear hN hB) | (at_builtin; (refine appN (w0 := wn) wn.heap.size rfl _ _ rfl (.slice (some ⟨wn.heap.size, 0, none⟩) 0 0) ([] : List Nd) body A n c (fun k => k < w.heap.size) rfl rfl (made38 wn) (Kd.F_below hFb.out (below_alloc hb.out _)) (fun k hk e => by simp [Value.ownBlock] at e; have := hb.out.size; omega) (below_alloc (Below.refl _ _) _) (by rw [World.size_alloc]; omega) (by have := hlen.out; simp; omega) ?_); intro A3 c3 wc hN hB; have hbw := Aside0.mk hb.out; have hbo := Aside0.mk hb.out.size; have hN3 := Aside0.mk hN; have hB3 := Aside0.mk hB; have hb := Aside0.mk (hbw.out.trans (hB.mono hbo.out)); clear hN hB; rw [List.nil_append] at hN3; rw [List.nil_append]) | (go_at_call 22; ((with_reducible refine (y1.out _ hb.out).mono ?_)); rintro e wn ⟨rfl, hb⟩; have hb := Aside0.mk hb) | (go_at_call 22; ((with_reducible refine (y2.out _ hb.out).mono ?_)); rintro e wn ⟨rfl, hb⟩; have hb := Aside0.mk hb) | (go_at_call 22; ((with_reducible refine (y3.out _ hb.out).mono ?_)); rintro e wn ⟨rfl, hb⟩; have hb := Aside0.mk hb) | (go_at_call 22; ((with_reducible refine (y4.out _ hb.out).mono ?_)); rintro e wn ⟨rfl, hb⟩; have hb := Aside0.mk hb) | (go_at_call 22; ((with_reducible refine (y5.out _ hb.out).mono ?_)); rintro e wn ⟨rfl, hb⟩; have hb := Aside0.mk hb) | (go_at_call 22; ((with_reducible refine (y6.out _ hb.out).mono ?_)); rintro e wn ⟨rfl, hb⟩; have hb := Aside0.mk hb) | (go_at_call 22; ((with_reducible refine (y7.out _ hb.out).mono ?_)); rintro e wn ⟨rfl, hb⟩; have hb := Aside0.mk hb) | (go_at_call 22; ((with_reducible refine (y8.out _ hb.out).mono ?_)); rintro e wn ⟨rfl, hb⟩; have hb := Aside0.mk hb) | (go_at_call 22; ((with_reducible refine (y9.out _ hb.out).mono ?_)); rintro e wn ⟨rfl, hb⟩; have hb := Aside0.mk hb) | (go_at_call 22; ((with_reducible refine (y10.out _ hb.out).mono ?_)); rintro e wn ⟨rfl, hb⟩; have hb := Aside0.mk hb) | (go_at_call 22; ((with_reducible refine (y11.out _ hb.out).mono ?_)); rintro e wn ⟨rfl, hb⟩; have hb := Aside0.mk hb) | (go_at_call 22; ((with_reducible refine (y12.out _ hb.out).mono ?_)); rintro e wn ⟨rfl, hb⟩; have hb := Aside0.mk hb) | fail)
  go_ret
  exact ⟨rfl, hb.out⟩
end Go.Proofs.Ytjphhnhloeanlaa.P
