/- wisplaw20.ShotSums: a pixel that is turned gives another sum; the walk. (Printed by gen_sw.py.) -/
import Derived.Test.YtpjdgndbcjinjaaDoorDg
import Derived.Test.YtpjdgndbcjinjaaDoorTp
import Derived.Test.YtpjdgndbcjinjaaDoorFs
namespace Go.Proofs.YtpjdgndbcjinjaaDoor.Pk
open Go.RowKit Go.Proofs.YtpjdgndbcjinjaaDoorW.PrintWords Go.Proofs.YtpjdgndbcjinjaaDoorW.PrintLast Go.Proofs.YtpjdgndbcjinjaaDoorW.PrintMore Go.Proofs.YtpjdgndbcjinjaaDoor.Mem
set_option linter.unusedVariables false
set_option linter.unusedSimpArgs false
/-- a byte turned gives another sum -/
theorem sum_turn {l : List Int} {j : Nat} {x : Int} (hB : allB l) (hj : j < l.length) (hx : isB x) (h0 : x ≠ 0) : sumI [l.set j (Go.bits .xor .u8 (rd l (j : Int)) x)] ≠ sumI [l] := by
  obtain ⟨a, rfl⟩ := Int.eq_ofNat_of_zero_le hx.1
  have ha : a < 256 := by have := hx.2; omega
  have hg := nat_getD hj hB
  have hgb : (nat l).getD j 0 < 256 := by
    rw [List.getD_eq_getElem?_getD, List.getElem?_eq_getElem (by rw [nat_len]; exact hj)]
    exact natB hB _ (List.getElem_mem _)
  rw [hg, xor8 _ _ hgb ha]
  have hv : (nat l).getD j 0 ^^^ a < 256 := Nat.xor_lt_two_pow (n := 8) hgb ha
  have hB2 : allB (l.set j (((nat l).getD j 0 ^^^ a : Nat) : Int)) := allB_set hB ⟨by omega, by omega⟩
  rw [sum_one hB, sum_one hB2]
  have hE : a < 4294967296 := by omega
  have hz : a ≠ 0 := fun e => h0 (by rw [e]; rfl)
  have hn := Crc.num_set (nat l) j a (by rw [nat_len]; exact hj) (natB hB) ha
  have hne := Crc.burst (n := 8 * j) (E := a) (l := nat l) (m := nat (l.set j (((nat l).getD j 0 ^^^ a : Nat) : Int))) (by rw [nat_len, nat_len, List.length_set]) (natB hB) (natB hB2) (by rw [nat_len]; omega) hE hz (by rw [nat_set]; exact hn)
  omega
/-- an out's numbers are bytes, as they must be -/
structure OutB (o : OutP) : Prop where
  s : allB o.scr
  t : ∀ t ∈ o.ts, 0 ≤ t.2.1 ∧ t.2.1 ≤ 65535 ∧ isB t.2.2
theorem w4B {x : Int} (h0 : 0 ≤ x) (h1 : x < 4294967296) : allB (w4 x) := by
  intro y hy
  simp only [w4, List.mem_cons, List.not_mem_nil, or_false] at hy
  unfold isB
  rcases hy with rfl | rfl | rfl | rfl <;> omega
theorem wNB (n : Int) : allB (wN n) := w4B (by omega) (by omega)
theorem allB_app {a b : List Int} (h1 : allB a) (h2 : allB b) : allB (a ++ b) := fun x hx => by
  rcases List.mem_append.1 hx with h | h
  · exact h1 x h
  · exact h2 x h
theorem allB_flat {α : Type} {f : α → List Int} {l : List α} (h : ∀ x ∈ l, allB (f x)) : allB (l.flatMap f) := fun y hy => by
  obtain ⟨x, hx, hy⟩ := List.mem_flatMap.1 hy
  exact h x hx y hy
theorem hd_len (o : OutP) : (hdB o).length = 24 := by rw [hdB, flat_len wN 4 _ (fun x _ => rfl)]; rfl
theorem digBB {o : OutP} (h : OutB o) : allB (digB o) := by
  refine allB_app (allB_app (allB_app (allB_flat (fun x _ => wNB x)) h.s) (wNB _)) (allB_flat (fun t ht => ?_))
  have h1 := h.t t ht
  refine allB_app (allB_app (wNB _) ?_) ?_
  · intro y hy
    simp only [List.mem_cons, List.not_mem_nil, or_false] at hy
    unfold isB
    rcases hy with rfl | rfl <;> omega
  · intro y hy
    simp only [List.mem_cons, List.not_mem_nil, or_false] at hy
    rw [hy]; exact h1.2.2
theorem dig_set (o : OutP) (K : Nat) (y : Int) (hK : K < o.scr.length) : digB { o with scr := o.scr.set K y } = (digB o).set (24 + K) y := by
  have h1 : hdB { o with scr := o.scr.set K y } = hdB o := by simp [hdB, six]
  have hl := hd_len o
  unfold digB
  rw [h1]
  show (hdB o ++ o.scr.set K y ++ wN (o.ts.length : Int)) ++ o.ts.flatMap tB = _
  rw [List.set_append_left _ _ (by simp; omega), List.set_append_left _ _ (by simp; omega), List.set_append_right _ _ (by omega), hl, show 24 + K - 24 = K by omega]
theorem dig_rd (o : OutP) (K : Nat) (hK : K < o.scr.length) : rd (digB o) ((24 + K : Nat) : Int) = rd o.scr (K : Int) := by
  have hl := hd_len o
  unfold rd digB
  rw [Int.toNat_natCast, Int.toNat_natCast, List.getD_eq_getElem?_getD, List.getD_eq_getElem?_getD, List.getElem?_append_left (by simp; omega), List.getElem?_append_left (by simp; omega), List.getElem?_append_right (by omega), hl, show 24 + K - 24 = K by omega]
theorem dig_turn {o : OutP} (h : OutB o) {K : Nat} {x : Int} (hK : K < o.scr.length) (hx : isB x) (h0 : x ≠ 0) : sumI [digB { o with scr := o.scr.set K (Go.bits .xor .u8 (rd o.scr (K : Int)) x) }] ≠ sumI [digB o] := by
  rw [dig_set o K _ hK, ← dig_rd o K hK]
  refine sum_turn (digBB h) ?_ hx h0
  have hl := hd_len o
  unfold digB
  simp only [List.length_append]
  omega
theorem infoT : (Tryd.prog.info? 35).map (fun i => (i.zero, i.size, i.bytes)) = some (some (.agg #[.int .i64 0, .int .u16 0, .int .u8 0]), kT.sz, 16) := by kernel_rfl
theorem kT_E : kT.E = [] := rfl
theorem kT_KM {w W : World} {base : Nat} {ok : Nat → Prop} {x : ToneT} {cs : List Value} (h : kT.K w x cs) : kT.M W base ok x cs := by
  obtain ⟨c0, c1, rfl, h0, c2, c3, rfl, h2, h3⟩ := h
  exact ⟨c0, _, rfl, h0, c2, c3, rfl, h2, h3⟩
theorem kT_made (w : World) : Kd.R kT 35 (w.alloc (.cells #[] 35)) w.heap.size (fun _ => True) (.slice (some ⟨w.heap.size, 0, none⟩) 0 0) ([] : List ToneT) :=
  ⟨fun _ _ => trivial, [], by have h2 := World.ownsRow_made w #[] (e := 35) (size := 3) 0 (Nat.le_refl _) (Nat.zero_le _) rfl; show World.ownsRow _ _ 35 3 _ 0 []; simpa using h2, Reps.none _ _⟩
theorem R_madeB (w : World) : Kd.R (Kd.int .u8) 5 (w.alloc (.cells #[] 5)) w.heap.size (fun _ => True) (.slice (some ⟨w.heap.size, 0, none⟩) 0 0) ([] : List Int) :=
  Kd.R_of_own (h1 := fun _ => rfl) (by have h2 := World.ownsRow_made w #[] (e := 5) (size := 1) 0 (Nat.le_refl _) (Nat.zero_le _) rfl; simpa [encs] using h2) (fun _ _ => trivial)
theorem setH {w : World} {g t : Nat} {cs : Array Value} {fr : Nat × Nat} (h : w.heap[g]? = some (.cells cs t fr)) (j : Nat) (v : Value) : (w.setCell ⟨g, j, none⟩ v).heap[g]? = some (.cells (cs.setIfInBounds j v) t fr) := by
  obtain ⟨hlt, hk⟩ := Array.getElem?_eq_some_iff.1 h
  show (w.heap.modify g _)[g]? = _
  rw [Array.getElem?_eq_getElem (by rw [Array.size_modify]; exact hlt), Array.getElem_modify_self, hk]
  rfl
/-- what the law keeps: the out's box, its copy's box, the copy's rows -/
structure SmS (w X : World) (V : Array Value) (i0 i1 i2 i3 i4 : Int) (v5 v6 u5 u6 : Value) (s5 : List Int) (t6 : List ToneT) : Prop where
  bel : Below w.heap.size w X
  x3 : X.heap[w.heap.size]? = some (.cells V 27 (0, 0))
  x7 : X.heap[w.heap.size + 1]? = some (.cells #[.int .i64 i0, .int .i64 i1, .int .i64 i2, .int .i64 i3, .int .i64 i4, v5, v6] 27 (0, 0))
  R5 : Kd.R (Kd.int .u8) 5 X (w.heap.size + 2) (fun _ => True) u5 s5
  R6 : Kd.R kT 35 X (w.heap.size + 2) (fun _ => True) u6 t6
namespace SmS
variable {w X X' : World} {V : Array Value} {i0 i1 i2 i3 i4 : Int} {v5 v6 u5 u6 z : Value} {s5 : List Int} {t6 : List ToneT}
theorem below (h : SmS w X V i0 i1 i2 i3 i4 v5 v6 u5 u6 s5 t6) (hb : Below X.heap.size X X') : SmS w X' V i0 i1 i2 i3 i4 v5 v6 u5 u6 s5 t6 :=
  ⟨h.bel.trans (hb.mono h.bel.size), (hb.block _ (heap_lt h.x3)).trans h.x3, (hb.block _ (heap_lt h.x7)).trans h.x7, Kd.R_below h.R5 hb, Kd.R_below h.R6 hb⟩
theorem sz (h : SmS w X V i0 i1 i2 i3 i4 v5 v6 u5 u6 s5 t6) : w.heap.size + 2 ≤ X.heap.size := heap_lt h.x7
theorem put5 {xs : List Int} (h : SmS w X V i0 i1 i2 i3 i4 v5 v6 u5 u6 s5 t6) (hb : Below X.heap.size X X') (hR : Kd.R (Kd.int .u8) 5 X' X.heap.size (fun _ => True) z xs) : SmS w (X'.setCell ⟨w.heap.size + 1, 5, none⟩ z) V i0 i1 i2 i3 i4 z v6 z u6 xs t6 := by
  have h1 := h.below hb
  have hR' := Kd.R_lower hR (base' := w.heap.size + 2) h.sz
  exact ⟨h1.bel.setCell (p := ⟨w.heap.size + 1, 5, none⟩) (by show w.heap.size ≤ w.heap.size + 1; omega) _, (Below.heap_setCell X' ⟨w.heap.size + 1, 5, none⟩ z _ (show w.heap.size ≠ w.heap.size + 1 by omega)).trans h1.x3, setH h1.x7 5 z, Kd.R_set hR' h1.x7 (by intro q hq; simp [Kd.int, Kd.scalar] at hq; subst hq; decide) 5 z, Kd.R_set h1.R6 h1.x7 (by intro q hq; simp [kT_E] at hq; subst hq; decide) 5 z⟩
theorem put6 {ts : List ToneT} (h : SmS w X V i0 i1 i2 i3 i4 v5 v6 u5 u6 s5 t6) (hb : Below X.heap.size X X') (hR : Kd.R kT 35 X' X.heap.size (fun _ => True) z ts) : SmS w (X'.setCell ⟨w.heap.size + 1, 6, none⟩ z) V i0 i1 i2 i3 i4 v5 z u5 z s5 ts := by
  have h1 := h.below hb
  have hR' := Kd.R_lower hR (base' := w.heap.size + 2) h.sz
  exact ⟨h1.bel.setCell (p := ⟨w.heap.size + 1, 6, none⟩) (by show w.heap.size ≤ w.heap.size + 1; omega) _, (Below.heap_setCell X' ⟨w.heap.size + 1, 6, none⟩ z _ (show w.heap.size ≠ w.heap.size + 1 by omega)).trans h1.x3, setH h1.x7 6 z, Kd.R_set h1.R5 h1.x7 (by intro q hq; simp [Kd.int, Kd.scalar] at hq; subst hq; decide) 6 z, Kd.R_set hR' h1.x7 (by intro q hq; simp [kT_E] at hq; subst hq; decide) 6 z⟩
/-- a pixel is turned -/
theorem turn {g n cap K : Nat} {y : Int} (h : SmS w X V i0 i1 i2 i3 i4 v5 v6 (.slice (some ⟨g, 0, none⟩) n cap) u6 s5 t6) : SmS w (X.setCell ⟨g, K, none⟩ (.int .u8 y)) V i0 i1 i2 i3 i4 v5 v6 (.slice (some ⟨g, 0, none⟩) n cap) u6 (s5.set K y) t6 := by
  have hg := Kd.R_base h.R5 g rfl
  obtain ⟨cs, hc⟩ := Kd.R_typed h.R5 g rfl
  have h9 := Kd.R_putn h.R5 (K : Int) y
  rw [Int.toNat_natCast] at h9
  exact ⟨h.bel.setCell (p := ⟨g, K, none⟩) (by show w.heap.size ≤ g; omega) _, (Below.heap_setCell X ⟨g, K, none⟩ _ _ (show w.heap.size ≠ g by omega)).trans h.x3, (Below.heap_setCell X ⟨g, K, none⟩ _ _ (show w.heap.size + 1 ≠ g by omega)).trans h.x7, h9, Kd.R_set h.R6 hc (by intro q hq; simp [kT_E] at hq; subst hq; decide) K _⟩
end SmS
theorem box7 {w : World} {g t : Nat} {x0 x1 x2 x3 x4 x5 x6 : Value} (h : w.heap[g]? = some (.cells #[x0, x1, x2, x3, x4, x5, x6] t (0, 0))) : w.cell? ⟨g, 0, none⟩ = some x0 ∧ w.cell? ⟨g, 1, none⟩ = some x1 ∧ w.cell? ⟨g, 2, none⟩ = some x2 ∧ w.cell? ⟨g, 3, none⟩ = some x3 ∧ w.cell? ⟨g, 4, none⟩ = some x4 ∧ w.cell? ⟨g, 5, none⟩ = some x5 ∧ w.cell? ⟨g, 6, none⟩ = some x6 :=
  ⟨(cellH h).trans rfl, (cellH h).trans rfl, (cellH h).trans rfl, (cellH h).trans rfl, (cellH h).trans rfl, (cellH h).trans rfl, (cellH h).trans rfl⟩
theorem SmS.start (w : World) (i0 i1 i2 i3 i4 : Int) (a b : Value) : SmS w ((w.alloc (.cells #[.int .i64 i0, .int .i64 i1, .int .i64 i2, .int .i64 i3, .int .i64 i4, a, b] 27)).alloc (.cells #[.int .i64 i0, .int .i64 i1, .int .i64 i2, .int .i64 i3, .int .i64 i4, a, b] 27)) #[.int .i64 i0, .int .i64 i1, .int .i64 i2, .int .i64 i3, .int .i64 i4, a, b] i0 i1 i2 i3 i4 a b (.slice none 0 0) (.slice none 0 0) [] [] := by
  have h1 := below_alloc (Below.refl w.heap.size w) (.cells #[.int .i64 i0, .int .i64 i1, .int .i64 i2, .int .i64 i3, .int .i64 i4, a, b] 27)
  have hs : (w.alloc (.cells #[.int .i64 i0, .int .i64 i1, .int .i64 i2, .int .i64 i3, .int .i64 i4, a, b] 27)).heap.size = w.heap.size + 1 := by rw [World.size_alloc]
  have h2 := below_alloc (Below.refl (w.alloc (.cells #[.int .i64 i0, .int .i64 i1, .int .i64 i2, .int .i64 i3, .int .i64 i4, a, b] 27)).heap.size (w.alloc (.cells #[.int .i64 i0, .int .i64 i1, .int .i64 i2, .int .i64 i3, .int .i64 i4, a, b] 27))) (.cells #[.int .i64 i0, .int .i64 i1, .int .i64 i2, .int .i64 i3, .int .i64 i4, a, b] 27)
  have h3 := World.alloc_heap_new (w.alloc (.cells #[.int .i64 i0, .int .i64 i1, .int .i64 i2, .int .i64 i3, .int .i64 i4, a, b] 27)) (.cells #[.int .i64 i0, .int .i64 i1, .int .i64 i2, .int .i64 i3, .int .i64 i4, a, b] 27)
  rw [hs] at h2 h3
  exact ⟨h1.trans (h2.mono (by omega)), (h2.block _ (by omega)).trans (World.alloc_heap_new w _), h3, Kd.R_nil _ _ _ _ _, Kd.R_nil _ _ _ _ _⟩
set_option maxRecDepth 100000 in
set_option maxHeartbeats 8000000 in
theorem Sums_a {w : World} {A5 A6 : Option Addr} {c5 c6 : Nat} {o : OutP} {k1 x2 : Int} (hT : Tab w) (h : OutV w A5 c5 A6 c6 o) (hB : OutB o) (b5 : o.scr.length ≤ 100000000) (b6 : o.ts.length ≤ 100000000) (hx : isB x2) (h0 : o.scr.length = 0) :
    Calls Tryd.prog 3 #[outA A5 c5 A6 c6 o, .int .i64 k1, .int .u8 x2] w fun e w' => e = .returned (.bool true) ∧ Below w.heap.size w w' := by
  obtain ⟨i0_, hi, hz0, hz1, hz2⟩ := info_parts infoB
  obtain ⟨j0_, hj, hy0, hy1, hy2⟩ := info_parts infoT
  obtain ⟨DG, hDG⟩ : ∃ f : List Int → Int, f = fun s => sumI [digB { o with scr := s }] := ⟨_, rfl⟩
  have hne : Aside0 (∀ K : Nat, K < o.scr.length → x2 ≠ 0 → DG (o.scr.set K (Go.bits .xor .u8 (rd o.scr (K : Int)) x2)) ≠ DG o.scr) := ⟨fun K hK h0 => by rw [hDG]; exact dig_turn hB hK hx h0⟩
  have kD : Aside0 (∀ X B5 d5 B6 d6 s, s.length = o.scr.length → Below w.heap.size w X → o.scr.length ≤ d5 → o.ts.length ≤ d6 → Kd.C (Kd.int .u8) X B5 o.scr.length s → kT.C X B6 o.ts.length o.ts → Calls Tryd.prog 6 #[.agg #[.int .i64 o.st, .int .i64 o.fl, .int .i64 o.steps, .int .i64 o.spent, .int .i64 o.idle, .slice B5 o.scr.length d5, .slice B6 o.ts.length d6]] X fun e w' => e = .returned (.int .u32 (DG s)) ∧ Below X.heap.size X w') := ⟨fun X B5 d5 B6 d6 s hs hb h5 h6 hC hC6 => by
    rw [hDG]
    have := Digest (w := X) (A5 := B5) (c5 := d5) (A6 := B6) (c6 := d6) (o := { o with scr := s }) (hT.below hb) ⟨by show s.length ≤ d5; omega, h6, by show Kd.C _ X B5 s.length s; rw [hs]; exact hC, hC6, h.u⟩ (by show s.length ≤ _; omega) b6
    unfold outA at this
    rw [show ({ o with scr := s } : OutP).scr.length = o.scr.length from hs] at this
    exact this⟩
  have hC5 : Aside0 (∀ W, Below w.heap.size w W → Kd.C (Kd.int .u8) W A5 o.scr.length o.scr) := ⟨fun W hb => Kd.C_below h.s hb⟩
  have hC6 : Aside0 (∀ W, Below w.heap.size w W → kT.C W A6 o.ts.length o.ts) := ⟨fun W hb => Kd.C_below h.t hb⟩
  have hl5 := Aside0.mk h.l5
  have hl6 := Aside0.mk h.l6
  unfold outA
  clear hDG h hB hT hx
  obtain ⟨scr, hscr⟩ : ∃ s, o.scr = s := ⟨_, rfl⟩
  obtain ⟨ts, hts⟩ : ∃ s, o.ts = s := ⟨_, rfl⟩
  simp only [hscr] at b5 hne kD hC5 hl5 h0 ⊢
  simp only [hts] at b6 kD hC6 hl6 ⊢
  clear hscr hts
  generalize o.st = i0 at *
  generalize o.fl = i1 at *
  generalize o.steps = i2 at *
  generalize o.spent = i3 at *
  generalize o.idle = i4 at *
  obtain ⟨n5, hn5⟩ : ∃ n, scr.length = n := ⟨_, rfl⟩
  obtain ⟨n6, hn6⟩ : ∃ n, ts.length = n := ⟨_, rfl⟩
  simp only [hn5] at b5 hne kD hC5 hl5 h0 ⊢
  simp only [hn6] at b6 kD hC6 hl6 ⊢
  have hn55 := Aside0.mk hn5
  have hn66 := Aside0.mk hn6
  clear hn5 hn6
  have h00 := Aside0.mk h0
  clear h0
  have hst := Aside0.mk (SmS.start w i0 i1 i2 i3 i4 (.slice A5 n5 c5) (.slice A6 n6 c6))
  go_enter Tryd.func3, Tryd.ntmps3
  go_upto_region 2 with (fail)
  obtain ⟨X0, hX0⟩ : ∃ X0, X0 = (w.alloc (.cells #[.int .i64 i0, .int .i64 i1, .int .i64 i2, .int .i64 i3, .int .i64 i4, .slice A5 n5 c5, .slice A6 n6 c6] 27)).alloc (.cells #[.int .i64 i0, .int .i64 i1, .int .i64 i2, .int .i64 i3, .int .i64 i4, .slice A5 n5 c5, .slice A6 n6 c6] 27) := ⟨_, rfl⟩
  rw [← hX0] at hst ⊢
  clear hX0
  have hb0 := Aside0.mk (below_alloc (Below.refl X0.heap.size X0) (.cells #[] 5))
  have hm0 := Aside0.mk (R_madeB X0)
  have k0 := Aside0.mk (hC5.out _ (hst.out.bel.trans (hb0.out.mono hst.out.bel.size)))
  have y5 : (X0.alloc (.cells #[] 5)).cell? ⟨w.heap.size, 5, none⟩ = some (.slice A5 n5 c5) := (cellH ((hb0.out.block _ (heap_lt hst.out.x3)).trans hst.out.x3)).trans rfl
  have hz0 := Aside0.mk hb0.out.size
  go_upto_region 3 with (at_builtin; (refine Kd.R_append_row (w0 := X0) (Value.int .u8) 0 (h1 := fun _ => rfl) X0.heap.size rfl _ _ 24 5 (.int .u8 0) 1 rfl Tryd.underlying24 infoB rfl (by decide) (.slice (some ⟨X0.heap.size, 0, none⟩) 0 0) [] scr A5 n5 c5 (fun _ => True) rfl rfl (fun _ _ => trivial) hm0.out k0.out hb0.out hz0.out (by have := b5; rw [List.length_nil]; omega) ?_; intro v5 u1 h1_ h2_ _ _; rw [List.nil_append] at h1_; obtain ⟨O5, d5, e_⟩ := Kd.R_slice h1_; rw [hn55.out] at e_; subst e_; have hS1 := Aside0.mk (hst.out.put5 h2_ h1_); have g_ := (h2_.block _ (heap_lt hst.out.x7)).trans hst.out.x7; have y7 : u1.cell? ⟨w.heap.size + 1, 5, none⟩ = some (.slice A5 n5 c5) := (cellH g_).trans rfl; have f7 : u1.frozen? ⟨w.heap.size + 1, 5, none⟩ = false := (by simp [World.frozen?, g_]); clear h1_ h2_ g_))
  obtain ⟨X1, hX1⟩ : ∃ X1, X1 = u1.setCell ⟨w.heap.size + 1, 5, none⟩ (.slice O5 n5 d5) := ⟨_, rfl⟩
  rw [← hX1] at hS1 ⊢
  clear hX1 hst hb0 hm0 k0 y5 hz0 y7 f7
  have hb1 := Aside0.mk (below_alloc (Below.refl X1.heap.size X1) (.cells #[] 35))
  have hm1 := Aside0.mk (kT_made X1)
  have k1_ := Aside0.mk (hC6.out _ (hS1.out.bel.trans (hb1.out.mono hS1.out.bel.size)))
  have y6 : (X1.alloc (.cells #[] 35)).cell? ⟨w.heap.size, 6, none⟩ = some (.slice A6 n6 c6) := (cellH ((hb1.out.block _ (heap_lt hS1.out.x3)).trans hS1.out.x3)).trans rfl
  have hz1_ := Aside0.mk hb1.out.size
  go_upto_region 4 with (at_builtin; (refine Kd.R_append_rows kT (w0 := X1) X1.heap.size rfl _ _ 25 35 (.agg #[.int .i64 0, .int .u16 0, .int .u8 0]) 16 rfl Tryd.underlying25 infoT rfl (by decide) (by decide) (.slice (some ⟨X1.heap.size, 0, none⟩) 0 0) [] ts A6 n6 c6 (fun _ => True) (fun _ => False) rfl rfl hm1.out k1_.out (fun x cs hK => kT_KM hK) (fun k hk => hk.elim) (fun _ _ => trivial) hb1.out hz1_.out (by have := b6; rw [List.length_nil]; omega) ?_; intro v6 u2 h1_ h2_ _ _; rw [List.nil_append] at h1_; obtain ⟨O6, d6, e_⟩ := Kd.R_slice h1_; rw [hn66.out] at e_; subst e_; have hS2 := Aside0.mk (hS1.out.put6 h2_ h1_); have g_ := (h2_.block _ (heap_lt hS1.out.x7)).trans hS1.out.x7; have y7 : u2.cell? ⟨w.heap.size + 1, 6, none⟩ = some (.slice A6 n6 c6) := (cellH g_).trans rfl; have f7 : u2.frozen? ⟨w.heap.size + 1, 6, none⟩ = false := (by simp [World.frozen?, g_]); clear h1_ h2_ g_))
  obtain ⟨X2, hX2⟩ : ∃ X2, X2 = u2.setCell ⟨w.heap.size + 1, 6, none⟩ (.slice O6 n6 d6) := ⟨_, rfl⟩
  rw [← hX2] at hS2 ⊢
  clear hX2 hS1 hb1 hm1 k1_ y6 hz1_ y7 f7
  have hd5 := Aside0.mk ((Kd.R_reads' hS2.out.R5).2.1)
  have hd6 := Aside0.mk ((Kd.R_reads' hS2.out.R6).2.1)
  have hc5 : Aside0 (∀ X, SmS w X #[.int .i64 i0, .int .i64 i1, .int .i64 i2, .int .i64 i3, .int .i64 i4, .slice A5 n5 c5, .slice A6 n6 c6] i0 i1 i2 i3 i4 (.slice O5 n5 d5) (.slice O6 n6 d6) (.slice O5 n5 d5) (.slice O6 n6 d6) scr ts → Kd.C (Kd.int .u8) X O5 n5 scr ∧ kT.C X O6 n6 ts) := ⟨fun X hX => by
    have h1 := (Kd.R_reads' hX.R5).2.2
    have h2 := (Kd.R_reads' hX.R6).2.2
    rw [hn55.out] at h1
    rw [hn66.out] at h2
    exact ⟨h1, h2⟩⟩
  have kD0 := Aside0.mk (kD.out X2 A5 c5 A6 c6 scr hn55.out hS2.out.bel hl5.out hl6.out (hC5.out _ hS2.out.bel) (hC6.out _ hS2.out.bel))
  obtain ⟨p0, p1, p2, p3, p4, p5, p6⟩ := box7 hS2.out.x3
  go_wp2_with (first | (go_at_call 6; ((with_reducible refine (kD0.out).mono ?_); rintro e Y1 ⟨rfl, hb_⟩; have hS3 := Aside0.mk (hS2.out.below hb_); clear hb_)) | (go_at_call 7; ((with_reducible refine (P.fixed_at _).mono ?_); rintro e Y2 ⟨rfl, hb_⟩; have hS4 := Aside0.mk (hS3.out.below hb_); obtain ⟨q0, q1, q2, q3, q4, q5, q6⟩ := box7 hS4.out.x7; have kD1 := Aside0.mk (kD.out Y2 O5 d5 O6 d6 scr hn55.out hS4.out.bel hd5.out hd6.out (hc5.out _ hS4.out).1 (hc5.out _ hS4.out).2); clear hb_)) | (go_at_call 6; ((with_reducible refine (kD1.out).mono ?_); rintro e Y3 ⟨rfl, hb_⟩; have hS5 := Aside0.mk (hS4.out.below hb_); clear q0 q1 q2 q3 q4 q5 q6; obtain ⟨q0, q1, q2, q3, q4, q5, q6⟩ := box7 hS5.out.x7; have he0 : ((n5 : Int) == 0) = true := beq_iff_eq.2 (by have := h00.out; omega); clear hb_)))
  go_ret
  exact ⟨rfl, hS5.out.bel⟩
set_option maxRecDepth 100000 in
set_option maxHeartbeats 8000000 in
theorem Sums_b {w : World} {A5 A6 : Option Addr} {c5 c6 : Nat} {o : OutP} {k1 x2 : Int} (hT : Tab w) (h : OutV w A5 c5 A6 c6 o) (hB : OutB o) (b5 : o.scr.length ≤ 100000000) (b6 : o.ts.length ≤ 100000000) (hx : isB x2) (h0 : o.scr.length ≠ 0) (h9 : x2 = 0) :
    Calls Tryd.prog 3 #[outA A5 c5 A6 c6 o, .int .i64 k1, .int .u8 x2] w fun e w' => e = .returned (.bool true) ∧ Below w.heap.size w w' := by
  obtain ⟨i0_, hi, hz0, hz1, hz2⟩ := info_parts infoB
  obtain ⟨j0_, hj, hy0, hy1, hy2⟩ := info_parts infoT
  obtain ⟨DG, hDG⟩ : ∃ f : List Int → Int, f = fun s => sumI [digB { o with scr := s }] := ⟨_, rfl⟩
  have hne : Aside0 (∀ K : Nat, K < o.scr.length → x2 ≠ 0 → DG (o.scr.set K (Go.bits .xor .u8 (rd o.scr (K : Int)) x2)) ≠ DG o.scr) := ⟨fun K hK h0 => by rw [hDG]; exact dig_turn hB hK hx h0⟩
  have kD : Aside0 (∀ X B5 d5 B6 d6 s, s.length = o.scr.length → Below w.heap.size w X → o.scr.length ≤ d5 → o.ts.length ≤ d6 → Kd.C (Kd.int .u8) X B5 o.scr.length s → kT.C X B6 o.ts.length o.ts → Calls Tryd.prog 6 #[.agg #[.int .i64 o.st, .int .i64 o.fl, .int .i64 o.steps, .int .i64 o.spent, .int .i64 o.idle, .slice B5 o.scr.length d5, .slice B6 o.ts.length d6]] X fun e w' => e = .returned (.int .u32 (DG s)) ∧ Below X.heap.size X w') := ⟨fun X B5 d5 B6 d6 s hs hb h5 h6 hC hC6 => by
    rw [hDG]
    have := Digest (w := X) (A5 := B5) (c5 := d5) (A6 := B6) (c6 := d6) (o := { o with scr := s }) (hT.below hb) ⟨by show s.length ≤ d5; omega, h6, by show Kd.C _ X B5 s.length s; rw [hs]; exact hC, hC6, h.u⟩ (by show s.length ≤ _; omega) b6
    unfold outA at this
    rw [show ({ o with scr := s } : OutP).scr.length = o.scr.length from hs] at this
    exact this⟩
  have hC5 : Aside0 (∀ W, Below w.heap.size w W → Kd.C (Kd.int .u8) W A5 o.scr.length o.scr) := ⟨fun W hb => Kd.C_below h.s hb⟩
  have hC6 : Aside0 (∀ W, Below w.heap.size w W → kT.C W A6 o.ts.length o.ts) := ⟨fun W hb => Kd.C_below h.t hb⟩
  have hl5 := Aside0.mk h.l5
  have hl6 := Aside0.mk h.l6
  unfold outA
  clear hDG h hB hT hx
  obtain ⟨scr, hscr⟩ : ∃ s, o.scr = s := ⟨_, rfl⟩
  obtain ⟨ts, hts⟩ : ∃ s, o.ts = s := ⟨_, rfl⟩
  simp only [hscr] at b5 hne kD hC5 hl5 h0 ⊢
  simp only [hts] at b6 kD hC6 hl6 ⊢
  clear hscr hts
  generalize o.st = i0 at *
  generalize o.fl = i1 at *
  generalize o.steps = i2 at *
  generalize o.spent = i3 at *
  generalize o.idle = i4 at *
  obtain ⟨n5, hn5⟩ : ∃ n, scr.length = n := ⟨_, rfl⟩
  obtain ⟨n6, hn6⟩ : ∃ n, ts.length = n := ⟨_, rfl⟩
  simp only [hn5] at b5 hne kD hC5 hl5 h0 ⊢
  simp only [hn6] at b6 kD hC6 hl6 ⊢
  have hn55 := Aside0.mk hn5
  have hn66 := Aside0.mk hn6
  clear hn5 hn6
  have h00 := Aside0.mk h0
  have h99 := Aside0.mk h9
  clear h0 h9
  have hst := Aside0.mk (SmS.start w i0 i1 i2 i3 i4 (.slice A5 n5 c5) (.slice A6 n6 c6))
  go_enter Tryd.func3, Tryd.ntmps3
  go_upto_region 2 with (fail)
  obtain ⟨X0, hX0⟩ : ∃ X0, X0 = (w.alloc (.cells #[.int .i64 i0, .int .i64 i1, .int .i64 i2, .int .i64 i3, .int .i64 i4, .slice A5 n5 c5, .slice A6 n6 c6] 27)).alloc (.cells #[.int .i64 i0, .int .i64 i1, .int .i64 i2, .int .i64 i3, .int .i64 i4, .slice A5 n5 c5, .slice A6 n6 c6] 27) := ⟨_, rfl⟩
  rw [← hX0] at hst ⊢
  clear hX0
  have hb0 := Aside0.mk (below_alloc (Below.refl X0.heap.size X0) (.cells #[] 5))
  have hm0 := Aside0.mk (R_madeB X0)
  have k0 := Aside0.mk (hC5.out _ (hst.out.bel.trans (hb0.out.mono hst.out.bel.size)))
  have y5 : (X0.alloc (.cells #[] 5)).cell? ⟨w.heap.size, 5, none⟩ = some (.slice A5 n5 c5) := (cellH ((hb0.out.block _ (heap_lt hst.out.x3)).trans hst.out.x3)).trans rfl
  have hz0 := Aside0.mk hb0.out.size
  go_upto_region 3 with (at_builtin; (refine Kd.R_append_row (w0 := X0) (Value.int .u8) 0 (h1 := fun _ => rfl) X0.heap.size rfl _ _ 24 5 (.int .u8 0) 1 rfl Tryd.underlying24 infoB rfl (by decide) (.slice (some ⟨X0.heap.size, 0, none⟩) 0 0) [] scr A5 n5 c5 (fun _ => True) rfl rfl (fun _ _ => trivial) hm0.out k0.out hb0.out hz0.out (by have := b5; rw [List.length_nil]; omega) ?_; intro v5 u1 h1_ h2_ _ _; rw [List.nil_append] at h1_; obtain ⟨O5, d5, e_⟩ := Kd.R_slice h1_; rw [hn55.out] at e_; subst e_; have hS1 := Aside0.mk (hst.out.put5 h2_ h1_); have g_ := (h2_.block _ (heap_lt hst.out.x7)).trans hst.out.x7; have y7 : u1.cell? ⟨w.heap.size + 1, 5, none⟩ = some (.slice A5 n5 c5) := (cellH g_).trans rfl; have f7 : u1.frozen? ⟨w.heap.size + 1, 5, none⟩ = false := (by simp [World.frozen?, g_]); clear h1_ h2_ g_))
  obtain ⟨X1, hX1⟩ : ∃ X1, X1 = u1.setCell ⟨w.heap.size + 1, 5, none⟩ (.slice O5 n5 d5) := ⟨_, rfl⟩
  rw [← hX1] at hS1 ⊢
  clear hX1 hst hb0 hm0 k0 y5 hz0 y7 f7
  have hb1 := Aside0.mk (below_alloc (Below.refl X1.heap.size X1) (.cells #[] 35))
  have hm1 := Aside0.mk (kT_made X1)
  have k1_ := Aside0.mk (hC6.out _ (hS1.out.bel.trans (hb1.out.mono hS1.out.bel.size)))
  have y6 : (X1.alloc (.cells #[] 35)).cell? ⟨w.heap.size, 6, none⟩ = some (.slice A6 n6 c6) := (cellH ((hb1.out.block _ (heap_lt hS1.out.x3)).trans hS1.out.x3)).trans rfl
  have hz1_ := Aside0.mk hb1.out.size
  go_upto_region 4 with (at_builtin; (refine Kd.R_append_rows kT (w0 := X1) X1.heap.size rfl _ _ 25 35 (.agg #[.int .i64 0, .int .u16 0, .int .u8 0]) 16 rfl Tryd.underlying25 infoT rfl (by decide) (by decide) (.slice (some ⟨X1.heap.size, 0, none⟩) 0 0) [] ts A6 n6 c6 (fun _ => True) (fun _ => False) rfl rfl hm1.out k1_.out (fun x cs hK => kT_KM hK) (fun k hk => hk.elim) (fun _ _ => trivial) hb1.out hz1_.out (by have := b6; rw [List.length_nil]; omega) ?_; intro v6 u2 h1_ h2_ _ _; rw [List.nil_append] at h1_; obtain ⟨O6, d6, e_⟩ := Kd.R_slice h1_; rw [hn66.out] at e_; subst e_; have hS2 := Aside0.mk (hS1.out.put6 h2_ h1_); have g_ := (h2_.block _ (heap_lt hS1.out.x7)).trans hS1.out.x7; have y7 : u2.cell? ⟨w.heap.size + 1, 6, none⟩ = some (.slice A6 n6 c6) := (cellH g_).trans rfl; have f7 : u2.frozen? ⟨w.heap.size + 1, 6, none⟩ = false := (by simp [World.frozen?, g_]); clear h1_ h2_ g_))
  obtain ⟨X2, hX2⟩ : ∃ X2, X2 = u2.setCell ⟨w.heap.size + 1, 6, none⟩ (.slice O6 n6 d6) := ⟨_, rfl⟩
  rw [← hX2] at hS2 ⊢
  clear hX2 hS1 hb1 hm1 k1_ y6 hz1_ y7 f7
  have hd5 := Aside0.mk ((Kd.R_reads' hS2.out.R5).2.1)
  have hd6 := Aside0.mk ((Kd.R_reads' hS2.out.R6).2.1)
  have hc5 : Aside0 (∀ X, SmS w X #[.int .i64 i0, .int .i64 i1, .int .i64 i2, .int .i64 i3, .int .i64 i4, .slice A5 n5 c5, .slice A6 n6 c6] i0 i1 i2 i3 i4 (.slice O5 n5 d5) (.slice O6 n6 d6) (.slice O5 n5 d5) (.slice O6 n6 d6) scr ts → Kd.C (Kd.int .u8) X O5 n5 scr ∧ kT.C X O6 n6 ts) := ⟨fun X hX => by
    have h1 := (Kd.R_reads' hX.R5).2.2
    have h2 := (Kd.R_reads' hX.R6).2.2
    rw [hn55.out] at h1
    rw [hn66.out] at h2
    exact ⟨h1, h2⟩⟩
  have kD0 := Aside0.mk (kD.out X2 A5 c5 A6 c6 scr hn55.out hS2.out.bel hl5.out hl6.out (hC5.out _ hS2.out.bel) (hC6.out _ hS2.out.bel))
  obtain ⟨p0, p1, p2, p3, p4, p5, p6⟩ := box7 hS2.out.x3
  go_wp2_with (first | (go_at_call 6; ((with_reducible refine (kD0.out).mono ?_); rintro e Y1 ⟨rfl, hb_⟩; have hS3 := Aside0.mk (hS2.out.below hb_); clear hb_)) | (go_at_call 7; ((with_reducible refine (P.fixed_at _).mono ?_); rintro e Y2 ⟨rfl, hb_⟩; have hS4 := Aside0.mk (hS3.out.below hb_); obtain ⟨q0, q1, q2, q3, q4, q5, q6⟩ := box7 hS4.out.x7; have kD1 := Aside0.mk (kD.out Y2 O5 d5 O6 d6 scr hn55.out hS4.out.bel hd5.out hd6.out (hc5.out _ hS4.out).1 (hc5.out _ hS4.out).2); clear hb_)) | (go_at_call 6; ((with_reducible refine (kD1.out).mono ?_); rintro e Y3 ⟨rfl, hb_⟩; have hS5 := Aside0.mk (hS4.out.below hb_); clear q0 q1 q2 q3 q4 q5 q6; obtain ⟨q0, q1, q2, q3, q4, q5, q6⟩ := box7 hS5.out.x7; have he0 : ((n5 : Int) == 0) = false := beq_eq_false_iff_ne.2 (by have := h00.out; omega); have he9 : (x2 == 0) = true := beq_iff_eq.2 h99.out; clear hb_)))
  go_ret
  exact ⟨rfl, hS5.out.bel⟩
set_option maxRecDepth 100000 in
set_option maxHeartbeats 8000000 in
theorem Sums_c {w : World} {A5 A6 : Option Addr} {c5 c6 : Nat} {o : OutP} {k1 x2 : Int} (hT : Tab w) (h : OutV w A5 c5 A6 c6 o) (hB : OutB o) (b5 : o.scr.length ≤ 100000000) (b6 : o.ts.length ≤ 100000000) (hx : isB x2) {kp : Nat} (h0 : o.scr.length ≠ 0) (h9 : x2 ≠ 0) (hK : kp < o.scr.length) (hr : Int.tmod k1 (o.scr.length : Int) = (kp : Int)) :
    Calls Tryd.prog 3 #[outA A5 c5 A6 c6 o, .int .i64 k1, .int .u8 x2] w fun e w' => e = .returned (.bool true) ∧ Below w.heap.size w w' := by
  obtain ⟨i0_, hi, hz0, hz1, hz2⟩ := info_parts infoB
  obtain ⟨j0_, hj, hy0, hy1, hy2⟩ := info_parts infoT
  obtain ⟨DG, hDG⟩ : ∃ f : List Int → Int, f = fun s => sumI [digB { o with scr := s }] := ⟨_, rfl⟩
  have hne : Aside0 (∀ K : Nat, K < o.scr.length → x2 ≠ 0 → DG (o.scr.set K (Go.bits .xor .u8 (rd o.scr (K : Int)) x2)) ≠ DG o.scr) := ⟨fun K hK h0 => by rw [hDG]; exact dig_turn hB hK hx h0⟩
  have kD : Aside0 (∀ X B5 d5 B6 d6 s, s.length = o.scr.length → Below w.heap.size w X → o.scr.length ≤ d5 → o.ts.length ≤ d6 → Kd.C (Kd.int .u8) X B5 o.scr.length s → kT.C X B6 o.ts.length o.ts → Calls Tryd.prog 6 #[.agg #[.int .i64 o.st, .int .i64 o.fl, .int .i64 o.steps, .int .i64 o.spent, .int .i64 o.idle, .slice B5 o.scr.length d5, .slice B6 o.ts.length d6]] X fun e w' => e = .returned (.int .u32 (DG s)) ∧ Below X.heap.size X w') := ⟨fun X B5 d5 B6 d6 s hs hb h5 h6 hC hC6 => by
    rw [hDG]
    have := Digest (w := X) (A5 := B5) (c5 := d5) (A6 := B6) (c6 := d6) (o := { o with scr := s }) (hT.below hb) ⟨by show s.length ≤ d5; omega, h6, by show Kd.C _ X B5 s.length s; rw [hs]; exact hC, hC6, h.u⟩ (by show s.length ≤ _; omega) b6
    unfold outA at this
    rw [show ({ o with scr := s } : OutP).scr.length = o.scr.length from hs] at this
    exact this⟩
  have hC5 : Aside0 (∀ W, Below w.heap.size w W → Kd.C (Kd.int .u8) W A5 o.scr.length o.scr) := ⟨fun W hb => Kd.C_below h.s hb⟩
  have hC6 : Aside0 (∀ W, Below w.heap.size w W → kT.C W A6 o.ts.length o.ts) := ⟨fun W hb => Kd.C_below h.t hb⟩
  have hl5 := Aside0.mk h.l5
  have hl6 := Aside0.mk h.l6
  unfold outA
  clear hDG h hB hT hx
  obtain ⟨scr, hscr⟩ : ∃ s, o.scr = s := ⟨_, rfl⟩
  obtain ⟨ts, hts⟩ : ∃ s, o.ts = s := ⟨_, rfl⟩
  simp only [hscr] at b5 hne kD hC5 hl5 h0 hK hr ⊢
  simp only [hts] at b6 kD hC6 hl6 ⊢
  clear hscr hts
  generalize o.st = i0 at *
  generalize o.fl = i1 at *
  generalize o.steps = i2 at *
  generalize o.spent = i3 at *
  generalize o.idle = i4 at *
  obtain ⟨n5, hn5⟩ : ∃ n, scr.length = n := ⟨_, rfl⟩
  obtain ⟨n6, hn6⟩ : ∃ n, ts.length = n := ⟨_, rfl⟩
  simp only [hn5] at b5 hne kD hC5 hl5 h0 hK hr ⊢
  simp only [hn6] at b6 kD hC6 hl6 ⊢
  have hn55 := Aside0.mk hn5
  have hn66 := Aside0.mk hn6
  clear hn5 hn6
  have h00 := Aside0.mk h0
  have h99 := Aside0.mk h9
  clear h0 h9
  have hdK : decide ((kp : Int) < 0) = false := decide_eq_false (by omega)
  have hst := Aside0.mk (SmS.start w i0 i1 i2 i3 i4 (.slice A5 n5 c5) (.slice A6 n6 c6))
  go_enter Tryd.func3, Tryd.ntmps3
  go_upto_region 2 with (fail)
  obtain ⟨X0, hX0⟩ : ∃ X0, X0 = (w.alloc (.cells #[.int .i64 i0, .int .i64 i1, .int .i64 i2, .int .i64 i3, .int .i64 i4, .slice A5 n5 c5, .slice A6 n6 c6] 27)).alloc (.cells #[.int .i64 i0, .int .i64 i1, .int .i64 i2, .int .i64 i3, .int .i64 i4, .slice A5 n5 c5, .slice A6 n6 c6] 27) := ⟨_, rfl⟩
  rw [← hX0] at hst ⊢
  clear hX0
  have hb0 := Aside0.mk (below_alloc (Below.refl X0.heap.size X0) (.cells #[] 5))
  have hm0 := Aside0.mk (R_madeB X0)
  have k0 := Aside0.mk (hC5.out _ (hst.out.bel.trans (hb0.out.mono hst.out.bel.size)))
  have y5 : (X0.alloc (.cells #[] 5)).cell? ⟨w.heap.size, 5, none⟩ = some (.slice A5 n5 c5) := (cellH ((hb0.out.block _ (heap_lt hst.out.x3)).trans hst.out.x3)).trans rfl
  have hz0 := Aside0.mk hb0.out.size
  go_upto_region 3 with (at_builtin; (refine Kd.R_append_row (w0 := X0) (Value.int .u8) 0 (h1 := fun _ => rfl) X0.heap.size rfl _ _ 24 5 (.int .u8 0) 1 rfl Tryd.underlying24 infoB rfl (by decide) (.slice (some ⟨X0.heap.size, 0, none⟩) 0 0) [] scr A5 n5 c5 (fun _ => True) rfl rfl (fun _ _ => trivial) hm0.out k0.out hb0.out hz0.out (by have := b5; rw [List.length_nil]; omega) ?_; intro v5 u1 h1_ h2_ _ _; rw [List.nil_append] at h1_; obtain ⟨O5, d5, e_⟩ := Kd.R_slice h1_; rw [hn55.out] at e_; subst e_; have hS1 := Aside0.mk (hst.out.put5 h2_ h1_); have g_ := (h2_.block _ (heap_lt hst.out.x7)).trans hst.out.x7; have y7 : u1.cell? ⟨w.heap.size + 1, 5, none⟩ = some (.slice A5 n5 c5) := (cellH g_).trans rfl; have f7 : u1.frozen? ⟨w.heap.size + 1, 5, none⟩ = false := (by simp [World.frozen?, g_]); clear h1_ h2_ g_))
  obtain ⟨X1, hX1⟩ : ∃ X1, X1 = u1.setCell ⟨w.heap.size + 1, 5, none⟩ (.slice O5 n5 d5) := ⟨_, rfl⟩
  rw [← hX1] at hS1 ⊢
  clear hX1 hst hb0 hm0 k0 y5 hz0 y7 f7
  have hb1 := Aside0.mk (below_alloc (Below.refl X1.heap.size X1) (.cells #[] 35))
  have hm1 := Aside0.mk (kT_made X1)
  have k1_ := Aside0.mk (hC6.out _ (hS1.out.bel.trans (hb1.out.mono hS1.out.bel.size)))
  have y6 : (X1.alloc (.cells #[] 35)).cell? ⟨w.heap.size, 6, none⟩ = some (.slice A6 n6 c6) := (cellH ((hb1.out.block _ (heap_lt hS1.out.x3)).trans hS1.out.x3)).trans rfl
  have hz1_ := Aside0.mk hb1.out.size
  go_upto_region 4 with (at_builtin; (refine Kd.R_append_rows kT (w0 := X1) X1.heap.size rfl _ _ 25 35 (.agg #[.int .i64 0, .int .u16 0, .int .u8 0]) 16 rfl Tryd.underlying25 infoT rfl (by decide) (by decide) (.slice (some ⟨X1.heap.size, 0, none⟩) 0 0) [] ts A6 n6 c6 (fun _ => True) (fun _ => False) rfl rfl hm1.out k1_.out (fun x cs hK => kT_KM hK) (fun k hk => hk.elim) (fun _ _ => trivial) hb1.out hz1_.out (by have := b6; rw [List.length_nil]; omega) ?_; intro v6 u2 h1_ h2_ _ _; rw [List.nil_append] at h1_; obtain ⟨O6, d6, e_⟩ := Kd.R_slice h1_; rw [hn66.out] at e_; subst e_; have hS2 := Aside0.mk (hS1.out.put6 h2_ h1_); have g_ := (h2_.block _ (heap_lt hS1.out.x7)).trans hS1.out.x7; have y7 : u2.cell? ⟨w.heap.size + 1, 6, none⟩ = some (.slice A6 n6 c6) := (cellH g_).trans rfl; have f7 : u2.frozen? ⟨w.heap.size + 1, 6, none⟩ = false := (by simp [World.frozen?, g_]); clear h1_ h2_ g_))
  obtain ⟨X2, hX2⟩ : ∃ X2, X2 = u2.setCell ⟨w.heap.size + 1, 6, none⟩ (.slice O6 n6 d6) := ⟨_, rfl⟩
  rw [← hX2] at hS2 ⊢
  clear hX2 hS1 hb1 hm1 k1_ y6 hz1_ y7 f7
  have hd5 := Aside0.mk ((Kd.R_reads' hS2.out.R5).2.1)
  have hd6 := Aside0.mk ((Kd.R_reads' hS2.out.R6).2.1)
  have hc5 : Aside0 (∀ X, SmS w X #[.int .i64 i0, .int .i64 i1, .int .i64 i2, .int .i64 i3, .int .i64 i4, .slice A5 n5 c5, .slice A6 n6 c6] i0 i1 i2 i3 i4 (.slice O5 n5 d5) (.slice O6 n6 d6) (.slice O5 n5 d5) (.slice O6 n6 d6) scr ts → Kd.C (Kd.int .u8) X O5 n5 scr ∧ kT.C X O6 n6 ts) := ⟨fun X hX => by
    have h1 := (Kd.R_reads' hX.R5).2.2
    have h2 := (Kd.R_reads' hX.R6).2.2
    rw [hn55.out] at h1
    rw [hn66.out] at h2
    exact ⟨h1, h2⟩⟩
  obtain ⟨g, cap_, e_, _⟩ := Kd.R_form hS2.out.R5 (by have := hn55.out; have := h00.out; omega)
  injection e_ with e1_ e2_ e3_
  subst e1_
  clear e2_ e3_
  have kD0 := Aside0.mk (kD.out X2 A5 c5 A6 c6 scr hn55.out hS2.out.bel hl5.out hl6.out (hC5.out _ hS2.out.bel) (hC6.out _ hS2.out.bel))
  obtain ⟨p0, p1, p2, p3, p4, p5, p6⟩ := box7 hS2.out.x3
  go_upto_region 12 with (first | (go_at_call 6; ((with_reducible refine (kD0.out).mono ?_); rintro e Y1 ⟨rfl, hb_⟩; have hS3 := Aside0.mk (hS2.out.below hb_); clear hb_)) | (go_at_call 7; ((with_reducible refine (P.fixed_at _).mono ?_); rintro e Y2 ⟨rfl, hb_⟩; have hS4 := Aside0.mk (hS3.out.below hb_); obtain ⟨q0, q1, q2, q3, q4, q5, q6⟩ := box7 hS4.out.x7; have kD1 := Aside0.mk (kD.out Y2 (some ⟨g, 0, none⟩) d5 O6 d6 scr hn55.out hS4.out.bel hd5.out hd6.out (hc5.out _ hS4.out).1 (hc5.out _ hS4.out).2); clear hb_)) | (go_at_call 6; ((with_reducible refine (kD1.out).mono ?_); rintro e Y3 ⟨rfl, hb_⟩; have hS5 := Aside0.mk (hS4.out.below hb_); clear q0 q1 q2 q3 q4 q5 q6; obtain ⟨q0, q1, q2, q3, q4, q5, q6⟩ := box7 hS5.out.x7; have he0 : ((n5 : Int) == 0) = false := beq_eq_false_iff_ne.2 (by have := h00.out; omega); have he9 : (x2 == 0) = false := beq_eq_false_iff_ne.2 h99.out; clear hb_)))
  clear q0 q1 q2 q3 q4 q5 q6 kD0 kD1 hS2 hS3 hS4
  have hce := Kd.R_celln 0 hS5.out.R5 (kp : Int) (by omega) (by omega)
  rw [Int.toNat_natCast, show rdOf 0 scr (kp : Int) = rd scr (kp : Int) from rfl] at hce
  obtain ⟨hc0_, hc2_⟩ := hce
  obtain ⟨q0, q1, q2, q3, q4, q5, q6⟩ := box7 (hS5.out.below (below_drew (Below.refl _ _))).x7
  obtain ⟨xk, hxk⟩ : ∃ x, rd scr (kp : Int) = x := ⟨_, rfl⟩
  have hneK := Aside0.mk (hne.out kp (by omega) h99.out)
  rw [hxk] at hc0_ hneK
  clear hxk
  have hc1_ : Y3.drew.cell? ⟨g, kp, none⟩ = some (.int .u8 xk) := hc0_
  have hlt : (kp : Int) < (n5 : Int) := by omega
  refine start_ (n := 12) (S := (fun w' => w'.cell? ⟨w.heap.size + 1, 5, none⟩ = some (.slice (some ⟨g, 0, none⟩) n5 d5) ∧ w'.cell? ⟨g, kp, none⟩ = some (.int .u8 xk))) (ds := [11]) #[false, false, false, false, false, false, false, false, false, false, false, false] (by kernel_rfl) rfl rfl ⟨q5, hc1_⟩ (fun hHeld => ?_)
  refine pure_ (i := 0) (N := some 48) (v := ?_) (a' := ?_) #[true, false, false, false, false, false, false, false, false, false, false, false] rfl rfl (by kernel_rfl) (fun _ _ _ h => h) (Or.inl ⟨by rfl, ?_⟩) ?_ ?_
  rotate_left
  · intro w'
    go_simp
    with_reducible rfl
  rotate_left
  · simp only [Act.put, List.setIfInBounds_toArray, List.set_cons_zero, List.set_cons_succ, i64_w, i32_w]
    rfl
  refine take_ (i := 1) (N := some 49) (v := ?_) (a' := ?_) #[true, true, false, false, false, false, false, false, false, false, false, false] rfl rfl (by kernel_rfl) (fun _ _ _ h => h) (Or.inl ⟨by rfl, ?_⟩) hHeld ?_ ?_
  rotate_left
  · rintro w' ⟨za, zb⟩
    go_simp
    with_reducible rfl
  rotate_left
  · simp only [Act.put, List.setIfInBounds_toArray, List.set_cons_zero, List.set_cons_succ, i64_w, i32_w]
    rfl
  refine pure_ (i := 2) (N := some 50) (v := ?_) (a' := ?_) #[true, true, true, false, false, false, false, false, false, false, false, false] rfl rfl (by kernel_rfl) (fun _ _ _ h => h) (Or.inl ⟨by rfl, ?_⟩) ?_ ?_
  rotate_left
  · intro w'
    go_simp
    with_reducible rfl
  rotate_left
  · simp only [Act.put, List.setIfInBounds_toArray, List.set_cons_zero, List.set_cons_succ, i64_w, i32_w]
    rfl
  refine pure_ (i := 3) (N := some 51) (v := ?_) (a' := ?_) #[true, true, true, true, false, false, false, false, false, false, false, false] rfl rfl (by kernel_rfl) (fun _ _ _ h => h) (Or.inl ⟨by rfl, ?_⟩) ?_ ?_
  rotate_left
  · intro w'
    go_simp
    with_reducible rfl
  rotate_left
  · simp only [Act.put, List.setIfInBounds_toArray, List.set_cons_zero, List.set_cons_succ, i64_w, i32_w]
    rfl
  refine take_ (i := 4) (N := some 52) (v := ?_) (a' := ?_) #[true, true, true, true, true, false, false, false, false, false, false, false] rfl rfl (by kernel_rfl) (fun _ _ _ h => h) (Or.inl ⟨by rfl, ?_⟩) hHeld ?_ ?_
  rotate_left
  · rintro w' ⟨za, zb⟩
    go_simp
    with_reducible rfl
  rotate_left
  · simp only [Act.put, List.setIfInBounds_toArray, List.set_cons_zero, List.set_cons_succ, i64_w, i32_w]
    rfl
  refine pure_ (i := 5) (N := some 53) (v := ?_) (a' := ?_) #[true, true, true, true, true, true, false, false, false, false, false, false] rfl rfl (by kernel_rfl) (fun _ _ _ h => h) (Or.inl ⟨by rfl, ?_⟩) ?_ ?_
  rotate_left
  · intro w'
    go_simp
    with_reducible rfl
  rotate_left
  · simp only [Act.put, List.setIfInBounds_toArray, List.set_cons_zero, List.set_cons_succ, i64_w, i32_w]
    rfl
  refine pure_ (i := 6) (N := some 54) (v := ?_) (a' := ?_) #[true, true, true, true, true, true, true, false, false, false, false, false] rfl rfl (by kernel_rfl) (fun _ _ _ h => h) (Or.inl ⟨by rfl, ?_⟩) ?_ ?_
  rotate_left
  · intro w'
    go_simp
    with_reducible rfl
  rotate_left
  · simp only [Act.put, List.setIfInBounds_toArray, List.set_cons_zero, List.set_cons_succ, i64_w, i32_w]
    rfl
  refine take_ (i := 7) (N := some 55) (v := ?_) (a' := ?_) #[true, true, true, true, true, true, true, true, false, false, false, false] rfl rfl (by kernel_rfl) (fun _ _ _ h => h) (Or.inl ⟨by rfl, ?_⟩) hHeld ?_ ?_
  rotate_left
  · rintro w' ⟨za, zb⟩
    go_simp
    with_reducible rfl
  rotate_left
  · simp only [Act.put, List.setIfInBounds_toArray, List.set_cons_zero, List.set_cons_succ, i64_w, i32_w]
    rfl
  refine pure_ (i := 8) (N := some 56) (v := ?_) (a' := ?_) #[true, true, true, true, true, true, true, true, true, false, false, false] rfl rfl (by kernel_rfl) (fun _ _ _ h => h) (Or.inl ⟨by rfl, ?_⟩) ?_ ?_
  rotate_left
  · intro w'
    go_simp
    with_reducible rfl
  rotate_left
  · simp only [Act.put, List.setIfInBounds_toArray, List.set_cons_zero, List.set_cons_succ, i64_w, i32_w]
    rfl
  refine pure_ (i := 9) (N := some 57) (v := ?_) (a' := ?_) #[true, true, true, true, true, true, true, true, true, true, false, false] rfl rfl (by kernel_rfl) (fun _ _ _ h => h) (Or.inl ⟨by rfl, ?_⟩) ?_ ?_
  rotate_left
  · intro w'
    go_simp
    with_reducible rfl
  rotate_left
  · simp only [Act.put, List.setIfInBounds_toArray, List.set_cons_zero, List.set_cons_succ, i64_w, i32_w]
    rfl
  refine pure_ (i := 10) (N := some 58) (v := ?_) (a' := ?_) #[true, true, true, true, true, true, true, true, true, true, true, false] rfl rfl (by kernel_rfl) (fun _ _ _ h => h) (Or.inl ⟨by rfl, ?_⟩) ?_ ?_
  rotate_left
  · intro w'
    go_simp
    with_reducible rfl
  rotate_left
  · simp only [Act.put, List.setIfInBounds_toArray, List.set_cons_zero, List.set_cons_succ, i64_w, i32_w]
    rfl
  refine last_ (i := 11) (N := none) #[true, true, true, true, true, true, true, true, true, true, true, true] rfl rfl (by kernel_rfl) (by decide) (fun K hK => ?_)
  refine skip_ (w1 := (Y3.setCell ⟨g, kp, none⟩ (.int .u8 (Go.bits .xor .u8 xk x2))).drew) (by rfl) rfl (by go_simp) ?_
  refine hK.out _ _ ?_
  clear hK
  refine done_ (by kernel_rfl) ?_
  have n0_ := Aside0.mk ((hS5.out.turn (K := kp) (y := Go.bits .xor .u8 xk x2)).below (below_drew (Below.refl _ _)))
  obtain ⟨y, hy⟩ : ∃ y, Go.bits .xor .u8 xk x2 = y := ⟨_, rfl⟩
  rw [hy] at n0_ hneK ⊢
  clear q0 q1 q2 q3 q4 q5 q6 hc0_ hc1_ hc2_ hS5 hy hHeld
  obtain ⟨Y5, hY5⟩ : ∃ Y5, Y5 = (Y3.setCell ⟨g, kp, none⟩ (.int .u8 y)).drew := ⟨_, rfl⟩
  rw [← hY5] at n0_ ⊢
  clear hY5
  have hS7 := n0_
  clear n0_
  obtain ⟨q0, q1, q2, q3, q4, q5, q6⟩ := box7 hS7.out.x7
  have hl9 : Aside0 ((scr.set kp y).length = n5) := ⟨by rw [List.length_set]; exact hn55.out⟩
  have kD2 := Aside0.mk (kD.out Y5 (some ⟨g, 0, none⟩) d5 O6 d6 (scr.set kp y) hl9.out hS7.out.bel hd5.out hd6.out (by have h1 := (Kd.R_reads' hS7.out.R5).2.2; rw [hl9.out] at h1; exact h1) (by have h2 := (Kd.R_reads' hS7.out.R6).2.2; rw [hn66.out] at h2; exact h2))
  have hfin : (DG (scr.set kp y) != DG scr) = true := bne_iff_ne.2 hneK.out
  have hfin2 : (DG (scr.set kp y) == DG scr) = false := beq_eq_false_iff_ne.2 hneK.out
  go_wp2_with (go_at_call 6; ((with_reducible refine (kD2.out).mono ?_); rintro e Y6 ⟨rfl, hb_⟩; have hB9 := Aside0.mk (hS7.out.bel.trans (hb_.mono hS7.out.bel.size)); clear hb_))
  go_ret
  exact ⟨rfl, hB9.out⟩
set_option maxRecDepth 100000 in
set_option maxHeartbeats 8000000 in
theorem Sums_d {w : World} {A5 A6 : Option Addr} {c5 c6 : Nat} {o : OutP} {k1 x2 : Int} (hT : Tab w) (h : OutV w A5 c5 A6 c6 o) (hB : OutB o) (b5 : o.scr.length ≤ 100000000) (b6 : o.ts.length ≤ 100000000) (hx : isB x2) {kp : Nat} (h0 : o.scr.length ≠ 0) (h9 : x2 ≠ 0) (hK : kp < o.scr.length) (hp : 0 < kp) (hr : Int.tmod k1 (o.scr.length : Int) = -(kp : Int)) :
    Calls Tryd.prog 3 #[outA A5 c5 A6 c6 o, .int .i64 k1, .int .u8 x2] w fun e w' => e = .returned (.bool true) ∧ Below w.heap.size w w' := by
  obtain ⟨i0_, hi, hz0, hz1, hz2⟩ := info_parts infoB
  obtain ⟨j0_, hj, hy0, hy1, hy2⟩ := info_parts infoT
  obtain ⟨DG, hDG⟩ : ∃ f : List Int → Int, f = fun s => sumI [digB { o with scr := s }] := ⟨_, rfl⟩
  have hne : Aside0 (∀ K : Nat, K < o.scr.length → x2 ≠ 0 → DG (o.scr.set K (Go.bits .xor .u8 (rd o.scr (K : Int)) x2)) ≠ DG o.scr) := ⟨fun K hK h0 => by rw [hDG]; exact dig_turn hB hK hx h0⟩
  have kD : Aside0 (∀ X B5 d5 B6 d6 s, s.length = o.scr.length → Below w.heap.size w X → o.scr.length ≤ d5 → o.ts.length ≤ d6 → Kd.C (Kd.int .u8) X B5 o.scr.length s → kT.C X B6 o.ts.length o.ts → Calls Tryd.prog 6 #[.agg #[.int .i64 o.st, .int .i64 o.fl, .int .i64 o.steps, .int .i64 o.spent, .int .i64 o.idle, .slice B5 o.scr.length d5, .slice B6 o.ts.length d6]] X fun e w' => e = .returned (.int .u32 (DG s)) ∧ Below X.heap.size X w') := ⟨fun X B5 d5 B6 d6 s hs hb h5 h6 hC hC6 => by
    rw [hDG]
    have := Digest (w := X) (A5 := B5) (c5 := d5) (A6 := B6) (c6 := d6) (o := { o with scr := s }) (hT.below hb) ⟨by show s.length ≤ d5; omega, h6, by show Kd.C _ X B5 s.length s; rw [hs]; exact hC, hC6, h.u⟩ (by show s.length ≤ _; omega) b6
    unfold outA at this
    rw [show ({ o with scr := s } : OutP).scr.length = o.scr.length from hs] at this
    exact this⟩
  have hC5 : Aside0 (∀ W, Below w.heap.size w W → Kd.C (Kd.int .u8) W A5 o.scr.length o.scr) := ⟨fun W hb => Kd.C_below h.s hb⟩
  have hC6 : Aside0 (∀ W, Below w.heap.size w W → kT.C W A6 o.ts.length o.ts) := ⟨fun W hb => Kd.C_below h.t hb⟩
  have hl5 := Aside0.mk h.l5
  have hl6 := Aside0.mk h.l6
  unfold outA
  clear hDG h hB hT hx
  obtain ⟨scr, hscr⟩ : ∃ s, o.scr = s := ⟨_, rfl⟩
  obtain ⟨ts, hts⟩ : ∃ s, o.ts = s := ⟨_, rfl⟩
  simp only [hscr] at b5 hne kD hC5 hl5 h0 hK hr ⊢
  simp only [hts] at b6 kD hC6 hl6 ⊢
  clear hscr hts
  generalize o.st = i0 at *
  generalize o.fl = i1 at *
  generalize o.steps = i2 at *
  generalize o.spent = i3 at *
  generalize o.idle = i4 at *
  obtain ⟨n5, hn5⟩ : ∃ n, scr.length = n := ⟨_, rfl⟩
  obtain ⟨n6, hn6⟩ : ∃ n, ts.length = n := ⟨_, rfl⟩
  simp only [hn5] at b5 hne kD hC5 hl5 h0 hK hr ⊢
  simp only [hn6] at b6 kD hC6 hl6 ⊢
  have hn55 := Aside0.mk hn5
  have hn66 := Aside0.mk hn6
  clear hn5 hn6
  have h00 := Aside0.mk h0
  have h99 := Aside0.mk h9
  clear h0 h9
  have hdK : decide (-(kp : Int) < 0) = true := decide_eq_true (by omega)
  have hnn_ : - -(kp : Int) = (kp : Int) := Int.neg_neg _
  have hst := Aside0.mk (SmS.start w i0 i1 i2 i3 i4 (.slice A5 n5 c5) (.slice A6 n6 c6))
  go_enter Tryd.func3, Tryd.ntmps3
  go_upto_region 2 with (fail)
  obtain ⟨X0, hX0⟩ : ∃ X0, X0 = (w.alloc (.cells #[.int .i64 i0, .int .i64 i1, .int .i64 i2, .int .i64 i3, .int .i64 i4, .slice A5 n5 c5, .slice A6 n6 c6] 27)).alloc (.cells #[.int .i64 i0, .int .i64 i1, .int .i64 i2, .int .i64 i3, .int .i64 i4, .slice A5 n5 c5, .slice A6 n6 c6] 27) := ⟨_, rfl⟩
  rw [← hX0] at hst ⊢
  clear hX0
  have hb0 := Aside0.mk (below_alloc (Below.refl X0.heap.size X0) (.cells #[] 5))
  have hm0 := Aside0.mk (R_madeB X0)
  have k0 := Aside0.mk (hC5.out _ (hst.out.bel.trans (hb0.out.mono hst.out.bel.size)))
  have y5 : (X0.alloc (.cells #[] 5)).cell? ⟨w.heap.size, 5, none⟩ = some (.slice A5 n5 c5) := (cellH ((hb0.out.block _ (heap_lt hst.out.x3)).trans hst.out.x3)).trans rfl
  have hz0 := Aside0.mk hb0.out.size
  go_upto_region 3 with (at_builtin; (refine Kd.R_append_row (w0 := X0) (Value.int .u8) 0 (h1 := fun _ => rfl) X0.heap.size rfl _ _ 24 5 (.int .u8 0) 1 rfl Tryd.underlying24 infoB rfl (by decide) (.slice (some ⟨X0.heap.size, 0, none⟩) 0 0) [] scr A5 n5 c5 (fun _ => True) rfl rfl (fun _ _ => trivial) hm0.out k0.out hb0.out hz0.out (by have := b5; rw [List.length_nil]; omega) ?_; intro v5 u1 h1_ h2_ _ _; rw [List.nil_append] at h1_; obtain ⟨O5, d5, e_⟩ := Kd.R_slice h1_; rw [hn55.out] at e_; subst e_; have hS1 := Aside0.mk (hst.out.put5 h2_ h1_); have g_ := (h2_.block _ (heap_lt hst.out.x7)).trans hst.out.x7; have y7 : u1.cell? ⟨w.heap.size + 1, 5, none⟩ = some (.slice A5 n5 c5) := (cellH g_).trans rfl; have f7 : u1.frozen? ⟨w.heap.size + 1, 5, none⟩ = false := (by simp [World.frozen?, g_]); clear h1_ h2_ g_))
  obtain ⟨X1, hX1⟩ : ∃ X1, X1 = u1.setCell ⟨w.heap.size + 1, 5, none⟩ (.slice O5 n5 d5) := ⟨_, rfl⟩
  rw [← hX1] at hS1 ⊢
  clear hX1 hst hb0 hm0 k0 y5 hz0 y7 f7
  have hb1 := Aside0.mk (below_alloc (Below.refl X1.heap.size X1) (.cells #[] 35))
  have hm1 := Aside0.mk (kT_made X1)
  have k1_ := Aside0.mk (hC6.out _ (hS1.out.bel.trans (hb1.out.mono hS1.out.bel.size)))
  have y6 : (X1.alloc (.cells #[] 35)).cell? ⟨w.heap.size, 6, none⟩ = some (.slice A6 n6 c6) := (cellH ((hb1.out.block _ (heap_lt hS1.out.x3)).trans hS1.out.x3)).trans rfl
  have hz1_ := Aside0.mk hb1.out.size
  go_upto_region 4 with (at_builtin; (refine Kd.R_append_rows kT (w0 := X1) X1.heap.size rfl _ _ 25 35 (.agg #[.int .i64 0, .int .u16 0, .int .u8 0]) 16 rfl Tryd.underlying25 infoT rfl (by decide) (by decide) (.slice (some ⟨X1.heap.size, 0, none⟩) 0 0) [] ts A6 n6 c6 (fun _ => True) (fun _ => False) rfl rfl hm1.out k1_.out (fun x cs hK => kT_KM hK) (fun k hk => hk.elim) (fun _ _ => trivial) hb1.out hz1_.out (by have := b6; rw [List.length_nil]; omega) ?_; intro v6 u2 h1_ h2_ _ _; rw [List.nil_append] at h1_; obtain ⟨O6, d6, e_⟩ := Kd.R_slice h1_; rw [hn66.out] at e_; subst e_; have hS2 := Aside0.mk (hS1.out.put6 h2_ h1_); have g_ := (h2_.block _ (heap_lt hS1.out.x7)).trans hS1.out.x7; have y7 : u2.cell? ⟨w.heap.size + 1, 6, none⟩ = some (.slice A6 n6 c6) := (cellH g_).trans rfl; have f7 : u2.frozen? ⟨w.heap.size + 1, 6, none⟩ = false := (by simp [World.frozen?, g_]); clear h1_ h2_ g_))
  obtain ⟨X2, hX2⟩ : ∃ X2, X2 = u2.setCell ⟨w.heap.size + 1, 6, none⟩ (.slice O6 n6 d6) := ⟨_, rfl⟩
  rw [← hX2] at hS2 ⊢
  clear hX2 hS1 hb1 hm1 k1_ y6 hz1_ y7 f7
  have hd5 := Aside0.mk ((Kd.R_reads' hS2.out.R5).2.1)
  have hd6 := Aside0.mk ((Kd.R_reads' hS2.out.R6).2.1)
  have hc5 : Aside0 (∀ X, SmS w X #[.int .i64 i0, .int .i64 i1, .int .i64 i2, .int .i64 i3, .int .i64 i4, .slice A5 n5 c5, .slice A6 n6 c6] i0 i1 i2 i3 i4 (.slice O5 n5 d5) (.slice O6 n6 d6) (.slice O5 n5 d5) (.slice O6 n6 d6) scr ts → Kd.C (Kd.int .u8) X O5 n5 scr ∧ kT.C X O6 n6 ts) := ⟨fun X hX => by
    have h1 := (Kd.R_reads' hX.R5).2.2
    have h2 := (Kd.R_reads' hX.R6).2.2
    rw [hn55.out] at h1
    rw [hn66.out] at h2
    exact ⟨h1, h2⟩⟩
  obtain ⟨g, cap_, e_, _⟩ := Kd.R_form hS2.out.R5 (by have := hn55.out; have := h00.out; omega)
  injection e_ with e1_ e2_ e3_
  subst e1_
  clear e2_ e3_
  have kD0 := Aside0.mk (kD.out X2 A5 c5 A6 c6 scr hn55.out hS2.out.bel hl5.out hl6.out (hC5.out _ hS2.out.bel) (hC6.out _ hS2.out.bel))
  obtain ⟨p0, p1, p2, p3, p4, p5, p6⟩ := box7 hS2.out.x3
  go_upto_region 12 with (first | (go_at_call 6; ((with_reducible refine (kD0.out).mono ?_); rintro e Y1 ⟨rfl, hb_⟩; have hS3 := Aside0.mk (hS2.out.below hb_); clear hb_)) | (go_at_call 7; ((with_reducible refine (P.fixed_at _).mono ?_); rintro e Y2 ⟨rfl, hb_⟩; have hS4 := Aside0.mk (hS3.out.below hb_); obtain ⟨q0, q1, q2, q3, q4, q5, q6⟩ := box7 hS4.out.x7; have kD1 := Aside0.mk (kD.out Y2 (some ⟨g, 0, none⟩) d5 O6 d6 scr hn55.out hS4.out.bel hd5.out hd6.out (hc5.out _ hS4.out).1 (hc5.out _ hS4.out).2); clear hb_)) | (go_at_call 6; ((with_reducible refine (kD1.out).mono ?_); rintro e Y3 ⟨rfl, hb_⟩; have hS5 := Aside0.mk (hS4.out.below hb_); clear q0 q1 q2 q3 q4 q5 q6; obtain ⟨q0, q1, q2, q3, q4, q5, q6⟩ := box7 hS5.out.x7; have he0 : ((n5 : Int) == 0) = false := beq_eq_false_iff_ne.2 (by have := h00.out; omega); have he9 : (x2 == 0) = false := beq_eq_false_iff_ne.2 h99.out; clear hb_)))
  clear q0 q1 q2 q3 q4 q5 q6 kD0 kD1 hS2 hS3 hS4
  have hce := Kd.R_celln 0 hS5.out.R5 (kp : Int) (by omega) (by omega)
  rw [Int.toNat_natCast, show rdOf 0 scr (kp : Int) = rd scr (kp : Int) from rfl] at hce
  obtain ⟨hc0_, hc2_⟩ := hce
  obtain ⟨q0, q1, q2, q3, q4, q5, q6⟩ := box7 (hS5.out.below (below_drew (Below.refl _ _))).x7
  obtain ⟨xk, hxk⟩ : ∃ x, rd scr (kp : Int) = x := ⟨_, rfl⟩
  have hneK := Aside0.mk (hne.out kp (by omega) h99.out)
  rw [hxk] at hc0_ hneK
  clear hxk
  have hc1_ : Y3.drew.cell? ⟨g, kp, none⟩ = some (.int .u8 xk) := hc0_
  have hlt : (kp : Int) < (n5 : Int) := by omega
  refine start_ (n := 12) (S := (fun w' => w'.cell? ⟨w.heap.size + 1, 5, none⟩ = some (.slice (some ⟨g, 0, none⟩) n5 d5) ∧ w'.cell? ⟨g, kp, none⟩ = some (.int .u8 xk))) (ds := [11]) #[false, false, false, false, false, false, false, false, false, false, false, false] (by kernel_rfl) rfl rfl ⟨q5, hc1_⟩ (fun hHeld => ?_)
  refine pure_ (i := 0) (N := some 48) (v := ?_) (a' := ?_) #[true, false, false, false, false, false, false, false, false, false, false, false] rfl rfl (by kernel_rfl) (fun _ _ _ h => h) (Or.inl ⟨by rfl, ?_⟩) ?_ ?_
  rotate_left
  · intro w'
    go_simp
    with_reducible rfl
  rotate_left
  · simp only [Act.put, List.setIfInBounds_toArray, List.set_cons_zero, List.set_cons_succ, i64_w, i32_w]
    rfl
  refine take_ (i := 1) (N := some 49) (v := ?_) (a' := ?_) #[true, true, false, false, false, false, false, false, false, false, false, false] rfl rfl (by kernel_rfl) (fun _ _ _ h => h) (Or.inl ⟨by rfl, ?_⟩) hHeld ?_ ?_
  rotate_left
  · rintro w' ⟨za, zb⟩
    go_simp
    with_reducible rfl
  rotate_left
  · simp only [Act.put, List.setIfInBounds_toArray, List.set_cons_zero, List.set_cons_succ, i64_w, i32_w]
    rfl
  refine pure_ (i := 2) (N := some 50) (v := ?_) (a' := ?_) #[true, true, true, false, false, false, false, false, false, false, false, false] rfl rfl (by kernel_rfl) (fun _ _ _ h => h) (Or.inl ⟨by rfl, ?_⟩) ?_ ?_
  rotate_left
  · intro w'
    go_simp
    with_reducible rfl
  rotate_left
  · simp only [Act.put, List.setIfInBounds_toArray, List.set_cons_zero, List.set_cons_succ, i64_w, i32_w]
    rfl
  refine pure_ (i := 3) (N := some 51) (v := ?_) (a' := ?_) #[true, true, true, true, false, false, false, false, false, false, false, false] rfl rfl (by kernel_rfl) (fun _ _ _ h => h) (Or.inl ⟨by rfl, ?_⟩) ?_ ?_
  rotate_left
  · intro w'
    go_simp
    with_reducible rfl
  rotate_left
  · simp only [Act.put, List.setIfInBounds_toArray, List.set_cons_zero, List.set_cons_succ, i64_w, i32_w]
    rfl
  refine take_ (i := 4) (N := some 52) (v := ?_) (a' := ?_) #[true, true, true, true, true, false, false, false, false, false, false, false] rfl rfl (by kernel_rfl) (fun _ _ _ h => h) (Or.inl ⟨by rfl, ?_⟩) hHeld ?_ ?_
  rotate_left
  · rintro w' ⟨za, zb⟩
    go_simp
    with_reducible rfl
  rotate_left
  · simp only [Act.put, List.setIfInBounds_toArray, List.set_cons_zero, List.set_cons_succ, i64_w, i32_w]
    rfl
  refine pure_ (i := 5) (N := some 53) (v := ?_) (a' := ?_) #[true, true, true, true, true, true, false, false, false, false, false, false] rfl rfl (by kernel_rfl) (fun _ _ _ h => h) (Or.inl ⟨by rfl, ?_⟩) ?_ ?_
  rotate_left
  · intro w'
    go_simp
    with_reducible rfl
  rotate_left
  · simp only [Act.put, List.setIfInBounds_toArray, List.set_cons_zero, List.set_cons_succ, i64_w, i32_w]
    rfl
  refine pure_ (i := 6) (N := some 54) (v := ?_) (a' := ?_) #[true, true, true, true, true, true, true, false, false, false, false, false] rfl rfl (by kernel_rfl) (fun _ _ _ h => h) (Or.inl ⟨by rfl, ?_⟩) ?_ ?_
  rotate_left
  · intro w'
    go_simp
    with_reducible rfl
  rotate_left
  · simp only [Act.put, List.setIfInBounds_toArray, List.set_cons_zero, List.set_cons_succ, i64_w, i32_w]
    rfl
  refine take_ (i := 7) (N := some 55) (v := ?_) (a' := ?_) #[true, true, true, true, true, true, true, true, false, false, false, false] rfl rfl (by kernel_rfl) (fun _ _ _ h => h) (Or.inl ⟨by rfl, ?_⟩) hHeld ?_ ?_
  rotate_left
  · rintro w' ⟨za, zb⟩
    go_simp
    with_reducible rfl
  rotate_left
  · simp only [Act.put, List.setIfInBounds_toArray, List.set_cons_zero, List.set_cons_succ, i64_w, i32_w]
    rfl
  refine pure_ (i := 8) (N := some 56) (v := ?_) (a' := ?_) #[true, true, true, true, true, true, true, true, true, false, false, false] rfl rfl (by kernel_rfl) (fun _ _ _ h => h) (Or.inl ⟨by rfl, ?_⟩) ?_ ?_
  rotate_left
  · intro w'
    go_simp
    with_reducible rfl
  rotate_left
  · simp only [Act.put, List.setIfInBounds_toArray, List.set_cons_zero, List.set_cons_succ, i64_w, i32_w]
    rfl
  refine pure_ (i := 9) (N := some 57) (v := ?_) (a' := ?_) #[true, true, true, true, true, true, true, true, true, true, false, false] rfl rfl (by kernel_rfl) (fun _ _ _ h => h) (Or.inl ⟨by rfl, ?_⟩) ?_ ?_
  rotate_left
  · intro w'
    go_simp
    with_reducible rfl
  rotate_left
  · simp only [Act.put, List.setIfInBounds_toArray, List.set_cons_zero, List.set_cons_succ, i64_w, i32_w]
    rfl
  refine pure_ (i := 10) (N := some 58) (v := ?_) (a' := ?_) #[true, true, true, true, true, true, true, true, true, true, true, false] rfl rfl (by kernel_rfl) (fun _ _ _ h => h) (Or.inl ⟨by rfl, ?_⟩) ?_ ?_
  rotate_left
  · intro w'
    go_simp
    with_reducible rfl
  rotate_left
  · simp only [Act.put, List.setIfInBounds_toArray, List.set_cons_zero, List.set_cons_succ, i64_w, i32_w]
    rfl
  refine last_ (i := 11) (N := none) #[true, true, true, true, true, true, true, true, true, true, true, true] rfl rfl (by kernel_rfl) (by decide) (fun K hK => ?_)
  refine skip_ (w1 := (Y3.setCell ⟨g, kp, none⟩ (.int .u8 (Go.bits .xor .u8 xk x2))).drew) (by rfl) rfl (by go_simp) ?_
  refine hK.out _ _ ?_
  clear hK
  refine done_ (by kernel_rfl) ?_
  have n0_ := Aside0.mk ((hS5.out.turn (K := kp) (y := Go.bits .xor .u8 xk x2)).below (below_drew (Below.refl _ _)))
  obtain ⟨y, hy⟩ : ∃ y, Go.bits .xor .u8 xk x2 = y := ⟨_, rfl⟩
  rw [hy] at n0_ hneK ⊢
  clear q0 q1 q2 q3 q4 q5 q6 hc0_ hc1_ hc2_ hS5 hy hHeld
  obtain ⟨Y5, hY5⟩ : ∃ Y5, Y5 = (Y3.setCell ⟨g, kp, none⟩ (.int .u8 y)).drew := ⟨_, rfl⟩
  rw [← hY5] at n0_ ⊢
  clear hY5
  have hS7 := n0_
  clear n0_
  obtain ⟨q0, q1, q2, q3, q4, q5, q6⟩ := box7 hS7.out.x7
  have hl9 : Aside0 ((scr.set kp y).length = n5) := ⟨by rw [List.length_set]; exact hn55.out⟩
  have kD2 := Aside0.mk (kD.out Y5 (some ⟨g, 0, none⟩) d5 O6 d6 (scr.set kp y) hl9.out hS7.out.bel hd5.out hd6.out (by have h1 := (Kd.R_reads' hS7.out.R5).2.2; rw [hl9.out] at h1; exact h1) (by have h2 := (Kd.R_reads' hS7.out.R6).2.2; rw [hn66.out] at h2; exact h2))
  have hfin : (DG (scr.set kp y) != DG scr) = true := bne_iff_ne.2 hneK.out
  have hfin2 : (DG (scr.set kp y) == DG scr) = false := beq_eq_false_iff_ne.2 hneK.out
  go_wp2_with (go_at_call 6; ((with_reducible refine (kD2.out).mono ?_); rintro e Y6 ⟨rfl, hb_⟩; have hB9 := Aside0.mk (hS7.out.bel.trans (hb_.mono hS7.out.bel.size)); clear hb_))
  go_ret
  exact ⟨rfl, hB9.out⟩
theorem SumsAll {w : World} {A5 A6 : Option Addr} {c5 c6 : Nat} {o : OutP} {k1 x2 : Int} (hT : Tab w) (h : OutV w A5 c5 A6 c6 o) (hB : OutB o) (b5 : o.scr.length ≤ 100000000) (b6 : o.ts.length ≤ 100000000) (hx : isB x2) :
    Calls Tryd.prog 3 #[outA A5 c5 A6 c6 o, .int .i64 k1, .int .u8 x2] w fun e w' => e = .returned (.bool true) ∧ Below w.heap.size w w' := by
  by_cases h0 : o.scr.length = 0
  · exact Sums_a hT h hB b5 b6 hx h0
  by_cases h9 : x2 = 0
  · exact Sums_b hT h hB b5 b6 hx h0 h9
  have a1 := Int.tmod_lt_of_pos k1 (show 0 < (o.scr.length : Int) by omega)
  have a2 := Int.lt_tmod_of_pos k1 (show 0 < (o.scr.length : Int) by omega)
  by_cases hn : 0 ≤ Int.tmod k1 (o.scr.length : Int)
  · obtain ⟨kp, hK⟩ := Int.eq_ofNat_of_zero_le hn
    exact Sums_c (kp := kp) hT h hB b5 b6 hx h0 h9 (by omega) hK
  · obtain ⟨kp, hK⟩ := Int.eq_ofNat_of_zero_le (show 0 ≤ -(Int.tmod k1 (o.scr.length : Int)) by omega)
    exact Sums_d (kp := kp) hT h hB b5 b6 hx h0 h9 (by omega) (by omega) (by omega)
end Go.Proofs.YtpjdgndbcjinjaaDoor.Pk
