/- wisplaw20.ShotTold: the walk. (Printed by gen_td.py.) -/
import Derived.Test.YtpjdgndbcjinjaaDoorTr
import Derived.Test.YtpjdgndbcjinjaaDoorRv
namespace Go.Proofs.YtpjdgndbcjinjaaDoor.Pk
open Go.RowKit Go.Proofs.YtpjdgndbcjinjaaDoorW.PrintWords Go.Proofs.YtpjdgndbcjinjaaDoorW.PrintLast Go.Proofs.YtpjdgndbcjinjaaDoorW.PrintMore Go.Proofs.YtpjdgndbcjinjaaDoor.Mem
set_option linter.unusedVariables false
set_option linter.unusedSimpArgs false
theorem eqT (d : Nat) (w : World) (x0 y0 x1 y1 x2 y2 : Int) :
    (Op.equalIn (d + 2) 35 (.agg #[.int .i64 x0, .int .u16 x1, .int .u8 x2]) (.agg #[.int .i64 y0, .int .u16 y1, .int .u8 y2])).run Tryd.prog w = .ok (x0 == y0 && (x1 == y1 && (x2 == y2))) w := by
  refine eqA_of Tryd.underlying35 (by kernel_rfl) ?_
  refine eqf_cons (by rfl) (by go_simp; rfl) (by go_simp; rfl) (by go_simp) ?_
  refine eqf_cons (by rfl) (by go_simp; rfl) (by go_simp; rfl) (by go_simp) ?_
  exact eqf_last (by rfl) (by go_simp; rfl) (by go_simp; rfl) (by go_simp)
theorem neqT (w : World) (x0 x1 x2 : Int) : (binOp .neq 35 (.agg #[.int .i64 x0, .int .u16 x1, .int .u8 x2]) (.agg #[.int .i64 x0, .int .u16 x1, .int .u8 x2])).run Tryd.prog w = .ok (.bool false) w := by
  rw [run_neq_struct, eqT 9998 w x0 x0 x1 x1 x2 x2]
  simp [Result.andThen]
theorem plain_ret {Q : Ending → World → Prop} {X : World} {R : Nat} {tmps : Array Value} {a0 a1 a2 a3 a4 a5 a6 : Value} (h2 : tmps[2]? = some (.pointer (some ⟨R, 0, none⟩))) (hx : X.heap[R]? = some (.cells #[a0, a1, a2, a3, a4, a5, a6] 39 (0, 0)))
    (hP : Q (.returned (.agg #[a0, a1, a2, a3, a4, a5, a6])) X) : bodyPost Tryd.prog Tryd.f12 Q .ret { tmps := tmps, defers := [] } X := by
  obtain ⟨y0, y1, y2, y3, y4, y5, y6⟩ := box7 hx
  exact bodyPost_ret (v := .agg #[a0, a1, a2, a3, a4, a5, a6]) (by simp [results, Tryd.results12, go_sem, h2, y0, y1, y2, y3, y4, y5, y6]) rfl hP
set_option maxRecDepth 100000 in
theorem RPlain {w : World} (i0 i1 i2 i3 i4 : Int) (A5 A6 : Option Addr) (n5 c5 n6 c6 : Nat) :
    Calls Tryd.prog 12 #[.agg #[.int .i64 i0, .int .i64 i1, .int .i64 i2, .int .i64 i3, .int .i64 i4, .slice A5 n5 c5, .slice A6 n6 c6]] w fun e w' => e = .returned (.agg #[.int .i64 i0, .int .i64 i1, .int .i64 i2, .int .i64 i3, .int .i64 i4, .slice A5 n5 c5, .slice A6 n6 c6]) ∧ Below w.heap.size w w' := by
  have h1 := below_alloc (Below.refl w.heap.size w) (.cells #[.int .i64 i0, .int .i64 i1, .int .i64 i2, .int .i64 i3, .int .i64 i4, .slice A5 n5 c5, .slice A6 n6 c6] 27)
  have hs : (w.alloc (.cells #[.int .i64 i0, .int .i64 i1, .int .i64 i2, .int .i64 i3, .int .i64 i4, .slice A5 n5 c5, .slice A6 n6 c6] 27)).heap.size = w.heap.size + 1 := by rw [World.size_alloc]
  have h2 := below_alloc (Below.refl (w.alloc (.cells #[.int .i64 i0, .int .i64 i1, .int .i64 i2, .int .i64 i3, .int .i64 i4, .slice A5 n5 c5, .slice A6 n6 c6] 27)).heap.size (w.alloc (.cells #[.int .i64 i0, .int .i64 i1, .int .i64 i2, .int .i64 i3, .int .i64 i4, .slice A5 n5 c5, .slice A6 n6 c6] 27))) (.cells #[.int .i64 i0, .int .i64 i1, .int .i64 i2, .int .i64 i3, .int .i64 i4, .slice A5 n5 c5, .slice A6 n6 c6] 39)
  have hx := World.alloc_heap_new (w.alloc (.cells #[.int .i64 i0, .int .i64 i1, .int .i64 i2, .int .i64 i3, .int .i64 i4, .slice A5 n5 c5, .slice A6 n6 c6] 27)) (.cells #[.int .i64 i0, .int .i64 i1, .int .i64 i2, .int .i64 i3, .int .i64 i4, .slice A5 n5 c5, .slice A6 n6 c6] 39)
  rw [hs] at h2 hx
  go_enter Tryd.func12, Tryd.ntmps12
  go_wp2
  refine plain_ret rfl hx ⟨rfl, h1.trans (h2.mono (by omega))⟩
set_option maxRecDepth 100000 in
set_option maxHeartbeats 2000000 in
theorem RDigest {w : World} {A5 A6 : Option Addr} {c5 c6 : Nat} {o : OutP} (h : OutV w A5 c5 A6 c6 o) (hB : OutB o) (b5 : o.scr.length ≤ 100000000) (b6 : o.ts.length ≤ 100000000) :
    Calls Tryd.prog 11 #[outA A5 c5 A6 c6 o] w fun e w' => e = .returned (.int .u32 (sumI [digB o])) ∧ Below w.heap.size w w' := by
  have kB : Aside0 (∀ W, Below w.heap.size w W → Calls Tryd.prog 29 #[.agg #[.int .i64 o.st, .int .i64 o.fl, .int .i64 o.steps, .int .i64 o.spent, .int .i64 o.idle, .slice A5 o.scr.length c5, .slice A6 o.ts.length c6]] W fun e w' => ∃ A c, e = .returned (.slice A (digB o).length c) ∧ Kd.C (Kd.int .u8) w' A (digB o).length (digB o) ∧ Below W.heap.size W w') := ⟨fun W hb => by
    have := P.wispref20_Bytes.calls 100000020 o.st o.fl o.steps o.spent o.idle A5 c5 o.scr A6 c6 (o.ts.map gT) (digB o) W (Kd.C_below h.s hb) h.l5 (by rw [List.length_map]; exact C_gT (Kd.C_below h.t hb)) (by rw [List.length_map]; exact h.l6) (bytes_f o h.u b6 b5)
    rw [List.length_map] at this
    refine this.mono ?_
    rintro e w' ⟨v, rfl, hR, hb2⟩
    obtain ⟨A, c, rfl, _, hC⟩ := Kd.R_reads hR
    exact ⟨A, c, rfl, hC, hb2⟩⟩
  have kS : Aside0 (∀ W A c, Kd.C (Kd.int .u8) W A (digB o).length (digB o) → Calls Tryd.prog 28 #[.slice A (digB o).length c] W fun e w' => e = .returned (.int .u32 (sumI [digB o])) ∧ W = w') := ⟨fun W A c hC => RefSum hC (digBB hB)⟩
  have h1 := Aside0.mk (below_alloc (Below.refl w.heap.size w) (.cells #[.int .i64 o.st, .int .i64 o.fl, .int .i64 o.steps, .int .i64 o.spent, .int .i64 o.idle, .slice A5 o.scr.length c5, .slice A6 o.ts.length c6] 39))
  unfold outA
  clear h hB b5 b6
  generalize sumI [digB o] = D at *
  generalize (digB o).length = m at *
  generalize o.scr.length = n5 at *
  generalize o.ts.length = n6 at *
  generalize o.st = v0 at *
  generalize o.fl = v1 at *
  generalize o.steps = v2 at *
  generalize o.spent = v3 at *
  generalize o.idle = v4 at *
  go_enter Tryd.func11, Tryd.ntmps11
  go_wp2_with (first | (go_at_call 29; ((with_reducible refine (kB.out _ h1.out).mono ?_); rintro e X1 ⟨A, c, rfl, hC_, hb_⟩; have hC := Aside0.mk hC_; have h2 := Aside0.mk (h1.out.trans (hb_.mono h1.out.size)); clear hC_ hb_)) | (go_at_call 28; ((with_reducible refine (kS.out _ _ _ hC.out).mono ?_); rintro e X2 ⟨rfl, rfl⟩)))
  go_ret
  exact ⟨rfl, h2.out⟩
/-! ### a row of tones of the law's own -/
theorem kT_open {w : World} {base : Nat} {ok : Nat → Prop} {x : ToneT} {cs : List Value} (h : kT.M w base ok x cs) : cs = [.int .i64 x.1, .int .u16 x.2.1, .int .u8 x.2.2] := by
  obtain ⟨c0, c1, rfl, h0, c2, c3, rfl, h2, h3⟩ := h
  have h0' : c0 = [.int .i64 x.1] := h0
  have h2' : c2 = [.int .u16 x.2.1] := h2
  have h3' : c3 = [.int .u8 x.2.2] := h3
  subst h0' h2' h3'
  rfl
theorem kT_mk {w : World} {base : Nat} {ok : Nat → Prop} (x : ToneT) : kT.M w base ok x [.int .i64 x.1, .int .u16 x.2.1, .int .u8 x.2.2] := ⟨[.int .i64 x.1], [.int .u16 x.2.1, .int .u8 x.2.2], rfl, rfl, [.int .u16 x.2.1], [.int .u8 x.2.2], rfl, rfl, rfl⟩
theorem atTn {W : World} {B g n cap i : Nat} {ok : Nat → Prop} {l : List ToneT} (h : Kd.R kT 35 W B ok (.slice (some ⟨g, 0, none⟩) n cap) l) (hi : i < n) : W.cell? ⟨g, i * 3, none⟩ = some (.int .i64 (l.getD i (0, 0, 0)).1) ∧ W.cell? ⟨g, i * 3 + 1, none⟩ = some (.int .u16 (l.getD i (0, 0, 0)).2.1) ∧ W.cell? ⟨g, i * 3 + 2, none⟩ = some (.int .u8 (l.getD i (0, 0, 0)).2.2) ∧ W.frozen? ⟨g, i * 3 + 1, none⟩ = false := by
  obtain ⟨cs, hcl, hM, hcc, hf⟩ := Kd.R_elem h (0, 0, 0) (i : Int) (by omega) (by omega)
  have hM2 : kT.M W B (fun k => ok k ∧ k ≠ g) (l.getD i (0, 0, 0)) cs := by
    have := hM
    unfold rdOf at this
    rw [Int.toNat_natCast] at this
    exact this
  obtain rfl := kT_open hM2
  exact ⟨hcc 0 _ rfl, hcc 1 _ rfl, hcc 2 _ rfl, hf 1⟩
theorem putTn {W : World} {B g n cap i : Nat} {ok : Nat → Prop} {l : List ToneT} (h : Kd.R kT 35 W B ok (.slice (some ⟨g, 0, none⟩) n cap) l) (hi : i < n) (y : Int) : Kd.R kT 35 (W.setCell ⟨g, i * 3 + 1, none⟩ (.int .u16 y)) B ok (.slice (some ⟨g, 0, none⟩) n cap) (l.set i ((l.getD i (0, 0, 0)).1, y, (l.getD i (0, 0, 0)).2.2)) := by
  obtain ⟨cs, hcl, hM, hcc, hf⟩ := Kd.R_elem h (0, 0, 0) (i : Int) (by omega) (by omega)
  have hM2 : kT.M W B (fun k => ok k ∧ k ≠ g) (l.getD i (0, 0, 0)) cs := by
    have := hM
    unfold rdOf at this
    rw [Int.toNat_natCast] at this
    exact this
  obtain rfl := kT_open hM2
  have h2 := Kd.R_seg (okp := fun _ => False) (j := 1) (seg := [.int .u16 y]) h (i : Int) (by omega) (by omega) hcl hcc (show 1 + 1 ≤ 3 from by decide) (x' := ((l.getD i (0, 0, 0)).1, y, (l.getD i (0, 0, 0)).2.2)) (kT_mk ((l.getD i (0, 0, 0)).1, y, (l.getD i (0, 0, 0)).2.2)) (fun _ hk => hk.elim)
  rw [Int.toNat_natCast] at h2
  exact h2.1
/-! ### what the law's loops turn -/
def inc (t : ToneT) : ToneT := (t.1, (t.2.1 + 1) % 65536, t.2.2)
def mixT (ts : List ToneT) (i : Nat) : List ToneT := (ts.take i).map inc ++ ts.drop i
theorem mixT_len (ts : List ToneT) (i : Nat) : (mixT ts i).length = ts.length := by simp [mixT]; omega
theorem mixT_get {ts : List ToneT} {i : Nat} (h : i < ts.length) : (mixT ts i).getD i (0, 0, 0) = ts.getD i (0, 0, 0) := by
  unfold mixT
  rw [List.getD_eq_getElem?_getD, List.getElem?_append_right (by simp; omega), List.getD_eq_getElem?_getD]
  simp [Nat.min_eq_left (Nat.le_of_lt h)]
theorem mixT_set {ts : List ToneT} {i : Nat} (h : i < ts.length) : (mixT ts i).set i (inc (ts.getD i (0, 0, 0))) = mixT ts (i + 1) := by
  unfold mixT
  have hl : ((ts.take i).map inc).length = i := by simp; omega
  rw [List.set_append_right _ _ (by omega), hl, Nat.sub_self, List.drop_eq_getElem_cons h, List.set_cons_zero, List.take_succ_eq_append_getElem h, List.map_append, List.append_assoc]
  have e : ts.getD i (0, 0, 0) = ts[i] := by rw [List.getD_eq_getElem?_getD, List.getElem?_eq_getElem h]; rfl
  rw [e]; rfl
theorem mixT_step {ts : List ToneT} {i : Nat} {z : ToneT} (h : i < ts.length) : (mixT ts i ++ [z]).getD i (0, 0, 0) = ts.getD i (0, 0, 0) ∧ (mixT ts i ++ [z]).set i (((mixT ts i ++ [z]).getD i (0, 0, 0)).1, ((ts.getD i (0, 0, 0)).2.1 + 1) % 65536, ((mixT ts i ++ [z]).getD i (0, 0, 0)).2.2) = mixT ts (i + 1) ++ [z] := by
  have h1 : i < (mixT ts i).length := by rw [mixT_len]; exact h
  have h2 : (mixT ts i ++ [z]).getD i (0, 0, 0) = ts.getD i (0, 0, 0) := by
    rw [← mixT_get h, List.getD_eq_getElem?_getD, List.getElem?_append_left h1, List.getD_eq_getElem?_getD]
  rw [h2, List.set_append_left _ _ h1]
  exact ⟨rfl, congrArg (· ++ [z]) (mixT_set h)⟩
def mixB (s : List Int) (i : Nat) : List Int := ((s.take i).map fun x => (x + 1) % 256) ++ s.drop i
theorem mixB_len (s : List Int) (i : Nat) : (mixB s i).length = s.length := by simp [mixB]; omega
theorem mixB_get {s : List Int} {i : Nat} (h : i < s.length) : rd (mixB s i) (i : Int) = rd s (i : Int) := by
  unfold mixB rd
  rw [Int.toNat_natCast, List.getD_eq_getElem?_getD, List.getElem?_append_right (by simp; omega), List.getD_eq_getElem?_getD]
  simp [Nat.min_eq_left (Nat.le_of_lt h)]
theorem mixB_set {s : List Int} {i : Nat} (h : i < s.length) : (mixB s i).set i ((rd s (i : Int) + 1) % 256) = mixB s (i + 1) := by
  unfold mixB
  have hl : ((s.take i).map fun x => (x + 1) % 256).length = i := by simp; omega
  rw [List.set_append_right _ _ (by omega), hl, Nat.sub_self, List.drop_eq_getElem_cons h, List.set_cons_zero, List.take_succ_eq_append_getElem h, List.map_append, List.append_assoc]
  have e : rd s (i : Int) = s[i] := by unfold rd; rw [Int.toNat_natCast, List.getD_eq_getElem?_getD, List.getElem?_eq_getElem h]; rfl
  rw [e]; rfl
theorem mixT_ok {ts : List ToneT} (h : TnW ts) : TnW (mixT ts ts.length) := by
  unfold mixT
  rw [List.take_length, List.drop_length, List.append_nil]
  intro t ht
  obtain ⟨u, hu, rfl⟩ := List.mem_map.1 ht
  have h1 := h u hu
  exact ⟨h1.1, by show 0 ≤ (u.2.1 + 1) % 65536; omega, by show (u.2.1 + 1) % 65536 ≤ 65535; omega, h1.2.2.2⟩
theorem mixB_ok {s : List Int} (h : allB s) : allB (mixB s s.length) := by
  unfold mixB
  rw [List.take_length, List.drop_length, List.append_nil]
  intro t ht
  obtain ⟨u, hu, rfl⟩ := List.mem_map.1 ht
  unfold isB
  omega
/-- what the law keeps: the out's box, its copy's box, the copy's rows with marks behind them -/
structure TdS (w X : World) (V : Array Value) (i0 i1 i2 i3 i4 : Int) (b3 g cap : Nat) (v5 v6 u6 : Value) (s : List Int) (L : List ToneT) : Prop where
  bel : Below w.heap.size w X
  x1 : X.heap[w.heap.size]? = some (.cells V 27 (0, 0))
  x3 : X.heap[b3]? = some (.cells #[.int .i64 i0, .int .i64 i1, .int .i64 i2, .int .i64 i3, .int .i64 i4, v5, v6] 27 (0, 0))
  b3 : w.heap.size < b3
  M : Ap.IsM X (w.heap.size + 1) g cap s
  T : Kd.R kT 35 X (w.heap.size + 1) (fun _ => True) u6 L
namespace TdS
variable {w X X' : World} {V : Array Value} {i0 i1 i2 i3 i4 : Int} {b3 g cap : Nat} {v5 v6 u6 z : Value} {s : List Int} {L : List ToneT}
theorem below (h : TdS w X V i0 i1 i2 i3 i4 b3 g cap v5 v6 u6 s L) (hb : Below X.heap.size X X') : TdS w X' V i0 i1 i2 i3 i4 b3 g cap v5 v6 u6 s L :=
  ⟨h.bel.trans (hb.mono h.bel.size), (hb.block _ (heap_lt h.x1)).trans h.x1, (hb.block _ (heap_lt h.x3)).trans h.x3, h.b3, h.M.below hb, Kd.R_below h.T hb⟩
theorem sz (h : TdS w X V i0 i1 i2 i3 i4 b3 g cap v5 v6 u6 s L) : w.heap.size + 1 ≤ X.heap.size := heap_lt h.x1
theorem g_ne (h : TdS w X V i0 i1 i2 i3 i4 b3 g cap v5 v6 u6 s L) : b3 ≠ g := fun e => by
  obtain ⟨cs, hcs⟩ := Kd.R_typed h.M g rfl
  rw [← e, h.x3] at hcs
  injection hcs with hcs
  injection hcs with _ hcs
  exact absurd hcs (by decide)
theorem put6 (h : TdS w X V i0 i1 i2 i3 i4 b3 g cap v5 v6 u6 s L) : TdS w (X.setCell ⟨b3, 6, none⟩ z) V i0 i1 i2 i3 i4 b3 g cap v5 z u6 s L := by
  have hb := h.b3
  exact ⟨h.bel.setCell (p := ⟨b3, 6, none⟩) (by show w.heap.size ≤ b3; omega) _, (Below.heap_setCell X ⟨b3, 6, none⟩ z _ (show w.heap.size ≠ b3 by omega)).trans h.x1, setH h.x3 6 z, h.b3, Kd.R_set h.M h.x3 (by intro q hq; simp [Kd.int, Kd.scalar] at hq; subst hq; decide) 6 z, Kd.R_set h.T h.x3 (by intro q hq; simp [kT_E] at hq; subst hq; decide) 6 z⟩
theorem withT {l : List ToneT} (h : TdS w X V i0 i1 i2 i3 i4 b3 g cap v5 v6 u6 s L) (hR : Kd.R kT 35 X (w.heap.size + 1) (fun _ => True) z l) : TdS w X V i0 i1 i2 i3 i4 b3 g cap v5 v6 z s l := ⟨h.bel, h.x1, h.x3, h.b3, h.M, hR⟩
theorem tone {g6 n cap6 i : Nat} (h : TdS w X V i0 i1 i2 i3 i4 b3 g cap v5 v6 (.slice (some ⟨g6, 0, none⟩) n cap6) s L) (hi : i < n) (y : Int) : TdS w (X.setCell ⟨g6, i * 3 + 1, none⟩ (.int .u16 y)) V i0 i1 i2 i3 i4 b3 g cap v5 v6 (.slice (some ⟨g6, 0, none⟩) n cap6) s (L.set i ((L.getD i (0, 0, 0)).1, y, (L.getD i (0, 0, 0)).2.2)) := by
  have hg := Kd.R_base h.T g6 rfl
  obtain ⟨cs, hc⟩ := Kd.R_typed h.T g6 rfl
  have hne : b3 ≠ g6 := fun e => by
    rw [← e, h.x3] at hc
    injection hc with hc
    injection hc with _ hc
    exact absurd hc (by decide)
  exact ⟨h.bel.setCell (p := ⟨g6, i * 3 + 1, none⟩) (by show w.heap.size ≤ g6; omega) _, (Below.heap_setCell X ⟨g6, i * 3 + 1, none⟩ _ _ (show w.heap.size ≠ g6 by omega)).trans h.x1, (Below.heap_setCell X ⟨g6, i * 3 + 1, none⟩ _ _ hne).trans h.x3, h.b3, Kd.R_set h.M hc (by intro q hq; simp [Kd.int, Kd.scalar] at hq; subst hq; decide) _ _, putTn h.T hi y⟩
theorem pix {i : Nat} (h : TdS w X V i0 i1 i2 i3 i4 b3 g cap v5 v6 u6 s L) (hi : i < s.length) (y : Int) : TdS w (X.setCell ⟨g, i, none⟩ (.int .u8 y)) V i0 i1 i2 i3 i4 b3 g cap v5 v6 u6 (s.set i y) L := by
  have hg := h.M.base
  obtain ⟨cs, hc⟩ := Kd.R_typed h.M g rfl
  exact ⟨h.bel.setCell (p := ⟨g, i, none⟩) (by show w.heap.size ≤ g; omega) _, (Below.heap_setCell X ⟨g, i, none⟩ _ _ (show w.heap.size ≠ g by omega)).trans h.x1, (Below.heap_setCell X ⟨g, i, none⟩ _ _ h.g_ne).trans h.x3, h.b3, h.M.put hi y, Kd.R_set h.T hc (by intro q hq; simp [kT_E] at hq; subst hq; decide) _ _⟩
end TdS
theorem TdS.start {w Y X : World} {i0 i1 i2 i3 i4 : Int} {a b z : Value} {g cap : Nat} {s : List Int} (hY : Below (w.alloc (.cells #[.int .i64 i0, .int .i64 i1, .int .i64 i2, .int .i64 i3, .int .i64 i4, a, b] 27)).heap.size (w.alloc (.cells #[.int .i64 i0, .int .i64 i1, .int .i64 i2, .int .i64 i3, .int .i64 i4, a, b] 27)) Y) (hM : Ap.IsM X (Y.alloc (.cells #[.int .i64 i0, .int .i64 i1, .int .i64 i2, .int .i64 i3, .int .i64 i4, a, b] 27)).heap.size g cap s) (hX : Below (Y.alloc (.cells #[.int .i64 i0, .int .i64 i1, .int .i64 i2, .int .i64 i3, .int .i64 i4, a, b] 27)).heap.size (Y.alloc (.cells #[.int .i64 i0, .int .i64 i1, .int .i64 i2, .int .i64 i3, .int .i64 i4, a, b] 27)) X) :
    TdS w (X.setCell ⟨Y.heap.size, 5, none⟩ z) #[.int .i64 i0, .int .i64 i1, .int .i64 i2, .int .i64 i3, .int .i64 i4, a, b] i0 i1 i2 i3 i4 Y.heap.size g cap z b (.slice none 0 0) s [] := by
  have h1 := below_alloc (Below.refl w.heap.size w) (.cells #[.int .i64 i0, .int .i64 i1, .int .i64 i2, .int .i64 i3, .int .i64 i4, a, b] 27)
  have hs : (w.alloc (.cells #[.int .i64 i0, .int .i64 i1, .int .i64 i2, .int .i64 i3, .int .i64 i4, a, b] 27)).heap.size = w.heap.size + 1 := by rw [World.size_alloc]
  have hx := World.alloc_heap_new w (.cells #[.int .i64 i0, .int .i64 i1, .int .i64 i2, .int .i64 i3, .int .i64 i4, a, b] 27)
  have hsY := hY.size
  rw [hs] at hsY hY
  have h3 := below_alloc (Below.refl Y.heap.size Y) (.cells #[.int .i64 i0, .int .i64 i1, .int .i64 i2, .int .i64 i3, .int .i64 i4, a, b] 27)
  have hs3 : (Y.alloc (.cells #[.int .i64 i0, .int .i64 i1, .int .i64 i2, .int .i64 i3, .int .i64 i4, a, b] 27)).heap.size = Y.heap.size + 1 := by rw [World.size_alloc]
  have hx3 := World.alloc_heap_new Y (.cells #[.int .i64 i0, .int .i64 i1, .int .i64 i2, .int .i64 i3, .int .i64 i4, a, b] 27)
  have hb1 := h1.trans (hY.mono (by omega))
  have hb3 := hb1.trans (h3.mono (by omega))
  have hb4 := hb3.trans (hX.mono (by omega))
  have e1 := (hX.block _ (by omega)).trans ((h3.block _ (by omega)).trans ((hY.block _ (by omega)).trans hx))
  have e3 := (hX.block _ (by omega)).trans hx3
  have hg := hM.base
  rw [hs3] at hg
  refine ⟨hb4.setCell (p := ⟨Y.heap.size, 5, none⟩) (by show w.heap.size ≤ Y.heap.size; omega) _, (Below.heap_setCell X ⟨Y.heap.size, 5, none⟩ z _ (show w.heap.size ≠ Y.heap.size by omega)).trans e1, setH e3 5 z, by omega, ?_, Kd.R_nil _ _ _ _ _⟩
  exact Kd.R_set (hM.lower (by omega)) e3 (by intro q hq; simp [Kd.int, Kd.scalar] at hq; subst hq; decide) 5 z
theorem kT_lit (w : World) : kT.C (w.alloc (.cells #[.int .i64 777, .int .u16 0, .int .u8 0] 35)) (some ⟨w.heap.size, 0, none⟩) 1 [(777, 0, 0)] := by
  refine ⟨rfl, by decide, fun _ => ⟨_, rfl, fun j p hj => ?_⟩⟩
  match j, hj with
  | 0, hj =>
    obtain rfl : p = (777, 0, 0) := by simpa using hj.symm
    refine ⟨[.int .i64 777, .int .u16 0, .int .u8 0], rfl, ⟨[.int .i64 777], [.int .u16 0, .int .u8 0], rfl, rfl, [.int .u16 0], [.int .u8 0], rfl, rfl, rfl⟩, fun i u hu => ?_⟩
    have hh := World.alloc_heap_new w (.cells #[.int .i64 777, .int .u16 0, .int .u8 0] 35)
    rw [add_plain]
    simp only [World.cell?, hh]
    match i, hu with
    | 0, hu => simpa using hu
    | 1, hu => simpa using hu
    | 2, hu => simpa using hu
theorem lit_grown {w w1 : World} {p : Nat} {v : Value} (h : kT.C w (some ⟨p, 0, none⟩) 1 [(777, 0, 0)]) (hg : w.grownBy w1 v.ownBlock) (hn : ∀ k, some k = v.ownBlock → k ≠ p) : kT.C w1 (some ⟨p, 0, none⟩) 1 [(777, 0, 0)] := by
  obtain ⟨h1, h2, h3⟩ := h
  refine ⟨h1, h2, fun h0 => ?_⟩
  obtain ⟨ad, e, hc⟩ := h3 h0
  refine ⟨ad, e, fun j q hj => ?_⟩
  obtain ⟨cs, hl, hK, hcc⟩ := hc j q hj
  refine ⟨cs, hl, ?_, fun i u hu => ?_⟩
  · obtain ⟨c0, c1, rfl, k0, c2, c3, rfl, k2, k3⟩ := hK
    exact ⟨c0, _, rfl, k0, c2, c3, rfl, k2, k3⟩
  · have h9 := hcc i u hu
    cases e
    rw [← h9]
    refine World.cell?_of_block (hg.block _ (World.block_lt_of_cell? _ _ h9) (fun e' => ?_))
    rw [add_plain] at e'
    exact hn _ e' rfl
set_option maxRecDepth 100000 in
set_option maxHeartbeats 8000000 in
theorem Told {w : World} {A5 A6 : Option Addr} {c5 c6 : Nat} {o : OutP} (hT : Tab w) (hP : Pow w.heap.size w) (h : OutV w A5 c5 A6 c6 o) (hB : OutB o) (hW : TnW o.ts) (b5 : o.scr.length ≤ 100000000) (b6 : o.ts.length ≤ 99999999) :
    Calls Tryd.prog 4 #[outA A5 c5 A6 c6 o] w fun e w' => e = .returned (.bool true) ∧ Below w.heap.size w w' := by
  obtain ⟨i0_, hi, hz0, hz1, hz2⟩ := info_parts infoB
  obtain ⟨i25, hi25, hy0, hy1, hy2⟩ := info_parts infoT
  have kTn : Aside0 (∀ X A n c ts, n = ts.length → n ≤ 100000000 → TnW ts → kT.C X A n ts → Below w.heap.size w X → Calls Tryd.prog 9 #[.slice A n c] X fun e w' => e = .returned (.string (strOfNums (tnsB ts))) ∧ Below X.heap.size X w') := ⟨fun X A n c ts hn hl hw hC hb => Tones hC hn hw hl (fun W' h' => hP W' (hb.trans (h'.mono hb.size)))⟩
  have kRT : Aside0 (∀ X A n c ts, n = ts.length → n ≤ c → n ≤ 100000000 → TnW ts → kT.C X A n ts → Calls Tryd.prog 10 #[.slice A n c] X fun e w' => e = .returned (.string (strOfNums (tnsB ts))) ∧ Below X.heap.size X w') := ⟨fun X A n c ts hn hc hl hw hC => RTones hC hn hc hw hl⟩
  obtain ⟨TS, hTS⟩ : ∃ f : List ToneT → ByteArray, f = fun ts => strOfNums (tnsB ts) := ⟨_, rfl⟩
  obtain ⟨DG, hDG⟩ : ∃ f : List Int → List ToneT → Int, f = fun s ts => sumI [digB { o with scr := s, ts := ts }] := ⟨_, rfl⟩
  have kD : Aside0 (∀ X B5 d5 B6 d6 s ts n5 n6, n5 = s.length → n6 = ts.length → n5 ≤ 100000000 → n6 ≤ 100000000 → allB s → TnW ts → Below w.heap.size w X → n5 ≤ d5 → n6 ≤ d6 → Kd.C (Kd.int .u8) X B5 n5 s → kT.C X B6 n6 ts → Calls Tryd.prog 6 #[.agg #[.int .i64 o.st, .int .i64 o.fl, .int .i64 o.steps, .int .i64 o.spent, .int .i64 o.idle, .slice B5 n5 d5, .slice B6 n6 d6]] X fun e w' => e = .returned (.int .u32 (DG s ts)) ∧ Below X.heap.size X w') := ⟨fun X B5 d5 B6 d6 s ts n5 n6 e5 e6 b5 b6 hs ht hb h5 h6 hC hC6 => by
    rw [hDG]
    subst e5 e6
    exact Digest (w := X) (A5 := B5) (c5 := d5) (A6 := B6) (c6 := d6) (o := { o with scr := s, ts := ts }) (hT.below hb) ⟨h5, h6, hC, hC6, fun t h => ⟨(ht t h).2.1, (ht t h).2.2.1⟩⟩ b5 b6⟩
  have kRD : Aside0 (∀ X B5 d5 B6 d6 s ts n5 n6, n5 = s.length → n6 = ts.length → n5 ≤ 100000000 → n6 ≤ 100000000 → allB s → TnW ts → n5 ≤ d5 → n6 ≤ d6 → Kd.C (Kd.int .u8) X B5 n5 s → kT.C X B6 n6 ts → Calls Tryd.prog 11 #[.agg #[.int .i64 o.st, .int .i64 o.fl, .int .i64 o.steps, .int .i64 o.spent, .int .i64 o.idle, .slice B5 n5 d5, .slice B6 n6 d6]] X fun e w' => e = .returned (.int .u32 (DG s ts)) ∧ Below X.heap.size X w') := ⟨fun X B5 d5 B6 d6 s ts n5 n6 e5 e6 b5 b6 hs ht h5 h6 hC hC6 => by
    rw [hDG]
    subst e5 e6
    exact RDigest (w := X) (A5 := B5) (c5 := d5) (A6 := B6) (c6 := d6) (o := { o with scr := s, ts := ts }) ⟨h5, h6, hC, hC6, fun t h => ⟨(ht t h).2.1, (ht t h).2.2.1⟩⟩ ⟨hs, fun t h => (ht t h).2⟩ b5 b6⟩
  replace kTn : Aside0 (∀ X A n c ts, n = ts.length → n ≤ 100000000 → TnW ts → kT.C X A n ts → Below w.heap.size w X → Calls Tryd.prog 9 #[.slice A n c] X fun e w' => e = .returned (.string (TS ts)) ∧ Below X.heap.size X w') := ⟨by rw [hTS]; exact kTn.out⟩
  replace kRT : Aside0 (∀ X A n c ts, n = ts.length → n ≤ c → n ≤ 100000000 → TnW ts → kT.C X A n ts → Calls Tryd.prog 10 #[.slice A n c] X fun e w' => e = .returned (.string (TS ts)) ∧ Below X.heap.size X w') := ⟨by rw [hTS]; exact kRT.out⟩
  have kRo : Aside0 (∀ W, Below w.heap.size w W → Calls Tryd.prog 8 #[.slice A5 o.scr.length c5] W fun e w' => ∃ g cap, e = .returned (.slice (some ⟨g, 0, none⟩) o.scr.length cap) ∧ Ap.IsM w' W.heap.size g cap o.scr ∧ Below W.heap.size W w') := ⟨fun W hb => Ap.Roomy (Kd.C_below h.s hb) (by omega)⟩
  have hC5 : Aside0 (∀ W, Below w.heap.size w W → Kd.C (Kd.int .u8) W A5 o.scr.length o.scr) := ⟨fun W hb => Kd.C_below h.s hb⟩
  have hC6 : Aside0 (∀ W, Below w.heap.size w W → kT.C W A6 o.ts.length o.ts) := ⟨fun W hb => Kd.C_below h.t hb⟩
  have hl5 := Aside0.mk h.l5
  have hl6 := Aside0.mk h.l6
  have hBs := Aside0.mk hB.s
  have hWW := Aside0.mk hW
  unfold outA
  clear hDG hTS h hB hT hP hW
  obtain ⟨scr, hscr⟩ : ∃ s, o.scr = s := ⟨_, rfl⟩
  obtain ⟨ts, hts⟩ : ∃ s, o.ts = s := ⟨_, rfl⟩
  simp only [hscr] at b5 hC5 hl5 hBs kRo ⊢
  simp only [hts] at b6 hC6 hl6 hWW ⊢
  clear hscr hts
  generalize o.st = i0 at *
  generalize o.fl = i1 at *
  generalize o.steps = i2 at *
  generalize o.spent = i3 at *
  generalize o.idle = i4 at *
  obtain ⟨n5, hn5⟩ : ∃ n, scr.length = n := ⟨_, rfl⟩
  obtain ⟨n6, hn6⟩ : ∃ n, ts.length = n := ⟨_, rfl⟩
  simp only [hn5] at b5 hC5 hl5 kRo ⊢
  simp only [hn6] at b6 hC6 hl6 ⊢
  have hn55 := Aside0.mk hn5
  have hn66 := Aside0.mk hn6
  have hs2 := Aside0.mk b6
  have hs1 := Aside0.mk b5
  have hs6 : Aside0 (n6 ≤ 100000000) := ⟨by omega⟩
  clear hn5 hn6 b5 b6
  go_enter Tryd.func4, Tryd.ntmps4
  go_upto_region 5 with (first | (go_at_call 7; ((with_reducible refine (P.fixed_at _).mono ?_); rintro e Y ⟨rfl, hb_⟩; have hY := Aside0.mk hb_; have hx1_ := (hb_.block _ (heap_lt (World.alloc_heap_new w (.cells #[.int .i64 i0, .int .i64 i1, .int .i64 i2, .int .i64 i3, .int .i64 i4, .slice A5 n5 c5, .slice A6 n6 c6] 27)))).trans (World.alloc_heap_new w (.cells #[.int .i64 i0, .int .i64 i1, .int .i64 i2, .int .i64 i3, .int .i64 i4, .slice A5 n5 c5, .slice A6 n6 c6] 27)); have hx1 := Aside0.mk hx1_; have hBY := Aside0.mk ((below_alloc (Below.refl w.heap.size w) (.cells #[.int .i64 i0, .int .i64 i1, .int .i64 i2, .int .i64 i3, .int .i64 i4, .slice A5 n5 c5, .slice A6 n6 c6] 27)).trans (hb_.mono (by rw [World.size_alloc]; omega))); have hBX := Aside0.mk (hBY.out.trans ((below_alloc (Below.refl Y.heap.size Y) (.cells #[.int .i64 i0, .int .i64 i1, .int .i64 i2, .int .i64 i3, .int .i64 i4, .slice A5 n5 c5, .slice A6 n6 c6] 27)).mono hBY.out.size)); obtain ⟨q0, q1, q2, q3, q4, q5, q6⟩ := box7 hx1_; have y5 : (Y.alloc (.cells #[.int .i64 i0, .int .i64 i1, .int .i64 i2, .int .i64 i3, .int .i64 i4, .slice A5 n5 c5, .slice A6 n6 c6] 27)).cell? ⟨w.heap.size, 5, none⟩ = some (.slice A5 n5 c5) := (cellH (((below_alloc (Below.refl Y.heap.size Y) (.cells #[.int .i64 i0, .int .i64 i1, .int .i64 i2, .int .i64 i3, .int .i64 i4, .slice A5 n5 c5, .slice A6 n6 c6] 27)).block _ (heap_lt hx1_)).trans hx1_)).trans rfl; clear hb_ hx1_)) | (go_at_call 8; ((with_reducible refine (kRo.out _ hBX.out).mono ?_); rintro e X ⟨g, cap, rfl, hM_, hb_⟩; have hS1 := Aside0.mk (TdS.start (z := .slice (some ⟨g, 0, none⟩) n5 cap) hY.out hM_ hb_); have hx3_ := (hb_.block _ (heap_lt (World.alloc_heap_new Y (.cells #[.int .i64 i0, .int .i64 i1, .int .i64 i2, .int .i64 i3, .int .i64 i4, .slice A5 n5 c5, .slice A6 n6 c6] 27)))).trans (World.alloc_heap_new Y (.cells #[.int .i64 i0, .int .i64 i1, .int .i64 i2, .int .i64 i3, .int .i64 i4, .slice A5 n5 c5, .slice A6 n6 c6] 27)); have y55 : X.cell? ⟨Y.heap.size, 5, none⟩ = some (.slice A5 n5 c5) := (cellH hx3_).trans rfl; have f55 : X.frozen? ⟨Y.heap.size, 5, none⟩ = false := (by simp [World.frozen?, hx3_]); clear hM_ hb_ hx3_)))
  obtain ⟨b3, hb3⟩ : ∃ b3, b3 = Y.heap.size := ⟨_, rfl⟩
  rw [← hb3] at hS1 y55 f55 ⊢
  obtain ⟨W2, hW2⟩ : ∃ W2, W2 = X.setCell ⟨b3, 5, none⟩ (.slice (some ⟨g, 0, none⟩) n5 cap) := ⟨_, rfl⟩
  rw [← hW2] at hS1 ⊢
  clear hW2 hb3 y55 f55 q0 q1 q2 q3 q4 q5 q6 y5 hY hx1 hBY hBX kRo
  have hS0 : Aside0 (∀ u : World, Below W2.heap.size W2 u → u.cell? ⟨w.heap.size, 6, none⟩ = some (.slice A6 n6 c6)) := ⟨fun u hb => (cellH (hS1.out.below hb).x1).trans rfl⟩
  refine start_ (n := 13) (S := (fun w' => w'.cell? ⟨w.heap.size, 6, none⟩ = some (.slice A6 n6 c6))) (ds := [12]) #[false, false, false, false, false, false, false, false, false, false, false, false, false] (by kernel_rfl) rfl rfl (hS0.out _ (below_drew (Below.refl _ _))) (fun hHeld => ?_)
  refine pure_ (i := 1) (N := some 14) (v := ?_) (a' := ?_) #[false, true, false, false, false, false, false, false, false, false, false, false, false] rfl rfl (by kernel_rfl) (fun _ _ _ h => h) (Or.inl ⟨by rfl, ?_⟩) ?_ ?_
  rotate_left
  · intro w'
    go_simp
    with_reducible rfl
  rotate_left
  · simp only [Act.put, List.setIfInBounds_toArray, List.set_cons_zero, List.set_cons_succ, i64_w, i32_w]
    rfl
  refine take_ (i := 2) (N := some 15) (v := ?_) (a' := ?_) #[false, true, true, false, false, false, false, false, false, false, false, false, false] rfl rfl (by kernel_rfl) (fun _ _ _ h => h) (Or.inl ⟨by rfl, ?_⟩) hHeld ?_ ?_
  rotate_left
  · rintro w' hSw
    go_simp
    with_reducible rfl
  rotate_left
  · simp only [Act.put, List.setIfInBounds_toArray, List.set_cons_zero, List.set_cons_succ, i64_w, i32_w]
    rfl
  refine pure_ (i := 4) (N := some 17) (v := ?_) (a' := ?_) #[false, true, true, false, true, false, false, false, false, false, false, false, false] rfl rfl (by kernel_rfl) (fun _ _ _ h => h) (Or.inl ⟨by rfl, ?_⟩) ?_ ?_
  rotate_left
  · intro w'
    go_simp
    with_reducible rfl
  rotate_left
  · simp only [Act.put, List.setIfInBounds_toArray, List.set_cons_zero, List.set_cons_succ, i64_w, i32_w]
    rfl
  refine pure_ (i := 7) (N := some 20) (v := ?_) (a' := ?_) #[false, true, true, false, true, false, false, true, false, false, false, false, false] rfl rfl (by kernel_rfl) (fun _ _ _ h => h) (Or.inl ⟨by rfl, ?_⟩) ?_ ?_
  rotate_left
  · intro w'
    go_simp
    with_reducible rfl
  rotate_left
  · simp only [Act.put, List.setIfInBounds_toArray, List.set_cons_zero, List.set_cons_succ, i64_w, i32_w]
    rfl
  refine take_ (i := 8) (N := some 21) (v := ?_) (a' := ?_) #[false, true, true, false, true, false, false, true, true, false, false, false, false] rfl rfl (by kernel_rfl) (fun _ _ _ h => h) (Or.inl ⟨by rfl, ?_⟩) hHeld ?_ ?_
  rotate_left
  · rintro w' hSw
    go_simp
    with_reducible rfl
  rotate_left
  · simp only [Act.put, List.setIfInBounds_toArray, List.set_cons_zero, List.set_cons_succ, i64_w, i32_w]
    rfl
  refine pure_ (i := 9) (N := some 22) (v := ?_) (a' := ?_) #[false, true, true, false, true, false, false, true, true, true, false, false, false] rfl rfl (by kernel_rfl) (fun _ _ _ h => h) (Or.inl ⟨by rfl, ?_⟩) ?_ ?_
  rotate_left
  · intro w'
    go_simp
    with_reducible rfl
  rotate_left
  · simp only [Act.put, List.setIfInBounds_toArray, List.set_cons_zero, List.set_cons_succ, i64_w, i32_w]
    rfl
  refine join_ (σ := Option Addr × Nat × Value × Value × Value) 3 #[true, true, true, true, true, true, true, true, true, true, false, false, false] (fun s => [(13, s.2.2.1), (16, s.2.2.2.1), (18, s.2.2.2.2), (19, .slice s.1 (n6 + 1) s.2.1)]) (fun s X => Below W2.heap.size W2 X ∧ Kd.R kT 35 X W2.heap.size (fun _ => True) (.slice s.1 (n6 + 1) s.2.1) (ts ++ [(777, 0, 0)])) ?_ ?_
  rotate_left
  · intro hCont
    have hb : Aside0 (Below W2.heap.size W2 W2.drew) := ⟨below_drew (Below.refl _ _)⟩
    clear hHeld
    have hHeld := hS0.out _ hb.out
    generalize W2.drew = u0 at hb hHeld ⊢
    refine two_ (i := 0) (j := 5) (Ni := some 13) (Nj := some 18) #[true, true, true, false, true, false, false, true, true, true, false, false, false] #[false, true, true, false, true, true, false, true, true, true, false, false, false] rfl rfl rfl rfl (by kernel_rfl) (by decide) (by decide) (fun K hK => ?_) (fun K hK => ?_)
    · refine value_ (v := .slice (some ⟨u0.heap.size, 0, none⟩) 0 0) (w1 := u0.alloc (.cells #[] 35)) (by rfl) rfl (by go_simp) ?_
      have hR := Aside0.mk (Kd.R_lower (kT_made u0) hb.out.size)
      have hb_ := below_alloc (Below.refl u0.heap.size u0) (.cells #[] 35)
      have hb := Aside0.mk (hb.out.trans (hb_.mono hb.out.size))
      clear hb_
      obtain ⟨p0, hp0⟩ : ∃ p0, p0 = u0.heap.size := ⟨_, rfl⟩
      rw [← hp0] at hR ⊢
      clear hp0
      generalize u0.alloc (.cells #[] 35) = u1 at hb hR ⊢
      refine hK.out _ _ (hS0.out _ hb.out) (fun hHeld => ?_)
      clear hK
      refine norm_ (a' := ?_) ?_ ?_
      rotate_left
      · show Act.put _ (some 13) _ = _
        simp only [Act.put, List.setIfInBounds_toArray, List.set_cons_zero, List.set_cons_succ, i64_w, i32_w]
        rfl
      refine two_ (i := 3) (j := 5) (Ni := some 16) (Nj := some 18) #[true, true, true, true, true, false, false, true, true, true, false, false, false] #[true, true, true, false, true, true, false, true, true, true, false, false, false] rfl rfl rfl rfl (by kernel_rfl) (by decide) (by decide) (fun K hK => ?_) (fun K hK => ?_)
      · refine Kd.R_append_rows_step kT (w0 := W2) W2.heap.size (by rfl) (.tmp 13) (.tmp 15) 25 35 (.agg #[.int .i64 0, .int .u16 0, .int .u8 0]) 16 rfl Tryd.underlying25 infoT rfl (by decide) (by decide) (.slice (some ⟨p0, 0, none⟩) 0 0) [] ts A6 n6 c6 (fun _ => True) (fun _ => False) rfl rfl hR.out (hC6.out _ (hS1.out.bel.trans (hb.out.mono hS1.out.bel.size))) (fun x cs hK => kT_KM hK) (fun k hk => hk.elim) (fun _ _ => trivial) hb.out hb.out.size (by have := hs2.out; show (0 + n6) * 16 ≤ _; omega) ?_
        intro v1 u2 hR5 hb5 hg5 _
        rw [List.nil_append] at hR5
        have hR := Aside0.mk hR5
        have hb := Aside0.mk hb5
        obtain ⟨A1, d1, rfl⟩ := Kd.R_slice hR.out
        rw [hn66.out] at hR ⊢
        clear hR5 hb5 hg5
        refine hK.out _ _ (hS0.out _ hb.out) (fun hHeld => ?_)
        clear hK
        refine norm_ (a' := ?_) ?_ ?_
        rotate_left
        · show Act.put _ (some 16) _ = _
          simp only [Act.put, List.setIfInBounds_toArray, List.set_cons_zero, List.set_cons_succ, i64_w, i32_w]
          rfl
        refine one_ (i := 5) (N := some 18) #[true, true, true, true, true, true, false, true, true, true, false, false, false] rfl rfl (by kernel_rfl) (by decide) (fun K hK => ?_)
        refine value_ (v := .slice (some ⟨u2.heap.size, 0, none⟩) 1 1) (w1 := u2.alloc (.cells #[.int .i64 777, .int .u16 0, .int .u8 0] 35)) (by rfl) rfl (by go_simp) ?_
        have hL := Aside0.mk (kT_lit u2)
        have hb_ := below_alloc (Below.refl u2.heap.size u2) (.cells #[.int .i64 777, .int .u16 0, .int .u8 0] 35)
        have hR := Aside0.mk (Kd.R_below hR.out hb_)
        have hb := Aside0.mk (hb.out.trans (hb_.mono hb.out.size))
        clear hb_
        obtain ⟨p5, hp5⟩ : ∃ p5, p5 = u2.heap.size := ⟨_, rfl⟩
        rw [← hp5] at hL ⊢
        clear hp5
        generalize u2.alloc (.cells #[.int .i64 777, .int .u16 0, .int .u8 0] 35) = u3 at hb hL hR ⊢
        refine hK.out _ _ (hS0.out _ hb.out) (fun hHeld => ?_)
        clear hK
        refine norm_ (a' := ?_) ?_ ?_
        rotate_left
        · show Act.put _ (some 18) _ = _
          simp only [Act.put, List.setIfInBounds_toArray, List.set_cons_zero, List.set_cons_succ, i64_w, i32_w]
          rfl
        refine one_ (i := 6) (N := some 19) #[true, true, true, true, true, true, true, true, true, true, false, false, false] rfl rfl (by kernel_rfl) (by decide) (fun K hK => ?_)
        refine Kd.R_append_rows_step kT (w0 := W2) W2.heap.size (by rfl) (.tmp 16) (.tmp 18) 25 35 (.agg #[.int .i64 0, .int .u16 0, .int .u8 0]) 16 rfl Tryd.underlying25 infoT rfl (by decide) (by decide) (.slice A1 n6 d1) ts [(777, 0, 0)] (some ⟨p5, 0, none⟩) 1 1 (fun _ => True) (fun _ => False) rfl rfl hR.out hL.out (fun x cs hK => kT_KM hK) (fun k hk => hk.elim) (fun _ _ => trivial) hb.out hb.out.size (by have := hs2.out; have := hn66.out; omega) ?_
        intro v1 u4 hR5 hb5 hg5 _
        have hR := Aside0.mk hR5
        have hb := Aside0.mk hb5
        obtain ⟨B2, d2, rfl⟩ := Kd.R_slice hR.out
        rw [show (ts ++ [((777 : Int), (0 : Int), (0 : Int))]).length = n6 + 1 by rw [List.length_append, hn66.out]; rfl] at hR ⊢
        clear hR5 hb5 hg5
        refine hK.out _ _ (hS0.out _ hb.out) (fun hHeld => ?_)
        clear hK
        refine norm_ (a' := ?_) ?_ ?_
        rotate_left
        · show Act.put _ (some 19) _ = _
          simp only [Act.put, List.setIfInBounds_toArray, List.set_cons_zero, List.set_cons_succ, i64_w, i32_w]
          rfl
        exact norm_ (by first | (simp only [putAll, Act.put, List.setIfInBounds_toArray, List.set_cons_zero, List.set_cons_succ]; done) | (simp only [putAll, Act.put, List.setIfInBounds_toArray, List.set_cons_zero, List.set_cons_succ]; rfl)) (hCont (B2, d2, .slice (some ⟨p0, 0, none⟩) 0 0, .slice A1 n6 d1, .slice (some ⟨p5, 0, none⟩) 1 1) _ ⟨hb.out, hR.out⟩)
      · refine value_ (v := .slice (some ⟨u1.heap.size, 0, none⟩) 1 1) (w1 := u1.alloc (.cells #[.int .i64 777, .int .u16 0, .int .u8 0] 35)) (by rfl) rfl (by go_simp) ?_
        have hL := Aside0.mk (kT_lit u1)
        have hb_ := below_alloc (Below.refl u1.heap.size u1) (.cells #[.int .i64 777, .int .u16 0, .int .u8 0] 35)
        have hlp : Aside0 (∀ k, some k = (Value.slice (some ⟨p0, 0, none⟩) 0 0).ownBlock → k ≠ u1.heap.size) := ⟨fun k hk e => by have := Kd.R_lt hR.out k hk.symm; omega⟩
        have hR := Aside0.mk (Kd.R_below hR.out hb_)
        have hb := Aside0.mk (hb.out.trans (hb_.mono hb.out.size))
        clear hb_
        obtain ⟨p5, hp5⟩ : ∃ p5, p5 = u1.heap.size := ⟨_, rfl⟩
        rw [← hp5] at hL hlp ⊢
        clear hp5
        generalize u1.alloc (.cells #[.int .i64 777, .int .u16 0, .int .u8 0] 35) = u5 at hb hL hR ⊢
        refine hK.out _ _ (hS0.out _ hb.out) (fun hHeld => ?_)
        clear hK
        refine norm_ (a' := ?_) ?_ ?_
        rotate_left
        · show Act.put _ (some 18) _ = _
          simp only [Act.put, List.setIfInBounds_toArray, List.set_cons_zero, List.set_cons_succ, i64_w, i32_w]
          rfl
        refine one_ (i := 3) (N := some 16) #[true, true, true, true, true, true, false, true, true, true, false, false, false] rfl rfl (by kernel_rfl) (by decide) (fun K hK => ?_)
        refine Kd.R_append_rows_step kT (w0 := W2) W2.heap.size (by rfl) (.tmp 13) (.tmp 15) 25 35 (.agg #[.int .i64 0, .int .u16 0, .int .u8 0]) 16 rfl Tryd.underlying25 infoT rfl (by decide) (by decide) (.slice (some ⟨p0, 0, none⟩) 0 0) [] ts A6 n6 c6 (fun _ => True) (fun _ => False) rfl rfl hR.out (hC6.out _ (hS1.out.bel.trans (hb.out.mono hS1.out.bel.size))) (fun x cs hK => kT_KM hK) (fun k hk => hk.elim) (fun _ _ => trivial) hb.out hb.out.size (by have := hs2.out; show (0 + n6) * 16 ≤ _; omega) ?_
        intro v1 u6 hR5 hb5 hg5 _
        have hL := Aside0.mk (lit_grown hL.out hg5 hlp.out)
        rw [List.nil_append] at hR5
        have hR := Aside0.mk hR5
        have hb := Aside0.mk hb5
        obtain ⟨A1, d1, rfl⟩ := Kd.R_slice hR.out
        rw [hn66.out] at hR ⊢
        clear hR5 hb5 hg5
        refine hK.out _ _ (hS0.out _ hb.out) (fun hHeld => ?_)
        clear hK
        refine norm_ (a' := ?_) ?_ ?_
        rotate_left
        · show Act.put _ (some 16) _ = _
          simp only [Act.put, List.setIfInBounds_toArray, List.set_cons_zero, List.set_cons_succ, i64_w, i32_w]
          rfl
        refine one_ (i := 6) (N := some 19) #[true, true, true, true, true, true, true, true, true, true, false, false, false] rfl rfl (by kernel_rfl) (by decide) (fun K hK => ?_)
        refine Kd.R_append_rows_step kT (w0 := W2) W2.heap.size (by rfl) (.tmp 16) (.tmp 18) 25 35 (.agg #[.int .i64 0, .int .u16 0, .int .u8 0]) 16 rfl Tryd.underlying25 infoT rfl (by decide) (by decide) (.slice A1 n6 d1) ts [(777, 0, 0)] (some ⟨p5, 0, none⟩) 1 1 (fun _ => True) (fun _ => False) rfl rfl hR.out hL.out (fun x cs hK => kT_KM hK) (fun k hk => hk.elim) (fun _ _ => trivial) hb.out hb.out.size (by have := hs2.out; have := hn66.out; omega) ?_
        intro v1 u7 hR5 hb5 hg5 _
        have hR := Aside0.mk hR5
        have hb := Aside0.mk hb5
        obtain ⟨B2, d2, rfl⟩ := Kd.R_slice hR.out
        rw [show (ts ++ [((777 : Int), (0 : Int), (0 : Int))]).length = n6 + 1 by rw [List.length_append, hn66.out]; rfl] at hR ⊢
        clear hR5 hb5 hg5
        refine hK.out _ _ (hS0.out _ hb.out) (fun hHeld => ?_)
        clear hK
        refine norm_ (a' := ?_) ?_ ?_
        rotate_left
        · show Act.put _ (some 19) _ = _
          simp only [Act.put, List.setIfInBounds_toArray, List.set_cons_zero, List.set_cons_succ, i64_w, i32_w]
          rfl
        exact norm_ (by first | (simp only [putAll, Act.put, List.setIfInBounds_toArray, List.set_cons_zero, List.set_cons_succ]; done) | (simp only [putAll, Act.put, List.setIfInBounds_toArray, List.set_cons_zero, List.set_cons_succ]; rfl)) (hCont (B2, d2, .slice (some ⟨p0, 0, none⟩) 0 0, .slice A1 n6 d1, .slice (some ⟨p5, 0, none⟩) 1 1) _ ⟨hb.out, hR.out⟩)
    · refine value_ (v := .slice (some ⟨u0.heap.size, 0, none⟩) 1 1) (w1 := u0.alloc (.cells #[.int .i64 777, .int .u16 0, .int .u8 0] 35)) (by rfl) rfl (by go_simp) ?_
      have hL := Aside0.mk (kT_lit u0)
      have hb_ := below_alloc (Below.refl u0.heap.size u0) (.cells #[.int .i64 777, .int .u16 0, .int .u8 0] 35)
      have hnw := Aside0.mk (Nat.lt_of_lt_of_le (Nat.lt_succ_self u0.heap.size) (by rw [World.size_alloc]; exact Nat.le_refl _ : u0.heap.size + 1 ≤ (u0.alloc (.cells #[.int .i64 777, .int .u16 0, .int .u8 0] 35)).heap.size))
      have hb := Aside0.mk (hb.out.trans (hb_.mono hb.out.size))
      clear hb_
      obtain ⟨p5, hp5⟩ : ∃ p5, p5 = u0.heap.size := ⟨_, rfl⟩
      rw [← hp5] at hL hnw ⊢
      clear hp5
      generalize u0.alloc (.cells #[.int .i64 777, .int .u16 0, .int .u8 0] 35) = u8 at hb hL hnw ⊢
      refine hK.out _ _ (hS0.out _ hb.out) (fun hHeld => ?_)
      clear hK
      refine norm_ (a' := ?_) ?_ ?_
      rotate_left
      · show Act.put _ (some 18) _ = _
        simp only [Act.put, List.setIfInBounds_toArray, List.set_cons_zero, List.set_cons_succ, i64_w, i32_w]
        rfl
      refine one_ (i := 0) (N := some 13) #[true, true, true, false, true, true, false, true, true, true, false, false, false] rfl rfl (by kernel_rfl) (by decide) (fun K hK => ?_)
      refine value_ (v := .slice (some ⟨u8.heap.size, 0, none⟩) 0 0) (w1 := u8.alloc (.cells #[] 35)) (by rfl) rfl (by go_simp) ?_
      have hR := Aside0.mk (Kd.R_lower (kT_made u8) hb.out.size)
      have hb_ := below_alloc (Below.refl u8.heap.size u8) (.cells #[] 35)
      have hL := Aside0.mk (Kd.C_below hL.out hb_)
      have hb := Aside0.mk (hb.out.trans (hb_.mono hb.out.size))
      clear hb_
      have hlp : Aside0 (∀ k, some k = (Value.slice (some ⟨u8.heap.size, 0, none⟩) 0 0).ownBlock → k ≠ p5) := ⟨fun k hk e => by have := hnw.out; simp [Value.ownBlock] at hk; omega⟩
      obtain ⟨p0, hp0⟩ : ∃ p0, p0 = u8.heap.size := ⟨_, rfl⟩
      rw [← hp0] at hR hlp ⊢
      clear hp0
      generalize u8.alloc (.cells #[] 35) = u9 at hb hR hL ⊢
      refine hK.out _ _ (hS0.out _ hb.out) (fun hHeld => ?_)
      clear hK
      refine norm_ (a' := ?_) ?_ ?_
      rotate_left
      · show Act.put _ (some 13) _ = _
        simp only [Act.put, List.setIfInBounds_toArray, List.set_cons_zero, List.set_cons_succ, i64_w, i32_w]
        rfl
      refine one_ (i := 3) (N := some 16) #[true, true, true, true, true, true, false, true, true, true, false, false, false] rfl rfl (by kernel_rfl) (by decide) (fun K hK => ?_)
      refine Kd.R_append_rows_step kT (w0 := W2) W2.heap.size (by rfl) (.tmp 13) (.tmp 15) 25 35 (.agg #[.int .i64 0, .int .u16 0, .int .u8 0]) 16 rfl Tryd.underlying25 infoT rfl (by decide) (by decide) (.slice (some ⟨p0, 0, none⟩) 0 0) [] ts A6 n6 c6 (fun _ => True) (fun _ => False) rfl rfl hR.out (hC6.out _ (hS1.out.bel.trans (hb.out.mono hS1.out.bel.size))) (fun x cs hK => kT_KM hK) (fun k hk => hk.elim) (fun _ _ => trivial) hb.out hb.out.size (by have := hs2.out; show (0 + n6) * 16 ≤ _; omega) ?_
      intro v1 u10 hR5 hb5 hg5 _
      have hL := Aside0.mk (lit_grown hL.out hg5 hlp.out)
      rw [List.nil_append] at hR5
      have hR := Aside0.mk hR5
      have hb := Aside0.mk hb5
      obtain ⟨A1, d1, rfl⟩ := Kd.R_slice hR.out
      rw [hn66.out] at hR ⊢
      clear hR5 hb5 hg5
      refine hK.out _ _ (hS0.out _ hb.out) (fun hHeld => ?_)
      clear hK
      refine norm_ (a' := ?_) ?_ ?_
      rotate_left
      · show Act.put _ (some 16) _ = _
        simp only [Act.put, List.setIfInBounds_toArray, List.set_cons_zero, List.set_cons_succ, i64_w, i32_w]
        rfl
      refine one_ (i := 6) (N := some 19) #[true, true, true, true, true, true, true, true, true, true, false, false, false] rfl rfl (by kernel_rfl) (by decide) (fun K hK => ?_)
      refine Kd.R_append_rows_step kT (w0 := W2) W2.heap.size (by rfl) (.tmp 16) (.tmp 18) 25 35 (.agg #[.int .i64 0, .int .u16 0, .int .u8 0]) 16 rfl Tryd.underlying25 infoT rfl (by decide) (by decide) (.slice A1 n6 d1) ts [(777, 0, 0)] (some ⟨p5, 0, none⟩) 1 1 (fun _ => True) (fun _ => False) rfl rfl hR.out hL.out (fun x cs hK => kT_KM hK) (fun k hk => hk.elim) (fun _ _ => trivial) hb.out hb.out.size (by have := hs2.out; have := hn66.out; omega) ?_
      intro v1 u11 hR5 hb5 hg5 _
      have hR := Aside0.mk hR5
      have hb := Aside0.mk hb5
      obtain ⟨B2, d2, rfl⟩ := Kd.R_slice hR.out
      rw [show (ts ++ [((777 : Int), (0 : Int), (0 : Int))]).length = n6 + 1 by rw [List.length_append, hn66.out]; rfl] at hR ⊢
      clear hR5 hb5 hg5
      refine hK.out _ _ (hS0.out _ hb.out) (fun hHeld => ?_)
      clear hK
      refine norm_ (a' := ?_) ?_ ?_
      rotate_left
      · show Act.put _ (some 19) _ = _
        simp only [Act.put, List.setIfInBounds_toArray, List.set_cons_zero, List.set_cons_succ, i64_w, i32_w]
        rfl
      exact norm_ (by first | (simp only [putAll, Act.put, List.setIfInBounds_toArray, List.set_cons_zero, List.set_cons_succ]; done) | (simp only [putAll, Act.put, List.setIfInBounds_toArray, List.set_cons_zero, List.set_cons_succ]; rfl)) (hCont (B2, d2, .slice (some ⟨p0, 0, none⟩) 0 0, .slice A1 n6 d1, .slice (some ⟨p5, 0, none⟩) 1 1) _ ⟨hb.out, hR.out⟩)
  rintro ⟨B2, d2, y12, y15, y17⟩ X3 ⟨hbX_, hRX_⟩
  dsimp only at hRX_
  have hS2 := Aside0.mk ((hS1.out.below hbX_).withT (Kd.R_lower hRX_ (hS1.out.sz)))
  have hd2 := (Kd.R_reads' hRX_).2.1
  obtain ⟨g6, cap6_, e_, _⟩ := Kd.R_form hRX_ (by simp)
  injection e_ with e1_ e2_ e3_
  subst e1_
  clear e2_ e3_
  have qs := Ap.cut_cap (P := Tryd.prog) 25 35 .i64 Tryd.underlying25 hi25 (some ⟨g6, 0, none⟩) (n6 + 1) d2 n6 (by omega) (by omega)
  rw [Int.toNat_natCast] at qs
  have g2 := (cellH (o := 6) hS2.out.x3).trans rfl
  have f2 : X3.frozen? ⟨b3, 6, none⟩ = false := by simp [World.frozen?, hS2.out.x3]
  clear hbX_ hRX_
  refine norm_ (a' := ?_) ?_ ?_
  rotate_left
  · simp only [putAll, Act.put, List.setIfInBounds_toArray, List.set_cons_zero, List.set_cons_succ]
    rfl
  refine pure_ (i := 10) (N := some 23) (v := ?_) (a' := ?_) #[true, true, true, true, true, true, true, true, true, true, true, false, false] rfl rfl (by kernel_rfl) (fun _ _ _ h => h) (Or.inl ⟨by rfl, ?_⟩) ?_ ?_
  rotate_left
  · intro w'
    go_simp
    with_reducible rfl
  rotate_left
  · simp only [Act.put, List.setIfInBounds_toArray, List.set_cons_zero, List.set_cons_succ, i64_w, i32_w]
    rfl
  refine pure_ (i := 11) (N := some 24) (v := ?_) (a' := ?_) #[true, true, true, true, true, true, true, true, true, true, true, true, false] rfl rfl (by kernel_rfl) (fun _ _ _ h => h) (Or.inl ⟨by rfl, ?_⟩) ?_ ?_
  rotate_left
  · intro w'
    go_simp
    with_reducible rfl
  rotate_left
  · simp only [Act.put, List.setIfInBounds_toArray, List.set_cons_zero, List.set_cons_succ, i64_w, i32_w]
    rfl
  refine last_ (i := 12) (N := none) #[true, true, true, true, true, true, true, true, true, true, true, true, true] rfl rfl (by kernel_rfl) (by decide) (fun K hK => ?_)
  refine skip_ (w1 := X3.setCell ⟨b3, 6, none⟩ (.slice (some ⟨g6, 0, none⟩) n6 d2)) (by rfl) rfl (by go_simp) ?_
  refine hK.out _ _ ?_
  clear hK
  refine done_ (by kernel_rfl) ?_
  have hS3 := Aside0.mk (hS2.out.put6 (z := .slice (some ⟨g6, 0, none⟩) n6 d2))
  obtain ⟨W3, hW3⟩ : ∃ W3, W3 = X3.setCell ⟨b3, 6, none⟩ (.slice (some ⟨g6, 0, none⟩) n6 d2) := ⟨_, rfl⟩
  rw [← hW3] at hS3 ⊢
  clear hW3 hS1 hS2 hS0 g2 f2 qs
  have hTx : Aside0 (∀ u : World, Below W3.heap.size W3 u → kT.C u (some ⟨g6, 0, none⟩) n6 ts ∧ Kd.C (Kd.int .u8) u (some ⟨g, 0, none⟩) n5 scr) := ⟨fun u hb => by
    have hT := (hS3.out.below hb).T
    have h2 := (Kd.R_reads' hT).2.2
    have h3 := Kd.C_take (m := n6) h2 (by simp [hn66.out])
    rw [List.take_left' hn66.out] at h3
    have h4 := (hS3.out.below hb).M.c
    rw [hn55.out] at h4
    exact ⟨by first | exact h3 | (rw [hn66.out] at h3; exact h3), h4⟩⟩
  have hS6 : Aside0 (∀ u : World, Below W3.heap.size W3 u → u.heap[w.heap.size]? = some (.cells #[.int .i64 i0, .int .i64 i1, .int .i64 i2, .int .i64 i3, .int .i64 i4, .slice A5 n5 c5, .slice A6 n6 c6] 27 (0, 0)) ∧ u.heap[b3]? = some (.cells #[.int .i64 i0, .int .i64 i1, .int .i64 i2, .int .i64 i3, .int .i64 i4, .slice (some ⟨g, 0, none⟩) n5 cap, .slice (some ⟨g6, 0, none⟩) n6 d2] 27 (0, 0)) ∧ u.cell? ⟨g6, n6 * 3, none⟩ = some (.int .i64 777)) := ⟨fun u hb => by
    have h3 := hS3.out.below hb
    have h4 := (atTn h3.T (i := n6) (by omega)).1
    rw [show (ts ++ [((777 : Int), (0 : Int), (0 : Int))]).getD n6 (0, 0, 0) = (777, 0, 0) by rw [List.getD_eq_getElem?_getD, List.getElem?_append_right (by rw [hn66.out]; exact Nat.le_refl _), hn66.out, Nat.sub_self]; rfl] at h4
    exact ⟨h3.x1, h3.x3, h4⟩⟩
  have kWh : Aside0 (∀ u : World, Below W3.heap.size W3 u → Calls Tryd.prog 13 #[.slice (some ⟨g, 0, none⟩) n5 cap, .slice A5 n5 c5] u fun e w' => e = .returned (.bool true) ∧ u = w') := ⟨fun u hb => by
    have h := Ap.Whole (c := c5) (hS3.out.below hb).M (by rw [hn55.out]; exact hC5.out _ (hS3.out.below hb).bel) (by have := hs1.out; have := hn55.out; omega)
    rw [hn55.out] at h
    exact h⟩
  have hd6 : Aside0 (n6 ≤ d2) := ⟨by omega⟩
  have hcap : Aside0 (n5 ≤ cap) := ⟨by have := hS3.out.M.len; rw [hn55.out] at this; omega⟩
  have hb0 := Aside0.mk (below_drew (Below.refl W3.heap.size W3))
  have qs6 := Ap.cut_cap (P := Tryd.prog) 25 35 .i64 Tryd.underlying25 hi25 (some ⟨g6, 0, none⟩) n6 d2 ((n6 : Int) + 1) (by omega) (by omega)
  rw [show ((n6 : Int) + 1).toNat = n6 + 1 by omega] at qs6
  have hw6 : wrap64 ((n6 : Int) + 1) = (n6 : Int) + 1 := by have := hs2.out; unfold wrap64; omega
  have hlt6 : (n6 : Int) < (n6 : Int) + 1 := by omega
  have eq7 : (DG scr ts != DG scr ts) = false := by simp
  go_upto_region 6 with (fail)
  as_aux_lemma =>
    refine start_ (n := 39) (S := (fun w' => w'.heap[w.heap.size]? = some (.cells #[.int .i64 i0, .int .i64 i1, .int .i64 i2, .int .i64 i3, .int .i64 i4, .slice A5 n5 c5, .slice A6 n6 c6] 27 (0, 0)) ∧ w'.heap[b3]? = some (.cells #[.int .i64 i0, .int .i64 i1, .int .i64 i2, .int .i64 i3, .int .i64 i4, .slice (some ⟨g, 0, none⟩) n5 cap, .slice (some ⟨g6, 0, none⟩) n6 d2] 27 (0, 0)) ∧ w'.cell? ⟨g6, n6 * 3, none⟩ = some (.int .i64 777))) (ds := []) #[false, false, false, false, false, false, false, false, false, false, false, false, false, false, false, false, false, false, false, false, false, false, false, false, false, false, false, false, false, false, false, false, false, false, false, false, false, false, false] (by kernel_rfl) rfl rfl (hS6.out _ (below_drew (Below.refl _ _))) (fun hHeld => ?_)
    refine pure_ (i := 0) (N := some 25) (v := ?_) (a' := ?_) #[true, false, false, false, false, false, false, false, false, false, false, false, false, false, false, false, false, false, false, false, false, false, false, false, false, false, false, false, false, false, false, false, false, false, false, false, false, false, false] rfl rfl (by kernel_rfl) (fun _ _ _ h => h) (Or.inl ⟨by rfl, ?_⟩) ?_ ?_
    rotate_left
    · intro w'
      go_simp
      with_reducible rfl
    rotate_left
    · simp only [Act.put, List.setIfInBounds_toArray, List.set_cons_zero, List.set_cons_succ, i64_w, i32_w]
      rfl
    refine take_ (i := 1) (N := some 26) (v := ?_) (a' := ?_) #[true, true, false, false, false, false, false, false, false, false, false, false, false, false, false, false, false, false, false, false, false, false, false, false, false, false, false, false, false, false, false, false, false, false, false, false, false, false, false] rfl rfl (by kernel_rfl) (fun _ _ _ h => h) (Or.inl ⟨by rfl, ?_⟩) hHeld ?_ ?_
    rotate_left
    · rintro w' ⟨sa_, sb_, sc_⟩; obtain ⟨a0, a1, a2, a3, a4, a5, a6⟩ := box7 sa_; obtain ⟨b0, b1, b2, b3_, b4, b5, b6⟩ := box7 sb_
      go_simp
      with_reducible rfl
    rotate_left
    · simp only [Act.put, List.setIfInBounds_toArray, List.set_cons_zero, List.set_cons_succ, i64_w, i32_w]
      rfl
    as_aux_lemma =>
      refine pure_ (i := 3) (N := some 28) (v := ?_) (a' := ?_) #[true, true, false, true, false, false, false, false, false, false, false, false, false, false, false, false, false, false, false, false, false, false, false, false, false, false, false, false, false, false, false, false, false, false, false, false, false, false, false] rfl rfl (by kernel_rfl) (fun _ _ _ h => h) (Or.inl ⟨by rfl, ?_⟩) ?_ ?_
      rotate_left
      · intro w'
        go_simp
        with_reducible rfl
      rotate_left
      · simp only [Act.put, List.setIfInBounds_toArray, List.set_cons_zero, List.set_cons_succ, i64_w, i32_w]
        rfl
      refine take_ (i := 4) (N := some 29) (v := ?_) (a' := ?_) #[true, true, false, true, true, false, false, false, false, false, false, false, false, false, false, false, false, false, false, false, false, false, false, false, false, false, false, false, false, false, false, false, false, false, false, false, false, false, false] rfl rfl (by kernel_rfl) (fun _ _ _ h => h) (Or.inl ⟨by rfl, ?_⟩) hHeld ?_ ?_
      rotate_left
      · rintro w' ⟨sa_, sb_, sc_⟩; obtain ⟨a0, a1, a2, a3, a4, a5, a6⟩ := box7 sa_; obtain ⟨b0, b1, b2, b3_, b4, b5, b6⟩ := box7 sb_
        go_simp
        with_reducible rfl
      rotate_left
      · simp only [Act.put, List.setIfInBounds_toArray, List.set_cons_zero, List.set_cons_succ, i64_w, i32_w]
        rfl
      refine one_ (i := 2) (N := some 27) #[true, true, true, true, true, false, false, false, false, false, false, false, false, false, false, false, false, false, false, false, false, false, false, false, false, false, false, false, false, false, false, false, false, false, false, false, false, false, false] rfl rfl (by kernel_rfl) (by decide) (fun K hK => ?_)
      refine goes_ Tryd.func9 (by kernel_rfl) rfl #[.slice (some ⟨g6, 0, none⟩) n6 d2] (by rfl) rfl rfl (by first | rfl | kernel_rfl | simp [Act.eval]) ?_
      refine (kTn.out _ _ n6 d2 ts hn66.out.symm hs6.out hWW.out (hTx.out _ hb0.out).1 (hS3.out.bel.trans (hb0.out.mono hS3.out.bel.size))).mono ?_
      rintro e u1 ⟨rfl, hb_⟩
      have hb1 := Aside0.mk (hb0.out.trans (hb_.mono hb0.out.size))
      clear hb_
      refine ⟨_, rfl, hK.out _ _ (hS6.out _ hb1.out) (fun hHeld2 => ?_)⟩
      clear hK
      refine norm_ (a' := ?_) ?_ ?_
      rotate_left
      · show Act.put _ (some 27) _ = _
        simp only [Act.put, List.setIfInBounds_toArray, List.set_cons_zero, List.set_cons_succ, i64_w, i32_w]
        rfl
      as_aux_lemma =>
        refine one_ (i := 5) (N := some 30) #[true, true, true, true, true, true, false, false, false, false, false, false, false, false, false, false, false, false, false, false, false, false, false, false, false, false, false, false, false, false, false, false, false, false, false, false, false, false, false] rfl rfl (by kernel_rfl) (by decide) (fun K hK => ?_)
        refine goes_ Tryd.func10 (by kernel_rfl) rfl #[.slice A6 n6 c6] (by rfl) rfl rfl (by first | rfl | kernel_rfl | simp [Act.eval]) ?_
        refine (kRT.out _ _ n6 c6 ts hn66.out.symm hl6.out hs6.out hWW.out (hC6.out _ (hS3.out.bel.trans (hb1.out.mono hS3.out.bel.size)))).mono ?_
        rintro e u2 ⟨rfl, hb_⟩
        have hb2 := Aside0.mk (hb1.out.trans (hb_.mono hb1.out.size))
        clear hb_
        refine ⟨_, rfl, hK.out _ _ (hS6.out _ hb2.out) (fun hHeld3 => ?_)⟩
        clear hK
        refine norm_ (a' := ?_) ?_ ?_
        rotate_left
        · show Act.put _ (some 30) _ = _
          simp only [Act.put, List.setIfInBounds_toArray, List.set_cons_zero, List.set_cons_succ, i64_w, i32_w]
          rfl
        refine pure_ (i := 6) (N := some 31) (v := ?_) (a' := ?_) #[true, true, true, true, true, true, true, false, false, false, false, false, false, false, false, false, false, false, false, false, false, false, false, false, false, false, false, false, false, false, false, false, false, false, false, false, false, false, false] rfl rfl (by kernel_rfl) (fun _ _ _ h => h) (Or.inl ⟨by rfl, ?_⟩) ?_ ?_
        rotate_left
        · intro w'
          go_simp
          with_reducible rfl
        rotate_left
        · simp only [Act.put, List.setIfInBounds_toArray, List.set_cons_zero, List.set_cons_succ, i64_w, i32_w]
          rfl
        refine pure_ (i := 7) (N := some 32) (v := ?_) (a' := ?_) #[true, true, true, true, true, true, true, true, false, false, false, false, false, false, false, false, false, false, false, false, false, false, false, false, false, false, false, false, false, false, false, false, false, false, false, false, false, false, false] rfl rfl (by kernel_rfl) (fun _ _ _ h => h) (Or.inl ⟨by rfl, ?_⟩) ?_ ?_
        rotate_left
        · intro w'
          go_simp
          with_reducible rfl
        rotate_left
        · simp only [Act.put, List.setIfInBounds_toArray, List.set_cons_zero, List.set_cons_succ, i64_w, i32_w]
          rfl
        as_aux_lemma =>
          refine take_ (i := 8) (N := some 33) (v := ?_) (a' := ?_) #[true, true, true, true, true, true, true, true, true, false, false, false, false, false, false, false, false, false, false, false, false, false, false, false, false, false, false, false, false, false, false, false, false, false, false, false, false, false, false] rfl rfl (by kernel_rfl) (fun _ _ _ h => h) (Or.inl ⟨by rfl, ?_⟩) hHeld3 ?_ ?_
          rotate_left
          · rintro w' ⟨sa_, sb_, sc_⟩; obtain ⟨a0, a1, a2, a3, a4, a5, a6⟩ := box7 sa_; obtain ⟨b0, b1, b2, b3_, b4, b5, b6⟩ := box7 sb_
            go_simp
            with_reducible rfl
          rotate_left
          · simp only [Act.put, List.setIfInBounds_toArray, List.set_cons_zero, List.set_cons_succ, i64_w, i32_w]
            rfl
          refine take_ (i := 10) (N := some 35) (v := ?_) (a' := ?_) #[true, true, true, true, true, true, true, true, true, false, true, false, false, false, false, false, false, false, false, false, false, false, false, false, false, false, false, false, false, false, false, false, false, false, false, false, false, false, false] rfl rfl (by kernel_rfl) (fun _ _ _ h => h) (Or.inl ⟨by rfl, ?_⟩) hHeld3 ?_ ?_
          rotate_left
          · rintro w' ⟨sa_, sb_, sc_⟩; obtain ⟨a0, a1, a2, a3, a4, a5, a6⟩ := box7 sa_; obtain ⟨b0, b1, b2, b3_, b4, b5, b6⟩ := box7 sb_
            go_simp
            with_reducible rfl
          rotate_left
          · simp only [Act.put, List.setIfInBounds_toArray, List.set_cons_zero, List.set_cons_succ, i64_w, i32_w]
            rfl
          refine one_ (i := 9) (N := some 34) #[true, true, true, true, true, true, true, true, true, true, true, false, false, false, false, false, false, false, false, false, false, false, false, false, false, false, false, false, false, false, false, false, false, false, false, false, false, false, false] rfl rfl (by kernel_rfl) (by decide) (fun K hK => ?_)
          refine goes_ Tryd.func6 (by kernel_rfl) rfl #[.agg #[.int .i64 i0, .int .i64 i1, .int .i64 i2, .int .i64 i3, .int .i64 i4, .slice (some ⟨g, 0, none⟩) n5 cap, .slice (some ⟨g6, 0, none⟩) n6 d2]] (by rfl) rfl rfl (by first | rfl | kernel_rfl | simp [Act.eval]) ?_
          refine (kD.out _ _ cap _ d2 scr ts n5 n6 hn55.out.symm hn66.out.symm hs1.out hs6.out hBs.out hWW.out (hS3.out.bel.trans (hb2.out.mono hS3.out.bel.size)) hcap.out hd6.out (hTx.out _ hb2.out).2 (hTx.out _ hb2.out).1).mono ?_
          rintro e u3 ⟨rfl, hb_⟩
          have hb3 := Aside0.mk (hb2.out.trans (hb_.mono hb2.out.size))
          clear hb_
          refine ⟨_, rfl, hK.out _ _ (hS6.out _ hb3.out) (fun hHeld4 => ?_)⟩
          clear hK
          refine norm_ (a' := ?_) ?_ ?_
          rotate_left
          · show Act.put _ (some 34) _ = _
            simp only [Act.put, List.setIfInBounds_toArray, List.set_cons_zero, List.set_cons_succ, i64_w, i32_w]
            rfl
          as_aux_lemma =>
            refine one_ (i := 11) (N := some 36) #[true, true, true, true, true, true, true, true, true, true, true, true, false, false, false, false, false, false, false, false, false, false, false, false, false, false, false, false, false, false, false, false, false, false, false, false, false, false, false] rfl rfl (by kernel_rfl) (by decide) (fun K hK => ?_)
            refine goes_ Tryd.func12 (by kernel_rfl) rfl #[.agg #[.int .i64 i0, .int .i64 i1, .int .i64 i2, .int .i64 i3, .int .i64 i4, .slice A5 n5 c5, .slice A6 n6 c6]] (by rfl) rfl rfl (by first | rfl | kernel_rfl | simp [Act.eval]) ?_
            refine (RPlain i0 i1 i2 i3 i4 A5 A6 n5 c5 n6 c6).mono ?_
            rintro e u4 ⟨rfl, hb_⟩
            have hb4 := Aside0.mk (hb3.out.trans (hb_.mono hb3.out.size))
            clear hb_
            refine ⟨_, rfl, hK.out _ _ (hS6.out _ hb4.out) (fun hHeld5 => ?_)⟩
            clear hK
            refine norm_ (a' := ?_) ?_ ?_
            rotate_left
            · show Act.put _ (some 36) _ = _
              simp only [Act.put, List.setIfInBounds_toArray, List.set_cons_zero, List.set_cons_succ, i64_w, i32_w]
              rfl
            refine one_ (i := 12) (N := some 37) #[true, true, true, true, true, true, true, true, true, true, true, true, true, false, false, false, false, false, false, false, false, false, false, false, false, false, false, false, false, false, false, false, false, false, false, false, false, false, false] rfl rfl (by kernel_rfl) (by decide) (fun K hK => ?_)
            refine goes_ Tryd.func11 (by kernel_rfl) rfl #[.agg #[.int .i64 i0, .int .i64 i1, .int .i64 i2, .int .i64 i3, .int .i64 i4, .slice A5 n5 c5, .slice A6 n6 c6]] (by rfl) rfl rfl (by first | rfl | kernel_rfl | simp [Act.eval]) ?_
            refine (kRD.out _ _ c5 _ c6 scr ts n5 n6 hn55.out.symm hn66.out.symm hs1.out hs6.out hBs.out hWW.out hl5.out hl6.out (hC5.out _ (hS3.out.bel.trans (hb4.out.mono hS3.out.bel.size))) (hC6.out _ (hS3.out.bel.trans (hb4.out.mono hS3.out.bel.size)))).mono ?_
            rintro e u5 ⟨rfl, hb_⟩
            have hb5 := Aside0.mk (hb4.out.trans (hb_.mono hb4.out.size))
            clear hb_
            refine ⟨_, rfl, hK.out _ _ (hS6.out _ hb5.out) (fun hHeld6 => ?_)⟩
            clear hK
            refine norm_ (a' := ?_) ?_ ?_
            rotate_left
            · show Act.put _ (some 37) _ = _
              simp only [Act.put, List.setIfInBounds_toArray, List.set_cons_zero, List.set_cons_succ, i64_w, i32_w]
              rfl
            refine pure_ (i := 13) (N := some 38) (v := ?_) (a' := ?_) #[true, true, true, true, true, true, true, true, true, true, true, true, true, true, false, false, false, false, false, false, false, false, false, false, false, false, false, false, false, false, false, false, false, false, false, false, false, false, false] rfl rfl (by kernel_rfl) (fun _ _ _ h => h) (Or.inl ⟨by rfl, ?_⟩) ?_ ?_
            rotate_left
            · intro w'
              go_simp
              with_reducible rfl
            rotate_left
            · simp only [Act.put, List.setIfInBounds_toArray, List.set_cons_zero, List.set_cons_succ, i64_w, i32_w]
              rfl
            as_aux_lemma =>
              refine pure_ (i := 14) (N := some 39) (v := ?_) (a' := ?_) #[true, true, true, true, true, true, true, true, true, true, true, true, true, true, true, false, false, false, false, false, false, false, false, false, false, false, false, false, false, false, false, false, false, false, false, false, false, false, false] rfl rfl (by kernel_rfl) (fun _ _ _ h => h) (Or.inl ⟨by rfl, ?_⟩) ?_ ?_
              rotate_left
              · intro w'
                go_simp
                with_reducible rfl
              rotate_left
              · simp only [Act.put, List.setIfInBounds_toArray, List.set_cons_zero, List.set_cons_succ, i64_w, i32_w]
                rfl
              refine pure_ (i := 15) (N := some 40) (v := ?_) (a' := ?_) #[true, true, true, true, true, true, true, true, true, true, true, true, true, true, true, true, false, false, false, false, false, false, false, false, false, false, false, false, false, false, false, false, false, false, false, false, false, false, false] rfl rfl (by kernel_rfl) (fun _ _ _ h => h) (Or.inl ⟨by rfl, ?_⟩) ?_ ?_
              rotate_left
              · intro w'
                go_simp
                with_reducible rfl
              rotate_left
              · simp only [Act.put, List.setIfInBounds_toArray, List.set_cons_zero, List.set_cons_succ, i64_w, i32_w]
                rfl
              refine pure_ (i := 16) (N := some 41) (v := ?_) (a' := ?_) #[true, true, true, true, true, true, true, true, true, true, true, true, true, true, true, true, true, false, false, false, false, false, false, false, false, false, false, false, false, false, false, false, false, false, false, false, false, false, false] rfl rfl (by kernel_rfl) (fun _ _ _ h => h) (Or.inl ⟨by rfl, ?_⟩) ?_ ?_
              rotate_left
              · intro w'
                go_simp
                with_reducible rfl
              rotate_left
              · simp only [Act.put, List.setIfInBounds_toArray, List.set_cons_zero, List.set_cons_succ, i64_w, i32_w]
                rfl
              as_aux_lemma =>
                refine take_ (i := 17) (N := some 42) (v := ?_) (a' := ?_) #[true, true, true, true, true, true, true, true, true, true, true, true, true, true, true, true, true, true, false, false, false, false, false, false, false, false, false, false, false, false, false, false, false, false, false, false, false, false, false] rfl rfl (by kernel_rfl) (fun _ _ _ h => h) (Or.inl ⟨by rfl, ?_⟩) hHeld6 ?_ ?_
                rotate_left
                · rintro w' ⟨sa_, sb_, sc_⟩; obtain ⟨a0, a1, a2, a3, a4, a5, a6⟩ := box7 sa_; obtain ⟨b0, b1, b2, b3_, b4, b5, b6⟩ := box7 sb_
                  go_simp
                  with_reducible rfl
                rotate_left
                · simp only [Act.put, List.setIfInBounds_toArray, List.set_cons_zero, List.set_cons_succ, i64_w, i32_w]
                  rfl
                refine pure_ (i := 18) (N := some 43) (v := ?_) (a' := ?_) #[true, true, true, true, true, true, true, true, true, true, true, true, true, true, true, true, true, true, true, false, false, false, false, false, false, false, false, false, false, false, false, false, false, false, false, false, false, false, false] rfl rfl (by kernel_rfl) (fun _ _ _ h => h) (Or.inl ⟨by rfl, ?_⟩) ?_ ?_
                rotate_left
                · intro w'
                  go_simp
                  with_reducible rfl
                rotate_left
                · simp only [Act.put, List.setIfInBounds_toArray, List.set_cons_zero, List.set_cons_succ, i64_w, i32_w]
                  rfl
                refine take_ (i := 19) (N := some 44) (v := ?_) (a' := ?_) #[true, true, true, true, true, true, true, true, true, true, true, true, true, true, true, true, true, true, true, true, false, false, false, false, false, false, false, false, false, false, false, false, false, false, false, false, false, false, false] rfl rfl (by kernel_rfl) (fun _ _ _ h => h) (Or.inl ⟨by rfl, ?_⟩) hHeld6 ?_ ?_
                rotate_left
                · rintro w' ⟨sa_, sb_, sc_⟩; obtain ⟨a0, a1, a2, a3, a4, a5, a6⟩ := box7 sa_; obtain ⟨b0, b1, b2, b3_, b4, b5, b6⟩ := box7 sb_
                  go_simp
                  with_reducible rfl
                rotate_left
                · simp only [Act.put, List.setIfInBounds_toArray, List.set_cons_zero, List.set_cons_succ, i64_w, i32_w]
                  rfl
                as_aux_lemma =>
                  refine one_ (i := 20) (N := some 45) #[true, true, true, true, true, true, true, true, true, true, true, true, true, true, true, true, true, true, true, true, true, false, false, false, false, false, false, false, false, false, false, false, false, false, false, false, false, false, false] rfl rfl (by kernel_rfl) (by decide) (fun K hK => ?_)
                  refine goes_ Tryd.func13 (by kernel_rfl) rfl #[.slice (some ⟨g, 0, none⟩) n5 cap, .slice A5 n5 c5] (by rfl) rfl rfl (by first | rfl | kernel_rfl | simp [Act.eval]) ?_
                  refine (kWh.out _ hb5.out).mono ?_
                  rintro e u6 ⟨rfl, rfl⟩
                  refine ⟨_, rfl, hK.out _ _ (hS6.out _ hb5.out) (fun hHeld7 => ?_)⟩
                  clear hK
                  refine norm_ (a' := ?_) ?_ ?_
                  rotate_left
                  · show Act.put _ (some 45) _ = _
                    simp only [Act.put, List.setIfInBounds_toArray, List.set_cons_zero, List.set_cons_succ, i64_w, i32_w]
                    rfl
                  refine pure_ (i := 21) (N := some 46) (v := ?_) (a' := ?_) #[true, true, true, true, true, true, true, true, true, true, true, true, true, true, true, true, true, true, true, true, true, true, false, false, false, false, false, false, false, false, false, false, false, false, false, false, false, false, false] rfl rfl (by kernel_rfl) (fun _ _ _ h => h) (Or.inl ⟨by rfl, ?_⟩) ?_ ?_
                  rotate_left
                  · intro w'
                    go_simp
                    with_reducible rfl
                  rotate_left
                  · simp only [Act.put, List.setIfInBounds_toArray, List.set_cons_zero, List.set_cons_succ, i64_w, i32_w]
                    rfl
                  refine pure_ (i := 22) (N := some 47) (v := ?_) (a' := ?_) #[true, true, true, true, true, true, true, true, true, true, true, true, true, true, true, true, true, true, true, true, true, true, true, false, false, false, false, false, false, false, false, false, false, false, false, false, false, false, false] rfl rfl (by kernel_rfl) (fun _ _ _ h => h) (Or.inl ⟨by rfl, ?_⟩) ?_ ?_
                  rotate_left
                  · intro w'
                    go_simp
                    with_reducible rfl
                  rotate_left
                  · simp only [Act.put, List.setIfInBounds_toArray, List.set_cons_zero, List.set_cons_succ, i64_w, i32_w]
                    rfl
                  as_aux_lemma =>
                    refine pure_ (i := 23) (N := some 48) (v := ?_) (a' := ?_) #[true, true, true, true, true, true, true, true, true, true, true, true, true, true, true, true, true, true, true, true, true, true, true, true, false, false, false, false, false, false, false, false, false, false, false, false, false, false, false] rfl rfl (by kernel_rfl) (fun _ _ _ h => h) (Or.inl ⟨by rfl, ?_⟩) ?_ ?_
                    rotate_left
                    · intro w'
                      go_simp
                      with_reducible rfl
                    rotate_left
                    · simp only [Act.put, List.setIfInBounds_toArray, List.set_cons_zero, List.set_cons_succ, i64_w, i32_w]
                      rfl
                    refine pure_ (i := 24) (N := some 49) (v := ?_) (a' := ?_) #[true, true, true, true, true, true, true, true, true, true, true, true, true, true, true, true, true, true, true, true, true, true, true, true, true, false, false, false, false, false, false, false, false, false, false, false, false, false, false] rfl rfl (by kernel_rfl) (fun _ _ _ h => h) (Or.inl ⟨by rfl, ?_⟩) ?_ ?_
                    rotate_left
                    · intro w'
                      go_simp
                      with_reducible rfl
                    rotate_left
                    · simp only [Act.put, List.setIfInBounds_toArray, List.set_cons_zero, List.set_cons_succ, i64_w, i32_w]
                      rfl
                    refine take_ (i := 25) (N := some 50) (v := ?_) (a' := ?_) #[true, true, true, true, true, true, true, true, true, true, true, true, true, true, true, true, true, true, true, true, true, true, true, true, true, true, false, false, false, false, false, false, false, false, false, false, false, false, false] rfl rfl (by kernel_rfl) (fun _ _ _ h => h) (Or.inl ⟨by rfl, ?_⟩) hHeld7 ?_ ?_
                    rotate_left
                    · rintro w' ⟨sa_, sb_, sc_⟩; obtain ⟨a0, a1, a2, a3, a4, a5, a6⟩ := box7 sa_; obtain ⟨b0, b1, b2, b3_, b4, b5, b6⟩ := box7 sb_
                      go_simp
                      with_reducible rfl
                    rotate_left
                    · simp only [Act.put, List.setIfInBounds_toArray, List.set_cons_zero, List.set_cons_succ, i64_w, i32_w]
                      rfl
                    as_aux_lemma =>
                      refine pure_ (i := 26) (N := some 51) (v := ?_) (a' := ?_) #[true, true, true, true, true, true, true, true, true, true, true, true, true, true, true, true, true, true, true, true, true, true, true, true, true, true, true, false, false, false, false, false, false, false, false, false, false, false, false] rfl rfl (by kernel_rfl) (fun _ _ _ h => h) (Or.inl ⟨by rfl, ?_⟩) ?_ ?_
                      rotate_left
                      · intro w'
                        go_simp
                        with_reducible rfl
                      rotate_left
                      · simp only [Act.put, List.setIfInBounds_toArray, List.set_cons_zero, List.set_cons_succ, i64_w, i32_w]
                        rfl
                      refine take_ (i := 27) (N := some 52) (v := ?_) (a' := ?_) #[true, true, true, true, true, true, true, true, true, true, true, true, true, true, true, true, true, true, true, true, true, true, true, true, true, true, true, true, false, false, false, false, false, false, false, false, false, false, false] rfl rfl (by kernel_rfl) (fun _ _ _ h => h) (Or.inl ⟨by rfl, ?_⟩) hHeld7 ?_ ?_
                      rotate_left
                      · rintro w' ⟨sa_, sb_, sc_⟩; obtain ⟨a0, a1, a2, a3, a4, a5, a6⟩ := box7 sa_; obtain ⟨b0, b1, b2, b3_, b4, b5, b6⟩ := box7 sb_
                        go_simp
                        with_reducible rfl
                      rotate_left
                      · simp only [Act.put, List.setIfInBounds_toArray, List.set_cons_zero, List.set_cons_succ, i64_w, i32_w]
                        rfl
                      refine pure_ (i := 28) (N := some 53) (v := ?_) (a' := ?_) #[true, true, true, true, true, true, true, true, true, true, true, true, true, true, true, true, true, true, true, true, true, true, true, true, true, true, true, true, true, false, false, false, false, false, false, false, false, false, false] rfl rfl (by kernel_rfl) (fun _ _ _ h => h) (Or.inl ⟨by rfl, ?_⟩) ?_ ?_
                      rotate_left
                      · intro w'
                        go_simp
                        with_reducible rfl
                      rotate_left
                      · simp only [Act.put, List.setIfInBounds_toArray, List.set_cons_zero, List.set_cons_succ, i64_w, i32_w]
                        rfl
                      as_aux_lemma =>
                        refine pure_ (i := 29) (N := some 54) (v := ?_) (a' := ?_) #[true, true, true, true, true, true, true, true, true, true, true, true, true, true, true, true, true, true, true, true, true, true, true, true, true, true, true, true, true, true, false, false, false, false, false, false, false, false, false] rfl rfl (by kernel_rfl) (fun _ _ _ h => h) (Or.inl ⟨by rfl, ?_⟩) ?_ ?_
                        rotate_left
                        · intro w'
                          go_simp
                          with_reducible rfl
                        rotate_left
                        · simp only [Act.put, List.setIfInBounds_toArray, List.set_cons_zero, List.set_cons_succ, i64_w, i32_w]
                          rfl
                        refine pure_ (i := 30) (N := some 55) (v := ?_) (a' := ?_) #[true, true, true, true, true, true, true, true, true, true, true, true, true, true, true, true, true, true, true, true, true, true, true, true, true, true, true, true, true, true, true, false, false, false, false, false, false, false, false] rfl rfl (by kernel_rfl) (fun _ _ _ h => h) (Or.inl ⟨by rfl, ?_⟩) ?_ ?_
                        rotate_left
                        · intro w'
                          go_simp
                          with_reducible rfl
                        rotate_left
                        · simp only [Act.put, List.setIfInBounds_toArray, List.set_cons_zero, List.set_cons_succ, i64_w, i32_w]
                          rfl
                        refine pure_ (i := 31) (N := some 56) (v := ?_) (a' := ?_) #[true, true, true, true, true, true, true, true, true, true, true, true, true, true, true, true, true, true, true, true, true, true, true, true, true, true, true, true, true, true, true, true, false, false, false, false, false, false, false] rfl rfl (by kernel_rfl) (fun _ _ _ h => h) (Or.inl ⟨by rfl, ?_⟩) ?_ ?_
                        rotate_left
                        · intro w'
                          go_simp
                          with_reducible rfl
                        rotate_left
                        · simp only [Act.put, List.setIfInBounds_toArray, List.set_cons_zero, List.set_cons_succ, i64_w, i32_w]
                          rfl
                        as_aux_lemma =>
                          refine take_ (i := 32) (N := some 57) (v := ?_) (a' := ?_) #[true, true, true, true, true, true, true, true, true, true, true, true, true, true, true, true, true, true, true, true, true, true, true, true, true, true, true, true, true, true, true, true, true, false, false, false, false, false, false] rfl rfl (by kernel_rfl) (fun _ _ _ h => h) (Or.inl ⟨by rfl, ?_⟩) hHeld7 ?_ ?_
                          rotate_left
                          · rintro w' ⟨sa_, sb_, sc_⟩; obtain ⟨a0, a1, a2, a3, a4, a5, a6⟩ := box7 sa_; obtain ⟨b0, b1, b2, b3_, b4, b5, b6⟩ := box7 sb_
                            go_simp
                            with_reducible rfl
                          rotate_left
                          · simp only [Act.put, List.setIfInBounds_toArray, List.set_cons_zero, List.set_cons_succ, i64_w, i32_w]
                            rfl
                          refine pure_ (i := 33) (N := some 58) (v := ?_) (a' := ?_) #[true, true, true, true, true, true, true, true, true, true, true, true, true, true, true, true, true, true, true, true, true, true, true, true, true, true, true, true, true, true, true, true, true, true, false, false, false, false, false] rfl rfl (by kernel_rfl) (fun _ _ _ h => h) (Or.inl ⟨by rfl, ?_⟩) ?_ ?_
                          rotate_left
                          · intro w'
                            go_simp
                            with_reducible rfl
                          rotate_left
                          · simp only [Act.put, List.setIfInBounds_toArray, List.set_cons_zero, List.set_cons_succ, i64_w, i32_w]
                            rfl
                          refine pure_ (i := 34) (N := some 59) (v := ?_) (a' := ?_) #[true, true, true, true, true, true, true, true, true, true, true, true, true, true, true, true, true, true, true, true, true, true, true, true, true, true, true, true, true, true, true, true, true, true, true, false, false, false, false] rfl rfl (by kernel_rfl) (fun _ _ _ h => h) (Or.inl ⟨by rfl, ?_⟩) ?_ ?_
                          rotate_left
                          · intro w'
                            go_simp
                            with_reducible rfl
                          rotate_left
                          · simp only [Act.put, List.setIfInBounds_toArray, List.set_cons_zero, List.set_cons_succ, i64_w, i32_w]
                            rfl
                          as_aux_lemma =>
                            refine pure_ (i := 35) (N := some 60) (v := ?_) (a' := ?_) #[true, true, true, true, true, true, true, true, true, true, true, true, true, true, true, true, true, true, true, true, true, true, true, true, true, true, true, true, true, true, true, true, true, true, true, true, false, false, false] rfl rfl (by kernel_rfl) (fun _ _ _ h => h) (Or.inl ⟨by rfl, ?_⟩) ?_ ?_
                            rotate_left
                            · intro w'
                              go_simp
                              with_reducible rfl
                            rotate_left
                            · simp only [Act.put, List.setIfInBounds_toArray, List.set_cons_zero, List.set_cons_succ, i64_w, i32_w]
                              rfl
                            refine take_ (i := 36) (N := some 61) (v := ?_) (a' := ?_) #[true, true, true, true, true, true, true, true, true, true, true, true, true, true, true, true, true, true, true, true, true, true, true, true, true, true, true, true, true, true, true, true, true, true, true, true, true, false, false] rfl rfl (by kernel_rfl) (fun _ _ _ h => h) (Or.inl ⟨by rfl, ?_⟩) hHeld7 ?_ ?_
                            rotate_left
                            · rintro w' ⟨sa_, sb_, sc_⟩; obtain ⟨a0, a1, a2, a3, a4, a5, a6⟩ := box7 sa_; obtain ⟨b0, b1, b2, b3_, b4, b5, b6⟩ := box7 sb_
                              go_simp
                              with_reducible rfl
                            rotate_left
                            · simp only [Act.put, List.setIfInBounds_toArray, List.set_cons_zero, List.set_cons_succ, i64_w, i32_w]
                              rfl
                            refine pure_ (i := 37) (N := some 62) (v := ?_) (a' := ?_) #[true, true, true, true, true, true, true, true, true, true, true, true, true, true, true, true, true, true, true, true, true, true, true, true, true, true, true, true, true, true, true, true, true, true, true, true, true, true, false] rfl rfl (by kernel_rfl) (fun _ _ _ h => h) (Or.inl ⟨by rfl, ?_⟩) ?_ ?_
                            rotate_left
                            · intro w'
                              go_simp
                              with_reducible rfl
                            rotate_left
                            · simp only [Act.put, List.setIfInBounds_toArray, List.set_cons_zero, List.set_cons_succ, i64_w, i32_w]
                              rfl
                            as_aux_lemma =>
                              refine pure_ (i := 38) (N := some 63) (v := ?_) (a' := ?_) #[true, true, true, true, true, true, true, true, true, true, true, true, true, true, true, true, true, true, true, true, true, true, true, true, true, true, true, true, true, true, true, true, true, true, true, true, true, true, true] rfl rfl (by kernel_rfl) (fun _ _ _ h => h) (Or.inl ⟨by rfl, ?_⟩) ?_ ?_
                              rotate_left
                              · intro w'
                                go_simp
                                with_reducible rfl
                              rotate_left
                              · simp only [Act.put, List.setIfInBounds_toArray, List.set_cons_zero, List.set_cons_succ, i64_w, i32_w]
                                rfl
                              refine done_ (by kernel_rfl) ?_
                              as_aux_lemma =>
                                clear eq7 hw6 hlt6 qs6
                                have hS4 := Aside0.mk (hS3.out.below hb5.out)
                                obtain ⟨W4, hW4⟩ : ∃ W4, W4 = u5 := ⟨_, rfl⟩
                                rw [← hW4] at hS4 ⊢
                                clear hW4 hb0 hb1 hb2 hb3 hb4 hb5 hS3 hTx hS6 kWh
                                go_wp2
                                go_loopg [4] n6 (fun gk v4 wr => ∃ i : Nat, v4 = .int .i64 (i : Int) ∧ i + gk = n6 ∧ Aside0 (TdS w wr #[.int .i64 i0, .int .i64 i1, .int .i64 i2, .int .i64 i3, .int .i64 i4, .slice A5 n5 c5, .slice A6 n6 c6] i0 i1 i2 i3 i4 b3 g cap (.slice (some ⟨g, 0, none⟩) n5 cap) (.slice (some ⟨g6, 0, none⟩) n6 d2) (.slice (some ⟨g6, 0, none⟩) (n6 + 1) d2) scr (mixT ts i ++ [(777, 0, 0)])))
                                case atStart => exact ⟨0, rfl, by omega, ⟨by have := hS4.out; simpa [mixT] using this⟩⟩
                                case round =>
                                  clear hS4
                                  obtain ⟨i, rfl, hi_, hSL⟩ := hrel
                                  have p6 : wr.cell? ⟨w.heap.size, 6, none⟩ = some (.slice A6 n6 c6) := (cellH hSL.out.x1).trans rfl
                                  cases gk with
                                  | succ k1 =>
                                    have hd : decide ((i : Int) < (n6 : Int)) = true := decide_eq_true (by omega)
                                    have hd' : decide (i < n6) = true := decide_eq_true (by omega)
                                    have hin : i < n6 := by omega
                                    have hil : (i : Int) < (n6 : Int) := by omega
                                    have hgx := mixT_step (z := (777, 0, 0)) (ts := ts) (i := i) (by rw [hn66.out]; exact hin)
                                    obtain ⟨ad, eA, y0, y1, y2⟩ := atT (hC6.out wr hSL.out.bel) i hin
                                    subst eA
                                    have hgg := hgx.1
                                    have hgs := Aside0.mk hgx.2
                                    clear hgx
                                    have hR11 : Aside0 (∀ u : World, Below wr.heap.size wr u → u.cell? ⟨b3, 6, none⟩ = some (.slice (some ⟨g6, 0, none⟩) n6 d2) ∧ u.cell? ⟨w.heap.size, 6, none⟩ = some (.slice (some ad) n6 c6) ∧ (u.cell? (ad.add (i * 3)) = some (.int .i64 (ts.getD i (0, 0, 0)).1) ∧ u.cell? ⟨(ad.add (i * 3)).block, (ad.add (i * 3)).off + 1, none⟩ = some (.int .u16 (ts.getD i (0, 0, 0)).2.1) ∧ u.cell? ⟨(ad.add (i * 3)).block, (ad.add (i * 3)).off + 2, none⟩ = some (.int .u8 (ts.getD i (0, 0, 0)).2.2)) ∧ u.cell? ⟨g6, i * 3, none⟩ = some (.int .i64 (ts.getD i (0, 0, 0)).1) ∧ u.cell? ⟨g6, i * 3 + 1, none⟩ = some (.int .u16 (ts.getD i (0, 0, 0)).2.1) ∧ u.cell? ⟨g6, i * 3 + 2, none⟩ = some (.int .u8 (ts.getD i (0, 0, 0)).2.2)) := ⟨fun u hb => by
                                      have h1 := hSL.out.below hb
                                      have h2 := atTn h1.T (i := i) (by omega)
                                      rw [hgg] at h2
                                      obtain ⟨ad', e', h3⟩ := atT (hC6.out u h1.bel) i hin
                                      obtain rfl : ad = ad' := by injection e'
                                      exact ⟨(cellH h1.x3).trans rfl, (cellH h1.x1).trans rfl, h3, h2.1, h2.2.1, h2.2.2.1⟩⟩
                                    have hSt : Aside0 (∀ u : World, Below wr.heap.size wr u → u.frozen? ⟨g6, i * 3 + 1, none⟩ = false ∧ TdS w (u.setCell ⟨g6, i * 3 + 1, none⟩ (.int .u16 (((ts.getD i (0, 0, 0)).2.1 + 1) % 65536))) #[.int .i64 i0, .int .i64 i1, .int .i64 i2, .int .i64 i3, .int .i64 i4, .slice A5 n5 c5, .slice (some ad) n6 c6] i0 i1 i2 i3 i4 b3 g cap (.slice (some ⟨g, 0, none⟩) n5 cap) (.slice (some ⟨g6, 0, none⟩) n6 d2) (.slice (some ⟨g6, 0, none⟩) (n6 + 1) d2) scr (mixT ts (i + 1) ++ [(777, 0, 0)])) := ⟨fun u hb => by
                                      have h1 := hSL.out.below hb
                                      refine ⟨(atTn h1.T (i := i) (by omega)).2.2.2, ?_⟩
                                      have h2 := h1.tone (i := i) (by omega) (((ts.getD i (0, 0, 0)).2.1 + 1) % 65536)
                                      rw [hgs.out] at h2
                                      exact h2⟩
                                    clear hgg hgs y0 y1 y2
                                    generalize (ts.getD i (0, 0, 0)).1 = x0 at hR11 hSt
                                    generalize (ts.getD i (0, 0, 0)).2.1 = x1 at hR11 hSt
                                    generalize (ts.getD i (0, 0, 0)).2.2 = x2 at hR11 hSt
                                    have hbd := Aside0.mk (below_drew (Below.refl wr.heap.size wr))
                                    have qn : ∀ W : World, (binOp .neq 35 (.agg #[.int .i64 x0, .int .u16 x1, .int .u8 x2]) (.agg #[.int .i64 x0, .int .u16 x1, .int .u8 x2])).run Tryd.prog W = .ok (.bool false) W := fun W => neqT W x0 x1 x2
                                    go_upto_region 11 with (fail)
                                    refine start_ (n := 11) (S := (fun w' => w'.cell? ⟨b3, 6, none⟩ = some (.slice (some ⟨g6, 0, none⟩) n6 d2) ∧ w'.cell? ⟨w.heap.size, 6, none⟩ = some (.slice (some ad) n6 c6) ∧ (w'.cell? (ad.add (i * 3)) = some (.int .i64 x0) ∧ w'.cell? ⟨(ad.add (i * 3)).block, (ad.add (i * 3)).off + 1, none⟩ = some (.int .u16 x1) ∧ w'.cell? ⟨(ad.add (i * 3)).block, (ad.add (i * 3)).off + 2, none⟩ = some (.int .u8 x2)) ∧ w'.cell? ⟨g6, i * 3, none⟩ = some (.int .i64 x0) ∧ w'.cell? ⟨g6, i * 3 + 1, none⟩ = some (.int .u16 x1) ∧ w'.cell? ⟨g6, i * 3 + 2, none⟩ = some (.int .u8 x2))) (ds := []) #[false, false, false, false, false, false, false, false, false, false, false] (by kernel_rfl) rfl rfl (hR11.out _ hbd.out) (fun hHeld => ?_)
                                    refine pure_ (i := 0) (N := some 71) (v := ?_) (a' := ?_) #[true, false, false, false, false, false, false, false, false, false, false] rfl rfl (by kernel_rfl) (fun _ _ _ h => h) (Or.inl ⟨by rfl, ?_⟩) ?_ ?_
                                    rotate_left
                                    · intro w'
                                      go_simp
                                      with_reducible rfl
                                    rotate_left
                                    · simp only [Act.put, List.setIfInBounds_toArray, List.set_cons_zero, List.set_cons_succ, i64_w, i32_w]
                                      rfl
                                    refine take_ (i := 1) (N := some 72) (v := ?_) (a' := ?_) #[true, true, false, false, false, false, false, false, false, false, false] rfl rfl (by kernel_rfl) (fun _ _ _ h => h) (Or.inl ⟨by rfl, ?_⟩) hHeld ?_ ?_
                                    rotate_left
                                    · rintro w' ⟨z0, z1, ⟨z2, z3, z4⟩, z5, z6, z7⟩
                                      go_simp
                                      with_reducible rfl
                                    rotate_left
                                    · simp only [Act.put, List.setIfInBounds_toArray, List.set_cons_zero, List.set_cons_succ, i64_w, i32_w]
                                      rfl
                                    refine pure_ (i := 2) (N := some 73) (v := ?_) (a' := ?_) #[true, true, true, false, false, false, false, false, false, false, false] rfl rfl (by kernel_rfl) (fun _ _ _ h => h) (Or.inl ⟨by rfl, ?_⟩) ?_ ?_
                                    rotate_left
                                    · intro w'
                                      go_simp
                                      with_reducible rfl
                                    rotate_left
                                    · simp only [Act.put, List.setIfInBounds_toArray, List.set_cons_zero, List.set_cons_succ, i64_w, i32_w]
                                      rfl
                                    refine pure_ (i := 3) (N := some 74) (v := ?_) (a' := ?_) #[true, true, true, true, false, false, false, false, false, false, false] rfl rfl (by kernel_rfl) (fun _ _ _ h => h) (Or.inl ⟨by rfl, ?_⟩) ?_ ?_
                                    rotate_left
                                    · intro w'
                                      go_simp
                                      with_reducible rfl
                                    rotate_left
                                    · simp only [Act.put, List.setIfInBounds_toArray, List.set_cons_zero, List.set_cons_succ, i64_w, i32_w]
                                      rfl
                                    refine take_ (i := 4) (N := some 75) (v := ?_) (a' := ?_) #[true, true, true, true, true, false, false, false, false, false, false] rfl rfl (by kernel_rfl) (fun _ _ _ h => h) (Or.inl ⟨by rfl, ?_⟩) hHeld ?_ ?_
                                    rotate_left
                                    · rintro w' ⟨z0, z1, ⟨z2, z3, z4⟩, z5, z6, z7⟩
                                      go_simp
                                      with_reducible rfl
                                    rotate_left
                                    · simp only [Act.put, List.setIfInBounds_toArray, List.set_cons_zero, List.set_cons_succ, i64_w, i32_w]
                                      rfl
                                    refine pure_ (i := 5) (N := some 76) (v := ?_) (a' := ?_) #[true, true, true, true, true, true, false, false, false, false, false] rfl rfl (by kernel_rfl) (fun _ _ _ h => h) (Or.inl ⟨by rfl, ?_⟩) ?_ ?_
                                    rotate_left
                                    · intro w'
                                      go_simp
                                      with_reducible rfl
                                    rotate_left
                                    · simp only [Act.put, List.setIfInBounds_toArray, List.set_cons_zero, List.set_cons_succ, i64_w, i32_w]
                                      rfl
                                    refine take_ (i := 6) (N := some 77) (v := ?_) (a' := ?_) #[true, true, true, true, true, true, true, false, false, false, false] rfl rfl (by kernel_rfl) (fun _ _ _ h => h) (Or.inl ⟨by rfl, ?_⟩) hHeld ?_ ?_
                                    rotate_left
                                    · rintro w' ⟨z0, z1, ⟨z2, z3, z4⟩, z5, z6, z7⟩
                                      go_simp
                                      with_reducible rfl
                                    rotate_left
                                    · simp only [Act.put, List.setIfInBounds_toArray, List.set_cons_zero, List.set_cons_succ, i64_w, i32_w]
                                      rfl
                                    refine pure_ (i := 7) (N := some 78) (v := ?_) (a' := ?_) #[true, true, true, true, true, true, true, true, false, false, false] rfl rfl (by kernel_rfl) (fun _ _ _ h => h) (Or.inl ⟨by rfl, ?_⟩) ?_ ?_
                                    rotate_left
                                    · intro w'
                                      go_simp
                                      with_reducible rfl
                                    rotate_left
                                    · simp only [Act.put, List.setIfInBounds_toArray, List.set_cons_zero, List.set_cons_succ, i64_w, i32_w]
                                      rfl
                                    refine pure_ (i := 8) (N := some 79) (v := ?_) (a' := ?_) #[true, true, true, true, true, true, true, true, true, false, false] rfl rfl (by kernel_rfl) (fun _ _ _ h => h) (Or.inl ⟨by rfl, ?_⟩) ?_ ?_
                                    rotate_left
                                    · intro w'
                                      go_simp
                                      with_reducible rfl
                                    rotate_left
                                    · simp only [Act.put, List.setIfInBounds_toArray, List.set_cons_zero, List.set_cons_succ, i64_w, i32_w]
                                      rfl
                                    refine take_ (i := 9) (N := some 80) (v := ?_) (a' := ?_) #[true, true, true, true, true, true, true, true, true, true, false] rfl rfl (by kernel_rfl) (fun _ _ _ h => h) (Or.inl ⟨by rfl, ?_⟩) hHeld ?_ ?_
                                    rotate_left
                                    · rintro w' ⟨z0, z1, ⟨z2, z3, z4⟩, z5, z6, z7⟩
                                      go_simp
                                      with_reducible rfl
                                    rotate_left
                                    · simp only [Act.put, List.setIfInBounds_toArray, List.set_cons_zero, List.set_cons_succ, i64_w, i32_w]
                                      rfl
                                    refine pure_ (i := 10) (N := some 81) (v := ?_) (a' := ?_) #[true, true, true, true, true, true, true, true, true, true, true] rfl rfl (by kernel_rfl) (fun _ _ _ h => h) (Or.inl ⟨by rfl, ?_⟩) ?_ ?_
                                    rotate_left
                                    · intro w'
                                      go_simp
                                      with_reducible rfl
                                    rotate_left
                                    · simp only [Act.put, List.setIfInBounds_toArray, List.set_cons_zero, List.set_cons_succ, i64_w, i32_w]
                                      rfl
                                    refine done_ (by kernel_rfl) ?_
                                    obtain ⟨z0, z1, ⟨z2, z3, z4⟩, z5, z6, z7⟩ := hR11.out _ hbd.out
                                    obtain ⟨z8, hS5_⟩ := hSt.out _ hbd.out
                                    have hS5 := Aside0.mk hS5_
                                    have hwi : wrap64 ((i : Int) + 1) = ((i + 1 : Nat) : Int) := by have := hs2.out; unfold wrap64; omega
                                    clear hR11 hSt hS5_ qn p6
                                    go_wp2
                                    go_roundg k1
                                    case measure => omega
                                    case rel => exact ⟨i + 1, by rw [hwi], by omega, hS5⟩
                                  | zero =>
                                    have hd : decide ((i : Int) < (n6 : Int)) = false := decide_eq_false (by omega)
                                    have hd' : decide (i < n6) = false := decide_eq_false (by omega)
                                    obtain rfl : n6 = i := by omega
                                    go_wp2
                                    obtain ⟨tsM, htM⟩ : ∃ L, L = mixT ts n6 := ⟨_, rfl⟩
                                    have htl : Aside0 (tsM.length = n6 ∧ TnW tsM) := ⟨by rw [htM, mixT_len]; refine ⟨hn66.out, ?_⟩; have h := mixT_ok hWW.out; rw [hn66.out] at h; exact h⟩
                                    rw [← htM] at hSL
                                    clear p6 hd hd' htM
                                    go_loopg [5] n5 (fun gk v5 wr => ∃ j : Nat, v5 = .int .i64 (j : Int) ∧ j + gk = n5 ∧ Aside0 (TdS w wr #[.int .i64 i0, .int .i64 i1, .int .i64 i2, .int .i64 i3, .int .i64 i4, .slice A5 n5 c5, .slice A6 n6 c6] i0 i1 i2 i3 i4 b3 g cap (.slice (some ⟨g, 0, none⟩) n5 cap) (.slice (some ⟨g6, 0, none⟩) n6 d2) (.slice (some ⟨g6, 0, none⟩) (n6 + 1) d2) (mixB scr j) (tsM ++ [(777, 0, 0)])))
                                    case atStart => exact ⟨0, rfl, by omega, ⟨by have := hSL.out; simpa [mixB] using this⟩⟩
                                    case round =>
                                      clear hSL
                                      obtain ⟨j, rfl, hj_, hSL⟩ := hrel
                                      have p5 : wr.cell? ⟨b3, 5, none⟩ = some (.slice (some ⟨g, 0, none⟩) n5 cap) := (cellH hSL.out.x3).trans rfl
                                      cases gk with
                                      | succ k2 =>
                                        have hd : decide ((j : Int) < (n5 : Int)) = true := decide_eq_true (by omega)
                                        have hd' : decide (j < n5) = true := decide_eq_true (by omega)
                                        have hin : j < n5 := by omega
                                        have hil : (j : Int) < (n5 : Int) := by omega
                                        have hjs : j < scr.length := by rw [hn55.out]; exact hin
                                        obtain ⟨hc_, hf_⟩ := hSL.out.M.at_ (k := j) (by rw [mixB_len]; exact hjs)
                                        rw [mixB_get hjs] at hc_
                                        have hS6_ := hSL.out.pix (i := j) (by rw [mixB_len]; exact hjs) ((rd scr (j : Int) + 1) % 256)
                                        rw [mixB_set hjs] at hS6_
                                        have hS6 := Aside0.mk hS6_
                                        clear hS6_ hjs
                                        generalize rd scr (j : Int) = y at hc_ hS6
                                        have hwi : wrap64 ((j : Int) + 1) = ((j + 1 : Nat) : Int) := by have := hs1.out; unfold wrap64; omega
                                        go_wp2
                                        go_roundg k2
                                        case measure => omega
                                        case rel => exact ⟨j + 1, by rw [hwi], by omega, hS6⟩
                                      | zero =>
                                        have hd : decide ((j : Int) < (n5 : Int)) = false := decide_eq_false (by omega)
                                        have hd' : decide (j < n5) = false := decide_eq_false (by omega)
                                        obtain rfl : n5 = j := by omega
                                        obtain ⟨scM, hsM⟩ : ∃ L, L = mixB scr n5 := ⟨_, rfl⟩
                                        have hsl : Aside0 (scM.length = n5 ∧ allB scM) := ⟨by rw [hsM, mixB_len]; refine ⟨hn55.out, ?_⟩; have h := mixB_ok hBs.out; rw [hn55.out] at h; exact h⟩
                                        rw [← hsM] at hSL
                                        clear hsM
                                        have hTx : Aside0 (∀ u : World, Below wr.heap.size wr u → kT.C u (some ⟨g6, 0, none⟩) n6 tsM ∧ Kd.C (Kd.int .u8) u (some ⟨g, 0, none⟩) n5 scM) := ⟨fun u hb => by
                                          have hT := (hSL.out.below hb).T
                                          have h2 := (Kd.R_reads' hT).2.2
                                          have h3 := Kd.C_take (m := n6) h2 (by simp [htl.out.1])
                                          rw [List.take_left' htl.out.1] at h3
                                          have h4 := (hSL.out.below hb).M.c
                                          rw [hsl.out.1] at h4
                                          exact ⟨by first | exact h3 | (rw [htl.out.1] at h3; exact h3), h4⟩⟩
                                        have hS6 : Aside0 (∀ u : World, Below wr.heap.size wr u → u.heap[b3]? = some (.cells #[.int .i64 i0, .int .i64 i1, .int .i64 i2, .int .i64 i3, .int .i64 i4, .slice (some ⟨g, 0, none⟩) n5 cap, .slice (some ⟨g6, 0, none⟩) n6 d2] 27 (0, 0))) := ⟨fun u hb => (hSL.out.below hb).x3⟩
                                        have hb0 := Aside0.mk (below_drew (Below.refl wr.heap.size wr))
                                        have eq7 : (DG scM tsM == DG scM tsM) = true := by simp
                                        go_upto_region 18 with (fail)
                                        as_aux_lemma =>
                                          refine start_ (n := 16) (S := (fun w' => w'.heap[b3]? = some (.cells #[.int .i64 i0, .int .i64 i1, .int .i64 i2, .int .i64 i3, .int .i64 i4, .slice (some ⟨g, 0, none⟩) n5 cap, .slice (some ⟨g6, 0, none⟩) n6 d2] 27 (0, 0)))) (ds := []) #[false, false, false, false, false, false, false, false, false, false, false, false, false, false, false, false] (by kernel_rfl) rfl rfl (hS6.out _ (below_drew (Below.refl _ _))) (fun hHeld => ?_)
                                          refine pure_ (i := 0) (N := some 105) (v := ?_) (a' := ?_) #[true, false, false, false, false, false, false, false, false, false, false, false, false, false, false, false] rfl rfl (by kernel_rfl) (fun _ _ _ h => h) (Or.inl ⟨by rfl, ?_⟩) ?_ ?_
                                          rotate_left
                                          · intro w'
                                            go_simp
                                            with_reducible rfl
                                          rotate_left
                                          · simp only [Act.put, List.setIfInBounds_toArray, List.set_cons_zero, List.set_cons_succ, i64_w, i32_w]
                                            rfl
                                          refine take_ (i := 1) (N := some 106) (v := ?_) (a' := ?_) #[true, true, false, false, false, false, false, false, false, false, false, false, false, false, false, false] rfl rfl (by kernel_rfl) (fun _ _ _ h => h) (Or.inl ⟨by rfl, ?_⟩) hHeld ?_ ?_
                                          rotate_left
                                          · rintro w' sb_; obtain ⟨b0, b1, b2, b3_, b4, b5, b6⟩ := box7 sb_
                                            go_simp
                                            with_reducible rfl
                                          rotate_left
                                          · simp only [Act.put, List.setIfInBounds_toArray, List.set_cons_zero, List.set_cons_succ, i64_w, i32_w]
                                            rfl
                                          refine pure_ (i := 3) (N := some 108) (v := ?_) (a' := ?_) #[true, true, false, true, false, false, false, false, false, false, false, false, false, false, false, false] rfl rfl (by kernel_rfl) (fun _ _ _ h => h) (Or.inl ⟨by rfl, ?_⟩) ?_ ?_
                                          rotate_left
                                          · intro w'
                                            go_simp
                                            with_reducible rfl
                                          rotate_left
                                          · simp only [Act.put, List.setIfInBounds_toArray, List.set_cons_zero, List.set_cons_succ, i64_w, i32_w]
                                            rfl
                                          refine take_ (i := 4) (N := some 109) (v := ?_) (a' := ?_) #[true, true, false, true, true, false, false, false, false, false, false, false, false, false, false, false] rfl rfl (by kernel_rfl) (fun _ _ _ h => h) (Or.inl ⟨by rfl, ?_⟩) hHeld ?_ ?_
                                          rotate_left
                                          · rintro w' sb_; obtain ⟨b0, b1, b2, b3_, b4, b5, b6⟩ := box7 sb_
                                            go_simp
                                            with_reducible rfl
                                          rotate_left
                                          · simp only [Act.put, List.setIfInBounds_toArray, List.set_cons_zero, List.set_cons_succ, i64_w, i32_w]
                                            rfl
                                          refine one_ (i := 2) (N := some 107) #[true, true, true, true, true, false, false, false, false, false, false, false, false, false, false, false] rfl rfl (by kernel_rfl) (by decide) (fun K hK => ?_)
                                          refine goes_ Tryd.func9 (by kernel_rfl) rfl #[.slice (some ⟨g6, 0, none⟩) n6 d2] (by rfl) rfl rfl (by first | rfl | kernel_rfl | simp [Act.eval]) ?_
                                          refine (kTn.out _ _ n6 d2 tsM htl.out.1.symm hs6.out htl.out.2 (hTx.out _ hb0.out).1 (hSL.out.bel.trans (hb0.out.mono hSL.out.bel.size))).mono ?_
                                          rintro e u1 ⟨rfl, hb_⟩
                                          have hb1 := Aside0.mk (hb0.out.trans (hb_.mono hb0.out.size))
                                          clear hb_
                                          refine ⟨_, rfl, hK.out _ _ (hS6.out _ hb1.out) (fun hHeld2 => ?_)⟩
                                          clear hK
                                          refine norm_ (a' := ?_) ?_ ?_
                                          rotate_left
                                          · show Act.put _ (some 107) _ = _
                                            simp only [Act.put, List.setIfInBounds_toArray, List.set_cons_zero, List.set_cons_succ, i64_w, i32_w]
                                            rfl
                                          refine one_ (i := 5) (N := some 110) #[true, true, true, true, true, true, false, false, false, false, false, false, false, false, false, false] rfl rfl (by kernel_rfl) (by decide) (fun K hK => ?_)
                                          refine goes_ Tryd.func10 (by kernel_rfl) rfl #[.slice (some ⟨g6, 0, none⟩) n6 d2] (by rfl) rfl rfl (by first | rfl | kernel_rfl | simp [Act.eval]) ?_
                                          refine (kRT.out _ _ n6 d2 tsM htl.out.1.symm hd6.out hs6.out htl.out.2 (hTx.out _ hb1.out).1).mono ?_
                                          rintro e u2 ⟨rfl, hb_⟩
                                          have hb2 := Aside0.mk (hb1.out.trans (hb_.mono hb1.out.size))
                                          clear hb_
                                          refine ⟨_, rfl, hK.out _ _ (hS6.out _ hb2.out) (fun hHeld3 => ?_)⟩
                                          clear hK
                                          refine norm_ (a' := ?_) ?_ ?_
                                          rotate_left
                                          · show Act.put _ (some 110) _ = _
                                            simp only [Act.put, List.setIfInBounds_toArray, List.set_cons_zero, List.set_cons_succ, i64_w, i32_w]
                                            rfl
                                          refine pure_ (i := 6) (N := some 111) (v := ?_) (a' := ?_) #[true, true, true, true, true, true, true, false, false, false, false, false, false, false, false, false] rfl rfl (by kernel_rfl) (fun _ _ _ h => h) (Or.inl ⟨by rfl, ?_⟩) ?_ ?_
                                          rotate_left
                                          · intro w'
                                            go_simp
                                            with_reducible rfl
                                          rotate_left
                                          · simp only [Act.put, List.setIfInBounds_toArray, List.set_cons_zero, List.set_cons_succ, i64_w, i32_w]
                                            rfl
                                          refine pure_ (i := 7) (N := some 112) (v := ?_) (a' := ?_) #[true, true, true, true, true, true, true, true, false, false, false, false, false, false, false, false] rfl rfl (by kernel_rfl) (fun _ _ _ h => h) (Or.inl ⟨by rfl, ?_⟩) ?_ ?_
                                          rotate_left
                                          · intro w'
                                            go_simp
                                            with_reducible rfl
                                          rotate_left
                                          · simp only [Act.put, List.setIfInBounds_toArray, List.set_cons_zero, List.set_cons_succ, i64_w, i32_w]
                                            rfl
                                          refine take_ (i := 8) (N := some 113) (v := ?_) (a' := ?_) #[true, true, true, true, true, true, true, true, true, false, false, false, false, false, false, false] rfl rfl (by kernel_rfl) (fun _ _ _ h => h) (Or.inl ⟨by rfl, ?_⟩) hHeld3 ?_ ?_
                                          rotate_left
                                          · rintro w' sb_; obtain ⟨b0, b1, b2, b3_, b4, b5, b6⟩ := box7 sb_
                                            go_simp
                                            with_reducible rfl
                                          rotate_left
                                          · simp only [Act.put, List.setIfInBounds_toArray, List.set_cons_zero, List.set_cons_succ, i64_w, i32_w]
                                            rfl
                                          refine take_ (i := 10) (N := some 115) (v := ?_) (a' := ?_) #[true, true, true, true, true, true, true, true, true, false, true, false, false, false, false, false] rfl rfl (by kernel_rfl) (fun _ _ _ h => h) (Or.inl ⟨by rfl, ?_⟩) hHeld3 ?_ ?_
                                          rotate_left
                                          · rintro w' sb_; obtain ⟨b0, b1, b2, b3_, b4, b5, b6⟩ := box7 sb_
                                            go_simp
                                            with_reducible rfl
                                          rotate_left
                                          · simp only [Act.put, List.setIfInBounds_toArray, List.set_cons_zero, List.set_cons_succ, i64_w, i32_w]
                                            rfl
                                          refine one_ (i := 9) (N := some 114) #[true, true, true, true, true, true, true, true, true, true, true, false, false, false, false, false] rfl rfl (by kernel_rfl) (by decide) (fun K hK => ?_)
                                          refine goes_ Tryd.func6 (by kernel_rfl) rfl #[.agg #[.int .i64 i0, .int .i64 i1, .int .i64 i2, .int .i64 i3, .int .i64 i4, .slice (some ⟨g, 0, none⟩) n5 cap, .slice (some ⟨g6, 0, none⟩) n6 d2]] (by rfl) rfl rfl (by first | rfl | kernel_rfl | simp [Act.eval]) ?_
                                          refine (kD.out _ _ cap _ d2 scM tsM n5 n6 hsl.out.1.symm htl.out.1.symm hs1.out hs6.out hsl.out.2 htl.out.2 (hSL.out.bel.trans (hb2.out.mono hSL.out.bel.size)) hcap.out hd6.out (hTx.out _ hb2.out).2 (hTx.out _ hb2.out).1).mono ?_
                                          rintro e u3 ⟨rfl, hb_⟩
                                          have hb3 := Aside0.mk (hb2.out.trans (hb_.mono hb2.out.size))
                                          clear hb_
                                          refine ⟨_, rfl, hK.out _ _ (hS6.out _ hb3.out) (fun hHeld4 => ?_)⟩
                                          clear hK
                                          refine norm_ (a' := ?_) ?_ ?_
                                          rotate_left
                                          · show Act.put _ (some 114) _ = _
                                            simp only [Act.put, List.setIfInBounds_toArray, List.set_cons_zero, List.set_cons_succ, i64_w, i32_w]
                                            rfl
                                          refine one_ (i := 11) (N := some 116) #[true, true, true, true, true, true, true, true, true, true, true, true, false, false, false, false] rfl rfl (by kernel_rfl) (by decide) (fun K hK => ?_)
                                          refine goes_ Tryd.func12 (by kernel_rfl) rfl #[.agg #[.int .i64 i0, .int .i64 i1, .int .i64 i2, .int .i64 i3, .int .i64 i4, .slice (some ⟨g, 0, none⟩) n5 cap, .slice (some ⟨g6, 0, none⟩) n6 d2]] (by rfl) rfl rfl (by first | rfl | kernel_rfl | simp [Act.eval]) ?_
                                          refine (RPlain i0 i1 i2 i3 i4 (some ⟨g, 0, none⟩) (some ⟨g6, 0, none⟩) n5 cap n6 d2).mono ?_
                                          rintro e u4 ⟨rfl, hb_⟩
                                          have hb4 := Aside0.mk (hb3.out.trans (hb_.mono hb3.out.size))
                                          clear hb_
                                          refine ⟨_, rfl, hK.out _ _ (hS6.out _ hb4.out) (fun hHeld5 => ?_)⟩
                                          clear hK
                                          refine norm_ (a' := ?_) ?_ ?_
                                          rotate_left
                                          · show Act.put _ (some 116) _ = _
                                            simp only [Act.put, List.setIfInBounds_toArray, List.set_cons_zero, List.set_cons_succ, i64_w, i32_w]
                                            rfl
                                          refine one_ (i := 12) (N := some 117) #[true, true, true, true, true, true, true, true, true, true, true, true, true, false, false, false] rfl rfl (by kernel_rfl) (by decide) (fun K hK => ?_)
                                          refine goes_ Tryd.func11 (by kernel_rfl) rfl #[.agg #[.int .i64 i0, .int .i64 i1, .int .i64 i2, .int .i64 i3, .int .i64 i4, .slice (some ⟨g, 0, none⟩) n5 cap, .slice (some ⟨g6, 0, none⟩) n6 d2]] (by rfl) rfl rfl (by first | rfl | kernel_rfl | simp [Act.eval]) ?_
                                          refine (kRD.out _ _ cap _ d2 scM tsM n5 n6 hsl.out.1.symm htl.out.1.symm hs1.out hs6.out hsl.out.2 htl.out.2 hcap.out hd6.out (hTx.out _ hb4.out).2 (hTx.out _ hb4.out).1).mono ?_
                                          rintro e u5 ⟨rfl, hb_⟩
                                          have hb5 := Aside0.mk (hb4.out.trans (hb_.mono hb4.out.size))
                                          clear hb_
                                          refine ⟨_, rfl, hK.out _ _ (hS6.out _ hb5.out) (fun hHeld6 => ?_)⟩
                                          clear hK
                                          refine norm_ (a' := ?_) ?_ ?_
                                          rotate_left
                                          · show Act.put _ (some 117) _ = _
                                            simp only [Act.put, List.setIfInBounds_toArray, List.set_cons_zero, List.set_cons_succ, i64_w, i32_w]
                                            rfl
                                          refine pure_ (i := 13) (N := some 118) (v := ?_) (a' := ?_) #[true, true, true, true, true, true, true, true, true, true, true, true, true, true, false, false] rfl rfl (by kernel_rfl) (fun _ _ _ h => h) (Or.inl ⟨by rfl, ?_⟩) ?_ ?_
                                          rotate_left
                                          · intro w'
                                            go_simp
                                            with_reducible rfl
                                          rotate_left
                                          · simp only [Act.put, List.setIfInBounds_toArray, List.set_cons_zero, List.set_cons_succ, i64_w, i32_w]
                                            rfl
                                          refine pure_ (i := 14) (N := some 119) (v := ?_) (a' := ?_) #[true, true, true, true, true, true, true, true, true, true, true, true, true, true, true, false] rfl rfl (by kernel_rfl) (fun _ _ _ h => h) (Or.inl ⟨by rfl, ?_⟩) ?_ ?_
                                          rotate_left
                                          · intro w'
                                            go_simp
                                            with_reducible rfl
                                          rotate_left
                                          · simp only [Act.put, List.setIfInBounds_toArray, List.set_cons_zero, List.set_cons_succ, i64_w, i32_w]
                                            rfl
                                          refine pure_ (i := 15) (N := some 2) (v := ?_) (a' := ?_) #[true, true, true, true, true, true, true, true, true, true, true, true, true, true, true, true] rfl rfl (by kernel_rfl) (fun _ _ _ h => h) (Or.inl ⟨by rfl, ?_⟩) ?_ ?_
                                          rotate_left
                                          · intro w'
                                            go_simp
                                            with_reducible rfl
                                          rotate_left
                                          · simp only [Act.put, List.setIfInBounds_toArray, List.set_cons_zero, List.set_cons_succ, i64_w, i32_w]
                                            rfl
                                          refine done_ (by kernel_rfl) ?_
                                          go_wp2
                                          go_ret
                                          exact ⟨rfl, (hSL.out.bel.trans (hb5.out.mono hSL.out.bel.size))⟩
end Go.Proofs.YtpjdgndbcjinjaaDoor.Pk
