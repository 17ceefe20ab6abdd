/- wisplaw20.ShotNames: the walk. (Printed by gen_nw.py.) -/
import Derived.Test.YtpjdgndbcjinjaaDoorNf
namespace Go.Proofs.YtpjdgndbcjinjaaDoor.Pn
open Go.RowKit Go.Proofs.YtpjdgndbcjinjaaDoorW.PrintWords Go.Proofs.YtpjdgndbcjinjaaDoorW.PrintLast Go.Proofs.YtpjdgndbcjinjaaDoorW.PrintMore Go.Proofs.YtpjdgndbcjinjaaDoor.Mem Go.Proofs.YtpjdgndbcjinjaaDoor.P
open Go.Proofs.YtpjdgndbcjinjaaDoor.Ap (RB CB)
set_option linter.unusedVariables false
set_option linter.unusedSimpArgs false
theorem kC_lit (w : World) (a b c d : Int) : k51.C (w.alloc (.cells #[.int .i64 a, .int .i64 b, .int .u8 c, .int .u8 d] 51)) (some ⟨w.heap.size, 0, none⟩) 1 [⟨a, b, c, d⟩] := by
  refine ⟨rfl, by decide, fun _ => ⟨_, rfl, fun j p hj => ?_⟩⟩
  match j, hj with
  | 0, hj =>
    obtain rfl : p = ⟨a, b, c, d⟩ := by simpa using hj.symm
    refine ⟨[.int .i64 a, .int .i64 b, .int .u8 c, .int .u8 d], rfl, k51_mk _ _, fun i u hu => ?_⟩
    have hh := World.alloc_heap_new w (.cells #[.int .i64 a, .int .i64 b, .int .u8 c, .int .u8 d] 51)
    rw [add_plain]
    simp only [World.cell?, hh]
    match i, hu with
    | 0, hu => simpa using hu
    | 1, hu => simpa using hu
    | 2, hu => simpa using hu
    | 3, hu => simpa using hu
theorem kT_two (w : World) (a b c a' b' c' : Int) : Pk.kT.C (w.alloc (.cells #[.int .i64 a, .int .u16 b, .int .u8 c, .int .i64 a', .int .u16 b', .int .u8 c'] 35)) (some ⟨w.heap.size, 0, none⟩) 2 [(a, b, c), (a', b', c')] := by
  refine ⟨rfl, by decide, fun _ => ⟨_, rfl, fun j p hj => ?_⟩⟩
  have hh := World.alloc_heap_new w (.cells #[.int .i64 a, .int .u16 b, .int .u8 c, .int .i64 a', .int .u16 b', .int .u8 c'] 35)
  match j, hj with
  | 0, hj =>
    obtain rfl : p = (a, b, c) := by simpa using hj.symm
    refine ⟨[.int .i64 a, .int .u16 b, .int .u8 c], rfl, ⟨[.int .i64 a], [.int .u16 b, .int .u8 c], rfl, rfl, [.int .u16 b], [.int .u8 c], rfl, rfl, rfl⟩, fun i u hu => ?_⟩
    rw [add_plain]
    simp only [World.cell?, hh]
    match i, hu with
    | 0, hu => simpa using hu
    | 1, hu => simpa using hu
    | 2, hu => simpa using hu
  | 1, hj =>
    obtain rfl : p = (a', b', c') := by simpa using hj.symm
    refine ⟨[.int .i64 a', .int .u16 b', .int .u8 c'], rfl, ⟨[.int .i64 a'], [.int .u16 b', .int .u8 c'], rfl, rfl, [.int .u16 b'], [.int .u8 c'], rfl, rfl, rfl⟩, fun i u hu => ?_⟩
    rw [add_plain]
    have hs_ : Pk.kT.sz = 3 := rfl
    simp only [World.cell?, hh, hs_]
    match i, hu with
    | 0, hu => simpa using hu
    | 1, hu => simpa using hu
    | 2, hu => simpa using hu
theorem kC_at {W : World} {g : Nat} {x : S51} (h : k51.C W (some ⟨g, 0, none⟩) 1 [x]) : W.cell? ⟨g, 0, none⟩ = some (.int .i64 x.f0) ∧ W.cell? ⟨g, 1, none⟩ = some (.int .i64 x.f1) ∧ W.cell? ⟨g, 2, none⟩ = some (.int .u8 x.f2) ∧ W.cell? ⟨g, 3, none⟩ = some (.int .u8 x.f3) := by
  obtain ⟨_, _, hc⟩ := h
  obtain ⟨ad, e, hr⟩ := hc (by decide)
  injection e with e
  subst e
  obtain ⟨cs, _, hK, hcc⟩ := hr 0 x rfl
  obtain rfl := k51_open hK
  have h0 := hcc 0 _ rfl
  have h1 := hcc 1 _ rfl
  have h2 := hcc 2 _ rfl
  have h3 := hcc 3 _ rfl
  rw [add_plain] at h0 h1 h2 h3
  refine ⟨?_, ?_, ?_, ?_⟩
  · simpa using h0
  · simpa using h1
  · simpa using h2
  · simpa using h3
theorem eqC (d : Nat) (w : World) (x0 y0 x1 y1 x2 y2 x3 y3 : Int) :
    (Op.equalIn (d + 2) 51 (.agg #[.int .i64 x0, .int .i64 x1, .int .u8 x2, .int .u8 x3]) (.agg #[.int .i64 y0, .int .i64 y1, .int .u8 y2, .int .u8 y3])).run Tryd.prog w = .ok (x0 == y0 && (x1 == y1 && (x2 == y2 && (x3 == y3)))) w := by
  refine eqA_of Tryd.underlying51 (by kernel_rfl) ?_
  refine eqf_cons (by rfl) (by go_simp; rfl) (by go_simp; rfl) (by go_simp) ?_
  refine eqf_cons (by rfl) (by go_simp; rfl) (by go_simp; rfl) (by go_simp) ?_
  refine eqf_cons (by rfl) (by go_simp; rfl) (by go_simp; rfl) (by go_simp) ?_
  exact eqf_last (by rfl) (by go_simp; rfl) (by go_simp; rfl) (by go_simp)
theorem neqC (w : World) (x0 x1 x2 x3 : Int) : (binOp .neq 51 (.agg #[.int .i64 x0, .int .i64 x1, .int .u8 x2, .int .u8 x3]) (.agg #[.int .i64 x0, .int .i64 x1, .int .u8 x2, .int .u8 x3])).run Tryd.prog w = .ok (.bool false) w := by
  rw [run_neq_struct, eqC 9998 w x0 x0 x1 x1 x2 x2 x3 x3]
  simp [Result.andThen]
/-- a literal of bytes as a row of one's own -/
theorem R_lit4 (w : World) (a b c d : Int) : RB (w.alloc (.cells #[.int .u8 a, .int .u8 b, .int .u8 c, .int .u8 d] 5)) w.heap.size (.slice (some ⟨w.heap.size, 0, none⟩) 4 4) [a, b, c, d] :=
  Kd.R_of_own (h1 := fun _ => rfl) (by have h2 := World.ownsRow_lit (base := w.heap.size) (e := 5) (size := 1) w #[.int .u8 a, .int .u8 b, .int .u8 c, .int .u8 d] 4 (Nat.le_refl _) (by decide) rfl; simpa [encs] using h2) (fun _ _ => trivial)
theorem R_form' {W : World} {B n : Nat} {v : Value} {l : List Int} (h : RB W B v l) (hn : l.length = n) (hp : 0 < n) : ∃ g c, v = .slice (some ⟨g, 0, none⟩) n c ∧ n ≤ c ∧ CB W (some ⟨g, 0, none⟩) n l := by
  subst hn
  obtain ⟨g, c, rfl, _⟩ := Kd.R_form h hp
  obtain ⟨_, h2, h3⟩ := Kd.R_reads' h
  exact ⟨g, c, rfl, h2, h3⟩
theorem RC_form {W : World} {B : Nat} {v : Value} {x : S51} (h : RC W B v [x]) : ∃ g c, v = .slice (some ⟨g, 0, none⟩) 1 c ∧ 1 ≤ c ∧ k51.C W (some ⟨g, 0, none⟩) 1 [x] := by
  obtain ⟨g, c, rfl, _⟩ := Kd.R_form h (by simp)
  obtain ⟨_, h2, h3⟩ := Kd.R_reads' h
  exact ⟨g, c, rfl, h2, h3⟩
/-- a fact that stays goes on -/
theorem mv {F : World → Prop} {X Y : World} (hF : Aside0 (∀ W, Below X.heap.size X W → F W)) (hb : Below X.heap.size X Y) : Aside0 (∀ W, Below Y.heap.size Y W → F W) := ⟨fun W h => hF.out W (hb.trans (h.mono hb.size))⟩
theorem c_take {W : World} {A : Option Addr} {n : Nat} {l : List Int} (m : Nat) (h : CB W A n l) (hn : l.length = n) (hm : m ≤ n) : CB W A m (l.take m) := by
  subst hn
  have h2 := Kd.C_take (m := m) h hm
  rw [List.length_take, Nat.min_eq_left hm] at h2
  exact h2
theorem c_drop {W : World} {A : Option Addr} {n c : Nat} {l : List Int} (m : Nat) (h : CB W A n l) (hn : l.length = n) (hm : m ≤ n) (hc : n ≤ c) : CB W (if c = m then A else A.map (·.add (m * 1))) (n - m) (l.drop m) := by
  subst hn
  have h2 := Kd.C_drop (m := m) h hm hc
  rw [List.length_drop] at h2
  exact h2
set_option maxRecDepth 100000 in
set_option maxHeartbeats 8000000 in
theorem Names {w : World} (hP : Pk.Pow w.heap.size w) : Calls Tryd.prog 5 #[] w fun e w' => e = .returned (.bool true) ∧ Below w.heap.size w w' := by
  obtain ⟨i0_, hi, hz0, hz1, hz2⟩ := info_parts Ap.infoB
  have kTn : Aside0 (∀ X, Below w.heap.size w X → Calls Tryd.prog 9 #[.slice (some ⟨X.heap.size, 0, none⟩) 2 2] (X.alloc (.cells #[.int .i64 0, .int .u16 440, .int .u8 9, .int .i64 12, .int .u16 65535, .int .u8 0] 35)) fun e w' => e = .returned (.string ⟨#[48, 32, 52, 52, 48, 32, 57, 10, 49, 50, 32, 54, 53, 53, 51, 53, 32, 48, 10]⟩) ∧ Below X.heap.size X w') := ⟨fun X hb => by
    have hl := below_alloc (Below.refl X.heap.size X) (.cells #[.int .i64 0, .int .u16 440, .int .u8 9, .int .i64 12, .int .u16 65535, .int .u8 0] 35)
    have hb2 := hb.trans (hl.mono hb.size)
    have h := Pk.Tones (c := 2) (kT_two X 0 440 9 12 65535 0) rfl tnW1 (by decide) (fun W' h' => hP W' (hb2.trans (h'.mono hb2.size)))
    rw [tn1] at h
    refine h.mono ?_
    rintro e w' ⟨rfl, hb3⟩
    exact ⟨rfl, hl.trans (hb3.mono hl.size)⟩⟩
  clear hP
  go_enter Tryd.func5, Tryd.ntmps5
  go_upto_region 5 with (first | (go_at_call 7; ((with_reducible refine (P.fixed_at _).mono ?_); rintro e Y ⟨rfl, hb_⟩; have hB0 := Aside0.mk hb_; clear hb_)) | ((with_reducible refine gate_dst (N := 29) rfl ?_); refine Kd.R_make (Kd.int .u8) (w0 := Y) Y.heap.size 5 rfl (N := 29) rfl 24 _ _ rfl 3072 rfl rfl Tryd.underlying24 (.int .u8 0) 1 Ap.infoB rfl (by decide) (by decide) 0 (ok := fun _ => True) (okp := fun _ => True) rfl (fun _ hk => hk) trivial (by decide) (by decide) (Below.refl _ _) (Nat.le_refl _) ?_; intro v1 X1 h1_ h2_ _ _; have hR1 := Aside0.mk h1_; have hB1 := Aside0.mk (hB0.out.trans (h2_.mono hB0.out.size)); clear h1_ h2_) | ((with_reducible refine gate_dst (N := 30) rfl ?_); refine Kd.R_make (Kd.int .u8) (w0 := X1) X1.heap.size 5 rfl (N := 30) rfl 24 _ _ rfl 3072 rfl rfl Tryd.underlying24 (.int .u8 0) 1 Ap.infoB rfl (by decide) (by decide) 0 (ok := fun _ => True) (okp := fun _ => True) rfl (fun _ hk => hk) trivial (by decide) (by decide) (Below.refl _ _) (Nat.le_refl _) ?_; intro v2 X2 h1_ h2_ _ _; have hR2 := Aside0.mk h1_; have hB2 := Aside0.mk h2_; clear h1_ h2_))
  have hz1 : RB X1 Y.heap.size v1 zero := hR1.out
  have hz2 : RB X2 X1.heap.size v2 zero := hR2.out
  obtain ⟨g1, k1, e1, hk1, hC1⟩ := R_form' hz1 zero_len (by decide)
  subst e1
  obtain ⟨g2, k2, e2, hg2, _, _⟩ := Kd.R_form hz2 (by rw [zero_len]; decide)
  rw [zero_len] at e2
  subst e2
  have hx2 := Kd.R_celln 0 hz2 (1 : Int) (by decide) (by decide)
  have f2 : X2.frozen? ⟨g2, 1, none⟩ = false := hx2.2
  have c2 : X2.cell? ⟨g2, 1, none⟩ = some (.int .u8 (rdOf 0 zero (1 : Int))) := hx2.1
  have hO : RB (X2.setCell ⟨g2, 1, none⟩ (.int .u8 171)) X1.heap.size (.slice (some ⟨g2, 0, none⟩) 3072 k2) other := Kd.R_putn hz2 (1 : Int) 171
  have hBs : Below X1.heap.size X1 (X2.setCell ⟨g2, 1, none⟩ (.int .u8 171)) := hB2.out.setCell (p := ⟨g2, 1, none⟩) (show X1.heap.size ≤ g2 from hg2) _
  obtain ⟨hk_, hk2, hC2⟩ := Kd.R_reads' hO
  clear hk_
  rw [other_len] at hC2
  have hB := Aside0.mk (hB1.out.trans (hBs.mono hB1.out.size))
  have hF : Aside0 (∀ W, Below (X2.setCell ⟨g2, 1, none⟩ (.int .u8 171)).heap.size (X2.setCell ⟨g2, 1, none⟩ (.int .u8 171)) W → CB W (some ⟨g1, 0, none⟩) 3072 zero ∧ CB W (some ⟨g2, 0, none⟩) 3072 other) := ⟨fun W h => ⟨Kd.C_below (Kd.C_below hC1 hBs) h, Kd.C_below hC2 h⟩⟩
  have hk11 := Aside0.mk hk1
  have hk22 := Aside0.mk hk2
  clear hz1 hz2 hC1 hx2 hO hBs hC2 hR1 hR2 hB1 hB2 hB0 hk1 hk2 hg2
  go_upto_region 6 with (fail)
  obtain ⟨X3, hX3⟩ : ∃ X3, X3 = X2.setCell ⟨g2, 1, none⟩ (.int .u8 171) := ⟨_, rfl⟩
  rw [← hX3] at hB hF ⊢
  clear hX3 f2 c2
  go_wp2
  go_loopg [3, 4] 12 (fun gk v3 v4 wr => ∃ (i : Nat) (v : Value), v3 = v ∧ v4 = .int .i64 (i : Int) ∧ i + gk = 12 ∧ Aside0 (Below X3.heap.size X3 wr) ∧ Aside0 (RB wr X3.heap.size v (pkd i)))
  case atStart => exact ⟨0, _, rfl, rfl, by omega, ⟨Below.refl _ _⟩, ⟨Kd.R_nil _ _ _ _ _⟩⟩
  case round =>
    obtain ⟨i, v3, hv3, rfl, hi_, hBr, hR⟩ := hrel
    replace hv3 := hv3.symm
    subst hv3
    cases gk with
    | succ q1 =>
      have hd : decide ((i : Int) < 12) = true := decide_eq_true (by omega)
      have hd' : decide (i < 12) = true := decide_eq_true (by omega)
      have hl_ := below_alloc (Below.refl wr.heap.size wr) (.cells #[.int .u8 255, .int .u8 0] 5)
      have hRa := Aside0.mk (Kd.R_below hR.out hl_)
      have hBa := Aside0.mk (hBr.out.trans (hl_.mono hBr.out.size))
      have hLa := Aside0.mk (Ap.C_lit (fr := (0, 0)) wr [255, 0] 5 (by decide))
      have hsz : Aside0 ((pkd i).length + 2 ≤ 140737488355328) := ⟨by rw [pkd_len]; omega⟩
      have hps := Aside0.mk (pkd_succ i)
      clear hl_
      go_wp2_with (at_builtin; refine Ap.appB (w0 := X3) X3.heap.size _ (pkd i) [255, 0] (some ⟨wr.heap.size, 0, none⟩) 2 2 rfl _ _ rfl rfl rfl hRa.out hLa.out hBa.out hBa.out.size hsz.out ?_; intro v9 w9 ho_ hbl_; have hR9 := Aside0.mk ho_; have hB9 := Aside0.mk hbl_; clear ho_ hbl_)
      go_roundg q1
      case measure => omega
      case rel => exact ⟨i + 1, _, rfl, by first | rfl | (unfold wrap64; congr 1; omega), by omega, hB9, ⟨by rw [hps.out]; exact hR9.out⟩⟩
    | zero =>
      have hd : decide ((i : Int) < 12) = false := decide_eq_false (by omega)
      have hd' : decide (i < 12) = false := decide_eq_false (by omega)
      obtain rfl : i = 12 := by omega
      obtain ⟨g3, k3, e3, hk3, hC3⟩ := R_form' hR.out (pkd_len 12) (by decide)
      subst e3
      have n1_ := Aside0.mk (hB.out.trans (hBr.out.mono hB.out.size))
      have n2_ : Aside0 (∀ W, Below wr.heap.size wr W → CB W (some ⟨g1, 0, none⟩) 3072 zero ∧ CB W (some ⟨g2, 0, none⟩) 3072 other ∧ CB W (some ⟨g3, 0, none⟩) (2 * 12) (pkd 12)) := ⟨fun W h => ⟨(hF.out W (hBr.out.trans (h.mono hBr.out.size))).1, (hF.out W (hBr.out.trans (h.mono hBr.out.size))).2, Kd.C_below hC3 h⟩⟩
      clear hB hF hBr hR hC3
      have hB := n1_
      have hF := n2_
      clear n1_ n2_
      have hk33 : Aside0 (24 ≤ k3) := ⟨hk3⟩
      have kX1 := Aside0.mk (Un_at (c := k3) (hF.out _ (Below.refl _ _)).2.2 (pkd_len 12).symm hk3 pkdB (by decide) un1)
      obtain ⟨A13, hA13_⟩ : ∃ A, A = (if k3 = 2 then (some ⟨g3, 0, none⟩ : Option Addr) else (some ⟨g3, 0, none⟩ : Option Addr).map (·.add (2 * 1))) := ⟨_, rfl⟩
      obtain ⟨A20, hA20_⟩ : ∃ A, A = (if k1 = 1 then (some ⟨g1, 0, none⟩ : Option Addr) else (some ⟨g1, 0, none⟩ : Option Addr).map (·.add (1 * 1))) := ⟨_, rfl⟩
      have qs12 := cut_to (P := Tryd.prog) 24 5 .i64 Tryd.underlying24 hi (some ⟨g3, 0, none⟩) 24 k3 22 (by decide) (by decide) hk3
      have qs13 := cut_from (P := Tryd.prog) 24 5 .i64 Tryd.underlying24 hi 1 hz1 (some ⟨g3, 0, none⟩) 24 k3 2 (by decide) (by decide)
      have qs20 := cut_from (P := Tryd.prog) 24 5 .i64 Tryd.underlying24 hi 1 hz1 (some ⟨g1, 0, none⟩) 3072 k1 1 (by decide) (by decide)
      rw [show (22 : Int).toNat = 22 from rfl] at qs12
      rw [show (2 : Int).toNat = 2 from rfl, ← hA13_] at qs13
      rw [show (1 : Int).toNat = 1 from rfl, ← hA20_] at qs20
      have hA13 := Aside0.mk hA13_
      have hA20 := Aside0.mk hA20_
      clear hA13_ hA20_ hk3
      go_upto_region 22 with (first | (go_at_call 14; ((with_reducible refine (kX1.out).mono ?_); rintro e Y1 ⟨v5, rfl, hR_, hb_⟩; obtain ⟨g5, c5, rfl, _, hC_⟩ := R_form' hR_ zero_len (by decide); have hU : Aside0 (∀ W, Below Y1.heap.size Y1 W → CB W (some ⟨g5, 0, none⟩) 3072 zero) := ⟨fun W h => Kd.C_below hC_ h⟩; have n_ := Aside0.mk (hB.out.trans (hb_.mono hB.out.size)); clear hB; have hB := n_; clear n_; have n_ := mv hF hb_; clear hF; have hF := n_; clear n_; have kX2 := Aside0.mk (Un_at (W := Y1) (c := k3) (c_take 22 (hF.out _ (Below.refl _ _)).2.2 (pkd_len 12) (by decide)) (by rw [List.length_take, pkd_len]; rfl) (Nat.le_trans (by decide) hk33.out) pkdB22 (by decide) un2); clear hR_ hb_ hC_; clear kX1)) | (go_at_call 14; ((with_reducible refine (kX2.out).mono ?_); rintro e Y2 ⟨v7, rfl, hR_, hb_⟩; have n_ := Aside0.mk (hB.out.trans (hb_.mono hB.out.size)); clear hB; have hB := n_; clear n_; have n_ := mv hF hb_; clear hF; have hF := n_; clear n_; have n_ := mv hU hb_; clear hU; have hU := n_; clear n_; have hl_ := below_alloc (Below.refl Y2.heap.size Y2) (.cells #[.int .u8 254, .int .u8 0, .int .u8 0, .int .u8 0] 5); have hLa := Aside0.mk (R_lit4 Y2 254 0 0 0); have hLb := Aside0.mk (c_drop (c := k3) 2 (hF.out _ hl_).2.2 (pkd_len 12) (by decide) hk33.out); rw [← hA13.out] at hLb; have hLc := Aside0.mk hl_; clear hR_ hb_ hl_; clear kX2)) | (at_builtin; refine Ap.appB (w0 := Y2) Y2.heap.size _ [254, 0, 0, 0] ((pkd 12).drop 2) A13 22 (k3 - 2) rfl _ _ rfl rfl rfl hLa.out hLb.out hLc.out hLc.out.size (by decide) ?_; intro v9 w9 ho_ hb_; obtain ⟨g9, c9, rfl, h9_, hC_⟩ := R_form' (n := 26) ho_ (by rw [List.length_append, List.length_drop, pkd_len]; rfl) (by decide); have n_ := Aside0.mk (hB.out.trans (hb_.mono hB.out.size)); clear hB; have hB := n_; clear n_; have n_ := mv hF hb_; clear hF; have hF := n_; clear n_; have n_ := mv hU hb_; clear hU; have hU := n_; clear n_; have kX3 := Aside0.mk (Un_at (W := w9) (c := c9) hC_ (by rw [List.length_append, List.length_drop, pkd_len]; rfl) h9_ pkdB2 (by decide) un3); clear ho_ hb_ hC_ h9_ hLa hLb hLc) | (go_at_call 14; ((with_reducible refine (kX3.out).mono ?_); rintro e Y3 ⟨v10, rfl, hR_, hb_⟩; have n_ := Aside0.mk (hB.out.trans (hb_.mono hB.out.size)); clear hB; have hB := n_; clear n_; have n_ := mv hF hb_; clear hF; have hF := n_; clear n_; have n_ := mv hU hb_; clear hU; have hU := n_; clear n_; have kX4 := Aside0.mk (Un_at (W := Y3) (c := 0) (Ap.C_zero _ none) rfl (Nat.le_refl _) (fun x h => by cases h) (by decide) un4); clear hR_ hb_; clear kX3)) | (go_at_call 14; ((with_reducible refine (kX4.out).mono ?_); rintro e Y4 ⟨v11, rfl, hR_, hb_⟩; have n_ := Aside0.mk (hB.out.trans (hb_.mono hB.out.size)); clear hB; have hB := n_; clear n_; have n_ := mv hF hb_; clear hF; have hF := n_; clear n_; have n_ := mv hU hb_; clear hU; have hU := n_; clear n_; have kX5 := Aside0.mk (Diff_at (W := Y4) (c := k1) (c' := k2) (hF.out _ (Below.refl _ _)).1 zero_len.symm hk11.out (hF.out _ (Below.refl _ _)).2.1 other_len.symm hk22.out df); clear hR_ hb_; clear kX4)) | (go_at_call 15; ((with_reducible refine (kX5.out).mono ?_); rintro e Y5 ⟨v13, rfl, hR_, hb_⟩; obtain ⟨g13, c13, rfl, h13_, hC_⟩ := RC_form hR_; have hD : Aside0 (∀ W, Below Y5.heap.size Y5 W → k51.C W (some ⟨g13, 0, none⟩) 1 [⟨1, 0, 0, 171⟩]) := ⟨fun W h => Kd.C_below hC_ h⟩; have n_ := Aside0.mk (hB.out.trans (hb_.mono hB.out.size)); clear hB; have hB := n_; clear n_; have n_ := mv hF hb_; clear hF; have hF := n_; clear n_; have n_ := mv hU hb_; clear hU; have hU := n_; clear n_; have kX6 := Aside0.mk (Apply_at (W := Y5) (c := k2) (c' := c13) (hF.out _ (Below.refl _ _)).2.1 other_len.symm hk22.out hC_ rfl h13_ (by decide) ap1); clear hR_ hb_ hC_ h13_; clear kX5)) | (go_at_call 16; ((with_reducible refine (kX6.out).mono ?_); rintro e Y6 ⟨v15, rfl, hR_, hb_⟩; have n_ := Aside0.mk (hB.out.trans (hb_.mono hB.out.size)); clear hB; have hB := n_; clear n_; have n_ := mv hF hb_; clear hF; have hF := n_; clear n_; have n_ := mv hU hb_; clear hU; have hU := n_; clear n_; have n_ := mv hD hb_; clear hD; have hD := n_; clear n_; clear hR_ hb_; have hl_ := Aside0.mk (below_alloc (Below.refl Y6.heap.size Y6) (.cells #[.int .i64 1, .int .i64 0, .int .u8 171, .int .u8 0] 51)); have kX7 := Aside0.mk (Apply_at (c := k2) (c' := 1) (hF.out _ hl_.out).2.1 other_len.symm hk22.out (kC_lit Y6 1 0 171 0) rfl (Nat.le_refl _) (by decide) ap2); clear kX6)) | (go_at_call 16; ((with_reducible refine (kX7.out).mono ?_); rintro e Y7 ⟨v17, rfl, hR_, hb0_⟩; have hb_ := hl_.out.trans (hb0_.mono hl_.out.size); clear hl_; obtain ⟨g17, c17, rfl, _, hC_⟩ := R_form' hR_ zero_len (by decide); have hK : Aside0 (∀ W, Below Y7.heap.size Y7 W → CB W (some ⟨g17, 0, none⟩) 3072 zero) := ⟨fun W h => Kd.C_below hC_ h⟩; have n_ := Aside0.mk (hB.out.trans (hb_.mono hB.out.size)); clear hB; have hB := n_; clear n_; have n_ := mv hF hb_; clear hF; have hF := n_; clear n_; have n_ := mv hU hb_; clear hU; have hU := n_; clear n_; have n_ := mv hD hb_; clear hD; have hD := n_; clear n_; clear hR_ hb_ hb0_ hC_; have hl_ := Aside0.mk (below_alloc (Below.refl Y7.heap.size Y7) (.cells #[.int .i64 64, .int .i64 0, .int .u8 0, .int .u8 1] 51)); have kX8 := Aside0.mk (Apply_at (c := k1) (c' := 1) (hF.out _ hl_.out).1 zero_len.symm hk11.out (kC_lit Y7 64 0 0 1) rfl (Nat.le_refl _) (by decide) ap3); clear kX7)) | (go_at_call 16; ((with_reducible refine (kX8.out).mono ?_); rintro e Y8 ⟨v19, rfl, hR_, hb0_⟩; have hb_ := hl_.out.trans (hb0_.mono hl_.out.size); clear hl_; have n_ := Aside0.mk (hB.out.trans (hb_.mono hB.out.size)); clear hB; have hB := n_; clear n_; have n_ := mv hF hb_; clear hF; have hF := n_; clear n_; have n_ := mv hU hb_; clear hU; have hU := n_; clear n_; have n_ := mv hD hb_; clear hD; have hD := n_; clear n_; have n_ := mv hK hb_; clear hK; have hK := n_; clear n_; clear hR_ hb_ hb0_; have hl_ := Aside0.mk (below_alloc (Below.refl Y8.heap.size Y8) (.cells #[.int .i64 0, .int .i64 48, .int .u8 0, .int .u8 1] 51)); have kX9 := Aside0.mk (Apply_at (c := k1) (c' := 1) (hF.out _ hl_.out).1 zero_len.symm hk11.out (kC_lit Y8 0 48 0 1) rfl (Nat.le_refl _) (by decide) ap4); clear kX8)) | (go_at_call 16; ((with_reducible refine (kX9.out).mono ?_); rintro e Y9 ⟨v21, rfl, hR_, hb0_⟩; have hb_ := hl_.out.trans (hb0_.mono hl_.out.size); clear hl_; have n_ := Aside0.mk (hB.out.trans (hb_.mono hB.out.size)); clear hB; have hB := n_; clear n_; have n_ := mv hF hb_; clear hF; have hF := n_; clear n_; have n_ := mv hU hb_; clear hU; have hU := n_; clear n_; have n_ := mv hD hb_; clear hD; have hD := n_; clear n_; have n_ := mv hK hb_; clear hK; have hK := n_; clear n_; have hC20 := c_drop (c := k1) 1 (hF.out _ (Below.refl _ _)).1 zero_len (by decide) hk11.out; rw [← hA20.out] at hC20; have kX10 := Aside0.mk (Art_at (W := Y9) (n := 3071) (c := k1 - 1) hC20 (by rw [List.length_drop, zero_len]) (Nat.sub_le_sub_right hk11.out 1) (fun x hx => zeroB x (List.mem_of_mem_drop hx)) art1); clear hR_ hb_ hb0_ hC20; clear kX9)) | (go_at_call 17; ((with_reducible refine (kX10.out).mono ?_); rintro e Y10 ⟨rfl, hb_⟩; have n_ := Aside0.mk (hB.out.trans (hb_.mono hB.out.size)); clear hB; have hB := n_; clear n_; have n_ := mv hF hb_; clear hF; have hF := n_; clear n_; have n_ := mv hU hb_; clear hU; have hU := n_; clear n_; have n_ := mv hD hb_; clear hD; have hD := n_; clear n_; have n_ := mv hK hb_; clear hK; have hK := n_; clear n_; have kX11 := Aside0.mk (Read_at Y10 read1); clear hb_; clear kX10)) | (go_at_call 18; ((with_reducible refine (kX11.out).mono ?_); rintro e Y11 ⟨v25, rfl, hR_, hb_⟩; have n_ := Aside0.mk (hB.out.trans (hb_.mono hB.out.size)); clear hB; have hB := n_; clear n_; have n_ := mv hF hb_; clear hF; have hF := n_; clear n_; have n_ := mv hU hb_; clear hU; have hU := n_; clear n_; have n_ := mv hD hb_; clear hD; have hD := n_; clear n_; have n_ := mv hK hb_; clear hK; have hK := n_; clear n_; clear hR_ hb_; clear kX11)))
      obtain ⟨S, hS⟩ : ∃ S, strOfNums zero = S := ⟨_, rfl⟩
      have qS5 := Ap.strf (c := c5) (hU.out _ (Below.refl _ _)) hS
      have qS1 := Ap.strf (c := k1) (hF.out _ (Below.refl _ _)).1 hS
      have qS17 := Ap.strf (c := c17) (hK.out _ (Below.refl _ _)) hS
      obtain ⟨y0, y1, y2, y3⟩ := kC_at (hD.out _ (Below.refl _ _))
      have qn : ∀ W : World, (binOp .neq 51 (.agg #[.int .i64 1, .int .i64 0, .int .u8 0, .int .u8 171]) (.agg #[.int .i64 1, .int .i64 0, .int .u8 0, .int .u8 171])).run Tryd.prog W = .ok (.bool false) W := fun W => neqC W 1 0 0 171
      have kT9 := Aside0.mk (kTn.out Y11 hB.out)
      clear hS qs12 qs13 qs20
      dsimp only at y0 y1 y2 y3
      go_wp2_with (go_at_call 9; ((with_reducible refine (kT9.out).mono ?_); rintro e Y12 ⟨rfl, hb_⟩; have hB9 := Aside0.mk (hB.out.trans (hb_.mono hB.out.size)); clear hb_))
      go_ret
      exact ⟨rfl, hB9.out⟩
end Go.Proofs.YtpjdgndbcjinjaaDoor.Pn
