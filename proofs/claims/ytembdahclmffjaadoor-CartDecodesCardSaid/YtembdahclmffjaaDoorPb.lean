/- wisplaw07.apart: the walk. -/
import Derived.Test.YtembdahclmffjaaDoorPa
namespace Go.Proofs.YtembdahclmffjaaDoor.Pk
open Go.RowKit Go.Proofs.YtembdahclmffjaaDoorW.PrintWords Go.Proofs.YtembdahclmffjaaDoorW.PrintLast Go.Proofs.YtembdahclmffjaaDoorW.PrintMore Go.Proofs.YtembdahclmffjaaDoor.Mem
set_option linter.unusedVariables false
set_option linter.unusedSimpArgs false
set_option maxRecDepth 100000 in
set_option maxHeartbeats 8000000 in
theorem ApC {wC w : World} {base g3 c0 c2 c3 : Nat} {A0 A2 A3 : Option Addr} {V : Nat → Value} {c : CartP} (h : OwnR wC base A0 c0 A2 c2 A3 c3 g3 V c) (hb : Below wC.heap.size wC w) (hbase : base ≤ wC.heap.size) (hl3 : c.bks.length ≤ c3) (hcl : c.code.length ≤ 16384) (hel : c.efs.length ≤ 8192) (hbl : c.bks.length ≤ 16) (hdl : ∀ k, k < c.bks.length → (c.bks.getD k (0, [])).2.length ≤ 16384) :
    Calls Tryd.prog 13 #[crt A0 c0 A2 c2 A3 c3 c] w fun e w' => e = .returned (.bool true) ∧ Fr w w' (fun k => base ≤ k ∧ k < wC.heap.size) := by
  unfold crt
  obtain ⟨n0, hn0⟩ : ∃ n, n = c.code.length := ⟨_, rfl⟩
  obtain ⟨n2, hn2⟩ : ∃ n, n = c.efs.length := ⟨_, rfl⟩
  obtain ⟨n3, hn3⟩ : ∃ n, n = c.bks.length := ⟨_, rfl⟩
  obtain ⟨ent, hent⟩ : ∃ x, x = c.entry := ⟨_, rfl⟩
  obtain ⟨top, htop⟩ : ∃ t, t = wC.heap.size := ⟨_, rfl⟩
  have hr0 := h.r0
  have hr2 := h.r2
  rw [← hn0] at hr0 hcl
  rw [← hn2] at hr2 hel
  rw [← hn3] at hbl hl3 hdl
  have hrows := h.rows
  rw [← hn3] at hrows
  have hcells := h.cells
  rw [← hn3] at hcells
  have hap := h.apart
  have hap0 := h.apart0
  rw [← hn3] at hap hap0
  rw [← hn0] at hap0
  have how := h.ow
  rw [← hn3] at how
  rw [← hn0, ← hn2, ← hn3, ← hent, ← htop]
  rw [← htop] at hbase
  have htw : top ≤ w.heap.size := by rw [htop]; exact hb.size
  obtain ⟨g2, hB2⟩ := Blk.of_R hr2
  have hB3 : Blk wC base 82 2 A3 c3 g3 n3 := by
    rcases how with ⟨e1, e2⟩ | ⟨e1, e2, e3, e4, e5⟩
    · exact .inl ⟨e1, e2, by omega⟩
    · exact .inr ⟨e1, e2, e3, e4, e5⟩
  have ht0 : ∀ q, (Value.slice A0 n0 c0).ownBlock = some q → q < top := fun q hq => by rw [htop]; exact Kd.R_lt hr0 q hq
  have hts : ∀ k q, k < n3 → (V k).ownBlock = some q → q < top := fun k q hk hq => by rw [htop]; exact Kd.R_lt (hrows k hk) q hq
  have ht2 := Aside0.mk (show ∀ q, (Value.slice A2 n2 c2).ownBlock = some q → q < top from fun q hq => by rw [htop]; exact Kd.R_lt hr2 q hq)
  have ht3 := Aside0.mk (show ∀ q, (Value.slice A3 n3 c3).ownBlock = some q → q < top from fun q hq => by
    obtain ⟨_, cs, hc⟩ := hB3.blk hq
    have := heap_lt hc
    rw [htop]
    have e := (hB3.blk hq).1
    omega)
  have hcel : Aside0 (∀ W, Below w.heap.size w W → ∀ k, k < n3 → W.cell? ⟨g3, k * 2, none⟩ = some (.int .i64 (c.bks.getD k (0, [])).1) ∧ W.cell? ⟨g3, k * 2 + 1, none⟩ = some (V k)) := ⟨fun W hW k hk => by
    have h9 := hb.trans (hW.mono hb.size)
    obtain ⟨q1, q2⟩ := hcells k hk
    exact ⟨(h9.cell (World.block_lt_of_cell? _ _ q1)).trans q1, (h9.cell (World.block_lt_of_cell? _ _ q2)).trans q2⟩⟩
  have hb1 := below_alloc (Below.refl w.heap.size w) (.cells #[.slice A0 n0 c0, .int .u16 ent, .slice A2 n2 c2, .slice A3 n3 c3] 28)
  have hAw := Aside0.mk (show Aw w (w.alloc (.cells #[.slice A0 n0 c0, .int .u16 ent, .slice A2 n2 c2, .slice A3 n3 c3] 28)) base top (.slice A0 n0 c0) (.slice A2 n2 c2) (.slice A3 n3 c3) ent n3 c.code V (fun k => (c.bks.getD k (0, [])).2) from ⟨(Fr.refl w _).alloc _, htw, World.alloc_heap_new w _, Kd.R_below (Kd.R_below hr0 hb) hb1, fun k hk => Kd.R_below (Kd.R_below (hrows k hk) hb) hb1, ht0, hts⟩)
  have hBB2 := Aside0.mk ((hB2.below hb).below hb1)
  have hBB3 := Aside0.mk ((hB3.below hb).below hb1)
  have hbb1 := Aside0.mk hb1
  have hs1 : (w.alloc (.cells #[.slice A0 n0 c0, .int .u16 ent, .slice A2 n2 c2, .slice A3 n3 c3] 28)).heap.size = w.heap.size + 1 := by rw [World.size_alloc]
  have hVf : Aside0 (∀ k, k < n3 → ∃ Ak ck, V k = .slice Ak (c.bks.getD k (0, [])).2.length ck) := ⟨fun k hk => by
    obtain ⟨Ak, ck, e, _⟩ := Kd.R_reads (hrows k hk)
    exact ⟨Ak, ck, e⟩⟩
  have hdll := Aside0.mk hdl
  have happ := Aside0.mk hap
  have happ0 := Aside0.mk hap0
  have hnn0 := Aside0.mk hn0
  have hclA := Aside0.mk hcl
  clear hr0 hr2 hrows hcells hap hap0 how hB2 hB3 ht0 hts hn0 hn2 hn3 hent htop h hb hb1 hdl
  obtain ⟨w1, hw1⟩ : ∃ w1, w1 = w.alloc (.cells #[.slice A0 n0 c0, .int .u16 ent, .slice A2 n2 c2, .slice A3 n3 c3] 28) := ⟨_, rfl⟩
  have hww1 := Aside0.mk hw1
  rw [← hw1] at hAw hBB2 hBB3 hbb1 hs1
  have hss1 := Aside0.mk hs1
  clear hw1 hs1
  have hRL0 : Aside0 (Ap.RL (w1.alloc (.cells #[.slice A0 n0 c0] 22)) (w.heap.size + 1) (.slice (some ⟨w.heap.size + 1, 0, none⟩) 1 1) (Dl A0 n0 c0 V 0)) := ⟨by
    have h2 := own_lit1 w1 (.slice A0 n0 c0) (w.heap.size + 1) (by rw [hss1.out]; exact Nat.le_refl _) 22
    rw [hss1.out] at h2
    exact Kd.R_of_own (h1 := fun _ => rfl) (xs := [(A0, n0, c0)]) h2 (fun _ _ => trivial)⟩
  have hbq : Aside0 (Below (w.heap.size + 1) w1 (w1.alloc (.cells #[.slice A0 n0 c0] 22))) := ⟨by have := below_alloc (Below.refl w1.heap.size w1) (.cells #[.slice A0 n0 c0] 22); rw [hss1.out] at this; exact this⟩
  go_enter Tryd.func13, Tryd.ntmps13
  go_upto_region 1 with (fail)
  rw [← hww1.out]
  have q0 : w1.cell? ⟨w.heap.size, 0, none⟩ = some (.slice A0 n0 c0) := (cellH hAw.out.bx).trans rfl
  have q3 : (w1.alloc (.cells #[.slice A0 n0 c0] 22)).cell? ⟨w.heap.size, 3, none⟩ = some (.slice A3 n3 c3) := (cellH (hAw.out.above hbq.out).bx).trans rfl
  have hs1 := hss1.out
  go_wp2
  clear q0 q3
  go_loopg [3, 14] n3 (fun gk v3 v14 wr => ∃ (i : Nat) (v : Value), v3 = v ∧ v14 = .int .i64 (i : Int) ∧ i + gk = n3 ∧ Aside0 (Below (w.heap.size + 1) w1 wr) ∧ Aside0 (Ap.RL wr (w.heap.size + 1) v (Dl A0 n0 c0 V i)))
  case atStart => exact ⟨0, _, rfl, rfl, by omega, hbq, hRL0⟩
  case round =>
    clear hbq hRL0
    obtain ⟨i, v3, hv3, rfl, hi, hbq, hRL⟩ := hrel
    replace hv3 := hv3.symm
    subst hv3
    have hA := Aside0.mk (hAw.out.above hbq.out)
    have hbw := Aside0.mk (hbb1.out.trans (hbq.out.mono (by omega)))
    have hsz := Aside0.mk (show w.heap.size + 1 ≤ wr.heap.size by have := hbq.out.size; omega)
    cases gk with
    | succ k1 =>
      have hd : decide ((i : Int) < (n3 : Int)) = true := decide_eq_true (by omega)
      have hd' : decide (i < n3) = true := decide_eq_true (by omega)
      have hin : i < n3 := by omega
      obtain ⟨hA3, _, _, _⟩ := hBB3.out.addr (by omega)
      subst hA3
      obtain ⟨Ai, ci, hVi⟩ := hVf.out i hin
      obtain ⟨x0, x1⟩ := hcel.out _ hbw.out i hin
      rw [hVi] at x1
      obtain ⟨ni, hni⟩ : ∃ ni, ni = (c.bks.getD i (0, [])).2.length := ⟨_, rfl⟩
      rw [← hni] at x1 hVi
      have hVii := Aside0.mk hVi
      generalize (c.bks.getD i (0, [])).1 = num at x0
      have hb4 := below_alloc (Below.refl wr.heap.size wr) (.cells #[.int .i64 num, .slice Ai ni ci] 82)
      have hRL4 := Aside0.mk (Kd.R_below hRL.out hb4)
      have hbq4 := Aside0.mk (hbq.out.trans (hb4.mono hsz.out))
      have hs4 : Aside0 (w.heap.size + 1 ≤ (wr.alloc (.cells #[.int .i64 num, .slice Ai ni ci] 82)).heap.size) := ⟨by have := hsz.out; have := hb4.size; omega⟩
      have hln : Aside0 (((Dl A0 n0 c0 V i).length + 1) * 24 ≤ 140737488355328) := ⟨by rw [Dl_len]; omega⟩
      have hDs : Aside0 (Dl A0 n0 c0 V (i + 1) = Dl A0 n0 c0 V i ++ [(Ai, ni, ci)]) := ⟨by rw [Dl_snoc, hVi]; rfl⟩
      clear hb4 hni hVi
      go_wp2_with (at_builtin; go_must (refine Kd.R_append Ap.dsc (w0 := wr.alloc (.cells #[.int .i64 num, .slice Ai ni ci] 82)) (w.heap.size + 1) rfl _ _ 67 22 (.slice none 0 0) 24 rfl Tryd.underlying67 Ap.infoL rfl (by decide) (by decide) v3 (Dl A0 n0 c0 V i) (Ai, ni, ci) [.slice Ai ni ci] (fun _ => True) (fun _ => False) rfl (by rw [World.size_alloc]; rfl) rfl (fun k hk => hk.elim) (fun _ _ => trivial) hRL4.out (Below.refl _ _) hs4.out hln.out ?_); intro v9 w9 hR9 hb9 hg9 _; have hRn := Aside0.mk hR9; have hbn := Aside0.mk (hbq4.out.trans hb9); clear hR9 hb9 hg9)
      go_roundg k1
      case measure => omega
      case rel => exact ⟨i + 1, v9, rfl, rfl, by omega, hbn, ⟨by rw [hDs.out]; exact hRn.out⟩⟩
    | zero =>
      have hd : decide ((i : Int) < (n3 : Int)) = false := decide_eq_false (by omega)
      have hd' : decide (i < n3) = false := decide_eq_false (by omega)
      obtain rfl : i = n3 := by omega
      have hX := Aside0.mk (show Ax w wr wr base top (.slice A0 n0 c0) A2 n2 c2 g2 A3 i c3 g3 ent c.code V (fun k => (c.bks.getD k (0, [])).2) from ⟨hA.out, hBB2.out.upto (fun q hq => by have := ht2.out q hq; omega) hbq.out, hBB3.out.upto (fun q hq => by have := ht3.out q hq; omega) hbq.out, Fr.refl _ _, ht2.out, ht3.out⟩)
      obtain ⟨gl, cl, eL, hgl, hgl2, _⟩ := Kd.R_form hRL.out (by rw [Dl_len]; omega)
      rw [Dl_len] at eL
      subst eL
      have hcl := (Kd.R_reads' hRL.out).2.1
      have q2 : wr.cell? ⟨w.heap.size, 2, none⟩ = some (.slice A2 n2 c2) := (cellH hA.out.bx).trans rfl
      obtain ⟨wL, hwL⟩ : ∃ wL, wL = wr := ⟨_, rfl⟩
      have hwLL := Aside0.mk hwL
      have hXL : Aside0 (Ax w wL wr base top (.slice A0 n0 c0) A2 n2 c2 g2 A3 i c3 g3 ent c.code V (fun k => (c.bks.getD k (0, [])).2)) := ⟨by rw [hwL]; exact hX.out⟩
      have hRLL : Aside0 (Ap.RL wL (w.heap.size + 1) (.slice (some ⟨gl, 0, none⟩) (i + 1) cl) (Dl A0 n0 c0 V i)) := ⟨by rw [hwL]; exact hRL.out⟩
      have hglL : Aside0 (gl < wL.heap.size) := ⟨by rw [hwL]; exact hgl2⟩
      have hszL : Aside0 (w.heap.size + 1 ≤ wL.heap.size) := ⟨by rw [hwL]; exact hsz.out⟩
      clear hX hRL hA hbw hsz hbq hBB2 hBB3 hAw hbb1 hwL hd hd' hi
      go_wp2
      clear q2
      go_loopg [27] n2 (fun gk v27 wr => ∃ k : Nat, v27 = .int .i64 (k : Int) ∧ k + gk = n2 ∧ Aside0 (Ax w wL wr base top (.slice A0 n0 c0) A2 n2 c2 g2 A3 i c3 g3 ent c.code V (fun k => (c.bks.getD k (0, [])).2)))
      case atStart => exact ⟨0, rfl, by omega, hXL⟩
      case round =>
        clear hXL
        obtain ⟨k, rfl, hk, hX⟩ := hrel
        have q2 : wr.cell? ⟨w.heap.size, 2, none⟩ = some (.slice A2 n2 c2) := (cellH hX.out.aw.bx).trans rfl
        cases gk with
        | succ k1 =>
          have hd : decide ((k : Int) < (n2 : Int)) = true := decide_eq_true (by omega)
          have hd' : decide (k < n2) = true := decide_eq_true (by omega)
          have hkn : k < n2 := by omega
          obtain ⟨hA2, _, _, _⟩ := hX.out.b2.addr (by omega)
          obtain ⟨⟨u0, y0⟩, z0⟩ := hX.out.b2.cell (j := 0) hkn (by omega)
          obtain ⟨⟨u1, y1⟩, z1⟩ := hX.out.b2.cell (j := 1) hkn (by omega)
          obtain ⟨⟨u2, y2⟩, z2⟩ := hX.out.b2.cell (j := 2) hkn (by omega)
          rw [Nat.add_zero] at y0 z0
          subst hA2
          have hXn := Aside0.mk (hX.out.eff (by omega) (k * 3) (.int .u16 1) (.int .i64 2) (.int .i64 3))
          go_wp2
          go_roundg k1
          case measure => omega
          case rel => exact ⟨k + 1, rfl, by omega, hXn⟩
        | zero =>
          have hd : decide ((k : Int) < (n2 : Int)) = false := decide_eq_false (by omega)
          have hd' : decide (k < n2) = false := decide_eq_false (by omega)
          have q3 : wr.cell? ⟨w.heap.size, 3, none⟩ = some (.slice A3 i c3) := (cellH hX.out.aw.bx).trans rfl
          have hXL := hX
          clear hX hk
          go_wp2
          clear q2 q3 hd hd'
          go_loopg [39] i (fun gk v39 wr => ∃ k : Nat, v39 = .int .i64 (k : Int) ∧ k + gk = i ∧ Aside0 (Ax w wL wr base top (.slice A0 n0 c0) A2 n2 c2 g2 A3 i c3 g3 ent c.code V (fun k => (c.bks.getD k (0, [])).2)))
          case atStart => exact ⟨0, rfl, by omega, hXL⟩
          case round =>
            clear hXL
            obtain ⟨k, rfl, hk, hX⟩ := hrel
            have q3 : wr.cell? ⟨w.heap.size, 3, none⟩ = some (.slice A3 i c3) := (cellH hX.out.aw.bx).trans rfl
            cases gk with
            | succ k1 =>
              have hd : decide ((k : Int) < (i : Int)) = true := decide_eq_true (by omega)
              have hd' : decide (k < i) = true := decide_eq_true (by omega)
              have hkn : k < i := by omega
              obtain ⟨hA3, _, _, _⟩ := hX.out.b3.addr (by omega)
              obtain ⟨⟨u0, y0⟩, z0⟩ := hX.out.b3.cell (j := 0) hkn (by omega)
              rw [Nat.add_zero] at y0 z0
              subst hA3
              have hXn := Aside0.mk (hX.out.bnk (by omega) (k * 2) (.int .i64 78))
              go_wp2
              go_roundg k1
              case measure => omega
              case rel => exact ⟨k + 1, rfl, by omega, hXn⟩
            | zero =>
              have hd : decide ((k : Int) < (i : Int)) = false := decide_eq_false (by omega)
              have hd' : decide (k < i) = false := decide_eq_false (by omega)
              have q2 : wr.cell? ⟨w.heap.size, 2, none⟩ = some (.slice A2 n2 c2) := (cellH hX.out.aw.bx).trans rfl
              obtain ⟨in2, hown2_⟩ := hX.out.b2.own
              have hown2 := Aside0.mk hown2_
              have hsw : Aside0 (base ≤ wr.heap.size ∧ w.heap.size + 1 ≤ wr.heap.size) := ⟨by have := hX.out.F.size; have := hszL.out; omega⟩
              have hm2 : Aside0 (n2 + 2 ≤ maxLen ∧ (n2 + 2) * 24 ≤ 140737488355328) := ⟨by unfold maxLen; omega⟩
              have hm3 : Aside0 (i + 2 ≤ maxLen ∧ (i + 2) * 32 ≤ 140737488355328) := ⟨by unfold maxLen; omega⟩
              clear hown2_ hk
              go_upto_region 18 with (at_builtin; (refine appDrop (W := wr) (base := base) (v := .slice A2 n2 c2) (z := .agg #[.int .u16 0, .int .i64 0, .int .i64 0]) (sz := 3) (bytes := 24) (n := n2) (m := 2) (inner := in2) rfl _ _ rfl Tryd.underlying25 infoE rfl (by decide) rfl [.int .u16 0, .int .i64 0, .int .i64 0, .int .u16 0, .int .i64 0, .int .i64 0] rfl rfl (by intro u hu; simp only [List.mem_cons, List.not_mem_nil, or_false] at hu; rcases hu with rfl | rfl | rfl | rfl | rfl | rfl <;> rfl) hown2.out hsw.out.1 hm2.out.1 hm2.out.2 ?_; intro v9 w9 hg9; have hY := Aside0.mk (hX.out.app2x hg9); have hs9 := Aside0.mk hg9.size; clear hg9))
              have q3 : w9.cell? ⟨w.heap.size, 3, none⟩ = some (.slice A3 i c3) := (cellH hY.out.1.bx).trans rfl
              obtain ⟨in3, hown3_⟩ := hY.out.2.1.own
              have hown3 := Aside0.mk hown3_
              clear hown3_ hX
              go_upto_region 19 with (at_builtin; refine appDrop (W := w9) (base := base) (v := .slice A3 i c3) (z := .agg #[.int .i64 0, .slice none 0 0]) (sz := 2) (bytes := 32) (n := i) (m := 2) (inner := in3) rfl _ _ rfl Tryd.underlying26 infoBk rfl (by decide) rfl [.int .i64 0, .slice none 0 0, .int .i64 0, .slice none 0 0] rfl rfl (by intro u hu; simp only [List.mem_cons, List.not_mem_nil, or_false] at hu; rcases hu with rfl | rfl | rfl | rfl <;> rfl) hown3.out (Nat.le_trans hsw.out.1 hs9.out) hm3.out.1 hm3.out.2 ?_; intro v10 w10 hg10; have hI3 := hY.out.2.1.info ht3.out; have hZ := Aside0.mk (And.intro (hY.out.1.grown hg10 hI3 (by decide)) (hY.out.2.2.trans (Fr.of_grown hg10 (fun k e _ => ⟨(hI3 k e).1, (hI3 k e).2.1⟩)) (fun _ _ e => e))); clear hg10 hI3)
              have hRL10 := RL_fr hRLL.out hZ.out.2 (show top ≤ w.heap.size + 1 by omega)
              have hRows := hZ.out.1.rowsAll happ.out happ0.out
              have kA := Ap.Apart (c := cl) hRows (RL_cells hRL10 (fun k hk => by obtain ⟨Ak, ck, e⟩ := hVf.out k hk; exact ⟨_, _, _, e⟩)) (fun j hj e => by
                have hlt : gl < top := by
                  match j, hj, e with
                  | 0, _, e => exact hZ.out.1.top0 gl e
                  | k + 1, hj, e => exact hZ.out.1.tops k gl (by omega) e
                omega) (by have := hZ.out.2.size; have := hglL.out; omega) (by omega) (fun j hj => by
                match j, hj with
                | 0, _ => show c.code.length ≤ _; have := hclA.out; have := hnn0.out; omega
                | k + 1, hj => have := hdll.out k (by omega); show ((c.bks.getD k (0, [])).2).length ≤ _; omega) (by have := hZ.out.2.size; have := hszL.out; omega)
              have kAA := Aside0.mk kA
              have hRow2 := Aside0.mk hRows
              clear hRL10 hRows kA
              go_wp2_with (go_at_call 28; ((refine kAA.out.mono ?_); rintro e w11 ⟨rfl, hF11⟩; have hFF := Aside0.mk hF11; clear hF11))
              go_ret
              refine ⟨rfl, hZ.out.1.F.trans hFF.out (fun q hq ⟨j, hj, e⟩ => ⟨Kd.R_base (hRow2.out.R j hj) q e, ?_⟩)⟩
              match j, hj, e with
              | 0, _, e => exact hZ.out.1.top0 q e
              | k + 1, hj, e => exact hZ.out.1.tops k q (by omega) e
end Go.Proofs.YtembdahclmffjaaDoor.Pk
