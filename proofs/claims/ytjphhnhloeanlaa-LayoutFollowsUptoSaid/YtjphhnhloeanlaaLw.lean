/- wisplaw12.LayoutFollows: the walk. -/
import Derived.Test.YtjphhnhloeanlaaLf
import Derived.Test.YtjphhnhloeanlaaLq
namespace Go.Proofs.Ytjphhnhloeanlaa.P
open Go.RowKit Go.Shelf Go.Proofs.YtjphhnhloeanlaaW.PrintWords Go.Proofs.YtjphhnhloeanlaaW.PrintLast Go.Proofs.YtjphhnhloeanlaaW.PrintMore Go.Proofs.Ytjphhnhloeanlaa.Mem
set_option linter.unusedVariables false
set_option linter.unusedSimpArgs false
theorem Follows_tail {w wr : World} {Av : Option Addr} {i m : Nat} {ds : List Df} {args : Array Value} {R : Ending → World → Prop} {cd rm : Int} (hm : m ≤ i)
    (hO : Calls Try.prog 14 args wr fun e W' => ∃ v, e = .returned (.tuple #[v, .int .i64 cd, .int .i64 rm, .agg #[.int .i64 0, .int .i64 0], .int .i64 0]) ∧ kP.R 50 W' wr.heap.size (fun _ => True) v ((List.range m).map (plc ds)) ∧ Below wr.heap.size wr W')
    (hP : kP.C wr Av i ((List.range i).map (plc ds))) (hb : Below w.heap.size w wr)
    (k : ∀ W3 A4 c4, kP.C W3 A4 m ((List.range m).map (plc ds)) → kP.C W3 Av i ((List.range i).map (plc ds)) → Below w.heap.size w W3 → R (.returned (.tuple #[.slice A4 m c4, .int .i64 cd, .int .i64 rm, .agg #[.int .i64 0, .int .i64 0], .int .i64 0])) W3) : Calls Try.prog 14 args wr R := by
  refine hO.mono ?_
  rintro e W3 ⟨v, rfl, hR, hb3⟩
  obtain ⟨A4, l4, c4, rfl⟩ := Kd.R_slice hR
  obtain ⟨_, _, hC⟩ := Kd.R_reads' hR
  have hl : ((List.range m).map (plc ds)).length = m := by simp
  rw [hl] at hC
  simp only [List.length_map, List.length_range]
  exact k W3 A4 _ hC (Kd.C_below hP hb3) (hb.trans (hb3.mono hb.size))
set_option maxRecDepth 100000 in
set_option maxHeartbeats 4000000 in
theorem Follows_at {w : World} {A A2 : Option Addr} {n c n2 c2 : Nat} {x : Int} {ds : List Df} (hC : k36.C w A n ds) (hn : n = ds.length) (hc : n ≤ c) (hok : OkD ds) (hx0 : -9223372036854775808 ≤ x) (hx1 : x ≤ 9223372036854775807) :
    Calls Try.prog 5 #[.agg #[.slice A n c, .slice A2 n2 c2], .int .i64 x] w fun e w' => e = .returned (.bool true) ∧ Below w.heap.size w w' := by
  have hOf := Aside0.mk (fun wy (hb : Below w.heap.size w wy) => Of_at (c := c) (n2 := n2) (c2 := c2) (A2 := A2) (Kd.C_below hC hb) hn hok)
  have hCA := Aside0.mk hC
  have hnn := Aside0.mk hn
  have hokA := Aside0.mk hok
  have hn9 : n ≤ 1000000000 := by have := hok.n; omega
  clear hC hn hok
  have hcs := Aside0.mk (ofA_cases ds)
  go_enter Try.func5, Try.ntmps5
  go_wp2_with fail
  refine name_call (fun wy => wy.heap[w.heap.size]? = some (Obj.cells #[.slice A n c, .slice A2 n2 c2] 32) ∧ Below w.heap.size w wy) ⟨hpA rfl, below_alloc (Below.refl _ _) _⟩ ?_
  rintro wy ⟨hbx, hb⟩
  refine (hOf.out wy hb).mono ?_
  rintro e w1 ⟨v, rfl, hR, hb1⟩
  have hbx1 := (hb1.block w.heap.size (Array.getElem?_eq_some_iff.1 hbx).1).trans hbx
  have hbA := Aside0.mk (hb.trans (hb1.mono hb.size))
  obtain ⟨Av, pl, cv, rfl⟩ := Kd.R_slice hR
  rcases hcs.out with herr | ⟨hfit, hof⟩
  · have d1 : ((ofA ds).2.2.2.2.2 != 0) = true := by simpa using herr
    generalize (ofA ds).2.2.2.2.2 = ev at *
    generalize (ofA ds).2.1 = cd at *
    generalize (ofA ds).2.2.1 = rm at *
    generalize (ofA ds).2.2.2.1 = po at *
    generalize (ofA ds).2.2.2.2.1 = pc at *
    clear hcs hOf hCA hokA hb1 hb herr hR
    go_wp2_with (go_at_call 13; ((with_reducible refine (fixed_at _).mono ?_)); rintro e wa ⟨rfl, hb⟩; first | (have hbA := Aside0.mk (hbA.out.trans (hb.mono hbA.out.size)); clear hb) | (have hbA := Aside0.mk ((below_alloc hbA.out _).trans (hb.mono (below_alloc hbA.out _).size)); clear hb))
    go_ret
    exact ⟨rfl, hbA.out⟩
  · rw [hof] at hR ⊢
    dsimp only at hR ⊢
    obtain ⟨_, _, hPC⟩ := Kd.R_reads' hR
    have hpl : ((List.range ds.length).map (plc ds)).length = n := by rw [hnn.out]; simp
    rw [hpl] at hPC ⊢
    have hat0 := hfit.at_ ds.length (Nat.le_refl _)
    have hrm0 := hfit.rm ds.length (Nat.le_refl _)
    have hn5 : n ≤ 512 := by have := hfit.n; have := hnn.out; omega
    have hfA := Aside0.mk hfit
    rw [← hnn.out] at hat0 hrm0 hPC ⊢
    have hPA := Aside0.mk hPC
    have hb1A := Aside0.mk hb1
    clear hcs hOf hR hPC hb1 hb hof hpl hfit
    obtain ⟨cd, ecd⟩ : ∃ cd, atN ds n = cd := ⟨_, rfl⟩
    obtain ⟨rm, erm⟩ : ∃ rm, ramN ds n = rm := ⟨_, rfl⟩
    have ecA := Aside0.mk ecd
    have erA := Aside0.mk erm
    rw [ecd] at hat0 ⊢
    rw [erm] at hrm0 ⊢
    clear ecd erm
    go_wp2_with (go_at_call 13; ((with_reducible refine (fixed_at _).mono ?_)); rintro e W0 ⟨rfl, hb⟩; have hbF := Aside0.mk ((below_alloc (Below.refl w1.heap.size w1) _).trans (hb.mono (below_alloc (Below.refl _ _) _).size)); have hbA := Aside0.mk (hbA.out.trans (hbF.out.mono hbA.out.size)); clear hb)
    have hPC0 := Aside0.mk (Kd.C_below hPA.out hbF.out)
    have hDC0 := Aside0.mk (Kd.C_below hCA.out hbA.out)
    have hbx0 := Aside0.mk ((hbF.out.block w.heap.size (Array.getElem?_eq_some_iff.1 hbx1).1).trans hbx1)
    clear hbx hbx1 hbF hPA hCA hb1A
    have hbW := Aside0.mk (Below.refl W0.heap.size W0)
    go_loopg [10, 11, 12] n (fun gk v10 v11 v12 wr => ∃ (i a r : Nat), v10 = .int .i64 (a : Int) ∧ v11 = .int .i64 (r : Int) ∧ v12 = .int .i64 (i : Int) ∧ i + gk = n ∧ a ≤ 16384 ∧ r ≤ 16384 ∧ Aside0 (a = atN ds i) ∧ Aside0 (r = ramN ds i) ∧ Aside0 (Below W0.heap.size W0 wr))
    case atStart => exact ⟨0, 128, 0, rfl, rfl, rfl, by omega, by omega, by omega, ⟨rfl⟩, ⟨rfl⟩, hbW⟩
    case round =>
      obtain ⟨i, a, r, rfl, rfl, rfl, hi, ha, hr, qA, qR, hbr⟩ := hrel
      cases gk with
      | zero =>
        obtain rfl : i = n := by omega
        have hd : decide ((i : Int) < i) = false := decide_eq_false (by omega)
        obtain rfl : a = cd := by rw [qA.out, ecA.out]
        obtain rfl : r = rm := by rw [qR.out, erA.out]
        have bx : wr.cell? ⟨w.heap.size, 0, none⟩ = some (.slice A i c) := by
          have h := (hbr.out.block w.heap.size (Array.getElem?_eq_some_iff.1 hbx0.out).1).trans hbx0.out
          simp only [World.cell?, h]; simp
        have g1 : decide ((a : Int) > 16384) = false := decide_eq_false (by omega)
        have g2 : decide ((r : Int) > 16384) = false := decide_eq_false (by omega)
        have g3 : decide ((i : Int) > 512) = false := decide_eq_false (by omega)
        have w1 : IntKind.i64.wrap ((i : Int) + 1) = (i : Int) + 1 := i64_in (by omega) (by omega)
        clear hbW
        go_upto_region 21 with (fail)
        obtain ⟨m, hm, hmm⟩ : ∃ m : Nat, m ≤ i ∧ (x.tmod ((i : Int) + 1) = (m : Int) ∨ x.tmod ((i : Int) + 1) = -(m : Int) ∧ 0 < m) := by
          have h1 := Int.tmod_lt_of_pos x (show (0 : Int) < (i : Int) + 1 by omega)
          have h2 : -((i : Int) + 1) < x.tmod ((i : Int) + 1) := by
            have h3 := Int.tmod_lt_of_pos (-x) (show (0 : Int) < (i : Int) + 1 by omega)
            rw [Int.neg_tmod] at h3
            omega
          refine ⟨(x.tmod ((i : Int) + 1)).natAbs, by omega, ?_⟩
          omega
        have hlm : (ds.take m).length = m := by rw [List.length_take]; have := hnn.out; omega
        have hCm : k36.C wr A m (ds.take m) := by
          have h := Kd.C_below hDC0.out hbr.out
          rw [hnn.out] at h
          have h2 := Kd.C_take (m := m) h (by have := hnn.out; omega)
          rw [hlm] at h2
          exact h2
        have hO2 := Aside0.mk (Of_at (c := c) (n2 := 0) (c2 := 0) (A2 := none) hCm hlm.symm (hokA.out.take m))
        rw [ofA_take hfA.out (by have := hnn.out; omega)] at hO2
        dsimp only at hO2
        have hPr := Aside0.mk (Kd.C_below hPC0.out hbr.out)
        have hbz := Aside0.mk (hbA.out.trans (hbr.out.mono hbA.out.size))
        have w2 : IntKind.i64.wrap (m : Int) = (m : Int) := i64_in (by omega) (by omega)
        have g4 : decide ((m : Int) < 0) = false := decide_eq_false (by omega)
        have g5 : 0 < m → decide (-(m : Int) < 0) = true := fun h => decide_eq_true (by omega)
        have g6 : decide (0 ≤ (m : Int)) = true := decide_eq_true (by omega)
        have g7 : decide ((m : Int) ≤ (c : Int)) = true := decide_eq_true (by omega)
        clear hbr hPC0 hDC0 hCm hlm
        rcases hmm with hk | ⟨hk, h0⟩
        all_goals rw [hk]
        all_goals clear hk
        · go_upto_region 23 with (fail)
          go_wp2_with fail
          refine Follows_tail hm hO2.out hPr.out hbz.out ?_
          intro W3 A4 c4 hC4 hCv hb3
          dsimp only
          generalize (atN ds m : Int) = a2
          generalize (ramN ds m : Int) = r2
          go_upto_region 26 with (fail)
          refine name_wp (fun wz => kP.C wz A4 m ((List.range m).map (plc ds)) ∧ kP.C wz Av i ((List.range i).map (plc ds)) ∧ Below w.heap.size w wz) ⟨Kd.C_alloc hC4 _, Kd.C_alloc hCv _, below_alloc hb3 _⟩ ?_
          rintro W4 ⟨h4, hv, hb4⟩
          have h4A := Aside0.mk h4
          have hvA := Aside0.mk hv
          have hbA4 := Aside0.mk hb4
          clear hC4 hCv hb3 h4 hv hb4 hO2 hPr hbz
          go_wp2
          go_loopg [20] m (fun gk v20 wr => ∃ (i2 q : Nat), v20 = .int .i64 (i2 : Int) ∧ i2 + gk = m ∧ wr = W4.drewN q)
          case atStart => exact ⟨0, 0, rfl, by omega, rfl⟩
          case round =>
            obtain ⟨i2, q, rfl, hi2, rfl⟩ := hrel
            cases gk with
            | zero =>
              obtain rfl : i2 = m := by omega
              have hd2 : decide ((i2 : Int) < i2) = false := decide_eq_false (by omega)
              have hbq := Aside0.mk (pw_below_drewN hbA4.out q)
              go_wp2
              go_ret
              exact ⟨rfl, hbq.out⟩
            | succ k2 =>
              have hd2 : decide ((i2 : Int) < m) = true := decide_eq_true (by omega)
              obtain ⟨ap, eP, y0, y1, y2, y3⟩ := at_T50 h4A.out (i2 : Int) (by omega) (by omega)
              obtain ⟨aq, eQ, x0, x1, x2, x3⟩ := at_T50 hvA.out (i2 : Int) (by omega) (by omega)
              rw [rd_plc (by omega)] at y0 y1 y2 y3 x0 x1 x2 x3
              rw [Int.toNat_natCast] at y0 y1 y2 y3 x0 x1 x2 x3
              subst eP eQ
              generalize (plc ds i2).f0 = p0 at *
              generalize (plc ds i2).f1 = p1 at *
              generalize (plc ds i2).f2 = p2 at *
              generalize (plc ds i2).f3 = p3 at *
              have w3 : IntKind.i64.wrap ((i2 : Int) + 1) = (i2 : Int) + 1 := i64_in (by omega) (by omega)
              go_wp2
              go_quiet (fail)
              go_wp2
              go_roundg k2
              case measure => omega
              case rel => exact ⟨i2 + 1, q + nq, by rw [Int.natCast_add]; rfl, by omega, rfl⟩
        · replace g5 := g5 h0
          go_upto_region 23 with (fail)
          go_wp2_with fail
          refine Follows_tail hm hO2.out hPr.out hbz.out ?_
          intro W3 A4 c4 hC4 hCv hb3
          dsimp only
          generalize (atN ds m : Int) = a2
          generalize (ramN ds m : Int) = r2
          go_upto_region 26 with (fail)
          refine name_wp (fun wz => kP.C wz A4 m ((List.range m).map (plc ds)) ∧ kP.C wz Av i ((List.range i).map (plc ds)) ∧ Below w.heap.size w wz) ⟨Kd.C_alloc hC4 _, Kd.C_alloc hCv _, below_alloc hb3 _⟩ ?_
          rintro W4 ⟨h4, hv, hb4⟩
          have h4A := Aside0.mk h4
          have hvA := Aside0.mk hv
          have hbA4 := Aside0.mk hb4
          clear hC4 hCv hb3 h4 hv hb4 hO2 hPr hbz
          go_wp2
          go_loopg [20] m (fun gk v20 wr => ∃ (i2 q : Nat), v20 = .int .i64 (i2 : Int) ∧ i2 + gk = m ∧ wr = W4.drewN q)
          case atStart => exact ⟨0, 0, rfl, by omega, rfl⟩
          case round =>
            obtain ⟨i2, q, rfl, hi2, rfl⟩ := hrel
            cases gk with
            | zero =>
              obtain rfl : i2 = m := by omega
              have hd2 : decide ((i2 : Int) < i2) = false := decide_eq_false (by omega)
              have hbq := Aside0.mk (pw_below_drewN hbA4.out q)
              go_wp2
              go_ret
              exact ⟨rfl, hbq.out⟩
            | succ k2 =>
              have hd2 : decide ((i2 : Int) < m) = true := decide_eq_true (by omega)
              obtain ⟨ap, eP, y0, y1, y2, y3⟩ := at_T50 h4A.out (i2 : Int) (by omega) (by omega)
              obtain ⟨aq, eQ, x0, x1, x2, x3⟩ := at_T50 hvA.out (i2 : Int) (by omega) (by omega)
              rw [rd_plc (by omega)] at y0 y1 y2 y3 x0 x1 x2 x3
              rw [Int.toNat_natCast] at y0 y1 y2 y3 x0 x1 x2 x3
              subst eP eQ
              generalize (plc ds i2).f0 = p0 at *
              generalize (plc ds i2).f1 = p1 at *
              generalize (plc ds i2).f2 = p2 at *
              generalize (plc ds i2).f3 = p3 at *
              have w3 : IntKind.i64.wrap ((i2 : Int) + 1) = (i2 : Int) + 1 := i64_in (by omega) (by omega)
              go_wp2
              go_quiet (fail)
              go_wp2
              go_roundg k2
              case measure => omega
              case rel => exact ⟨i2 + 1, q + nq, by rw [Int.natCast_add]; rfl, by omega, rfl⟩
      | succ k1 =>
        have hd : decide ((i : Int) < n) = true := decide_eq_true (by omega)
        have hlt : i < ds.length := by have := hnn.out; omega
        have hB := hbr.out
        obtain ⟨ad, A3, c3, eA, d0, d1, d2, d3, d4, d5, l3, g3⟩ := at_T36 (Kd.C_below hDC0.out hB) (i : Int) (by omega) (by omega)
        obtain ⟨ap, eP, y0, y1, y2, y3⟩ := at_T50 (Kd.C_below hPC0.out hB) (i : Int) (by omega) (by omega)
        rw [rd_df] at d0 d1 d2 d3 d4 d5 l3 g3
        rw [rd_plc (by have := hnn.out; omega), plc_fits hfA.out hlt] at y0 y1 y2 y3
        dsimp only at y0 y1 y2 y3
        rw [Int.toNat_natCast] at d0 d1 d2 d3 d4 d5 y0 y1 y2 y3
        rw [← qA.out] at y1
        rw [← qR.out] at y3
        subst eA eP
        have z1 := atN_succ hlt
        have z2 := ramN_succ hlt
        have z3 := hfA.out.at_ (i + 1) (by omega)
        have z4 := hfA.out.rm (i + 1) (by omega)
        have z5 := hokA.out.v _ (dfA_mem hlt)
        have z6 := cnD_mem (dfA_mem hlt)
        have z7 := hokA.out.c
        rw [← qA.out] at z1
        rw [← qR.out] at z2
        have eD : dsz (dfA ds i) = if (dfA ds i).f0 = 1 then 2 + szL (dfA ds i).f3 + 2 else if (dfA ds i).f0 = 3 then 4 else if (dfA ds i).f0 = 2 then 4 else 0 := rfl
        have eY : dby (dfA ds i) = if (dfA ds i).f0 = 3 then (dfA ds i).f2.toNat else 0 := rfl
        have hS := fun wz (hb : Below wr.heap.size wr wz) => Size_at (c := c3) (Kd.C_below g3 hb) rfl (by omega)
        generalize (dfA ds i).f3.length = m3 at *
        generalize szL (dfA ds i).f3 = S at *
        generalize (dfA ds i).f0 = k0 at *
        generalize (dfA ds i).f1 = nm at *
        generalize (dfA ds i).f2 = v2 at *
        generalize (dfA ds i).f4.f0 = q0 at *
        generalize (dfA ds i).f4.f1 = q1 at *
        generalize dsz (dfA ds i) = sz at *
        generalize dby (dfA ds i) = by_ at *
        rw [z1] at z3
        rw [z2] at z4
        have Z1 := Aside0.mk z1
        have Z2 := Aside0.mk z2
        have hSA := Aside0.mk hS
        have bx : wr.cell? ⟨w.heap.size, 0, none⟩ = some (.slice (some ad) n c) := by
          have h := (hB.block w.heap.size (Array.getElem?_eq_some_iff.1 hbx0.out).1).trans hbx0.out
          simp only [World.cell?, h]; simp
        have hBA := Aside0.mk hB
        clear g3 z1 z2 z6 z7 hS hB hbW
        go_upto_region 9 with (fail)
        refine name_wp (fun wz => (∃ cs : List Value, wz.heap[wr.heap.size]? = some (Obj.cells cs.toArray 36) ∧ cs = [.int .i64 k0, .string nm, .int .u16 v2, .slice A3 m3 c3, .int .i64 q0, .int .i64 q1]) ∧ (∀ p v, wr.cell? p = some v → wz.cell? p = some v) ∧ Below wr.heap.size wr wz) ⟨⟨_, hpA rfl, rfl⟩, fun p v h => cell_al h _, below_alloc (Below.refl _ _) _⟩ ?_
        rintro wz ⟨⟨cs, hz, rfl⟩, hcm, hbz⟩
        replace y0 := hcm _ _ y0
        replace y1 := hcm _ _ y1
        replace y2 := hcm _ _ y2
        replace y3 := hcm _ _ y3
        have cl : ∀ k, wz.cell? ⟨wr.heap.size, k, none⟩ = ([.int .i64 k0, .string nm, .int .u16 v2, .slice A3 m3 c3, .int .i64 q0, .int .i64 q1] : List Value)[k]? := fun k => by simp only [World.cell?, hz]; simp
        have e0 := cl 0
        have e1 := cl 1
        have e2 := cl 2
        have e3 := cl 3
        simp only [List.getElem?_cons_zero, List.getElem?_cons_succ] at e0 e1 e2 e3
        have hq := Aside0.mk (fun q => hSA.out (wz.drewN q) (pw_below_drewN hbz q))
        have hbw := Aside0.mk (hBA.out.trans (hbz.mono hBA.out.size))
        have t1 : Int.tmod (a : Int) 65536 = (a : Int) := by rw [Int.tmod_eq_emod_of_nonneg (by omega)]; omega
        have wA : IntKind.i64.wrap (a : Int) = (a : Int) := i64_in (by omega) (by omega)
        clear d0 d1 d2 d3 d4 d5 hcm cl hz hbz bx
        by_cases c1 : k0 = 1
        · subst c1
          rw [if_pos rfl] at eD
          rw [if_neg (by decide)] at eY y3
          have eD' : (sz : Int) = S + 4 := by omega
          rw [eD'] at y2
          have w1 : IntKind.i64.wrap ((S : Int) + 4) = (S : Int) + 4 := i64_in (by omega) (by omega)
          have w2 : IntKind.i64.wrap ((a : Int) + ((S : Int) + 4)) = (a : Int) + ((S : Int) + 4) := i64_in (by omega) (by omega)
          have w3 : IntKind.i64.wrap ((i : Int) + 1) = (i : Int) + 1 := i64_in (by omega) (by omega)
          go_wp2
          go_quiet (first | (go_at_call 18; ((with_reducible exact Calls.quiet_of (hq.out _)))))
          go_wp2
          go_roundg k1
          case measure => omega
          case rel => exact ⟨i + 1, a + sz, r + by_, by rw [Int.natCast_add, eD'], by rw [eY]; rfl, by rw [Int.natCast_add]; rfl, by omega, by omega, by omega, ⟨Z1.out.symm⟩, ⟨Z2.out.symm⟩, ⟨pw_below_drewN hbw.out _⟩⟩
        by_cases c3 : k0 = 3
        · subst c3
          rw [if_neg (by decide), if_pos rfl] at eD
          rw [if_pos rfl] at eY y3
          have eY' : (by_ : Int) = v2 := by omega
          rw [eD] at y2
          have w1 : IntKind.i64.wrap ((a : Int) + 4) = (a : Int) + 4 := i64_in (by omega) (by omega)
          have w2 : IntKind.i64.wrap (32768 + (r : Int)) = 32768 + (r : Int) := i64_in (by omega) (by omega)
          have w3 : IntKind.i64.wrap ((i : Int) + 1) = (i : Int) + 1 := i64_in (by omega) (by omega)
          have w4 : IntKind.i64.wrap v2 = v2 := i64_in (by omega) (by omega)
          have w5 : IntKind.i64.wrap ((r : Int) + v2) = (r : Int) + v2 := i64_in (by omega) (by omega)
          go_wp2
          go_quiet (first | (go_at_call 18; ((with_reducible exact Calls.quiet_of (hq.out _)))))
          go_wp2
          go_roundg k1
          case measure => omega
          case rel => exact ⟨i + 1, a + sz, r + by_, by rw [eD]; rfl, by rw [Int.natCast_add, eY'], by rw [Int.natCast_add]; rfl, by omega, by omega, by omega, ⟨Z1.out.symm⟩, ⟨Z2.out.symm⟩, ⟨pw_below_drewN hbw.out _⟩⟩
        rw [if_neg c1, if_neg c3] at eD
        rw [if_neg c3] at eY y3
        have b1 : (k0 == 1) = false := beq_eq_false_iff_ne.2 c1
        have b3 : (k0 == 3) = false := beq_eq_false_iff_ne.2 c3
        have w1 : IntKind.i64.wrap ((a : Int) + (sz : Int)) = (a : Int) + (sz : Int) := i64_in (by omega) (by omega)
        have w3 : IntKind.i64.wrap ((i : Int) + 1) = (i : Int) + 1 := i64_in (by omega) (by omega)
        clear c1 c3 eD
        go_wp2
        go_quiet (first | (go_at_call 18; ((with_reducible exact Calls.quiet_of (hq.out _)))))
        go_wp2
        go_roundg k1
        case measure => omega
        case rel => exact ⟨i + 1, a + sz, r + by_, by rw [Int.natCast_add], by rw [eY]; rfl, by rw [Int.natCast_add]; rfl, by omega, by omega, by omega, ⟨Z1.out.symm⟩, ⟨Z2.out.symm⟩, ⟨pw_below_drewN hbw.out _⟩⟩
end Go.Proofs.Ytjphhnhloeanlaa.P
