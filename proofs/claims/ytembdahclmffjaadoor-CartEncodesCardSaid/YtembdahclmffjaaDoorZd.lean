import Derived.Test.YtembdahclmffjaaDoorZb
import Derived.Test.YtembdahclmffjaaDoorPx4
import Derived.Test.YtembdahclmffjaaDoorZa
import Derived.Test.YtembdahclmffjaaDoorKc
import Derived.Test.YtembdahclmffjaaDoorPx7
import Derived.Test.YtembdahclmffjaaDoorPxs
import Derived.Test.YtembdahclmffjaaDoorCr
import Derived.Outline
import Derived.Test.YtembdahclmffjaaDoorKw
import Derived.Test.YtembdahclmffjaaDoorCi
import Derived.Test.YtembdahclmffjaaDoorApW
/- Cuts of bytes; sections as the document's; a box of four cells. -/
namespace Go.Proofs.YtembdahclmffjaaDoor.Pk
open Go.RowKit Go.Proofs.YtembdahclmffjaaDoorW.PrintWords Go.Proofs.YtembdahclmffjaaDoorW.PrintLast Go.Proofs.YtembdahclmffjaaDoorW.PrintMore Go.Proofs.YtembdahclmffjaaDoor.Mem
set_option linter.unusedVariables false
set_option linter.unusedSimpArgs false
/-- bytes, cut from the one to the other place -/
theorem cutB (A : Option Addr) (n cap : Nat) (xs : List Int) (i j : Nat) (hnc : xs.length ≤ cap) (hij : i ≤ j) (hj : j ≤ xs.length) :
    ∃ A', (∀ W : World, (Instr.slice 22 (.slice A n cap) (some (.int .i64 (i : Int))) (some (.int .i64 (j : Int))) none).run Tryd.prog W = .ok (.slice A' (j - i) (cap - i)) W) ∧ j - i ≤ cap - i ∧ j - i = ((xs.drop i).take (j - i)).length ∧ ∀ W, Kd.C (Kd.int .u8) W A xs.length xs → Kd.C (Kd.int .u8) W A' (j - i) ((xs.drop i).take (j - i)) := by
  obtain ⟨i0, hi, _, hz1, _⟩ := info_parts infoB
  have hlen : j - i = ((xs.drop i).take (j - i)).length := by rw [List.length_take, List.length_drop]; omega
  refine ⟨if cap = i then A else A.map (·.add (i * 1)), fun W => ?_, by omega, hlen, fun W h => ?_⟩
  · have hel : Tryd.prog.elem 22 = 5 := by simp [Program.elem, Tryd.underlying22]
    have hu : Tryd.prog.underlying 22 = some (.slice (Tryd.prog.elem 22)) := by rw [hel]; exact Tryd.underlying22
    rw [run_slice_lh W 22 A n cap hu .i64 .i64 (i : Int) (j : Int) (by omega) (by omega) (by omega), hel]
    simp [sizeOf, typeInfo, hi, hz1, sliced, Result.andThen]
  · have h1 := Kd.C_drop h (show i ≤ xs.length by omega) hnc
    have h2 := Kd.C_take (m := j - i) h1 (by rw [List.length_drop]; omega)
    rw [← hlen] at h2
    exact h2
/-- the same, from a place on -/
theorem cutF (A : Option Addr) (n cap : Nat) (xs : List Int) (i : Nat) (hn : n = xs.length) (hnc : n ≤ cap) (hi : i ≤ n) :
    ∃ A', (∀ W : World, (Instr.slice 22 (.slice A n cap) (some (.int .i64 (i : Int))) none none).run Tryd.prog W = .ok (.slice A' (n - i) (cap - i)) W) ∧ n - i ≤ cap - i ∧ n - i = (xs.drop i).length ∧ ∀ W, Kd.C (Kd.int .u8) W A n xs → Kd.C (Kd.int .u8) W A' (n - i) (xs.drop i) := by
  obtain ⟨i0, hi0, _, hz1, _⟩ := info_parts infoB
  have hlen : n - i = (xs.drop i).length := by rw [List.length_drop]; omega
  refine ⟨if cap = i then A else A.map (·.add (i * 1)), fun W => ?_, by omega, hlen, fun W h => ?_⟩
  · have := cut_from (P := Tryd.prog) 22 5 .i64 Tryd.underlying22 hi0 1 hz1 A n cap (i : Int) (by omega) (by omega) W
    rw [Int.toNat_natCast] at this
    exact this
  · subst hn
    have h1 := Kd.C_drop h (show i ≤ xs.length by omega) hnc
    rw [← hlen] at h1
    exact h1
/-- the same, up to a place -/
theorem cutT (A : Option Addr) (n cap : Nat) (xs : List Int) (j : Nat) (hnc : xs.length ≤ cap) (hj : j ≤ xs.length) :
    (∀ W : World, (Instr.slice 22 (.slice A n cap) none (some (.int .i64 (j : Int))) none).run Tryd.prog W = .ok (.slice A j cap) W) ∧ j = (xs.take j).length ∧ ∀ W, Kd.C (Kd.int .u8) W A xs.length xs → Kd.C (Kd.int .u8) W A j (xs.take j) := by
  obtain ⟨i0, hi0, _, hz1, _⟩ := info_parts infoB
  have hlen : j = (xs.take j).length := by rw [List.length_take]; omega
  refine ⟨fun W => ?_, hlen, fun W h => ?_⟩
  · have := cut_cap (P := Tryd.prog) 22 5 .i64 Tryd.underlying22 hi0 A n cap (j : Int) (by omega) (by omega) W
    rw [Int.toNat_natCast] at this
    exact this
  · have h2 := Kd.C_take (m := j) h hj
    rw [← hlen] at h2
    exact h2
def gS (x : ScT) : P.S77 := ⟨x.1, x.2.1, x.2.2⟩
theorem C_gS {w : World} {A : Option Addr} {n : Nat} {xs : List ScT} (h : kS.C w A n xs) : P.k77.C w A n (xs.map gS) := C_map (g := gS) (fun _ => rfl) h
theorem rdS (es : List ScT) (i : Nat) : P.rd_T77 (es.map gS) (i : Int) = gS (es.getD i (0, 0, [])) := by
  unfold P.rd_T77
  rw [Int.toNat_natCast, List.getD_eq_getElem?_getD, List.getD_eq_getElem?_getD, List.getElem?_map]
  cases es[i]? <;> rfl
theorem box4 {w : World} {g t : Nat} {x0 x1 x2 x3 : Value} (h : w.heap[g]? = some (.cells #[x0, x1, x2, x3] t (0, 0))) : w.cell? ⟨g, 0, none⟩ = some x0 ∧ w.cell? ⟨g, 1, none⟩ = some x1 ∧ w.cell? ⟨g, 2, none⟩ = some x2 ∧ w.cell? ⟨g, 3, none⟩ = some x3 ∧ w.frozen? ⟨g, 0, none⟩ = false ∧ w.frozen? ⟨g, 1, none⟩ = false ∧ w.frozen? ⟨g, 2, none⟩ = false ∧ w.frozen? ⟨g, 3, none⟩ = false :=
  ⟨(cellH h).trans rfl, (cellH h).trans rfl, (cellH h).trans rfl, (cellH h).trans rfl, by simp [World.frozen?, h], by simp [World.frozen?, h], by simp [World.frozen?, h], by simp [World.frozen?, h]⟩
end Go.Proofs.YtembdahclmffjaaDoor.Pk
/- wispref07.Check: what it answers. (Printed by gen_rk.py.) -/
namespace Go.Proofs.YtembdahclmffjaaDoor.Pk
open Go.RowKit Go.Proofs.YtembdahclmffjaaDoorW.PrintWords Go.Proofs.YtembdahclmffjaaDoorW.PrintLast Go.Proofs.YtembdahclmffjaaDoorW.PrintMore Go.Proofs.YtembdahclmffjaaDoor.Mem
set_option linter.unusedVariables false
set_option linter.unusedSimpArgs false
set_option maxRecDepth 100000 in
set_option maxHeartbeats 8000000 in
theorem kChkR {w : World} {u : Value} {c : CartP} (h1 : CtV w u c) (he : c.efs.length < 4611686018427387904) (hb : c.bks.length < 4611686018427387904) :
    Calls Tryd.prog 37 #[u] w fun e w' => e = .returned (.int .i64 (chk c)) ∧ Below w.heap.size w w' := by
  obtain ⟨A0, c0, A2, c2, A3, c3, rfl, hI⟩ := h1
  unfold crt
  have hC2 := Aside0.mk hI.efs
  have hC3 := Aside0.mk hI.bks
  obtain ⟨n0, hn0⟩ : ∃ n, n = c.code.length := ⟨_, rfl⟩
  obtain ⟨n2, hn2⟩ : ∃ n, n = c.efs.length := ⟨_, rfl⟩
  obtain ⟨n3, hn3⟩ : ∃ n, n = c.bks.length := ⟨_, rfl⟩
  obtain ⟨ent, hent⟩ : ∃ x, x = c.entry := ⟨_, rfl⟩
  have hn063 := hI.code.2.1
  rw [← hn0] at hn063
  rw [← hn2] at he
  rw [← hn3] at hb
  rw [← hn0, ← hn2, ← hn3, ← hent]
  have hnn0 := Aside0.mk hn0
  have hnn2 := Aside0.mk hn2
  have hnn3 := Aside0.mk hn3
  have hB0 := Aside0.mk (below_alloc (Below.refl w.heap.size w) (.cells #[.slice A0 n0 c0, .int .u16 ent, .slice A2 n2 c2, .slice A3 n3 c3] 28))
  have hX0 := Aside0.mk (World.alloc_heap_new w (.cells #[.slice A0 n0 c0, .int .u16 ent, .slice A2 n2 c2, .slice A3 n3 c3] 28))
  clear hI hn0 hn2 hn3 hent
  by_cases hd : n0 % 2 = 0 ∧ n0 ≤ 16384 ∧ n2 ≤ 8192
  · obtain ⟨d1, d2, d3⟩ := hd
    have e1 : (((n0 : Int) % 2) != 0) = false := by rw [show (n0 : Int) % 2 = 0 by omega]; rfl
    have e2 : decide ((n0 : Int) > 16384) = false := decide_eq_false (by omega)
    have e3 : decide ((n2 : Int) > 8192) = false := decide_eq_false (by omega)
    go_enter Tryd.func37, Tryd.ntmps37
    go_wp2
    go_loopg [3] n2 (fun gk v3 wr => ∃ i : Nat, v3 = .int .i64 (i : Int) ∧ i + gk = n2 ∧ Aside0 (∀ j, j < i → okE c.efs j) ∧ Aside0 (wr.heap[w.heap.size]? = some (.cells #[.slice A0 n0 c0, .int .u16 ent, .slice A2 n2 c2, .slice A3 n3 c3] 28 (0, 0))) ∧ Aside0 (Below w.heap.size w wr))
    case atStart => exact ⟨0, rfl, by omega, ⟨fun j hj => by omega⟩, hX0, hB0⟩
    case round =>
      clear hX0 hB0
      obtain ⟨i, rfl, hi, hok, hX, hB⟩ := hrel
      have q2 : wr.cell? ⟨w.heap.size, 2, none⟩ = some (.slice A2 n2 c2) := (cellH hX.out).trans rfl
      have q3 : wr.cell? ⟨w.heap.size, 3, none⟩ = some (.slice A3 n3 c3) := (cellH hX.out).trans rfl
      cases gk with
      | succ k1 =>
        have hd : decide ((i : Int) < (n2 : Int)) = true := decide_eq_true (by omega)
        have hd' : decide (i < n2) = true := decide_eq_true (by omega)
        have hin : i < n2 := by omega
        obtain ⟨ad, eA, hx0, hx1, hx2⟩ := atE (Kd.C_below hC2.out hB.out) i (by have := hnn2.out; omega)
        subst eA
        have hiE : Aside0 (i < c.efs.length) := ⟨by have := hnn2.out; omega⟩
        have hokE : Aside0 (okE c.efs i ↔ 0 ≤ (c.efs.getD i (0, 0, 0)).2.1 ∧ (c.efs.getD i (0, 0, 0)).2.1 ≤ 256 ∧ 0 ≤ (c.efs.getD i (0, 0, 0)).2.2 ∧ (c.efs.getD i (0, 0, 0)).2.2 ≤ 256 ∧ (0 < i → (c.efs.getD (i - 1) (0, 0, 0)).1 < (c.efs.getD i (0, 0, 0)).1)) := ⟨Iff.rfl⟩
        generalize c.efs.getD i (0, 0, 0) = x at hx0 hx1 hx2 hokE
        obtain ⟨xa, xi, xo⟩ := x
        dsimp only at hx0 hx1 hx2 hokE
        have hb1 := below_alloc (Below.refl wr.heap.size wr) (.cells #[.int .u16 xa, .int .i64 xi, .int .i64 xo] 80)
        have hX1 := Aside0.mk ((hb1.block _ (heap_lt hX.out)).trans hX.out)
        have hB1 := Aside0.mk (hB.out.trans (hb1.mono hB.out.size))
        have q2' : (wr.alloc (.cells #[.int .u16 xa, .int .i64 xi, .int .i64 xo] 80)).cell? ⟨w.heap.size, 2, none⟩ = some (.slice (some ad) n2 c2) := (cellH hX1.out).trans rfl
        clear hb1
        by_cases hc8 : xi < 0
        · have f1 : decide (xi < 0) = true := decide_eq_true (by omega)
          have hbad : Aside0 (chk c = 74) := ⟨chk_es hiE.out (fun h => by have := hokE.out.1 h; omega)⟩
          go_wp2
          go_quiet (fail)
          go_wp2
          go_ret
          exact ⟨(by rw [hbad.out]; first | done | rfl), pw_below_drewN hB1.out _⟩
        · have f1 : decide (xi < 0) = false := decide_eq_false (by omega)
          by_cases hc10 : xi > 256
          · have f2 : decide (xi > 256) = true := decide_eq_true (by omega)
            have hbad : Aside0 (chk c = 74) := ⟨chk_es hiE.out (fun h => by have := hokE.out.1 h; omega)⟩
            go_wp2
            go_quiet (fail)
            go_wp2
            go_ret
            exact ⟨(by rw [hbad.out]; first | done | rfl), pw_below_drewN hB1.out _⟩
          · have f2 : decide (xi > 256) = false := decide_eq_false (by omega)
            by_cases hc12 : xo < 0
            · have f3 : decide (xo < 0) = true := decide_eq_true (by omega)
              have hbad : Aside0 (chk c = 74) := ⟨chk_es hiE.out (fun h => by have := hokE.out.1 h; omega)⟩
              go_wp2
              go_quiet (fail)
              go_wp2
              go_ret
              exact ⟨(by rw [hbad.out]; first | done | rfl), pw_below_drewN hB1.out _⟩
            · have f3 : decide (xo < 0) = false := decide_eq_false (by omega)
              by_cases hc14 : xo > 256
              · have f4 : decide (xo > 256) = true := decide_eq_true (by omega)
                have hbad : Aside0 (chk c = 74) := ⟨chk_es hiE.out (fun h => by have := hokE.out.1 h; omega)⟩
                go_wp2
                go_quiet (fail)
                go_wp2
                go_ret
                exact ⟨(by rw [hbad.out]; first | done | rfl), pw_below_drewN hB1.out _⟩
              · have f4 : decide (xo > 256) = false := decide_eq_false (by omega)
                by_cases hi0 : 0 < i
                · have ei : decide ((i : Int) > 0) = true := decide_eq_true (by omega)
                  obtain ⟨ad', eA', hy0, _, _⟩ := atE (Kd.C_below hC2.out hB1.out) (i - 1) (by have := hnn2.out; omega)
                  cases eA'
                  generalize (c.efs.getD (i - 1) (0, 0, 0)).1 = pv at hy0 hokE
                  have hi1 : ((i : Int) - 1).toNat = i - 1 := by omega
                  have hi2 : 0 ≤ (i : Int) - 1 := by omega
                  have hi3 : (i : Int) - 1 < (n2 : Int) := by omega
                  by_cases hp : pv ≥ xa
                  · have ep : decide (pv ≥ xa) = true := decide_eq_true hp
                    have hbad : Aside0 (chk c = 74) := ⟨chk_es hiE.out (fun h => by have := hokE.out.1 h; omega)⟩
                    go_wp2
                    go_quiet (fail)
                    go_wp2
                    go_ret
                    exact ⟨(by rw [hbad.out]; first | done | rfl), pw_below_drewN hB1.out _⟩
                  · have ep : decide (pv ≥ xa) = false := decide_eq_false hp
                    have hgood := Aside0.mk (hokE.out.2 (by omega))
                    go_wp2
                    go_quiet (fail)
                    go_wp2
                    go_roundg k1
                    case measure => omega
                    case rel => exact ⟨i + 1, rfl, by omega, ⟨fun j hj => by
                        by_cases e : j = i
                        · rw [e]; exact hgood.out
                        · exact hok.out j (by omega)⟩, hX1, ⟨pw_below_drewN hB1.out _⟩⟩
                · have ei : decide ((i : Int) > 0) = false := decide_eq_false (by omega)
                  have hgood := Aside0.mk (hokE.out.2 (by omega))
                  go_wp2
                  go_quiet (fail)
                  go_wp2
                  go_roundg k1
                  case measure => omega
                  case rel => exact ⟨i + 1, rfl, by omega, ⟨fun j hj => by
                      by_cases e : j = i
                      · rw [e]; exact hgood.out
                      · exact hok.out j (by omega)⟩, hX1, ⟨pw_below_drewN hB1.out _⟩⟩
      | zero =>
        have hd : decide ((i : Int) < (n2 : Int)) = false := decide_eq_false (by omega)
        have hd' : decide (i < n2) = false := decide_eq_false (by omega)
        have hokE : Aside0 (∀ j, j < c.efs.length → okE c.efs j) := ⟨fun j hj => hok.out j (by have := hnn2.out; omega)⟩
        clear hok hi
        go_wp2
        clear hd hd' q2 q3
        go_loopg [5] n3 (fun gk v5 wr => ∃ i : Nat, v5 = .int .i64 (i : Int) ∧ i + gk = n3 ∧ Aside0 (∀ j, j < i → okB c.bks j) ∧ Aside0 (wr.heap[w.heap.size]? = some (.cells #[.slice A0 n0 c0, .int .u16 ent, .slice A2 n2 c2, .slice A3 n3 c3] 28 (0, 0))) ∧ Aside0 (Below w.heap.size w wr))
        case atStart => exact ⟨0, rfl, by omega, ⟨fun j hj => by omega⟩, hX, hB⟩
        case round =>
          clear hX hB
          obtain ⟨i, rfl, hi, hok, hX, hB⟩ := hrel
          have q3 : wr.cell? ⟨w.heap.size, 3, none⟩ = some (.slice A3 n3 c3) := (cellH hX.out).trans rfl
          cases gk with
          | succ k1 =>
            have hd : decide ((i : Int) < (n3 : Int)) = true := decide_eq_true (by omega)
            have hd' : decide (i < n3) = true := decide_eq_true (by omega)
            have hin : i < n3 := by omega
            obtain ⟨ad, A1, k1', eA, hx0, hx1, _, _⟩ := atB (Kd.C_below hC3.out hB.out) i (by have := hnn3.out; omega)
            subst eA
            have hiE : Aside0 (i < c.bks.length) := ⟨by have := hnn3.out; omega⟩
            have hokE : Aside0 (okB c.bks i ↔ 0 ≤ (c.bks.getD i (0, [])).1 ∧ (c.bks.getD i (0, [])).1 ≤ 15 ∧ (c.bks.getD i (0, [])).2.length ≤ 16384 ∧ (0 < i → (c.bks.getD (i - 1) (0, [])).1 < (c.bks.getD i (0, [])).1)) := ⟨Iff.rfl⟩
            generalize c.bks.getD i (0, []) = x at hx0 hx1 hokE
            obtain ⟨xn, xd⟩ := x
            dsimp only at hx0 hx1 hokE
            generalize xd.length = nd at hx1 hokE
            have hb1 := below_alloc (Below.refl wr.heap.size wr) (.cells #[.int .i64 xn, .slice A1 nd k1'] 82)
            have hX1 := Aside0.mk ((hb1.block _ (heap_lt hX.out)).trans hX.out)
            have hB1 := Aside0.mk (hB.out.trans (hb1.mono hB.out.size))
            have q3' : (wr.alloc (.cells #[.int .i64 xn, .slice A1 nd k1'] 82)).cell? ⟨w.heap.size, 3, none⟩ = some (.slice (some ad) n3 c3) := (cellH hX1.out).trans rfl
            clear hb1
            by_cases hc12 : xn < 0
            · have f1 : decide (xn < 0) = true := decide_eq_true (by omega)
              have hbad : Aside0 (chk c = 74) := ⟨chk_bs hiE.out (fun h => by have := hokE.out.1 h; omega)⟩
              go_wp2
              go_quiet (fail)
              go_wp2
              go_ret
              exact ⟨(by rw [hbad.out]; first | done | rfl), pw_below_drewN hB1.out _⟩
            · have f1 : decide (xn < 0) = false := decide_eq_false (by omega)
              by_cases hc14 : xn > 15
              · have f2 : decide (xn > 15) = true := decide_eq_true (by omega)
                have hbad : Aside0 (chk c = 74) := ⟨chk_bs hiE.out (fun h => by have := hokE.out.1 h; omega)⟩
                go_wp2
                go_quiet (fail)
                go_wp2
                go_ret
                exact ⟨(by rw [hbad.out]; first | done | rfl), pw_below_drewN hB1.out _⟩
              · have f2 : decide (xn > 15) = false := decide_eq_false (by omega)
                by_cases hc16 : nd > 16384
                · have f3 : decide ((nd : Int) > 16384) = true := decide_eq_true (by omega)
                  have hbad : Aside0 (chk c = 74) := ⟨chk_bs hiE.out (fun h => by have := hokE.out.1 h; omega)⟩
                  go_wp2
                  go_quiet (fail)
                  go_wp2
                  go_ret
                  exact ⟨(by rw [hbad.out]; first | done | rfl), pw_below_drewN hB1.out _⟩
                · have f3 : decide ((nd : Int) > 16384) = false := decide_eq_false (by omega)
                  by_cases hi0 : 0 < i
                  · have ei : decide ((i : Int) > 0) = true := decide_eq_true (by omega)
                    obtain ⟨ad', A1', k2', eA', hy0, _, _, _⟩ := atB (Kd.C_below hC3.out hB1.out) (i - 1) (by have := hnn3.out; omega)
                    cases eA'
                    generalize (c.bks.getD (i - 1) (0, [])).1 = pv at hy0 hokE
                    have hi1 : ((i : Int) - 1).toNat = i - 1 := by omega
                    have hi2 : 0 ≤ (i : Int) - 1 := by omega
                    have hi3 : (i : Int) - 1 < (n3 : Int) := by omega
                    by_cases hp : pv ≥ xn
                    · have ep : decide (pv ≥ xn) = true := decide_eq_true hp
                      have hbad : Aside0 (chk c = 74) := ⟨chk_bs hiE.out (fun h => by have := hokE.out.1 h; omega)⟩
                      go_wp2
                      go_quiet (fail)
                      go_wp2
                      go_ret
                      exact ⟨(by rw [hbad.out]; first | done | rfl), pw_below_drewN hB1.out _⟩
                    · have ep : decide (pv ≥ xn) = false := decide_eq_false hp
                      have hgood := Aside0.mk (hokE.out.2 (by omega))
                      go_wp2
                      go_quiet (fail)
                      go_wp2
                      go_roundg k1
                      case measure => omega
                      case rel => exact ⟨i + 1, rfl, by omega, ⟨fun j hj => by
                          by_cases e : j = i
                          · rw [e]; exact hgood.out
                          · exact hok.out j (by omega)⟩, hX1, ⟨pw_below_drewN hB1.out _⟩⟩
                  · have ei : decide ((i : Int) > 0) = false := decide_eq_false (by omega)
                    have hgood := Aside0.mk (hokE.out.2 (by omega))
                    go_wp2
                    go_quiet (fail)
                    go_wp2
                    go_roundg k1
                    case measure => omega
                    case rel => exact ⟨i + 1, rfl, by omega, ⟨fun j hj => by
                        by_cases e : j = i
                        · rw [e]; exact hgood.out
                        · exact hok.out j (by omega)⟩, hX1, ⟨pw_below_drewN hB1.out _⟩⟩
          | zero =>
            have hd : decide ((i : Int) < (n3 : Int)) = false := decide_eq_false (by omega)
            have hd' : decide (i < n3) = false := decide_eq_false (by omega)
            have hfin : Aside0 (chk c = 0) := ⟨chk_ok ⟨by have := hnn0.out; omega, by have := hnn0.out; omega, by have := hnn2.out; omega, hokE.out, fun j hj => hok.out j (by have := hnn3.out; omega)⟩⟩
            go_wp2
            go_ret
            exact ⟨(by rw [hfin.out]; first | done | rfl), hB.out⟩
  · have hbad : Aside0 (chk c = 74) := ⟨chk_head (fun h => hd (by have := hnn0.out; have := hnn2.out; omega))⟩
    obtain ⟨b1, e1⟩ : ∃ b, (((n0 : Int) % 2) != 0) = b := ⟨_, rfl⟩
    obtain ⟨b2, e2⟩ : ∃ b, decide ((n0 : Int) > 16384) = b := ⟨_, rfl⟩
    obtain ⟨b3, e3⟩ : ∃ b, decide ((n2 : Int) > 8192) = b := ⟨_, rfl⟩
    have hq : Aside0 (b1 = true ∨ b2 = true ∨ b3 = true) := ⟨by
      rw [← e1, ← e2, ← e3]
      simp only [decide_eq_true_eq, bne_iff_ne, ne_eq]
      omega⟩
    clear hd
    cases b1 <;> cases b2 <;> cases b3
    all_goals try (exfalso; rcases hq.out with h0 | h0 | h0 <;> cases h0 <;> done)
    all_goals
      go_enter Tryd.func37, Tryd.ntmps37
      go_wp2
      all_goals first | (go_ret; exact ⟨(by rw [hbad.out]; first | done | rfl), hB0.out⟩) | (exfalso; have h9 := of_decide_eq_true e3; omega)
end Go.Proofs.YtembdahclmffjaaDoor.Pk
/- wispref07's sections and body (printed: Px7, and Pxs, the first half of Px8), plainly: they are the maths' secs and bodyB. -/
namespace Go.Proofs.YtembdahclmffjaaDoor.Pk
open Go.RowKit Go.Proofs.YtembdahclmffjaaDoorW.PrintWords Go.Proofs.YtembdahclmffjaaDoorW.PrintLast Go.Proofs.YtembdahclmffjaaDoorW.PrintMore Go.Proofs.YtembdahclmffjaaDoor.Mem
set_option linter.unusedVariables false
set_option linter.unusedSimpArgs false
theorem low_l0 (n : Nat) (hn : n ≤ 8) : ∀ d (i k : Nat) (x : Int) (acc : List Int), i + d = n → 0 ≤ x → x ≤ 9223372036854775807 → acc.length ≤ i → d < k → P.wispref03_Low.l0 k x n acc i = some (acc ++ lowI d x) := by
  intro d
  induction d with
  | zero =>
    intro i k x acc hi h0 h1 ha hk
    obtain ⟨k, rfl⟩ : ∃ m, k = m + 1 := ⟨k - 1, by omega⟩
    simp only [P.wispref03_Low.l0]
    rw [if_neg (by omega)]
    simp [lowI]
  | succ d ih =>
    intro i k x acc hi h0 h1 ha hk
    obtain ⟨k, rfl⟩ : ∃ m, k = m + 1 := ⟨k - 1, by omega⟩
    have hw : wrap64 ((i : Int) + 1) = ((i + 1 : Nat) : Int) := by unfold wrap64; omega
    have hx : IntKind.u64.wrap (Int.tdiv x 256) = x / 256 := by
      rw [Int.tdiv_eq_ediv_of_nonneg h0]
      simp [IntKind.wrap, IntKind.bits, IntKind.signed]; omega
    have hm : (Int.tmod x 256) % 256 = x % 256 := by rw [Int.tmod_eq_emod_of_nonneg h0]; omega
    have hN := ih (i + 1) k (x / 256) (acc ++ [x % 256]) (by omega) (by omega) (by omega) (by simp; omega) (by omega)
    simp only [P.wispref03_Low.l0, hw, hx, hm]
    rw [if_pos (by omega), if_pos (by omega), hN]
    simp [lowI]
theorem low_n (n : Nat) (hn : n ≤ 8) (k : Nat) (hk : 8 < k) (x : Int) (h0 : 0 ≤ x) (h1 : x ≤ 9223372036854775807) : P.wispref03_Low.f k (IntKind.u64.wrap x) n = some (lowI n x) := by
  have e : IntKind.u64.wrap x = x := by simp [IntKind.wrap, IntKind.bits, IntKind.signed]; omega
  rw [e]
  unfold P.wispref03_Low.f
  have := low_l0 n hn n 0 k x [] (by omega) h0 h1 (by simp) (by omega)
  simpa using this
theorem low2n (k : Nat) (hk : 8 < k) (x : Int) (h0 : 0 ≤ x) (h1 : x ≤ 65535) : P.wispref03_Low.f k (IntKind.u64.wrap x) 2 = some [x % 256, x / 256] := by
  have := low_n 2 (by omega) k hk x h0 (by omega)
  simp only [lowI] at this
  rw [show ((2 : Nat) : Int) = 2 from rfl] at this
  rw [this, show x / 256 % 256 = x / 256 by omega]
theorem low4n (k : Nat) (hk : 8 < k) (x : Int) (h0 : 0 ≤ x) (h1 : x ≤ 4294967295) : P.wispref03_Low.f k (IntKind.u64.wrap x) 4 = some (wordB x) := low_n 4 (by omega) k hk x h0 (by omega)
/-- the banks -/
theorem ref_sec1 (c : CartP) (E : List P.S80) (hb : ∀ i, i < c.bks.length → okB c.bks i) (hl : c.bks.length ≤ 16) : ∀ d i k, i + d = c.bks.length → d < k →
    P.wispref07_sections.l1 k ((((1 : Int), (0 : Int), c.code) :: (2, 0, effB c.efs) :: (c.bks.take i).map fun b => (3, b.1, b.2)).map gS) i c.code c.entry E (c.bks.map gB) = some ((secs c).map gS) := by
  intro d
  induction d with
  | zero =>
    intro i k hi hk
    obtain ⟨k, rfl⟩ : ∃ m, k = m + 1 := ⟨k - 1, by omega⟩
    simp only [P.wispref07_sections.l1]
    rw [if_neg (by rw [List.length_map]; omega), List.take_of_length_le (by omega)]
    rfl
  | succ d ih =>
    intro i k hi hk
    obtain ⟨k, rfl⟩ : ∃ m, k = m + 1 := ⟨k - 1, by omega⟩
    have hw : wrap64 ((i : Int) + 1) = ((i + 1 : Nat) : Int) := by unfold wrap64; omega
    have hN := ih (i + 1) k (by omega) (by omega)
    have hk1 := hb i (by omega)
    obtain ⟨b0, b1, _, _⟩ := hk1
    rw [secs_snoc c.bks i (by omega)] at hN
    simp only [P.wispref07_sections.l1, hw, rdBk]
    rw [if_pos (by rw [List.length_map]; omega), if_pos (by omega), if_pos (by simp; omega)]
    rw [← hN]
    congr 1
    have e : (gB (c.bks.getD i (0, []))).f0 % 256 = (c.bks.getD i (0, [])).1 := by show (c.bks.getD i (0, [])).1 % 256 = _; omega
    rw [e]
    simp only [List.map_cons, List.map_append, List.cons_append, List.map_nil]
    rfl
theorem ref_sec0 (c : CartP) (hok : OkC c) (hwf : WfC c) : ∀ d i k, i + d = c.efs.length → d + 40 < k →
    P.wispref07_sections.l0 k (effB (c.efs.take i)) i c.code c.entry (c.efs.map gE) (c.bks.map gB) = some ((secs c).map gS) := by
  intro d
  induction d with
  | zero =>
    intro i k hi hk
    obtain ⟨k, rfl⟩ : ∃ m, k = m + 1 := ⟨k - 1, by omega⟩
    have h16 := bk_len hok.bs
    simp only [P.wispref07_sections.l0]
    rw [if_neg (by rw [List.length_map]; omega), List.take_of_length_le (by omega)]
    have := ref_sec1 c (c.efs.map gE) hok.bs (by omega) c.bks.length 0 k (by omega) (by omega)
    exact this
  | succ d ih =>
    intro i k hi hk
    obtain ⟨k, rfl⟩ : ∃ m, k = m + 1 := ⟨k - 1, by omega⟩
    have hel := hok.el
    have hw : wrap64 ((i : Int) + 1) = ((i + 1 : Nat) : Int) := by unfold wrap64; omega
    have hN := ih (i + 1) k (by omega) (by omega)
    obtain ⟨a1, a2, a3, a4, _⟩ := hok.es i (by omega)
    have hat : 0 ≤ (c.efs.getD i (0, 0, 0)).1 ∧ (c.efs.getD i (0, 0, 0)).1 < 65536 := hwf.ats _ (by rw [getD_at _ _ (by omega)]; exact List.getElem_mem _)
    have hlen : (effB (c.efs.take i)).length ≤ 100000 := by
      have h1 := eff_len (c.efs.take i)
      have h2 := hok.el
      rw [h1, List.length_take]; omega
    rw [effB_snoc c.efs i (by omega)] at hN
    simp only [P.wispref07_sections.l0, hw, rdE, gE]
    rw [if_pos (by rw [List.length_map]; omega), if_pos (by omega), low2n k (by omega) _ (by omega) (by omega), low2n k (by omega) _ (by omega) (by omega), low2n k (by omega) _ (by omega) (by omega)]
    simp only [Option.bind_some]
    rw [if_pos (by simp; omega), if_pos (by simp; omega), if_pos (by simp; omega)]
    exact hN
theorem ref_secs (c : CartP) (hok : OkC c) (hwf : WfC c) : P.wispref07_sections.f 9000 c.code c.entry (c.efs.map gE) (c.bks.map gB) = some ((secs c).map gS) := by
  have h := hok.el
  exact ref_sec0 c hok hwf c.efs.length 0 9000 (by omega) (by omega)
/-- the bytes of all sections -/
theorem ref_bod1 (l : List ScT) (hS : ∀ s ∈ l, s.2.2.length ≤ 100000) (hl : l.length ≤ 18) : ∀ d i k (acc : List Int), i + d = l.length → acc.length ≤ 1000 + 100000 * i → d < k →
    P.wispref07_body.l1 k (l.map gS) acc i = some (acc ++ datB (l.drop i)) := by
  intro d
  induction d with
  | zero =>
    intro i k acc hi ha hk
    obtain ⟨k, rfl⟩ : ∃ m, k = m + 1 := ⟨k - 1, by omega⟩
    simp only [P.wispref07_body.l1]
    rw [if_neg (by rw [List.length_map]; omega), List.drop_of_length_le (by omega)]
    simp [datB]
  | succ d ih =>
    intro i k acc hi ha hk
    obtain ⟨k, rfl⟩ : ∃ m, k = m + 1 := ⟨k - 1, by omega⟩
    have hw : wrap64 ((i : Int) + 1) = ((i + 1 : Nat) : Int) := by unfold wrap64; omega
    have hs1 : (l.getD i (0, 0, [])).2.2.length ≤ 100000 := hS _ (by rw [getD_at _ _ (by omega)]; exact List.getElem_mem _)
    have hN := ih (i + 1) k (acc ++ (l.getD i (0, 0, [])).2.2) (by omega) (by rw [List.length_append]; omega) (by omega)
    simp only [P.wispref07_body.l1, hw, rdS, gS]
    rw [if_pos (by rw [List.length_map]; omega), if_pos (by omega), if_pos (by omega)]
    refine hN.trans ?_
    rw [dat_step l i (by omega), List.append_assoc]
theorem ref_bod0 (l : List ScT) (hS : ∀ s ∈ l, s.2.2.length ≤ 100000) (hl : l.length ≤ 18) : ∀ d i k (acc : List Int) (a : Int), i + d = l.length → acc.length ≤ 20 + 10 * i → 0 ≤ a → a ≤ 1000 + 100000 * i → d + 40 < k →
    P.wispref07_body.l0 k (l.map gS) acc a i = some (acc ++ tabB a (l.drop i) ++ datB l) := by
  intro d
  induction d with
  | zero =>
    intro i k acc a hi ha h0 h1 hk
    obtain ⟨k, rfl⟩ : ∃ m, k = m + 1 := ⟨k - 1, by omega⟩
    simp only [P.wispref07_body.l0]
    rw [if_neg (by rw [List.length_map]; omega), List.drop_of_length_le (by omega)]
    have := ref_bod1 l hS hl l.length 0 k acc (by omega) (by omega) (by omega)
    simpa [tabB] using this
  | succ d ih =>
    intro i k acc a hi ha h0 h1 hk
    obtain ⟨k, rfl⟩ : ∃ m, k = m + 1 := ⟨k - 1, by omega⟩
    have hw : wrap64 ((i : Int) + 1) = ((i + 1 : Nat) : Int) := by unfold wrap64; omega
    have hs1 : (l.getD i (0, 0, [])).2.2.length ≤ 100000 := hS _ (by rw [getD_at _ _ (by omega)]; exact List.getElem_mem _)
    have hwa : wrap64 (a + ((l.getD i (0, 0, [])).2.2.length : Int)) = a + ((l.getD i (0, 0, [])).2.2.length : Int) := by unfold wrap64; omega
    have hN := ih (i + 1) k (((acc ++ [(l.getD i (0, 0, [])).1, (l.getD i (0, 0, [])).2.1]) ++ wordB a) ++ wordB (l.getD i (0, 0, [])).2.2.length) (a + ((l.getD i (0, 0, [])).2.2.length : Int)) (by omega) (by simp only [List.length_append, word_len, List.length_cons, List.length_nil]; omega) (by omega) (by omega) (by omega)
    simp only [P.wispref07_body.l0, hw, rdS, gS, hwa]
    rw [if_pos (by rw [List.length_map]; omega), if_pos (by omega), low4n k (by omega) _ (by omega) (by omega), low4n k (by omega) _ (by omega) (by omega)]
    simp only [Option.bind_some]
    rw [if_pos (by simp only [List.length_append, word_len, List.length_cons, List.length_nil]; omega), if_pos (by simp only [List.length_append, word_len, List.length_cons, List.length_nil]; omega), if_pos (by simp only [List.length_append, word_len, List.length_cons, List.length_nil]; omega)]
    refine hN.trans ?_
    rw [tab_step l i a (by omega)]
    simp only [List.append_assoc, List.cons_append, List.nil_append]
theorem secs_small {c : CartP} (hok : OkC c) : ∀ s ∈ secs c, s.2.2.length ≤ 100000 := fun s hs => by
  have h1 := hok.cl
  have h2 := hok.el
  rcases List.mem_cons.1 hs with rfl | hs
  · show c.code.length ≤ _; omega
  rcases List.mem_cons.1 hs with rfl | hs
  · show (effB c.efs).length ≤ _; rw [eff_len]; omega
  obtain ⟨b, hb, rfl⟩ := List.mem_map.1 hs
  obtain ⟨i, hi, e⟩ := List.getElem_of_mem hb
  have := (hok.bs i hi).2.2.1
  rw [getD_at _ _ hi, e] at this
  show b.2.length ≤ _
  omega
theorem ref_body (c : CartP) (hok : OkC c) (hwf : WfC c) : P.wispref07_body.f 100 c.entry ((secs c).map gS) = some (bodyB c.entry (secs c)) := by
  have hl := secs_len18 hok
  have e0 := hwf.e0
  have e1 := hwf.e1
  have hw : wrap64 (8 + wrap64 (10 * (((secs c).map gS).length : Int))) = 8 + 10 * ((secs c).length : Int) := by rw [List.length_map]; unfold wrap64; omega
  unfold P.wispref07_body.f
  rw [hw, low2n 100 (by omega) _ e0 (by omega)]
  simp only [Option.bind_some]
  rw [if_pos (by simp)]
  have := ref_bod0 (secs c) (secs_small hok) hl (secs c).length 0 100 ([87, 73, 83, 80, 1, (((secs c).map gS).length : Int) % 256] ++ [c.entry % 256, c.entry / 256]) (8 + 10 * ((secs c).length : Int)) (by omega) (by simp) (by omega) (by omega) (by omega)
  refine this.trans ?_
  have e : (((secs c).map gS).length : Int) % 256 = ((secs c).length : Int) := by rw [List.length_map]; omega
  rw [e]
  simp [bodyB, magic, cellB]
end Go.Proofs.YtembdahclmffjaaDoor.Pk
/- wispref07.Encode: the walk. (Printed by gen_re.py.) -/
namespace Go.Proofs.YtembdahclmffjaaDoor.Pk
open Go.RowKit Go.Proofs.YtembdahclmffjaaDoorW.PrintWords Go.Proofs.YtembdahclmffjaaDoorW.PrintLast Go.Proofs.YtembdahclmffjaaDoorW.PrintMore Go.Proofs.YtembdahclmffjaaDoor.Mem
set_option linter.unusedVariables false
set_option linter.unusedSimpArgs false
theorem RSections {w : World} {A0 A2 A3 : Option Addr} {c0 c2 c3 : Nat} {c : CartP} (h : IsC w A0 c0 A2 c2 A3 c3 c) (hok : OkC c) (hwf : WfC c) :
    Calls Tryd.prog 43 #[crt A0 c0 A2 c2 A3 c3 c] w fun e w' => ∃ A n k, e = .returned (.slice A n k) ∧ n = (secs c).length ∧ n ≤ k ∧ Kd.C P.k77 w' A n ((secs c).map gS) ∧ Below w.heap.size w w' := by
  have h2 := C_gE h.efs
  have h3 := C_gB h.bks
  have := P.wispref07_sections.calls 9000 (fun q => q < w.heap.size) A0 c0 c.code c.entry A2 c2 (c.efs.map gE) (fun q => q < w.heap.size) A3 c3 (c.bks.map gB) ((secs c).map gS) w ⟨A0, c0, rfl, h.l0, Kd.C_F (Kd.heap_int .u8) h.code⟩ (by rw [List.length_map]; exact h2) (by rw [List.length_map]; exact h.l2) ⟨A3, c3, rfl, by rw [List.length_map]; exact h.l3, Kd.C_F P.k82_heap (by rw [List.length_map]; exact h3)⟩ (ref_secs c hok hwf)
  rw [List.length_map, List.length_map] at this
  refine this.mono ?_
  rintro e w' ⟨v, rfl, hN, hb⟩
  obtain ⟨A, k, rfl⟩ := Kd.N_slice hN
  obtain ⟨_, hk, hC⟩ := Kd.N_reads' hN
  rw [List.length_map] at hk hC ⊢
  exact ⟨A, _, k, rfl, rfl, hk, hC, hb⟩
theorem RBody {w : World} {A : Option Addr} {n k : Nat} {c : CartP} (hC : Kd.C P.k77 w A n ((secs c).map gS)) (hn : n = (secs c).length) (hk : n ≤ k) (hok : OkC c) (hwf : WfC c) :
    Calls Tryd.prog 42 #[.int .u16 c.entry, .slice A n k] w fun e w' => ∃ A1 c1, e = .returned (.slice A1 (bodyB c.entry (secs c)).length c1) ∧ Kd.R (Kd.int .u8) 5 w' w.heap.size (fun _ => True) (.slice A1 (bodyB c.entry (secs c)).length c1) (bodyB c.entry (secs c)) ∧ Below w.heap.size w w' := by
  subst hn
  have := P.wispref07_body.calls 100 c.entry A k ((secs c).map gS) (bodyB c.entry (secs c)) w (by rw [List.length_map]; exact hC) (by rw [List.length_map]; exact hk) (ref_body c hok hwf)
  rw [List.length_map] at this
  refine this.mono ?_
  rintro e w' ⟨v, rfl, hR, hb⟩
  obtain ⟨A1, c1, rfl, _, _⟩ := Kd.R_reads hR
  exact ⟨A1, c1, rfl, hR, hb⟩
set_option maxRecDepth 100000 in
set_option maxHeartbeats 4000000 in
theorem REncode_bad {w : World} {A0 A2 A3 : Option Addr} {c0 c2 c3 : Nat} {c : CartP} (h : IsC w A0 c0 A2 c2 A3 c3 c) (hok : ¬ OkC c) (he : c.efs.length < 4611686018427387904) (hb : c.bks.length < 4611686018427387904) :
    Calls Tryd.prog 25 #[crt A0 c0 A2 c2 A3 c3 c] w fun e w' => e = .returned (.tuple #[.slice none 0 0, .int .i64 74]) ∧ Below w.heap.size w w' := by
  have hK := Aside0.mk (fun (W : World) (hb1 : Below w.heap.size w W) => kChkR (u := crt A0 c0 A2 c2 A3 c3 c) ⟨A0, c0, A2, c2, A3, c3, rfl, h.below hb1⟩ he hb)
  have hc := chk_bad hok
  rw [hc] at hK
  clear h hok he hb hc
  unfold crt at hK ⊢
  have hB0 := Aside0.mk (below_alloc (Below.refl w.heap.size w) (.cells #[.slice A0 c.code.length c0, .int .u16 c.entry, .slice A2 c.efs.length c2, .slice A3 c.bks.length c3] 28))
  generalize c.code.length = n0 at *
  generalize c.efs.length = n2 at *
  generalize c.bks.length = n3 at *
  generalize c.entry = ent at *
  go_enter Tryd.func25, Tryd.ntmps25
  go_wp2_with (go_at_call 37; go_must (with_reducible refine (hK.out _ hB0.out).mono ?_); rintro e w1 ⟨rfl, hb1⟩)
  go_ret2
  exact ⟨rfl, hB0.out.trans (hb1.mono (by simp))⟩
theorem box4E {w : World} {g t : Nat} {x0 x1 x2 x3 : Value} (h : w.heap[g]? = some (.cells #[x0, x1, x2, x3] t (0, 0))) : w.cell? ⟨g, 0, none⟩ = some x0 ∧ w.cell? ⟨g, 1, none⟩ = some x1 ∧ w.cell? ⟨g, 2, none⟩ = some x2 ∧ w.cell? ⟨g, 3, none⟩ = some x3 ∧ w.frozen? ⟨g, 0, none⟩ = false ∧ w.frozen? ⟨g, 1, none⟩ = false ∧ w.frozen? ⟨g, 2, none⟩ = false ∧ w.frozen? ⟨g, 3, none⟩ = false := by
  refine ⟨?_, ?_, ?_, ?_, ?_, ?_, ?_, ?_⟩ <;> simp [World.cell?, World.frozen?, h]
set_option maxRecDepth 100000 in
set_option maxHeartbeats 4000000 in
theorem REncode_ok {w : World} {A0 A2 A3 : Option Addr} {c0 c2 c3 : Nat} {c : CartP} (h : IsC w A0 c0 A2 c2 A3 c3 c) (hok : OkC c) (hwf : WfC c) :
    Calls Tryd.prog 25 #[crt A0 c0 A2 c2 A3 c3 c] w fun e w' => ∃ v, e = .returned (.tuple #[v, .int .i64 0]) ∧ Kd.R (Kd.int .u8) 5 w' w.heap.size (fun _ => True) v (encB c) ∧ Below w.heap.size w w' := by
  have hK := Aside0.mk (fun (W : World) (hb1 : Below w.heap.size w W) => kChkR (u := crt A0 c0 A2 c2 A3 c3 c) ⟨A0, c0, A2, c2, A3, c3, rfl, h.below hb1⟩ (by have := hok.el; omega) (by have := bk_len hok.bs; omega))
  have hKS := Aside0.mk (fun (W : World) (hb1 : Below w.heap.size w W) => RSections (h.below hb1) hok hwf)
  have hKB := Aside0.mk (fun (W : World) (A : Option Addr) (n k : Nat) (hC : Kd.C P.k77 W A n ((secs c).map gS)) (hn : n = (secs c).length) (hk : n ≤ k) => RBody hC hn hk hok hwf)
  have hTB : Aside0 (allB (bodyB c.entry (secs c))) := ⟨fun x hx => encB_B hwf hok x (List.mem_append_left _ hx)⟩
  generalize (secs c).map gS = ss at hKS hKB
  have hsl0 := secs_len18 hok
  generalize hns : (secs c).length = ns at hKS hKB hsl0
  have hc := chk_ok hok
  rw [hc] at hK
  have hbl := body_len c.entry (secs c)
  have hsl := secs_len18 hok
  have hsd := secs_dat hok
  clear h hok hwf hc hns
  unfold crt at hK hKS ⊢
  have hB0 := Aside0.mk (below_alloc (Below.refl w.heap.size w) (.cells #[.slice A0 c.code.length c0, .int .u16 c.entry, .slice A2 c.efs.length c2, .slice A3 c.bks.length c3] 28))
  have hX := Aside0.mk (World.alloc_heap_new w (.cells #[.slice A0 c.code.length c0, .int .u16 c.entry, .slice A2 c.efs.length c2, .slice A3 c.bks.length c3] 28))
  obtain ⟨T, hTe⟩ : ∃ T, T = bodyB c.entry (secs c) := ⟨_, rfl⟩
  have hE : Aside0 (encB c = T ++ wordB (sumI [T])) := ⟨by rw [hTe]; rfl⟩
  rw [← hTe] at hKB hbl hTB
  have hTl : Aside0 (T.length ≤ 400000) := ⟨by omega⟩
  have hSb := sum_bd [T]
  obtain ⟨S, hS⟩ : ∃ S, S = sumI [T] := ⟨_, rfl⟩
  rw [← hS] at hE hSb
  have hSS := Aside0.mk hS
  have s0 := hSb.1
  have s1 : S ≤ 4294967295 := by have := hSb.2; omega
  obtain ⟨E, hEE⟩ : ∃ E, E = encB c := ⟨_, rfl⟩
  rw [← hEE] at hE ⊢
  clear hTe hbl hsl hsd hSb hS hEE
  generalize c.code.length = n0 at *
  generalize c.efs.length = n2 at *
  generalize c.bks.length = n3 at *
  generalize c.entry = ent at *
  go_enter Tryd.func25, Tryd.ntmps25
  go_upto_region 4 with (go_at_call 37; ((with_reducible refine (hK.out _ hB0.out).mono ?_); rintro e w1 ⟨rfl, hb1⟩; have hx1 := Aside0.mk ((hb1.block _ (by simp)).trans hX.out); obtain ⟨q0, q1, q2, q3, _, _, _, _⟩ := box4E hx1.out; have hB1 := Aside0.mk (hB0.out.trans (hb1.mono (by simp))); have hlt1 := heap_lt hx1.out; clear hb1))
  have hBd := Aside0.mk (below_drew hB1.out)
  have hxd := Aside0.mk (((below_drew (Below.refl w1.heap.size w1)).block _ hlt1).trans hx1.out)
  refine start_ (n := 6) (S := (fun w' => w'.cell? ⟨w.heap.size, 0, none⟩ = some (.slice A0 n0 c0) ∧ w'.cell? ⟨w.heap.size, 1, none⟩ = some (.int .u16 ent) ∧ w'.cell? ⟨w.heap.size, 2, none⟩ = some (.slice A2 n2 c2) ∧ w'.cell? ⟨w.heap.size, 3, none⟩ = some (.slice A3 n3 c3))) (ds := []) #[false, false, false, false, false, false] (by kernel_rfl) rfl rfl ⟨q0, q1, q2, q3⟩ (fun hHeld => ?_)
  refine pure_ (i := 0) (N := some 11) (v := ?_) (a' := ?_) #[true, false, false, false, false, false] rfl rfl (by kernel_rfl) (fun _ _ _ h => h) (Or.inl ⟨by rfl, ?_⟩) ?_ ?_
  rotate_left
  · intro w'
    go_simp
    with_reducible rfl
  rotate_left
  · simp only [Act.put, List.setIfInBounds_toArray, List.set_cons_zero, List.set_cons_succ, i64_w, i32_w]
    rfl
  refine take_ (i := 1) (N := some 12) (v := ?_) (a' := ?_) #[true, true, false, false, false, false] rfl rfl (by kernel_rfl) (fun _ _ _ h => h) (Or.inl ⟨by rfl, ?_⟩) hHeld ?_ ?_
  rotate_left
  · rintro w' ⟨qa, qb, qc, qd⟩
    go_simp
    with_reducible rfl
  rotate_left
  · simp only [Act.put, List.setIfInBounds_toArray, List.set_cons_zero, List.set_cons_succ, i64_w, i32_w]
    rfl
  refine take_ (i := 2) (N := some 13) (v := ?_) (a' := ?_) #[true, true, true, false, false, false] rfl rfl (by kernel_rfl) (fun _ _ _ h => h) (Or.inl ⟨by rfl, ?_⟩) hHeld ?_ ?_
  rotate_left
  · rintro w' ⟨qa, qb, qc, qd⟩
    go_simp
    with_reducible rfl
  rotate_left
  · simp only [Act.put, List.setIfInBounds_toArray, List.set_cons_zero, List.set_cons_succ, i64_w, i32_w]
    rfl
  refine one_ (i := 3) (N := some 14) #[true, true, true, true, false, false] rfl rfl (by kernel_rfl) (by decide) (fun K hK => ?_)
  refine goes_ Tryd.func43 (by kernel_rfl) rfl #[.agg #[.slice A0 n0 c0, .int .u16 ent, .slice A2 n2 c2, .slice A3 n3 c3]] (by rfl) rfl rfl (by first | rfl | kernel_rfl | simp [Act.eval]) ?_
  refine (hKS.out _ hBd.out).mono ?_
  rintro e w2 ⟨As, ns2, ks, rfl, hn_, hk_, hC_, hb_⟩
  have hx2 := Aside0.mk ((hb_.block _ (heap_lt hxd.out)).trans hxd.out)
  have hB2 := Aside0.mk (hBd.out.trans (hb_.mono hBd.out.size))
  have kBo := Aside0.mk (hKB.out _ _ _ _ hC_ hn_ hk_)
  obtain ⟨r0, r1, r2, r3, _, _, _, _⟩ := box4E hx2.out
  clear hn_ hk_ hC_ hb_
  refine ⟨_, rfl, hK.out _ _ ⟨r0, r1, r2, r3⟩ (fun hHeld2 => ?_)⟩
  clear hK
  refine norm_ (a' := ?_) ?_ ?_
  rotate_left
  · show Act.put _ (some 14) _ = _
    simp only [Act.put, List.setIfInBounds_toArray, List.set_cons_zero, List.set_cons_succ, i64_w, i32_w]
    rfl
  refine one_ (i := 4) (N := some 15) #[true, true, true, true, true, false] rfl rfl (by kernel_rfl) (by decide) (fun K hK => ?_)
  refine goes_ Tryd.func42 (by kernel_rfl) rfl #[.int .u16 ent, .slice As ns2 ks] (by rfl) rfl rfl (by first | rfl | kernel_rfl | simp [Act.eval]) ?_
  refine (kBo.out).mono ?_
  rintro e w3 ⟨A1, c1, rfl, hR_, hb_⟩
  have hx3 := (hb_.block _ (heap_lt hx2.out)).trans hx2.out
  have hR3 := Aside0.mk hR_
  have hB3 := Aside0.mk (hB2.out.trans (hb_.mono hB2.out.size))
  have hz3 := Aside0.mk hb_.size
  obtain ⟨t0, t1, t2, t3, _, _, _, _⟩ := box4E hx3
  clear hR_ hb_ hx3
  refine ⟨_, rfl, hK.out _ _ ⟨t0, t1, t2, t3⟩ (fun hHeld3 => ?_)⟩
  clear hK
  refine norm_ (a' := ?_) ?_ ?_
  rotate_left
  · show Act.put _ (some 15) _ = _
    simp only [Act.put, List.setIfInBounds_toArray, List.set_cons_zero, List.set_cons_succ, i64_w, i32_w]
    rfl
  refine pure_ (i := 5) (N := some 5) (v := ?_) (a' := ?_) #[true, true, true, true, true, true] rfl rfl (by kernel_rfl) (fun _ _ _ h => h) (Or.inl ⟨by rfl, ?_⟩) ?_ ?_
  rotate_left
  · intro w'
    go_simp
    with_reducible rfl
  rotate_left
  · simp only [Act.put, List.setIfInBounds_toArray, List.set_cons_zero, List.set_cons_succ, i64_w, i32_w]
    rfl
  refine done_ (by kernel_rfl) ?_
  generalize hnT : T.length = nT at *
  have hnT' := Aside0.mk hnT
  have kSum : Aside0 (∀ W, Below w3.heap.size w3 W → Calls Tryd.prog 27 #[.slice A1 nT c1] W fun e w' => e = .returned (.int .u32 S) ∧ W = w') := ⟨fun W hb => by
    have h1 := (Kd.R_reads' (Kd.R_below hR3.out hb)).2.2
    have := RefSum (c := c1) h1 hTB.out
    rw [hnT'.out, ← hSS.out] at this
    exact this⟩
  have kLow : Aside0 (∀ W, Calls Tryd.prog 44 #[.int .u64 S, .int .i64 4] W fun e w' => ∃ v0_ : Value, e = .returned (v0_) ∧ Kd.R (Kd.int .u8) 5 w' W.heap.size (fun _ => True) v0_ (wordB S) ∧ Below W.heap.size W w') := ⟨fun W => by
    have e : IntKind.u64.wrap S = S := by simp [IntKind.wrap, IntKind.bits, IntKind.signed]; omega
    have h1 := low4n 100 (by omega) S s0 s1
    rw [e] at h1
    exact P.wispref03_Low.calls 100 S 4 (wordB S) W h1⟩
  have e64 : IntKind.u64.wrap S = S := by simp [IntKind.wrap, IntKind.bits, IntKind.signed]; omega
  clear q0 q1 q2 q3 hnT hKS hKB hK kBo
  go_wp2_with (first | (go_at_call 27; ((with_reducible refine (kSum.out _ (Below.refl _ _)).mono ?_); rintro e w4 ⟨rfl, rfl⟩)) | (go_at_call 44; ((with_reducible refine (kLow.out _).mono ?_); rintro e w5 ⟨v5, rfl, hR_, hb_⟩; obtain ⟨A5, c5, e5, _, hC5_⟩ := Kd.R_reads hR_; rw [word_len] at e5 hC5_; subst e5; have hC5 := Aside0.mk hC5_; have hR4 := Aside0.mk (Kd.R_below hR3.out hb_); have hB4 := Aside0.mk (hB3.out.trans (hb_.mono hB3.out.size)); clear hR_ hb_ hC5_)) | (at_builtin; go_loud (refine Kd.R_append_row (w0 := w) (Value.int .u8) 0 (h1 := fun _ => rfl) w.heap.size rfl _ _ 22 5 (.int .u8 0) 1 rfl Tryd.underlying22 infoB rfl (by decide) (.slice A1 nT c1) T (wordB S) A5 4 c5 (fun _ => True) rfl rfl (fun _ _ => trivial) (Kd.R_lower hR4.out (by have := hB2.out.size; omega)) hC5.out hB4.out hB4.out.size (by have := hTl.out; have := hnT'.out; omega) ?_; intro v6 w6 h1 h2 _ _; have hR6 := Aside0.mk h1; have hB6 := Aside0.mk h2; clear h1 h2)))
  go_ret2
  exact ⟨v6, rfl, by rw [hE.out]; exact hR6.out, hB6.out⟩
end Go.Proofs.YtembdahclmffjaaDoor.Pk
/- A cartridge of a law's own, with marks behind its lists (Own, Kept): kinds. -/
namespace Go.Proofs.YtembdahclmffjaaDoor.Pk
open Go.RowKit Go.Proofs.YtembdahclmffjaaDoorW.PrintWords Go.Proofs.YtembdahclmffjaaDoorW.PrintLast Go.Proofs.YtembdahclmffjaaDoorW.PrintMore Go.Proofs.YtembdahclmffjaaDoor.Mem
set_option linter.unusedVariables false
set_option linter.unusedSimpArgs false
/-- bytes, and whether marks lie behind them, as elements of a row -/
def mz : Kd (List Int × Bool) where
  sz := 1
  E := [5]
  K := fun w x cs => ∃ A c, cs = [.slice A x.1.length c] ∧ x.1.length ≤ c ∧ Kd.C (Kd.int .u8) w A x.1.length x.1 ∧ (x.2 = true → ∃ g, A = some ⟨g, 0, none⟩ ∧ x.1.length + 3 ≤ c ∧ Kd.C (Kd.int .u8) w A (x.1.length + 3) (x.1 ++ mk3))
  M := fun w base ok x cs => (x.2 = true ∧ ∃ g cap, cs = [.slice (some ⟨g, 0, none⟩) x.1.length cap] ∧ IsM w base g cap x.1 ∧ ok g) ∨ (x = ([], false) ∧ cs = [.slice none 0 0])
  K_len := by
    rintro w x cs ⟨A, c, rfl, _⟩
    rfl
  K_one := by
    rintro w x cs ⟨A, c, rfl, _⟩ u hu
    rw [List.mem_singleton.1 hu]
    rfl
  K_below := by
    rintro w w1 x cs hb ⟨A, c, rfl, h1, h2, h3⟩
    refine ⟨A, c, rfl, h1, Kd.C_below h2 hb, fun h => ?_⟩
    obtain ⟨g, e, h4, h5⟩ := h3 h
    exact ⟨g, e, h4, Kd.C_below h5 hb⟩
  K_of_M := by
    rintro w base ok x cs (⟨h0, g, cap, rfl, h, _⟩ | ⟨rfl, rfl⟩)
    · exact ⟨_, cap, rfl, by have := h.len; omega, h.c, fun _ => ⟨g, rfl, h.len, h.all⟩⟩
    · exact ⟨none, 0, rfl, Nat.le_refl _, C_non _ w, fun h => by cases h⟩
  M_mono := by
    rintro w base ok ok' x cs hk (⟨h0, g, cap, rfl, h, h2⟩ | h)
    · exact .inl ⟨h0, g, cap, rfl, h, hk _ h2⟩
    · exact .inr h
  M_bound := by
    rintro w base ok x cs (⟨h0, g, cap, rfl, h, h2⟩ | h)
    · obtain ⟨cells, hc⟩ := Kd.R_typed h g rfl
      exact .inl ⟨h0, g, cap, rfl, h, h2, h.base, h.lt, _, List.mem_singleton.2 rfl, cells, hc⟩
    · exact .inr h
  M_move := by
    rintro w w1 base ok x cs hm (⟨h0, g, cap, rfl, h, h2⟩ | h)
    · exact .inl ⟨h0, g, cap, rfl, Kd.R_move h (fun k hk => by subst hk; exact hm _ h2), h2⟩
    · exact .inr h
  M_lower := by
    rintro w base base' ok x cs hb (⟨h0, g, cap, rfl, h, h2⟩ | h)
    · exact .inl ⟨h0, g, cap, rfl, h.lower hb, h2⟩
    · exact .inr h
def kM : Kd (Int × List Int × Bool) := Kd.pair (Kd.int .i64) mz
def gM (x : BkT) : Int × List Int × Bool := (x.1, x.2, true)
theorem C_unmap {α β : Type} {d : Kd α} {d' : Kd β} {g : β → α} (hs : d.sz = d'.sz) (hg : ∀ w x cs, d.K w (g x) cs → d'.K w x cs) {w : World} {A : Option Addr} {n : Nat} {xs : List β} (h : d.C w A n (xs.map g)) : d'.C w A n xs := by
  obtain ⟨h1, h2, h3⟩ := h
  refine ⟨by rw [List.length_map] at h1; exact h1, h2, fun hn => ?_⟩
  obtain ⟨ad, e, hc⟩ := h3 hn
  refine ⟨ad, e, fun j p hj => ?_⟩
  obtain ⟨cs, hl, hK, hcc⟩ := hc j (g p) (by rw [List.getElem?_map, hj]; rfl)
  exact ⟨cs, by rw [← hs]; exact hl, hg _ _ _ hK, by rw [← hs]; exact hcc⟩
theorem kM_kB {w : World} {A : Option Addr} {n : Nat} {bs : List BkT} (h : kM.C w A n (bs.map gM)) : kB.C w A n bs :=
  C_unmap (d := kM) (d' := kB) (g := gM) rfl (fun w x cs hk => by
    obtain ⟨c0, c1, rfl, h0, A, c, rfl, h1, h2, _⟩ := hk
    exact ⟨c0, _, rfl, h0, A, c, rfl, h1, h2⟩) h
theorem infoEf : (Tryd.prog.info? 80).map (fun i => (i.zero, i.size, i.bytes)) = some (some (.agg #[.int .u16 0, .int .i64 0, .int .i64 0]), kE.sz, 24) := by kernel_rfl
theorem infoBa : (Tryd.prog.info? 82).map (fun i => (i.zero, i.size, i.bytes)) = some (some (.agg #[.int .i64 0, .slice none 0 0]), kM.sz, 32) := by kernel_rfl
/-- a cartridge of the law's own: marks lie behind its lists -/
structure OwnC (w : World) (g0 c0 : Nat) (A2 : Option Addr) (c2 : Nat) (A3 : Option Addr) (c3 : Nat) (c : CartP) : Prop where
  l0 : c.code.length + 3 ≤ c0
  code : Kd.C (Kd.int .u8) w (some ⟨g0, 0, none⟩) (c.code.length + 3) (c.code ++ mk3)
  l2 : c.efs.length + 1 ≤ c2
  efs : kE.C w A2 (c.efs.length + 1) (c.efs ++ [(7, 77, 0)])
  l3 : c.bks.length + 1 ≤ c3
  bks : kM.C w A3 (c.bks.length + 1) (c.bks.map gM ++ [(77, [], false)])
namespace OwnC
variable {w w' : World} {g0 c0 c2 c3 : Nat} {A2 A3 : Option Addr} {c : CartP}
theorem below (h : OwnC w g0 c0 A2 c2 A3 c3 c) (hb : Below w.heap.size w w') : OwnC w' g0 c0 A2 c2 A3 c3 c :=
  ⟨h.l0, Kd.C_below h.code hb, h.l2, Kd.C_below h.efs hb, h.l3, Kd.C_below h.bks hb⟩
theorem isc (h : OwnC w g0 c0 A2 c2 A3 c3 c) : IsC w (some ⟨g0, 0, none⟩) c0 A2 c2 A3 c3 c := by
  have e0 : c.code.length + 3 = (c.code ++ mk3).length := by simp [mk3]
  have e2 : c.efs.length + 1 = (c.efs ++ [(7, 77, 0)]).length := by simp
  have e3 : c.bks.length + 1 = (c.bks.map gM ++ [(77, [], false)]).length := by simp
  have h0 := h.code
  have h2 := h.efs
  have h3 := h.bks
  rw [e0] at h0
  rw [e2] at h2
  rw [e3] at h3
  have k0 := Kd.C_take (m := c.code.length) h0 (by simp)
  have k2 := Kd.C_take (m := c.efs.length) h2 (by simp)
  have k3 := Kd.C_take (m := c.bks.length) h3 (by simp)
  rw [List.take_left' rfl] at k0 k2
  rw [List.take_left' (by simp), List.length_map] at k3
  have := h.l0
  have := h.l2
  have := h.l3
  exact ⟨k0, k2, kM_kB k3, by omega, by omega, by omega⟩
theorem ct (h : OwnC w g0 c0 A2 c2 A3 c3 c) : CtV w (crt (some ⟨g0, 0, none⟩) c0 A2 c2 A3 c3 c) c := ⟨_, _, _, _, _, _, rfl, h.isc⟩
end OwnC
end Go.Proofs.YtembdahclmffjaaDoor.Pk
/- wisplaw07.Own: the walk. (Printed by gen_ow.py.) -/
namespace Go.Proofs.YtembdahclmffjaaDoor.Pk
open Go.RowKit Go.Proofs.YtembdahclmffjaaDoorW.PrintWords Go.Proofs.YtembdahclmffjaaDoorW.PrintLast Go.Proofs.YtembdahclmffjaaDoorW.PrintMore Go.Proofs.YtembdahclmffjaaDoor.Mem
set_option linter.unusedVariables false
set_option linter.unusedSimpArgs false
/-- the effects' rows: a row of plain cells -/
theorem kE_E : kE.E = [] := rfl
theorem kE_made (w : World) : Kd.R kE 80 (w.alloc (.cells #[] 80)) w.heap.size (fun _ => True) (.slice (some ⟨w.heap.size, 0, none⟩) 0 0) ([] : List EfT) :=
  ⟨fun _ _ => trivial, [], by have h2 := World.ownsRow_made w #[] (e := 80) (size := 3) 0 (Nat.le_refl _) (Nat.zero_le _) rfl; show World.ownsRow _ _ 80 3 _ 0 []; simpa using h2, Reps.none _ _⟩
theorem kE_KM {w W : World} {base : Nat} {ok : Nat → Prop} {x : EfT} {cs : List Value} (h : kE.K w x cs) : kE.M W base ok x cs := by
  obtain ⟨c0, c1, rfl, h0, c2, c3, rfl, h2, h3⟩ := h
  exact ⟨c0, _, rfl, h0, c2, c3, rfl, h2, h3⟩
/-- a literal row of one effect -/
theorem kE_lit (w : World) : kE.C (w.alloc (.cells #[.int .u16 7, .int .i64 77, .int .i64 0] 80)) (some ⟨w.heap.size, 0, none⟩) 1 [(7, 77, 0)] := by
  refine ⟨rfl, by decide, fun _ => ⟨_, rfl, fun j p hj => ?_⟩⟩
  match j, hj with
  | 0, hj =>
    obtain rfl : p = (7, 77, 0) := by simpa using hj.symm
    refine ⟨[.int .u16 7, .int .i64 77, .int .i64 0], rfl, ⟨[.int .u16 7], [.int .i64 77, .int .i64 0], rfl, rfl, [.int .i64 77], [.int .i64 0], rfl, rfl, rfl⟩, fun i u hu => ?_⟩
    have hh := World.alloc_heap_new w (.cells #[.int .u16 7, .int .i64 77, .int .i64 0] 80)
    rw [add_plain]
    simp only [World.cell?, hh]
    match i, hu with
    | 0, hu => simpa using hu
    | 1, hu => simpa using hu
    | 2, hu => simpa using hu
theorem heap_grown {w w1 : World} {v : Value} {k : Nat} {o : Obj} (hg : w.grownBy w1 v.ownBlock) (h : w.heap[k]? = some o) (hne : some k ≠ v.ownBlock) : w1.heap[k]? = some o := (hg.block k (heap_lt h) hne).trans h
theorem R_set4 {α : Type} {d : Kd α} {e base g t : Nat} {ok : Nat → Prop} {v : Value} {xs : List α} {X : World} {x0 x1 x2 x3 : Value} (h : d.R e X base ok v xs) (hx : X.heap[g]? = some (.cells #[x0, x1, x2, x3] t (0, 0))) (ht : ∀ q, q ∈ e :: d.E → q ≠ t) (y0 y1 y2 y3 : Value) :
    d.R e ((((X.setCell ⟨g, 0, none⟩ y0).setCell ⟨g, 1, none⟩ y1).setCell ⟨g, 2, none⟩ y2).setCell ⟨g, 3, none⟩ y3) base ok v xs :=
  Kd.R_set (Kd.R_set (Kd.R_set (Kd.R_set h hx ht 0 y0) (setH hx 0 y0) ht 1 y1) (setH (setH hx 0 y0) 1 y1) ht 2 y2) (setH (setH (setH hx 0 y0) 1 y1) 2 y2) ht 3 y3
/-- what Own keeps -/
structure OwS (w X : World) (q0 q2 q3 : Value) (ent : Int) (k3 g cap n0 : Nat) (code : List Int) (v2 v3 u2 u3 : Value) (L2 : List EfT) (L3 : List (Int × List Int × Bool)) : Prop where
  bel : Below w.heap.size w X
  x1 : X.heap[w.heap.size]? = some (.cells #[q0, .int .u16 ent, q2, q3] 28 (0, 0))
  x2 : X.heap[w.heap.size + 1]? = some (.cells #[.slice none 0 0, .int .u16 0, .slice none 0 0, .slice none 0 0] 28 (0, 0))
  x3 : X.heap[k3]? = some (.cells #[.slice (some ⟨g, 0, none⟩) n0 cap, .int .u16 ent, v2, v3] 28 (0, 0))
  k3 : w.heap.size + 2 ≤ k3
  M : IsM X w.heap.size g cap code
  R2 : Kd.R kE 80 X w.heap.size (fun _ => True) u2 L2
  R3 : Kd.R kM 82 X w.heap.size (fun _ => True) u3 L3
namespace OwS
variable {w X X' : World} {q0 q2 q3 v2 v3 u2 u3 : Value} {ent : Int} {k3 g cap n0 : Nat} {code : List Int} {L2 : List EfT} {L3 : List (Int × List Int × Bool)}
theorem below (h : OwS w X q0 q2 q3 ent k3 g cap n0 code v2 v3 u2 u3 L2 L3) (hb : Below X.heap.size X X') : OwS w X' q0 q2 q3 ent k3 g cap n0 code v2 v3 u2 u3 L2 L3 :=
  ⟨h.bel.trans (hb.mono h.bel.size), (hb.block _ (heap_lt h.x1)).trans h.x1, (hb.block _ (heap_lt h.x2)).trans h.x2, (hb.block _ (heap_lt h.x3)).trans h.x3, h.k3, h.M.below hb, Kd.R_below h.R2 hb, Kd.R_below h.R3 hb⟩
theorem cells (h : OwS w X q0 q2 q3 ent k3 g cap n0 code v2 v3 u2 u3 L2 L3) : X.cell? ⟨w.heap.size, 0, none⟩ = some q0 ∧ X.cell? ⟨w.heap.size, 1, none⟩ = some (.int .u16 ent) ∧ X.cell? ⟨w.heap.size, 2, none⟩ = some q2 ∧ X.cell? ⟨w.heap.size, 3, none⟩ = some q3 :=
  ⟨(cellH h.x1).trans rfl, (cellH h.x1).trans rfl, (cellH h.x1).trans rfl, (cellH h.x1).trans rfl⟩
theorem cells3 (h : OwS w X q0 q2 q3 ent k3 g cap n0 code v2 v3 u2 u3 L2 L3) : X.cell? ⟨k3, 0, none⟩ = some (.slice (some ⟨g, 0, none⟩) n0 cap) ∧ X.cell? ⟨k3, 1, none⟩ = some (.int .u16 ent) ∧ X.cell? ⟨k3, 2, none⟩ = some v2 ∧ X.cell? ⟨k3, 3, none⟩ = some v3 :=
  ⟨(cellH h.x3).trans rfl, (cellH h.x3).trans rfl, (cellH h.x3).trans rfl, (cellH h.x3).trans rfl⟩
theorem fz3 (h : OwS w X q0 q2 q3 ent k3 g cap n0 code v2 v3 u2 u3 L2 L3) (o : Nat) : X.frozen? ⟨k3, o, none⟩ = false := by simp [World.frozen?, h.x3]
theorem put (h : OwS w X q0 q2 q3 ent k3 g cap n0 code v2 v3 u2 u3 L2 L3) (j : Nat) (y : Value) : Below w.heap.size w (X.setCell ⟨k3, j, none⟩ y) ∧ (X.setCell ⟨k3, j, none⟩ y).heap[w.heap.size]? = some (.cells #[q0, .int .u16 ent, q2, q3] 28 (0, 0)) ∧ (X.setCell ⟨k3, j, none⟩ y).heap[w.heap.size + 1]? = some (.cells #[.slice none 0 0, .int .u16 0, .slice none 0 0, .slice none 0 0] 28 (0, 0)) ∧
    IsM (X.setCell ⟨k3, j, none⟩ y) w.heap.size g cap code ∧ Kd.R kE 80 (X.setCell ⟨k3, j, none⟩ y) w.heap.size (fun _ => True) u2 L2 ∧ Kd.R kM 82 (X.setCell ⟨k3, j, none⟩ y) w.heap.size (fun _ => True) u3 L3 := by
  have hk := h.k3
  refine ⟨h.bel.setCell (p := ⟨k3, j, none⟩) (by show w.heap.size ≤ k3; omega) _, (Below.heap_setCell X ⟨k3, j, none⟩ y _ (show w.heap.size ≠ k3 by omega)).trans h.x1, (Below.heap_setCell X ⟨k3, j, none⟩ y _ (show w.heap.size + 1 ≠ k3 by omega)).trans h.x2, Kd.R_set h.M h.x3 ?_ j y, Kd.R_set h.R2 h.x3 ?_ j y, Kd.R_set h.R3 h.x3 ?_ j y⟩
  · intro q hq; simp [Kd.int, Kd.scalar] at hq; subst hq; decide
  · intro q hq; simp [kE_E] at hq; subst hq; decide
  · intro q hq; simp [kM, mz, Kd.pair, Kd.int, Kd.scalar] at hq; rcases hq with rfl | rfl <;> decide
theorem put2 (h : OwS w X q0 q2 q3 ent k3 g cap n0 code v2 v3 u2 u3 L2 L3) (y : Value) : OwS w (X.setCell ⟨k3, 2, none⟩ y) q0 q2 q3 ent k3 g cap n0 code y v3 u2 u3 L2 L3 := by
  obtain ⟨h1, h2, h3, h4, h5, h6⟩ := h.put 2 y
  exact ⟨h1, h2, h3, setH h.x3 2 y, h.k3, h4, h5, h6⟩
theorem put3 (h : OwS w X q0 q2 q3 ent k3 g cap n0 code v2 v3 u2 u3 L2 L3) (y : Value) : OwS w (X.setCell ⟨k3, 3, none⟩ y) q0 q2 q3 ent k3 g cap n0 code v2 y u2 u3 L2 L3 := by
  obtain ⟨h1, h2, h3, h4, h5, h6⟩ := h.put 3 y
  exact ⟨h1, h2, h3, setH h.x3 3 y, h.k3, h4, h5, h6⟩
theorem with2 (h : OwS w X q0 q2 q3 ent k3 g cap n0 code v2 v3 u2 u3 L2 L3) {z : Value} {L : List EfT} (hR : Kd.R kE 80 X w.heap.size (fun _ => True) z L) : OwS w X q0 q2 q3 ent k3 g cap n0 code v2 v3 z u3 L L3 :=
  ⟨h.bel, h.x1, h.x2, h.x3, h.k3, h.M, hR, h.R3⟩
/-- the row of banks has grown -/
theorem grow3 (h : OwS w X q0 q2 q3 ent k3 g cap n0 code v2 v3 u2 u3 L2 L3) {z : Value} {L : List (Int × List Int × Bool)} (hR : Kd.R kM 82 X' w.heap.size (fun _ => True) z L) (hb : Below w.heap.size w X') (hg : X.grownBy X' u3.ownBlock) : OwS w X' q0 q2 q3 ent k3 g cap n0 code v2 v3 u2 z L2 L := by
  have hc : (82 : Nat) ≠ 28 := by decide
  refine ⟨hb, heap_grown hg h.x1 (Kd.R_ne h.R3 h.x1 hc), heap_grown hg h.x2 (Kd.R_ne h.R3 h.x2 hc), heap_grown hg h.x3 (Kd.R_ne h.R3 h.x3 hc), h.k3, ?_, ?_, hR⟩
  · refine Kd.R_grown h.M hg (fun k hk => ?_)
    subst hk
    obtain ⟨cs, hcs⟩ := Kd.R_typed h.M k rfl
    exact Kd.R_ne h.R3 hcs (by decide)
  · refine Kd.R_mono (Kd.R_grown (Kd.R_tight kE_E h.R2) hg (fun k hk => ?_)) (fun _ _ => trivial)
    obtain ⟨cs, hcs⟩ := Kd.R_typed h.R2 k hk.symm
    exact Kd.R_ne h.R3 hcs (by decide)
theorem done (h : OwS w X q0 q2 q3 ent k3 g cap n0 code v2 v3 u2 u3 L2 L3) {c : CartP} {A2 A3 : Option Addr} {c2 c3 : Nat} (h0 : code = c.code) (e2 : u2 = .slice A2 (c.efs.length + 1) c2) (hL2 : L2 = c.efs ++ [(7, 77, 0)]) (e3 : u3 = .slice A3 (c.bks.length + 1) c3) (hL3 : L3 = c.bks.map gM ++ [(77, [], false)]) (y0 y1 y2 y3 : Value) : OwnC ((((X.setCell ⟨w.heap.size + 1, 0, none⟩ y0).setCell ⟨w.heap.size + 1, 1, none⟩ y1).setCell ⟨w.heap.size + 1, 2, none⟩ y2).setCell ⟨w.heap.size + 1, 3, none⟩ y3) g cap A2 c2 A3 c3 c := by
  have h1 : IsM _ _ g cap code := R_set4 h.M h.x2 (by intro q hq; simp [Kd.int, Kd.scalar] at hq; subst hq; decide) y0 y1 y2 y3
  have h2 := R_set4 h.R2 h.x2 (by intro q hq; simp [kE_E] at hq; subst hq; decide) y0 y1 y2 y3
  have h3 := R_set4 h.R3 h.x2 (by intro q hq; simp [kM, mz, Kd.pair, Kd.int, Kd.scalar] at hq; rcases hq with rfl | rfl <;> decide) y0 y1 y2 y3
  subst h0 e2 hL2 e3 hL3
  obtain ⟨_, l2, C2⟩ := Kd.R_reads' h2
  obtain ⟨_, l3, C3⟩ := Kd.R_reads' h3
  rw [show (c.efs ++ [((7 : Int), (77 : Int), (0 : Int))] : List EfT).length = c.efs.length + 1 by simp] at C2
  rw [show (c.bks.map gM ++ [((77 : Int), ([] : List Int), false)] : List (Int × List Int × Bool)).length = c.bks.length + 1 by simp] at C3
  exact ⟨h1.len, h1.all, l2, C2, l3, C3⟩
end OwS
theorem lit_grown {w w1 : World} {p : Nat} {v : Value} (h : kE.C w (some ⟨p, 0, none⟩) 1 [(7, 77, 0)]) (hg : w.grownBy w1 v.ownBlock) (hn : ∀ k, some k = v.ownBlock → k ≠ p) : kE.C w1 (some ⟨p, 0, none⟩) 1 [(7, 77, 0)] := by
  obtain ⟨h1, h2, h3⟩ := h
  refine ⟨h1, h2, fun h0 => ?_⟩
  obtain ⟨ad, e, hc⟩ := h3 h0
  refine ⟨ad, e, fun j q hj => ?_⟩
  obtain ⟨cs, hl, hK, hcc⟩ := hc j q hj
  refine ⟨cs, hl, ?_, fun i u hu => ?_⟩
  · obtain ⟨c0, c1, rfl, k0, c2, c3, rfl, k2, k3⟩ := hK
    exact ⟨c0, _, rfl, k0, c2, c3, rfl, k2, k3⟩
  · have h9 := hcc i u hu
    cases e
    rw [← h9]
    refine World.cell?_of_block (hg.block _ (World.block_lt_of_cell? _ _ h9) (fun e' => ?_))
    rw [add_plain] at e'
    exact hn _ e' rfl
theorem own_ret {Q : Ending → World → Prop} {X : World} {R : Nat} {tmps : Array Value} {a0 a1 a2 a3 : Value} (h2 : tmps[2]? = some (.pointer (some ⟨R, 0, none⟩))) (hx : X.heap[R]? = some (.cells #[a0, a1, a2, a3] 28 (0, 0)))
    (hP : Q (.returned (.agg #[a0, a1, a2, a3])) X) : bodyPost Tryd.prog Tryd.f24 Q .ret { tmps := tmps, defers := [] } X := by
  have y0 : X.cell? ⟨R, 0, none⟩ = some a0 := (cellH hx).trans rfl
  have y1 : X.cell? ⟨R, 1, none⟩ = some a1 := (cellH hx).trans rfl
  have y2 : X.cell? ⟨R, 2, none⟩ = some a2 := (cellH hx).trans rfl
  have y3 : X.cell? ⟨R, 3, none⟩ = some a3 := (cellH hx).trans rfl
  exact bodyPost_ret (v := .agg #[a0, a1, a2, a3]) (by simp [results, Tryd.results24, go_sem, h2, y0, y1, y2, y3]) rfl hP
set_option maxRecDepth 100000 in
set_option maxHeartbeats 8000000 in
theorem MkOwn {w : World} {A0 A2 A3 : Option Addr} {c0 c2 c3 : Nat} {c : CartP} (h : IsC w A0 c0 A2 c2 A3 c3 c) (s0 : c.code.length ≤ 140737488351232) (s2 : c.efs.length * 24 ≤ 140737488351232) (s3 : c.bks.length * 32 ≤ 140737488351232) (sb : ∀ b ∈ c.bks, b.2.length ≤ 140737488351232) :
    Calls Tryd.prog 24 #[crt A0 c0 A2 c2 A3 c3 c] w fun e w' => ∃ g cap B2 d2 B3 d3, e = .returned (.agg #[.slice (some ⟨g, 0, none⟩) c.code.length cap, .int .u16 c.entry, .slice B2 c.efs.length d2, .slice B3 c.bks.length d3]) ∧ OwnC w' g cap B2 d2 B3 d3 c ∧ Below w.heap.size w w' := by
  obtain ⟨i25, hi25, _, _, _⟩ := info_parts infoEf
  obtain ⟨i26, hi26, _, _, _⟩ := info_parts infoBa
  unfold crt
  have hC0 : Aside0 (∀ W, Below w.heap.size w W → Kd.C (Kd.int .u8) W A0 c.code.length c.code) := ⟨fun W hb => Kd.C_below h.code hb⟩
  have hC2 : Aside0 (∀ W, Below w.heap.size w W → kE.C W A2 c.efs.length c.efs) := ⟨fun W hb => Kd.C_below h.efs hb⟩
  have hC3 : Aside0 (∀ W, Below w.heap.size w W → kB.C W A3 c.bks.length c.bks) := ⟨fun W hb => Kd.C_below h.bks hb⟩
  have kRo : Aside0 (∀ W, Below w.heap.size w W → Calls Tryd.prog 8 #[.slice A0 c.code.length c0] W fun e w' => ∃ g cap, e = .returned (.slice (some ⟨g, 0, none⟩) c.code.length cap) ∧ IsM w' W.heap.size g cap c.code ∧ Below W.heap.size W w') := ⟨fun W hb => Roomy (Kd.C_below h.code hb) s0⟩
  have kBr : Aside0 (∀ W (i : Nat), Below w.heap.size w W → i < c.bks.length → ∃ ad Ai ci, A3 = some ad ∧ W.cell? (ad.add (i * 2)) = some (.int .i64 (c.bks.getD i (0, [])).1) ∧ W.cell? ⟨(ad.add (i * 2)).block, (ad.add (i * 2)).off + 1, none⟩ = some (.slice Ai (c.bks.getD i (0, [])).2.length ci) ∧ ∀ W', Below W.heap.size W W' → Calls Tryd.prog 8 #[.slice Ai (c.bks.getD i (0, [])).2.length ci] W' fun e w' => ∃ g cap, e = .returned (.slice (some ⟨g, 0, none⟩) (c.bks.getD i (0, [])).2.length cap) ∧ IsM w' W'.heap.size g cap (c.bks.getD i (0, [])).2 ∧ Below W'.heap.size W' w') := ⟨fun W i hb hi => by
    obtain ⟨ad, Ai, ci, e, h0, h1, _, h2⟩ := atB (Kd.C_below h.bks hb) i hi
    refine ⟨ad, Ai, ci, e, h0, h1, fun W' hb' => Roomy (Kd.C_below h2 hb') (sb _ ?_)⟩
    rw [List.getD_eq_getElem?_getD, List.getElem?_eq_getElem hi]
    exact List.getElem_mem hi⟩
  have hs2 := Aside0.mk s2
  have hs3 := Aside0.mk s3
  have hOD : Aside0 (∀ X q0 q2 q3 k3 g cap v2 v3 u2 u3 L2 L3 B2 B3 d2 d3, OwS w X q0 q2 q3 c.entry k3 g cap c.code.length c.code v2 v3 u2 u3 L2 L3 → u2 = .slice B2 (c.efs.length + 1) d2 → L2 = c.efs ++ [(7, 77, 0)] → u3 = .slice B3 (c.bks.length + 1) d3 → L3 = c.bks.map gM ++ [(77, [], false)] → ∀ y0 y1 y2 y3, OwnC ((((X.setCell ⟨w.heap.size + 1, 0, none⟩ y0).setCell ⟨w.heap.size + 1, 1, none⟩ y1).setCell ⟨w.heap.size + 1, 2, none⟩ y2).setCell ⟨w.heap.size + 1, 3, none⟩ y3) g cap B2 d2 B3 d3 c) := ⟨fun X q0 q2 q3 k3 g cap v2 v3 u2 u3 L2 L3 B2 B3 d2 d3 h e2 h2 e3 h3 y0 y1 y2 y3 => h.done rfl e2 h2 e3 h3 y0 y1 y2 y3⟩
  have hbg : Aside0 (∀ i, i < c.bks.length → (c.bks.take (i + 1)).map gM = (c.bks.take i).map gM ++ [((c.bks.getD i (0, [])).1, (c.bks.getD i (0, [])).2, true)]) := ⟨fun i hi => by
    rw [List.take_succ_eq_append_getElem hi, List.map_append]
    have e : c.bks.getD i (0, []) = c.bks[i] := by rw [List.getD_eq_getElem?_getD, List.getElem?_eq_getElem hi]; rfl
    rw [e]; rfl⟩
  have hbe : Aside0 ((c.bks.take c.bks.length).map gM = c.bks.map gM ∧ ((c.bks.take 0).map gM : List (Int × List Int × Bool)) = []) := ⟨by rw [List.take_length]; exact ⟨rfl, by simp⟩⟩
  obtain ⟨n0, hn0⟩ : ∃ n, n = c.code.length := ⟨_, rfl⟩
  obtain ⟨n2, hn2⟩ : ∃ n, n = c.efs.length := ⟨_, rfl⟩
  obtain ⟨n3, hn3⟩ : ∃ n, n = c.bks.length := ⟨_, rfl⟩
  obtain ⟨ent, hent⟩ : ∃ n, n = c.entry := ⟨_, rfl⟩
  obtain ⟨code, hcode⟩ : ∃ n, n = c.code := ⟨_, rfl⟩
  obtain ⟨efs, hefs⟩ : ∃ n, n = c.efs := ⟨_, rfl⟩
  rw [← hn0] at hC0 kRo hOD
  rw [← hcode] at hC0 kRo hOD
  rw [← hn2] at hC2 hs2 hOD
  rw [← hefs] at hC2 hOD
  rw [← hent] at hOD
  rw [← hn3] at hC3 hs3 hOD kBr hbg hbe
  rw [← hn0, ← hn2, ← hn3, ← hent]
  have hn2l : Aside0 (efs.length = n2) := ⟨by rw [hefs, hn2]⟩
  obtain ⟨LB, hLB⟩ : ∃ f : Nat → List (Int × List Int × Bool), f = fun i => (c.bks.take i).map gM := ⟨_, rfl⟩
  have hLl : Aside0 (∀ i, i ≤ n3 → (LB i).length = i) := ⟨fun i hi => by rw [hLB]; show ((c.bks.take i).map gM).length = i; rw [List.length_map, List.length_take]; omega⟩
  have hLs : Aside0 (∀ i, i < n3 → LB (i + 1) = LB i ++ [((c.bks.getD i (0, [])).1, (c.bks.getD i (0, [])).2, true)]) := ⟨fun i hi => by rw [hLB]; exact hbg.out i hi⟩
  have hLe : Aside0 (LB n3 = c.bks.map gM ∧ LB 0 = []) := ⟨by rw [hLB]; exact hbe.out⟩
  obtain ⟨nu, hnu⟩ : ∃ f : Nat → Int, f = fun i => (c.bks.getD i (0, [])).1 := ⟨_, rfl⟩
  obtain ⟨da, hda⟩ : ∃ f : Nat → List Int, f = fun i => (c.bks.getD i (0, [])).2 := ⟨_, rfl⟩
  replace kBr : Aside0 (∀ W (i : Nat), Below w.heap.size w W → i < n3 → ∃ ad Ai ci, A3 = some ad ∧ W.cell? (ad.add (i * 2)) = some (.int .i64 (nu i)) ∧ W.cell? ⟨(ad.add (i * 2)).block, (ad.add (i * 2)).off + 1, none⟩ = some (.slice Ai (da i).length ci) ∧ ∀ W', Below W.heap.size W W' → Calls Tryd.prog 8 #[.slice Ai (da i).length ci] W' fun e w' => ∃ g cap, e = .returned (.slice (some ⟨g, 0, none⟩) (da i).length cap) ∧ IsM w' W'.heap.size g cap (da i) ∧ Below W'.heap.size W' w') := ⟨by rw [hnu, hda]; exact kBr.out⟩
  replace hLs : Aside0 (∀ i, i < n3 → LB (i + 1) = LB i ++ [(nu i, da i, true)]) := ⟨by rw [hnu, hda]; exact hLs.out⟩
  clear h s0 s2 s3 sb hbg hbe hLB hnu hda hn0 hn2 hn3 hent hcode hefs hC0
  have hb1_ := below_alloc (Below.refl w.heap.size w) (.cells #[.slice A0 n0 c0, .int .u16 ent, .slice A2 n2 c2, .slice A3 n3 c3] 28)
  have hs1_ : (w.alloc (.cells #[.slice A0 n0 c0, .int .u16 ent, .slice A2 n2 c2, .slice A3 n3 c3] 28)).heap.size = w.heap.size + 1 := by rw [World.size_alloc]
  have hb2_ := below_alloc (Below.refl (w.alloc (.cells #[.slice A0 n0 c0, .int .u16 ent, .slice A2 n2 c2, .slice A3 n3 c3] 28)).heap.size (w.alloc (.cells #[.slice A0 n0 c0, .int .u16 ent, .slice A2 n2 c2, .slice A3 n3 c3] 28))) (.cells #[.slice none 0 0, .int .u16 0, .slice none 0 0, .slice none 0 0] 28)
  rw [hs1_] at hb2_
  have hB2 := Aside0.mk (hb1_.trans (hb2_.mono (by omega)))
  have hx1 : Aside0 (((w.alloc (.cells #[.slice A0 n0 c0, .int .u16 ent, .slice A2 n2 c2, .slice A3 n3 c3] 28)).alloc (.cells #[.slice none 0 0, .int .u16 0, .slice none 0 0, .slice none 0 0] 28)).heap[w.heap.size]? = some (.cells #[.slice A0 n0 c0, .int .u16 ent, .slice A2 n2 c2, .slice A3 n3 c3] 28 (0, 0))) := ⟨(hb2_.block _ (by omega)).trans (World.alloc_heap_new w _)⟩
  have hx2 : Aside0 (((w.alloc (.cells #[.slice A0 n0 c0, .int .u16 ent, .slice A2 n2 c2, .slice A3 n3 c3] 28)).alloc (.cells #[.slice none 0 0, .int .u16 0, .slice none 0 0, .slice none 0 0] 28)).heap[w.heap.size + 1]? = some (.cells #[.slice none 0 0, .int .u16 0, .slice none 0 0, .slice none 0 0] 28 (0, 0))) := ⟨by have := World.alloc_heap_new (w.alloc (.cells #[.slice A0 n0 c0, .int .u16 ent, .slice A2 n2 c2, .slice A3 n3 c3] 28)) (.cells #[.slice none 0 0, .int .u16 0, .slice none 0 0, .slice none 0 0] 28); rw [hs1_] at this; exact this⟩
  have hz2 : Aside0 (((w.alloc (.cells #[.slice A0 n0 c0, .int .u16 ent, .slice A2 n2 c2, .slice A3 n3 c3] 28)).alloc (.cells #[.slice none 0 0, .int .u16 0, .slice none 0 0, .slice none 0 0] 28)).heap.size = w.heap.size + 2) := ⟨by rw [World.size_alloc, World.size_alloc]⟩
  clear hb1_ hs1_ hb2_
  go_enter Tryd.func24, Tryd.ntmps24
  go_upto_region 1 with (fail)
  obtain ⟨W1, hW1⟩ : ∃ W1, W1 = (w.alloc (.cells #[.slice A0 n0 c0, .int .u16 ent, .slice A2 n2 c2, .slice A3 n3 c3] 28)).alloc (.cells #[.slice none 0 0, .int .u16 0, .slice none 0 0, .slice none 0 0] 28) := ⟨_, rfl⟩
  rw [← hW1] at hB2 hx1 hx2 hz2 ⊢
  clear hW1
  have hS0 : Aside0 (∀ u : World, Below W1.heap.size W1 u → u.cell? ⟨w.heap.size, 0, none⟩ = some (.slice A0 n0 c0) ∧ u.cell? ⟨w.heap.size, 1, none⟩ = some (.int .u16 ent)) := ⟨fun u hb => by have h := (hb.block _ (heap_lt hx1.out)).trans hx1.out; exact ⟨(cellH h).trans rfl, (cellH h).trans rfl⟩⟩
  refine start_ (n := 8) (S := (fun w' => w'.cell? ⟨w.heap.size, 0, none⟩ = some (.slice A0 n0 c0) ∧ w'.cell? ⟨w.heap.size, 1, none⟩ = some (.int .u16 ent))) (ds := [7]) #[false, false, false, false, false, false, false, false] (by kernel_rfl) rfl rfl (hS0.out _ (below_drew (Below.refl _ _))) (fun hHeld => ?_)
  refine pure_ (i := 0) (N := some 6) (v := ?_) (a' := ?_) #[true, false, false, false, false, false, false, false] rfl rfl (by kernel_rfl) (fun _ _ _ h => h) (Or.inl ⟨by rfl, ?_⟩) ?_ ?_
  rotate_left
  · intro w'
    go_simp
    with_reducible rfl
  rotate_left
  · simp only [Act.put, List.setIfInBounds_toArray, List.set_cons_zero, List.set_cons_succ, i64_w, i32_w]
    rfl
  refine take_ (i := 1) (N := some 7) (v := ?_) (a' := ?_) #[true, true, false, false, false, false, false, false] rfl rfl (by kernel_rfl) (fun _ _ _ h => h) (Or.inl ⟨by rfl, ?_⟩) hHeld ?_ ?_
  rotate_left
  · rintro w' ⟨hSa, hSb⟩
    go_simp
    with_reducible rfl
  rotate_left
  · simp only [Act.put, List.setIfInBounds_toArray, List.set_cons_zero, List.set_cons_succ, i64_w, i32_w]
    rfl
  refine pure_ (i := 3) (N := some 9) (v := ?_) (a' := ?_) #[true, true, false, true, false, false, false, false] rfl rfl (by kernel_rfl) (fun _ _ _ h => h) (Or.inl ⟨by rfl, ?_⟩) ?_ ?_
  rotate_left
  · intro w'
    go_simp
    with_reducible rfl
  rotate_left
  · simp only [Act.put, List.setIfInBounds_toArray, List.set_cons_zero, List.set_cons_succ, i64_w, i32_w]
    rfl
  refine take_ (i := 4) (N := some 10) (v := ?_) (a' := ?_) #[true, true, false, true, true, false, false, false] rfl rfl (by kernel_rfl) (fun _ _ _ h => h) (Or.inl ⟨by rfl, ?_⟩) hHeld ?_ ?_
  rotate_left
  · rintro w' ⟨hSa, hSb⟩
    go_simp
    with_reducible rfl
  rotate_left
  · simp only [Act.put, List.setIfInBounds_toArray, List.set_cons_zero, List.set_cons_succ, i64_w, i32_w]
    rfl
  refine join_ (σ := Nat × Nat × Nat) 1 #[true, true, true, true, true, true, true, false] (fun s => [(8, .slice (some ⟨s.1, 0, none⟩) n0 s.2.1), (11, .agg #[.slice (some ⟨s.1, 0, none⟩) n0 s.2.1, .int .u16 ent, .slice none 0 0, .slice none 0 0]), (3, .pointer (some ⟨s.2.2, 0, none⟩))]) (fun s X => Below W1.heap.size W1 X ∧ IsM X W1.heap.size s.1 s.2.1 code ∧ X.heap[s.2.2]? = some (.cells #[.slice none 0 0, .int .u16 0, .slice none 0 0, .slice none 0 0] 28 (0, 0)) ∧ W1.heap.size ≤ s.2.2) ?_ ?_
  rotate_left
  · intro hCont
    have hb : Aside0 (Below W1.heap.size W1 W1.drew) := ⟨below_drew (Below.refl _ _)⟩
    clear hHeld
    have hHeld := hS0.out _ hb.out
    generalize W1.drew = u0 at hb hHeld ⊢
    refine two_ (i := 2) (j := 6) (Ni := some 8) (Nj := some 3) #[true, true, true, true, true, false, false, false] #[true, true, false, true, true, false, true, false] rfl rfl rfl rfl (by kernel_rfl) (by decide) (by decide) (fun K hK => ?_) (fun K hK => ?_)
    · refine goes_ Tryd.func8 (by kernel_rfl) rfl #[.slice A0 n0 c0] (by rfl) rfl rfl (by first | rfl | kernel_rfl | simp [Act.eval]) ?_
      refine (kRo.out _ (hB2.out.trans (hb.out.mono hB2.out.size))).mono ?_
      rintro e u1 ⟨g, cap, rfl, hM_, hb_⟩
      have hM := Aside0.mk (hM_.lower hb.out.size)
      have hb := Aside0.mk (hb.out.trans (hb_.mono hb.out.size))
      clear hM_ hb_
      refine ⟨_, rfl, hK.out _ _ (hS0.out _ hb.out) (fun hHeld => ?_)⟩
      clear hK
      refine norm_ (a' := ?_) ?_ ?_
      rotate_left
      · show Act.put _ (some 8) _ = _
        simp only [Act.put, List.setIfInBounds_toArray, List.set_cons_zero, List.set_cons_succ, i64_w, i32_w]
        rfl
      refine pure_ (i := 5) (N := some 11) (v := ?_) (a' := ?_) #[true, true, true, true, true, true, false, false] rfl rfl (by kernel_rfl) (fun _ _ _ h => h) (Or.inl ⟨by rfl, ?_⟩) ?_ ?_
      rotate_left
      · intro w'
        go_simp
        with_reducible rfl
      rotate_left
      · simp only [Act.put, List.setIfInBounds_toArray, List.set_cons_zero, List.set_cons_succ, i64_w, i32_w]
        rfl
      refine one_ (i := 6) (N := some 3) #[true, true, true, true, true, true, true, false] rfl rfl (by kernel_rfl) (by decide) (fun K hK => ?_)
      refine value_ (v := .pointer (some ⟨u1.heap.size, 0, none⟩)) (w1 := u1.alloc (.cells #[.slice none 0 0, .int .u16 0, .slice none 0 0, .slice none 0 0] 28)) (by rfl) rfl (by go_simp) ?_
      have hb_ := below_alloc (Below.refl u1.heap.size u1) (.cells #[.slice none 0 0, .int .u16 0, .slice none 0 0, .slice none 0 0] 28)
      have hx : Aside0 ((u1.alloc (.cells #[.slice none 0 0, .int .u16 0, .slice none 0 0, .slice none 0 0] 28)).heap[u1.heap.size]? = some (.cells #[.slice none 0 0, .int .u16 0, .slice none 0 0, .slice none 0 0] 28 (0, 0))) := ⟨World.alloc_heap_new u1 _⟩
      have hgl := Aside0.mk hb.out.size
      have hM := Aside0.mk (hM.out.below hb_)
      have hb := Aside0.mk (hb.out.trans (hb_.mono hb.out.size))
      clear hb_
      obtain ⟨k3, hk3_⟩ : ∃ k3, k3 = u1.heap.size := ⟨_, rfl⟩
      rw [← hk3_] at hx hgl ⊢
      clear hk3_
      generalize u1.alloc (.cells #[.slice none 0 0, .int .u16 0, .slice none 0 0, .slice none 0 0] 28) = u2 at hb hx hM ⊢
      refine hK.out _ _ (hS0.out _ hb.out) (fun hHeld => ?_)
      clear hK
      refine norm_ (a' := ?_) ?_ ?_
      rotate_left
      · show Act.put _ (some 3) _ = _
        simp only [Act.put, List.setIfInBounds_toArray, List.set_cons_zero, List.set_cons_succ, i64_w, i32_w]
        rfl
      exact norm_ (by first | (simp only [putAll, Act.put, List.setIfInBounds_toArray, List.set_cons_zero, List.set_cons_succ]; done) | (simp only [putAll, Act.put, List.setIfInBounds_toArray, List.set_cons_zero, List.set_cons_succ]; rfl)) (hCont (g, cap, k3) _ ⟨hb.out, hM.out, hx.out, hgl.out⟩)
    · refine value_ (v := .pointer (some ⟨u0.heap.size, 0, none⟩)) (w1 := u0.alloc (.cells #[.slice none 0 0, .int .u16 0, .slice none 0 0, .slice none 0 0] 28)) (by rfl) rfl (by go_simp) ?_
      have hb_ := below_alloc (Below.refl u0.heap.size u0) (.cells #[.slice none 0 0, .int .u16 0, .slice none 0 0, .slice none 0 0] 28)
      have hx : Aside0 ((u0.alloc (.cells #[.slice none 0 0, .int .u16 0, .slice none 0 0, .slice none 0 0] 28)).heap[u0.heap.size]? = some (.cells #[.slice none 0 0, .int .u16 0, .slice none 0 0, .slice none 0 0] 28 (0, 0))) := ⟨World.alloc_heap_new u0 _⟩
      have hgl := Aside0.mk hb.out.size
      have hb := Aside0.mk (hb.out.trans (hb_.mono hb.out.size))
      clear hb_
      obtain ⟨k3, hk3_⟩ : ∃ k3, k3 = u0.heap.size := ⟨_, rfl⟩
      rw [← hk3_] at hx hgl ⊢
      clear hk3_
      generalize u0.alloc (.cells #[.slice none 0 0, .int .u16 0, .slice none 0 0, .slice none 0 0] 28) = u3 at hb hx ⊢
      refine hK.out _ _ (hS0.out _ hb.out) (fun hHeld => ?_)
      clear hK
      refine norm_ (a' := ?_) ?_ ?_
      rotate_left
      · show Act.put _ (some 3) _ = _
        simp only [Act.put, List.setIfInBounds_toArray, List.set_cons_zero, List.set_cons_succ, i64_w, i32_w]
        rfl
      refine one_ (i := 2) (N := some 8) #[true, true, true, true, true, false, true, false] rfl rfl (by kernel_rfl) (by decide) (fun K hK => ?_)
      refine goes_ Tryd.func8 (by kernel_rfl) rfl #[.slice A0 n0 c0] (by rfl) rfl rfl (by first | rfl | kernel_rfl | simp [Act.eval]) ?_
      refine (kRo.out _ (hB2.out.trans (hb.out.mono hB2.out.size))).mono ?_
      rintro e u4 ⟨g, cap, rfl, hM_, hb_⟩
      have hx := Aside0.mk ((hb_.block _ (heap_lt hx.out)).trans hx.out)
      have hM := Aside0.mk (hM_.lower hb.out.size)
      have hb := Aside0.mk (hb.out.trans (hb_.mono hb.out.size))
      clear hM_ hb_
      refine ⟨_, rfl, hK.out _ _ (hS0.out _ hb.out) (fun hHeld => ?_)⟩
      clear hK
      refine norm_ (a' := ?_) ?_ ?_
      rotate_left
      · show Act.put _ (some 8) _ = _
        simp only [Act.put, List.setIfInBounds_toArray, List.set_cons_zero, List.set_cons_succ, i64_w, i32_w]
        rfl
      refine pure_ (i := 5) (N := some 11) (v := ?_) (a' := ?_) #[true, true, true, true, true, true, true, false] rfl rfl (by kernel_rfl) (fun _ _ _ h => h) (Or.inl ⟨by rfl, ?_⟩) ?_ ?_
      rotate_left
      · intro w'
        go_simp
        with_reducible rfl
      rotate_left
      · simp only [Act.put, List.setIfInBounds_toArray, List.set_cons_zero, List.set_cons_succ, i64_w, i32_w]
        rfl
      exact norm_ (by first | (simp only [putAll, Act.put, List.setIfInBounds_toArray, List.set_cons_zero, List.set_cons_succ]; done) | (simp only [putAll, Act.put, List.setIfInBounds_toArray, List.set_cons_zero, List.set_cons_succ]; rfl)) (hCont (g, cap, k3) _ ⟨hb.out, hM.out, hx.out, hgl.out⟩)
  rintro ⟨g, cap, k3⟩ X ⟨hbX_, hMX_, hxX_, hk3_⟩
  dsimp only at hMX_ hxX_ hk3_
  have hX1 := Aside0.mk hx1.out
  have hbX := Aside0.mk hbX_
  have hMX := Aside0.mk hMX_
  have hxX := Aside0.mk hxX_
  have hk3 := Aside0.mk hk3_
  have g0 := (cellH (o := 0) hxX_).trans rfl
  have g1 := (cellH (o := 1) hxX_).trans rfl
  have g2 := (cellH (o := 2) hxX_).trans rfl
  have g3 := (cellH (o := 3) hxX_).trans rfl
  have f0 : X.frozen? ⟨k3, 0, none⟩ = false := by simp [World.frozen?, hxX_]
  have f1 : X.frozen? ⟨k3, 1, none⟩ = false := by simp [World.frozen?, hxX_]
  have f2 : X.frozen? ⟨k3, 2, none⟩ = false := by simp [World.frozen?, hxX_]
  have f3 : X.frozen? ⟨k3, 3, none⟩ = false := by simp [World.frozen?, hxX_]
  clear hbX_ hMX_ hxX_ hk3_ hX1
  refine norm_ (a' := ?_) ?_ ?_
  rotate_left
  · simp only [putAll, Act.put, List.setIfInBounds_toArray, List.set_cons_zero, List.set_cons_succ]
    rfl
  refine last_ (i := 7) (N := none) #[true, true, true, true, true, true, true, true] rfl rfl (by kernel_rfl) (by decide) (fun K hK => ?_)
  refine skip_ (w1 := (((X.setCell ⟨k3, 0, none⟩ (.slice (some ⟨g, 0, none⟩) n0 cap)).setCell ⟨k3, 1, none⟩ (.int .u16 ent)).setCell ⟨k3, 2, none⟩ (.slice none 0 0)).setCell ⟨k3, 3, none⟩ (.slice none 0 0)) (by rfl) rfl (by go_simp) ?_
  refine hK.out _ _ ?_
  clear hK
  refine done_ (by kernel_rfl) ?_
  have hO1 : Aside0 (OwS w ((((X.setCell ⟨k3, 0, none⟩ (.slice (some ⟨g, 0, none⟩) n0 cap)).setCell ⟨k3, 1, none⟩ (.int .u16 ent)).setCell ⟨k3, 2, none⟩ (.slice none 0 0)).setCell ⟨k3, 3, none⟩ (.slice none 0 0)) (.slice A0 n0 c0) (.slice A2 n2 c2) (.slice A3 n3 c3) ent k3 g cap n0 code (.slice none 0 0) (.slice none 0 0) (.slice none 0 0) (.slice none 0 0) [] []) := ⟨by
    have hz := hz2.out
    have hk := hk3.out
    have hF := put4F X k3 (.slice (some ⟨g, 0, none⟩) n0 cap) (.int .u16 ent) (.slice none 0 0) (.slice none 0 0)
    have hB3 := hB2.out.trans (hbX.out.mono hB2.out.size)
    have hM := hMX.out.lower hB2.out.size
    refine ⟨hB3.trans (hF.below hB3.size (fun k hk' e => by omega)), hF.heap ((hbX.out.block _ (by omega)).trans hx1.out) (fun e => by omega), hF.heap ((hbX.out.block _ (by omega)).trans hx2.out) (fun e => by omega), put4 hxX.out _ _ _ _, by omega, hM.fr hF (fun e => ?_), Kd.R_nil _ _ _ _ _, Kd.R_nil _ _ _ _ _⟩
    subst e
    obtain ⟨cs, hcs⟩ := Kd.R_typed hM g rfl
    rw [hxX.out] at hcs
    injection hcs with hcs
    injection hcs with _ hcs
    exact absurd hcs (by decide)⟩
  obtain ⟨W2, hW2⟩ : ∃ W2, W2 = (((X.setCell ⟨k3, 0, none⟩ (.slice (some ⟨g, 0, none⟩) n0 cap)).setCell ⟨k3, 1, none⟩ (.int .u16 ent)).setCell ⟨k3, 2, none⟩ (.slice none 0 0)).setCell ⟨k3, 3, none⟩ (.slice none 0 0) := ⟨_, rfl⟩
  rw [← hW2] at hO1 ⊢
  clear hW2 hMX hxX hbX hk3 g0 g1 g2 g3 f0 f1 f2 f3 hx1 hx2 hz2 hB2 kRo hS0
  go_upto_region 2 with (fail)
  have hS0 : Aside0 (∀ u : World, Below W2.heap.size W2 u → u.cell? ⟨w.heap.size, 2, none⟩ = some (.slice A2 n2 c2)) := ⟨fun u hb => (hO1.out.below hb).cells.2.2.1⟩
  refine start_ (n := 13) (S := (fun w' => w'.cell? ⟨w.heap.size, 2, none⟩ = some (.slice A2 n2 c2))) (ds := [12]) #[false, false, false, false, false, false, false, false, false, false, false, false, false] (by kernel_rfl) rfl rfl (hS0.out _ (below_drew (Below.refl _ _))) (fun hHeld => ?_)
  refine pure_ (i := 1) (N := some 13) (v := ?_) (a' := ?_) #[false, true, false, false, false, false, false, false, false, false, false, false, false] rfl rfl (by kernel_rfl) (fun _ _ _ h => h) (Or.inl ⟨by rfl, ?_⟩) ?_ ?_
  rotate_left
  · intro w'
    go_simp
    with_reducible rfl
  rotate_left
  · simp only [Act.put, List.setIfInBounds_toArray, List.set_cons_zero, List.set_cons_succ, i64_w, i32_w]
    rfl
  refine take_ (i := 2) (N := some 14) (v := ?_) (a' := ?_) #[false, true, true, false, false, false, false, false, false, false, false, false, false] rfl rfl (by kernel_rfl) (fun _ _ _ h => h) (Or.inl ⟨by rfl, ?_⟩) hHeld ?_ ?_
  rotate_left
  · rintro w' hSw
    go_simp
    with_reducible rfl
  rotate_left
  · simp only [Act.put, List.setIfInBounds_toArray, List.set_cons_zero, List.set_cons_succ, i64_w, i32_w]
    rfl
  refine pure_ (i := 4) (N := some 16) (v := ?_) (a' := ?_) #[false, true, true, false, true, false, false, false, false, false, false, false, false] rfl rfl (by kernel_rfl) (fun _ _ _ h => h) (Or.inl ⟨by rfl, ?_⟩) ?_ ?_
  rotate_left
  · intro w'
    go_simp
    with_reducible rfl
  rotate_left
  · simp only [Act.put, List.setIfInBounds_toArray, List.set_cons_zero, List.set_cons_succ, i64_w, i32_w]
    rfl
  refine pure_ (i := 7) (N := some 19) (v := ?_) (a' := ?_) #[false, true, true, false, true, false, false, true, false, false, false, false, false] rfl rfl (by kernel_rfl) (fun _ _ _ h => h) (Or.inl ⟨by rfl, ?_⟩) ?_ ?_
  rotate_left
  · intro w'
    go_simp
    with_reducible rfl
  rotate_left
  · simp only [Act.put, List.setIfInBounds_toArray, List.set_cons_zero, List.set_cons_succ, i64_w, i32_w]
    rfl
  refine take_ (i := 8) (N := some 20) (v := ?_) (a' := ?_) #[false, true, true, false, true, false, false, true, true, false, false, false, false] rfl rfl (by kernel_rfl) (fun _ _ _ h => h) (Or.inl ⟨by rfl, ?_⟩) hHeld ?_ ?_
  rotate_left
  · rintro w' hSw
    go_simp
    with_reducible rfl
  rotate_left
  · simp only [Act.put, List.setIfInBounds_toArray, List.set_cons_zero, List.set_cons_succ, i64_w, i32_w]
    rfl
  refine pure_ (i := 9) (N := some 21) (v := ?_) (a' := ?_) #[false, true, true, false, true, false, false, true, true, true, false, false, false] rfl rfl (by kernel_rfl) (fun _ _ _ h => h) (Or.inl ⟨by rfl, ?_⟩) ?_ ?_
  rotate_left
  · intro w'
    go_simp
    with_reducible rfl
  rotate_left
  · simp only [Act.put, List.setIfInBounds_toArray, List.set_cons_zero, List.set_cons_succ, i64_w, i32_w]
    rfl
  refine join_ (σ := Option Addr × Nat × Value × Value × Value) 3 #[true, true, true, true, true, true, true, true, true, true, false, false, false] (fun s => [(12, s.2.2.1), (15, s.2.2.2.1), (17, s.2.2.2.2), (18, .slice s.1 (n2 + 1) s.2.1)]) (fun s X => Below W2.heap.size W2 X ∧ Kd.R kE 80 X W2.heap.size (fun _ => True) (.slice s.1 (n2 + 1) s.2.1) (efs ++ [(7, 77, 0)])) ?_ ?_
  rotate_left
  · intro hCont
    have hb : Aside0 (Below W2.heap.size W2 W2.drew) := ⟨below_drew (Below.refl _ _)⟩
    clear hHeld
    have hHeld := hS0.out _ hb.out
    generalize W2.drew = u0 at hb hHeld ⊢
    refine two_ (i := 0) (j := 5) (Ni := some 12) (Nj := some 17) #[true, true, true, false, true, false, false, true, true, true, false, false, false] #[false, true, true, false, true, true, false, true, true, true, false, false, false] rfl rfl rfl rfl (by kernel_rfl) (by decide) (by decide) (fun K hK => ?_) (fun K hK => ?_)
    · refine value_ (v := .slice (some ⟨u0.heap.size, 0, none⟩) 0 0) (w1 := u0.alloc (.cells #[] 80)) (by rfl) rfl (by go_simp) ?_
      have hR := Aside0.mk (Kd.R_lower (kE_made u0) hb.out.size)
      have hb_ := below_alloc (Below.refl u0.heap.size u0) (.cells #[] 80)
      have hb := Aside0.mk (hb.out.trans (hb_.mono hb.out.size))
      clear hb_
      obtain ⟨p0, hp0⟩ : ∃ p0, p0 = u0.heap.size := ⟨_, rfl⟩
      rw [← hp0] at hR ⊢
      clear hp0
      generalize u0.alloc (.cells #[] 80) = u1 at hb hR ⊢
      refine hK.out _ _ (hS0.out _ hb.out) (fun hHeld => ?_)
      clear hK
      refine norm_ (a' := ?_) ?_ ?_
      rotate_left
      · show Act.put _ (some 12) _ = _
        simp only [Act.put, List.setIfInBounds_toArray, List.set_cons_zero, List.set_cons_succ, i64_w, i32_w]
        rfl
      refine two_ (i := 3) (j := 5) (Ni := some 15) (Nj := some 17) #[true, true, true, true, true, false, false, true, true, true, false, false, false] #[true, true, true, false, true, true, false, true, true, true, false, false, false] rfl rfl rfl rfl (by kernel_rfl) (by decide) (by decide) (fun K hK => ?_) (fun K hK => ?_)
      · refine Kd.R_append_rows_step kE (w0 := W2) W2.heap.size (by rfl) (.tmp 12) (.tmp 14) 25 80 (.agg #[.int .u16 0, .int .i64 0, .int .i64 0]) 24 rfl Tryd.underlying25 infoEf rfl (by decide) (by decide) (.slice (some ⟨p0, 0, none⟩) 0 0) [] efs A2 n2 c2 (fun _ => True) (fun _ => False) rfl rfl hR.out (hC2.out _ (hO1.out.bel.trans (hb.out.mono hO1.out.bel.size))) (fun x cs hK => kE_KM hK) (fun k hk => hk.elim) (fun _ _ => trivial) hb.out hb.out.size (by have := hs2.out; show (0 + n2) * 24 ≤ _; omega) ?_
        intro v1 u2 hR5 hb5 hg5 _
        rw [List.nil_append] at hR5
        have hR := Aside0.mk hR5
        have hb := Aside0.mk hb5
        obtain ⟨A1, d1, rfl⟩ := Kd.R_slice hR.out
        rw [hn2l.out] at hR ⊢
        clear hR5 hb5 hg5
        refine hK.out _ _ (hS0.out _ hb.out) (fun hHeld => ?_)
        clear hK
        refine norm_ (a' := ?_) ?_ ?_
        rotate_left
        · show Act.put _ (some 15) _ = _
          simp only [Act.put, List.setIfInBounds_toArray, List.set_cons_zero, List.set_cons_succ, i64_w, i32_w]
          rfl
        refine one_ (i := 5) (N := some 17) #[true, true, true, true, true, true, false, true, true, true, false, false, false] rfl rfl (by kernel_rfl) (by decide) (fun K hK => ?_)
        refine value_ (v := .slice (some ⟨u2.heap.size, 0, none⟩) 1 1) (w1 := u2.alloc (.cells #[.int .u16 7, .int .i64 77, .int .i64 0] 80)) (by rfl) rfl (by go_simp) ?_
        have hL := Aside0.mk (kE_lit u2)
        have hb_ := below_alloc (Below.refl u2.heap.size u2) (.cells #[.int .u16 7, .int .i64 77, .int .i64 0] 80)
        have hR := Aside0.mk (Kd.R_below hR.out hb_)
        have hb := Aside0.mk (hb.out.trans (hb_.mono hb.out.size))
        clear hb_
        obtain ⟨p5, hp5⟩ : ∃ p5, p5 = u2.heap.size := ⟨_, rfl⟩
        rw [← hp5] at hL ⊢
        clear hp5
        generalize u2.alloc (.cells #[.int .u16 7, .int .i64 77, .int .i64 0] 80) = u3 at hb hL hR ⊢
        refine hK.out _ _ (hS0.out _ hb.out) (fun hHeld => ?_)
        clear hK
        refine norm_ (a' := ?_) ?_ ?_
        rotate_left
        · show Act.put _ (some 17) _ = _
          simp only [Act.put, List.setIfInBounds_toArray, List.set_cons_zero, List.set_cons_succ, i64_w, i32_w]
          rfl
        refine one_ (i := 6) (N := some 18) #[true, true, true, true, true, true, true, true, true, true, false, false, false] rfl rfl (by kernel_rfl) (by decide) (fun K hK => ?_)
        refine Kd.R_append_rows_step kE (w0 := W2) W2.heap.size (by rfl) (.tmp 15) (.tmp 17) 25 80 (.agg #[.int .u16 0, .int .i64 0, .int .i64 0]) 24 rfl Tryd.underlying25 infoEf rfl (by decide) (by decide) (.slice A1 n2 d1) efs [(7, 77, 0)] (some ⟨p5, 0, none⟩) 1 1 (fun _ => True) (fun _ => False) rfl rfl hR.out hL.out (fun x cs hK => kE_KM hK) (fun k hk => hk.elim) (fun _ _ => trivial) hb.out hb.out.size (by have := hs2.out; have := hn2l.out; omega) ?_
        intro v1 u4 hR5 hb5 hg5 _
        have hR := Aside0.mk hR5
        have hb := Aside0.mk hb5
        obtain ⟨B2, d2, rfl⟩ := Kd.R_slice hR.out
        rw [show (efs ++ [((7 : Int), (77 : Int), (0 : Int))]).length = n2 + 1 by rw [List.length_append, hn2l.out]; rfl] at hR ⊢
        clear hR5 hb5 hg5
        refine hK.out _ _ (hS0.out _ hb.out) (fun hHeld => ?_)
        clear hK
        refine norm_ (a' := ?_) ?_ ?_
        rotate_left
        · show Act.put _ (some 18) _ = _
          simp only [Act.put, List.setIfInBounds_toArray, List.set_cons_zero, List.set_cons_succ, i64_w, i32_w]
          rfl
        exact norm_ (by first | (simp only [putAll, Act.put, List.setIfInBounds_toArray, List.set_cons_zero, List.set_cons_succ]; done) | (simp only [putAll, Act.put, List.setIfInBounds_toArray, List.set_cons_zero, List.set_cons_succ]; rfl)) (hCont (B2, d2, .slice (some ⟨p0, 0, none⟩) 0 0, .slice A1 n2 d1, .slice (some ⟨p5, 0, none⟩) 1 1) _ ⟨hb.out, hR.out⟩)
      · refine value_ (v := .slice (some ⟨u1.heap.size, 0, none⟩) 1 1) (w1 := u1.alloc (.cells #[.int .u16 7, .int .i64 77, .int .i64 0] 80)) (by rfl) rfl (by go_simp) ?_
        have hL := Aside0.mk (kE_lit u1)
        have hb_ := below_alloc (Below.refl u1.heap.size u1) (.cells #[.int .u16 7, .int .i64 77, .int .i64 0] 80)
        have hlp : Aside0 (∀ k, some k = (Value.slice (some ⟨p0, 0, none⟩) 0 0).ownBlock → k ≠ u1.heap.size) := ⟨fun k hk e => by have := Kd.R_lt hR.out k hk.symm; omega⟩
        have hR := Aside0.mk (Kd.R_below hR.out hb_)
        have hb := Aside0.mk (hb.out.trans (hb_.mono hb.out.size))
        clear hb_
        obtain ⟨p5, hp5⟩ : ∃ p5, p5 = u1.heap.size := ⟨_, rfl⟩
        rw [← hp5] at hL hlp ⊢
        clear hp5
        generalize u1.alloc (.cells #[.int .u16 7, .int .i64 77, .int .i64 0] 80) = u5 at hb hL hR ⊢
        refine hK.out _ _ (hS0.out _ hb.out) (fun hHeld => ?_)
        clear hK
        refine norm_ (a' := ?_) ?_ ?_
        rotate_left
        · show Act.put _ (some 17) _ = _
          simp only [Act.put, List.setIfInBounds_toArray, List.set_cons_zero, List.set_cons_succ, i64_w, i32_w]
          rfl
        refine one_ (i := 3) (N := some 15) #[true, true, true, true, true, true, false, true, true, true, false, false, false] rfl rfl (by kernel_rfl) (by decide) (fun K hK => ?_)
        refine Kd.R_append_rows_step kE (w0 := W2) W2.heap.size (by rfl) (.tmp 12) (.tmp 14) 25 80 (.agg #[.int .u16 0, .int .i64 0, .int .i64 0]) 24 rfl Tryd.underlying25 infoEf rfl (by decide) (by decide) (.slice (some ⟨p0, 0, none⟩) 0 0) [] efs A2 n2 c2 (fun _ => True) (fun _ => False) rfl rfl hR.out (hC2.out _ (hO1.out.bel.trans (hb.out.mono hO1.out.bel.size))) (fun x cs hK => kE_KM hK) (fun k hk => hk.elim) (fun _ _ => trivial) hb.out hb.out.size (by have := hs2.out; show (0 + n2) * 24 ≤ _; omega) ?_
        intro v1 u6 hR5 hb5 hg5 _
        have hL := Aside0.mk (lit_grown hL.out hg5 hlp.out)
        rw [List.nil_append] at hR5
        have hR := Aside0.mk hR5
        have hb := Aside0.mk hb5
        obtain ⟨A1, d1, rfl⟩ := Kd.R_slice hR.out
        rw [hn2l.out] at hR ⊢
        clear hR5 hb5 hg5
        refine hK.out _ _ (hS0.out _ hb.out) (fun hHeld => ?_)
        clear hK
        refine norm_ (a' := ?_) ?_ ?_
        rotate_left
        · show Act.put _ (some 15) _ = _
          simp only [Act.put, List.setIfInBounds_toArray, List.set_cons_zero, List.set_cons_succ, i64_w, i32_w]
          rfl
        refine one_ (i := 6) (N := some 18) #[true, true, true, true, true, true, true, true, true, true, false, false, false] rfl rfl (by kernel_rfl) (by decide) (fun K hK => ?_)
        refine Kd.R_append_rows_step kE (w0 := W2) W2.heap.size (by rfl) (.tmp 15) (.tmp 17) 25 80 (.agg #[.int .u16 0, .int .i64 0, .int .i64 0]) 24 rfl Tryd.underlying25 infoEf rfl (by decide) (by decide) (.slice A1 n2 d1) efs [(7, 77, 0)] (some ⟨p5, 0, none⟩) 1 1 (fun _ => True) (fun _ => False) rfl rfl hR.out hL.out (fun x cs hK => kE_KM hK) (fun k hk => hk.elim) (fun _ _ => trivial) hb.out hb.out.size (by have := hs2.out; have := hn2l.out; omega) ?_
        intro v1 u7 hR5 hb5 hg5 _
        have hR := Aside0.mk hR5
        have hb := Aside0.mk hb5
        obtain ⟨B2, d2, rfl⟩ := Kd.R_slice hR.out
        rw [show (efs ++ [((7 : Int), (77 : Int), (0 : Int))]).length = n2 + 1 by rw [List.length_append, hn2l.out]; rfl] at hR ⊢
        clear hR5 hb5 hg5
        refine hK.out _ _ (hS0.out _ hb.out) (fun hHeld => ?_)
        clear hK
        refine norm_ (a' := ?_) ?_ ?_
        rotate_left
        · show Act.put _ (some 18) _ = _
          simp only [Act.put, List.setIfInBounds_toArray, List.set_cons_zero, List.set_cons_succ, i64_w, i32_w]
          rfl
        exact norm_ (by first | (simp only [putAll, Act.put, List.setIfInBounds_toArray, List.set_cons_zero, List.set_cons_succ]; done) | (simp only [putAll, Act.put, List.setIfInBounds_toArray, List.set_cons_zero, List.set_cons_succ]; rfl)) (hCont (B2, d2, .slice (some ⟨p0, 0, none⟩) 0 0, .slice A1 n2 d1, .slice (some ⟨p5, 0, none⟩) 1 1) _ ⟨hb.out, hR.out⟩)
    · refine value_ (v := .slice (some ⟨u0.heap.size, 0, none⟩) 1 1) (w1 := u0.alloc (.cells #[.int .u16 7, .int .i64 77, .int .i64 0] 80)) (by rfl) rfl (by go_simp) ?_
      have hL := Aside0.mk (kE_lit u0)
      have hb_ := below_alloc (Below.refl u0.heap.size u0) (.cells #[.int .u16 7, .int .i64 77, .int .i64 0] 80)
      have hnw := Aside0.mk (Nat.lt_of_lt_of_le (Nat.lt_succ_self u0.heap.size) (by rw [World.size_alloc]; exact Nat.le_refl _ : u0.heap.size + 1 ≤ (u0.alloc (.cells #[.int .u16 7, .int .i64 77, .int .i64 0] 80)).heap.size))
      have hb := Aside0.mk (hb.out.trans (hb_.mono hb.out.size))
      clear hb_
      obtain ⟨p5, hp5⟩ : ∃ p5, p5 = u0.heap.size := ⟨_, rfl⟩
      rw [← hp5] at hL hnw ⊢
      clear hp5
      generalize u0.alloc (.cells #[.int .u16 7, .int .i64 77, .int .i64 0] 80) = u8 at hb hL hnw ⊢
      refine hK.out _ _ (hS0.out _ hb.out) (fun hHeld => ?_)
      clear hK
      refine norm_ (a' := ?_) ?_ ?_
      rotate_left
      · show Act.put _ (some 17) _ = _
        simp only [Act.put, List.setIfInBounds_toArray, List.set_cons_zero, List.set_cons_succ, i64_w, i32_w]
        rfl
      refine one_ (i := 0) (N := some 12) #[true, true, true, false, true, true, false, true, true, true, false, false, false] rfl rfl (by kernel_rfl) (by decide) (fun K hK => ?_)
      refine value_ (v := .slice (some ⟨u8.heap.size, 0, none⟩) 0 0) (w1 := u8.alloc (.cells #[] 80)) (by rfl) rfl (by go_simp) ?_
      have hR := Aside0.mk (Kd.R_lower (kE_made u8) hb.out.size)
      have hb_ := below_alloc (Below.refl u8.heap.size u8) (.cells #[] 80)
      have hL := Aside0.mk (Kd.C_below hL.out hb_)
      have hb := Aside0.mk (hb.out.trans (hb_.mono hb.out.size))
      clear hb_
      have hlp : Aside0 (∀ k, some k = (Value.slice (some ⟨u8.heap.size, 0, none⟩) 0 0).ownBlock → k ≠ p5) := ⟨fun k hk e => by have := hnw.out; simp [Value.ownBlock] at hk; omega⟩
      obtain ⟨p0, hp0⟩ : ∃ p0, p0 = u8.heap.size := ⟨_, rfl⟩
      rw [← hp0] at hR hlp ⊢
      clear hp0
      generalize u8.alloc (.cells #[] 80) = u9 at hb hR hL ⊢
      refine hK.out _ _ (hS0.out _ hb.out) (fun hHeld => ?_)
      clear hK
      refine norm_ (a' := ?_) ?_ ?_
      rotate_left
      · show Act.put _ (some 12) _ = _
        simp only [Act.put, List.setIfInBounds_toArray, List.set_cons_zero, List.set_cons_succ, i64_w, i32_w]
        rfl
      refine one_ (i := 3) (N := some 15) #[true, true, true, true, true, true, false, true, true, true, false, false, false] rfl rfl (by kernel_rfl) (by decide) (fun K hK => ?_)
      refine Kd.R_append_rows_step kE (w0 := W2) W2.heap.size (by rfl) (.tmp 12) (.tmp 14) 25 80 (.agg #[.int .u16 0, .int .i64 0, .int .i64 0]) 24 rfl Tryd.underlying25 infoEf rfl (by decide) (by decide) (.slice (some ⟨p0, 0, none⟩) 0 0) [] efs A2 n2 c2 (fun _ => True) (fun _ => False) rfl rfl hR.out (hC2.out _ (hO1.out.bel.trans (hb.out.mono hO1.out.bel.size))) (fun x cs hK => kE_KM hK) (fun k hk => hk.elim) (fun _ _ => trivial) hb.out hb.out.size (by have := hs2.out; show (0 + n2) * 24 ≤ _; omega) ?_
      intro v1 u10 hR5 hb5 hg5 _
      have hL := Aside0.mk (lit_grown hL.out hg5 hlp.out)
      rw [List.nil_append] at hR5
      have hR := Aside0.mk hR5
      have hb := Aside0.mk hb5
      obtain ⟨A1, d1, rfl⟩ := Kd.R_slice hR.out
      rw [hn2l.out] at hR ⊢
      clear hR5 hb5 hg5
      refine hK.out _ _ (hS0.out _ hb.out) (fun hHeld => ?_)
      clear hK
      refine norm_ (a' := ?_) ?_ ?_
      rotate_left
      · show Act.put _ (some 15) _ = _
        simp only [Act.put, List.setIfInBounds_toArray, List.set_cons_zero, List.set_cons_succ, i64_w, i32_w]
        rfl
      refine one_ (i := 6) (N := some 18) #[true, true, true, true, true, true, true, true, true, true, false, false, false] rfl rfl (by kernel_rfl) (by decide) (fun K hK => ?_)
      refine Kd.R_append_rows_step kE (w0 := W2) W2.heap.size (by rfl) (.tmp 15) (.tmp 17) 25 80 (.agg #[.int .u16 0, .int .i64 0, .int .i64 0]) 24 rfl Tryd.underlying25 infoEf rfl (by decide) (by decide) (.slice A1 n2 d1) efs [(7, 77, 0)] (some ⟨p5, 0, none⟩) 1 1 (fun _ => True) (fun _ => False) rfl rfl hR.out hL.out (fun x cs hK => kE_KM hK) (fun k hk => hk.elim) (fun _ _ => trivial) hb.out hb.out.size (by have := hs2.out; have := hn2l.out; omega) ?_
      intro v1 u11 hR5 hb5 hg5 _
      have hR := Aside0.mk hR5
      have hb := Aside0.mk hb5
      obtain ⟨B2, d2, rfl⟩ := Kd.R_slice hR.out
      rw [show (efs ++ [((7 : Int), (77 : Int), (0 : Int))]).length = n2 + 1 by rw [List.length_append, hn2l.out]; rfl] at hR ⊢
      clear hR5 hb5 hg5
      refine hK.out _ _ (hS0.out _ hb.out) (fun hHeld => ?_)
      clear hK
      refine norm_ (a' := ?_) ?_ ?_
      rotate_left
      · show Act.put _ (some 18) _ = _
        simp only [Act.put, List.setIfInBounds_toArray, List.set_cons_zero, List.set_cons_succ, i64_w, i32_w]
        rfl
      exact norm_ (by first | (simp only [putAll, Act.put, List.setIfInBounds_toArray, List.set_cons_zero, List.set_cons_succ]; done) | (simp only [putAll, Act.put, List.setIfInBounds_toArray, List.set_cons_zero, List.set_cons_succ]; rfl)) (hCont (B2, d2, .slice (some ⟨p0, 0, none⟩) 0 0, .slice A1 n2 d1, .slice (some ⟨p5, 0, none⟩) 1 1) _ ⟨hb.out, hR.out⟩)
  rintro ⟨B2, d2, y12, y15, y17⟩ X ⟨hbX_, hRX_⟩
  dsimp only at hRX_
  have hO2 := Aside0.mk ((hO1.out.below hbX_).with2 (Kd.R_lower hRX_ hO1.out.bel.size))
  have hd2 := (Kd.R_reads' hRX_).2.1
  have qs := cut_cap (P := Tryd.prog) 25 80 .i64 Tryd.underlying25 hi25 B2 (n2 + 1) d2 n2 (by omega) (by omega)
  rw [Int.toNat_natCast] at qs
  have g2 := hO2.out.cells3.2.2.1
  have f2 := hO2.out.fz3 2
  clear hbX_ hRX_
  refine norm_ (a' := ?_) ?_ ?_
  rotate_left
  · simp only [putAll, Act.put, List.setIfInBounds_toArray, List.set_cons_zero, List.set_cons_succ]
    rfl
  refine pure_ (i := 10) (N := some 22) (v := ?_) (a' := ?_) #[true, true, true, true, true, true, true, true, true, true, true, false, false] rfl rfl (by kernel_rfl) (fun _ _ _ h => h) (Or.inl ⟨by rfl, ?_⟩) ?_ ?_
  rotate_left
  · intro w'
    go_simp
    with_reducible rfl
  rotate_left
  · simp only [Act.put, List.setIfInBounds_toArray, List.set_cons_zero, List.set_cons_succ, i64_w, i32_w]
    rfl
  refine pure_ (i := 11) (N := some 23) (v := ?_) (a' := ?_) #[true, true, true, true, true, true, true, true, true, true, true, true, false] rfl rfl (by kernel_rfl) (fun _ _ _ h => h) (Or.inl ⟨by rfl, ?_⟩) ?_ ?_
  rotate_left
  · intro w'
    go_simp
    with_reducible rfl
  rotate_left
  · simp only [Act.put, List.setIfInBounds_toArray, List.set_cons_zero, List.set_cons_succ, i64_w, i32_w]
    rfl
  refine last_ (i := 12) (N := none) #[true, true, true, true, true, true, true, true, true, true, true, true, true] rfl rfl (by kernel_rfl) (by decide) (fun K hK => ?_)
  refine skip_ (w1 := X.setCell ⟨k3, 2, none⟩ (.slice B2 n2 d2)) (by rfl) rfl (by go_simp) ?_
  refine hK.out _ _ ?_
  clear hK
  refine done_ (by kernel_rfl) ?_
  have hO3 := Aside0.mk (hO2.out.put2 (.slice B2 n2 d2))
  obtain ⟨W3, hW3⟩ : ∃ W3, W3 = X.setCell ⟨k3, 2, none⟩ (.slice B2 n2 d2) := ⟨_, rfl⟩
  rw [← hW3] at hO3 ⊢
  clear hW3 hO1 hO2 hS0 hd2 g2 f2 qs hC2
  have p3 := hO3.out.cells.2.2.2
  go_wp2
  clear p3
  go_loopg [27] n3 (fun gk v27 wr => ∃ (i : Nat) (O : Option Addr) (d : Nat), v27 = .int .i64 (i : Int) ∧ i + gk = n3 ∧ Aside0 (OwS w wr (.slice A0 n0 c0) (.slice A2 n2 c2) (.slice A3 n3 c3) ent k3 g cap n0 code (.slice B2 n2 d2) (.slice O i d) (.slice B2 (n2 + 1) d2) (.slice O i d) (efs ++ [(7, 77, 0)]) (LB i)))
  case atStart => exact ⟨0, none, 0, rfl, by omega, ⟨by rw [hLe.out.2]; exact hO3.out⟩⟩
  case round =>
    clear hO3
    obtain ⟨i, O, d, rfl, hi, hO4⟩ := hrel
    cases gk with
    | succ k1 =>
      have hd : decide ((i : Int) < (n3 : Int)) = true := decide_eq_true (by omega)
      have hd' : decide (i < n3) = true := decide_eq_true (by omega)
      have hin : i < n3 := by omega
      obtain ⟨ad, Ai, ci, hA3, x0, x1, kR0⟩ := kBr.out wr i hO4.out.bel hin
      subst hA3
      have kR := Aside0.mk kR0
      have hLi := Aside0.mk (hLs.out i hin)
      have hlen := Aside0.mk (hLl.out i (by omega))
      clear kR0
      generalize nu i = num at x0 hLi
      generalize da i = dt at x1 hLi kR
      obtain ⟨ni, hni⟩ : ∃ n, n = dt.length := ⟨_, rfl⟩
      have hnii := Aside0.mk hni
      rw [← hni] at x1 kR
      clear hni
      have hb4_ := below_alloc (Below.refl wr.heap.size wr) (.cells #[.int .i64 num, .slice Ai ni ci] 82)
      have hb4 := Aside0.mk hb4_
      have hO5 := Aside0.mk (hO4.out.below hb4_)
      have hne5 : Aside0 (∀ k, (Value.slice O i d).ownBlock = some k → k < wr.heap.size) := ⟨fun k hk => Kd.R_lt hO4.out.R3 k hk⟩
      have hx5 := Aside0.mk (World.alloc_heap_new wr (.cells #[.int .i64 num, .slice Ai ni ci] 82))
      clear hb4_
      go_upto_region 6 with (fail)
      obtain ⟨k5, hk5⟩ : ∃ k5, k5 = wr.heap.size := ⟨_, rfl⟩
      obtain ⟨W5, hW5⟩ : ∃ W5, W5 = wr.alloc (.cells #[.int .i64 num, .slice Ai ni ci] 82) := ⟨_, rfl⟩
      rw [← hW5] at hb4 hO5 hx5 ⊢
      rw [← hk5] at hx5 hne5 ⊢
      clear hk5 hW5 x0 x1
      have hS0 : Aside0 (∀ u : World, Below W5.heap.size W5 u → u.cell? ⟨k3, 3, none⟩ = some (.slice O i d) ∧ u.cell? ⟨k5, 0, none⟩ = some (.int .i64 num) ∧ u.cell? ⟨k5, 1, none⟩ = some (.slice Ai ni ci)) := ⟨fun u hb => by have h := (hb.block _ (heap_lt hx5.out)).trans hx5.out; exact ⟨(hO5.out.below hb).cells3.2.2.2, (cellH h).trans rfl, (cellH h).trans rfl⟩⟩
      have hb5 := Aside0.mk (below_drew (Below.refl W5.heap.size W5))
      refine start_ (n := 12) (S := (fun w' => w'.cell? ⟨k3, 3, none⟩ = some (.slice O i d) ∧ w'.cell? ⟨k5, 0, none⟩ = some (.int .i64 num) ∧ w'.cell? ⟨k5, 1, none⟩ = some (.slice Ai ni ci))) (ds := [11]) #[false, false, false, false, false, false, false, false, false, false, false, false] (by kernel_rfl) rfl rfl (hS0.out _ (below_drew (Below.refl _ _))) (fun hHeld => ?_)
      refine pure_ (i := 0) (N := some 31) (v := ?_) (a' := ?_) #[true, false, false, false, false, false, false, false, false, false, false, false] rfl rfl (by kernel_rfl) (fun _ _ _ h => h) (Or.inl ⟨by rfl, ?_⟩) ?_ ?_
      rotate_left
      · intro w'
        go_simp
        with_reducible rfl
      rotate_left
      · simp only [Act.put, List.setIfInBounds_toArray, List.set_cons_zero, List.set_cons_succ, i64_w, i32_w]
        rfl
      refine take_ (i := 1) (N := some 32) (v := ?_) (a' := ?_) #[true, true, false, false, false, false, false, false, false, false, false, false] rfl rfl (by kernel_rfl) (fun _ _ _ h => h) (Or.inl ⟨by rfl, ?_⟩) hHeld ?_ ?_
      rotate_left
      · rintro w' ⟨qa, qb, qc⟩
        go_simp
        with_reducible rfl
      rotate_left
      · simp only [Act.put, List.setIfInBounds_toArray, List.set_cons_zero, List.set_cons_succ, i64_w, i32_w]
        rfl
      refine pure_ (i := 2) (N := some 33) (v := ?_) (a' := ?_) #[true, true, true, false, false, false, false, false, false, false, false, false] rfl rfl (by kernel_rfl) (fun _ _ _ h => h) (Or.inl ⟨by rfl, ?_⟩) ?_ ?_
      rotate_left
      · intro w'
        go_simp
        with_reducible rfl
      rotate_left
      · simp only [Act.put, List.setIfInBounds_toArray, List.set_cons_zero, List.set_cons_succ, i64_w, i32_w]
        rfl
      refine take_ (i := 3) (N := some 34) (v := ?_) (a' := ?_) #[true, true, true, true, false, false, false, false, false, false, false, false] rfl rfl (by kernel_rfl) (fun _ _ _ h => h) (Or.inl ⟨by rfl, ?_⟩) hHeld ?_ ?_
      rotate_left
      · rintro w' ⟨qa, qb, qc⟩
        go_simp
        with_reducible rfl
      rotate_left
      · simp only [Act.put, List.setIfInBounds_toArray, List.set_cons_zero, List.set_cons_succ, i64_w, i32_w]
        rfl
      refine pure_ (i := 4) (N := some 35) (v := ?_) (a' := ?_) #[true, true, true, true, true, false, false, false, false, false, false, false] rfl rfl (by kernel_rfl) (fun _ _ _ h => h) (Or.inl ⟨by rfl, ?_⟩) ?_ ?_
      rotate_left
      · intro w'
        go_simp
        with_reducible rfl
      rotate_left
      · simp only [Act.put, List.setIfInBounds_toArray, List.set_cons_zero, List.set_cons_succ, i64_w, i32_w]
        rfl
      refine take_ (i := 5) (N := some 36) (v := ?_) (a' := ?_) #[true, true, true, true, true, true, false, false, false, false, false, false] rfl rfl (by kernel_rfl) (fun _ _ _ h => h) (Or.inl ⟨by rfl, ?_⟩) hHeld ?_ ?_
      rotate_left
      · rintro w' ⟨qa, qb, qc⟩
        go_simp
        with_reducible rfl
      rotate_left
      · simp only [Act.put, List.setIfInBounds_toArray, List.set_cons_zero, List.set_cons_succ, i64_w, i32_w]
        rfl
      refine one_ (i := 6) (N := some 37) #[true, true, true, true, true, true, true, false, false, false, false, false] rfl rfl (by kernel_rfl) (by decide) (fun K hK => ?_)
      refine goes_ Tryd.func8 (by kernel_rfl) rfl #[.slice Ai ni ci] (by rfl) rfl rfl (by first | rfl | kernel_rfl | simp [Act.eval]) ?_
      refine (kR.out _ (hb4.out.trans (hb5.out.mono hb4.out.size))).mono ?_
      rintro e x6 ⟨g6, cp6, rfl, hM_, hb_⟩
      have hM6 := Aside0.mk (hM_.lower hO5.out.bel.size)
      have hb6 := Aside0.mk (hb5.out.trans (hb_.mono hb5.out.size))
      have hO6 := Aside0.mk (hO5.out.below hb6.out)
      clear hM_ hb_
      refine ⟨_, rfl, hK.out _ _ (hS0.out _ hb6.out) (fun hHeld2 => ?_)⟩
      clear hK
      refine norm_ (a' := ?_) ?_ ?_
      rotate_left
      · show Act.put _ (some 37) _ = _
        simp only [Act.put, List.setIfInBounds_toArray, List.set_cons_zero, List.set_cons_succ, i64_w, i32_w]
        rfl
      refine pure_ (i := 7) (N := some 38) (v := ?_) (a' := ?_) #[true, true, true, true, true, true, true, true, false, false, false, false] rfl rfl (by kernel_rfl) (fun _ _ _ h => h) (Or.inl ⟨by rfl, ?_⟩) ?_ ?_
      rotate_left
      · intro w'
        go_simp
        with_reducible rfl
      rotate_left
      · simp only [Act.put, List.setIfInBounds_toArray, List.set_cons_zero, List.set_cons_succ, i64_w, i32_w]
        rfl
      refine one_ (i := 8) (N := some 39) #[true, true, true, true, true, true, true, true, true, false, false, false] rfl rfl (by kernel_rfl) (by decide) (fun K hK => ?_)
      refine value_ (v := .slice (some ⟨x6.heap.size, 0, none⟩) 1 1) (w1 := x6.alloc (.cells #[.int .i64 num, .slice (some ⟨g6, 0, none⟩) ni cp6] 82)) (by rfl) rfl (by go_simp) ?_
      refine hK.out _ _ (hS0.out _ (hb6.out.trans ((below_alloc (Below.refl x6.heap.size x6) (.cells #[.int .i64 num, .slice (some ⟨g6, 0, none⟩) ni cp6] 82)).mono hb6.out.size))) (fun hHeld3 => ?_)
      clear hK
      refine norm_ (a' := ?_) ?_ ?_
      rotate_left
      · show Act.put _ (some 39) _ = _
        simp only [Act.put, List.setIfInBounds_toArray, List.set_cons_zero, List.set_cons_succ, i64_w, i32_w]
        rfl
      refine one_ (i := 9) (N := some 40) #[true, true, true, true, true, true, true, true, true, true, false, false] rfl rfl (by kernel_rfl) (by decide) (fun K hK => ?_)
      refine Kd.R_append_step kM (w0 := w) w.heap.size (by rfl) (.tmp 32) (.tmp 39) 26 82 (.agg #[.int .i64 0, .slice none 0 0]) 32 rfl Tryd.underlying26 infoBa rfl (by decide) (by decide) (.slice O i d) (LB i) (num, dt, true) [.int .i64 num, .slice (some ⟨g6, 0, none⟩) ni cp6] (fun _ => True) (fun k => k = g6) rfl rfl ⟨[_], [_], rfl, rfl, .inl ⟨rfl, g6, cp6, by rw [hnii.out], hM6.out, rfl⟩⟩ (fun k hk => ⟨trivial, by obtain ⟨cs, hcs⟩ := Kd.R_typed hM6.out g6 rfl; rw [hk]; exact Kd.R_ne hO6.out.R3 hcs (by decide)⟩) (fun _ _ => trivial) hO6.out.R3 hO6.out.bel hO6.out.bel.size (by rw [hlen.out]; have := hs3.out; omega) ?_
      intro v1 z1 hR_ hb_ hg_ _
      obtain ⟨O2, e2, hv1⟩ := Kd.R_slice hR_
      rw [List.length_append, hlen.out, List.length_singleton] at hv1
      subst hv1
      have hO6 := Aside0.mk (hO6.out.grow3 hR_ hb_ hg_)
      have g3 := hO6.out.cells3.2.2.2
      have f3 := hO6.out.fz3 3
      have hx7 := heap_grown hg_ ((hb6.out.block _ (heap_lt hx5.out)).trans hx5.out) (fun e => by have := hne5.out k5 e.symm; omega)
      have p5 : z1.cell? ⟨k5, 0, none⟩ = some (.int .i64 num) ∧ z1.cell? ⟨k5, 1, none⟩ = some (.slice Ai ni ci) := ⟨(cellH hx7).trans rfl, (cellH hx7).trans rfl⟩
      clear hR_ hb_ hg_
      refine hK.out _ _ ⟨g3, p5⟩ (fun hHeld4 => ?_)
      clear hK
      refine norm_ (a' := ?_) ?_ ?_
      rotate_left
      · show Act.put _ (some 40) _ = _
        simp only [Act.put, List.setIfInBounds_toArray, List.set_cons_zero, List.set_cons_succ, i64_w, i32_w]
        rfl
      refine pure_ (i := 10) (N := some 41) (v := ?_) (a' := ?_) #[true, true, true, true, true, true, true, true, true, true, true, false] rfl rfl (by kernel_rfl) (fun _ _ _ h => h) (Or.inl ⟨by rfl, ?_⟩) ?_ ?_
      rotate_left
      · intro w'
        go_simp
        with_reducible rfl
      rotate_left
      · simp only [Act.put, List.setIfInBounds_toArray, List.set_cons_zero, List.set_cons_succ, i64_w, i32_w]
        rfl
      refine last_ (i := 11) (N := none) #[true, true, true, true, true, true, true, true, true, true, true, true] rfl rfl (by kernel_rfl) (by decide) (fun K hK => ?_)
      refine skip_ (w1 := z1.setCell ⟨k3, 3, none⟩ (.slice O2 (i + 1) e2)) (by rfl) rfl (by go_simp) ?_
      refine hK.out _ _ ?_
      clear hK
      refine done_ (by kernel_rfl) ?_
      have hO7 := Aside0.mk (hO6.out.put3 (.slice O2 (i + 1) e2))
      obtain ⟨W8, hW8⟩ : ∃ W8, W8 = z1.setCell ⟨k3, 3, none⟩ (.slice O2 (i + 1) e2) := ⟨_, rfl⟩
      rw [← hW8] at hO7 ⊢
      clear hW8 hO6 hO5 hb5 hb6 hO4 hb4 hx5 hS0 kR
      have hwi : wrap64 ((i : Int) + 1) = ((i + 1 : Nat) : Int) := by have := hs3.out; unfold wrap64; omega
      go_wp2
      go_roundg k1
      case measure => omega
      case rel => exact ⟨i + 1, O2, e2, by rw [hwi], by omega, ⟨by rw [hLi.out]; exact hO7.out⟩⟩
    | zero =>
      have hd : decide ((i : Int) < (n3 : Int)) = false := decide_eq_false (by omega)
      have hd' : decide (i < n3) = false := decide_eq_false (by omega)
      obtain rfl : i = n3 := by omega
      have hlen := Aside0.mk (hLl.out i (Nat.le_refl _))
      go_upto_region 8 with (fail)
      obtain ⟨W5, hW5⟩ : ∃ W5, W5 = wr := ⟨_, rfl⟩
      rw [← hW5] at hO4 ⊢
      clear hW5
      have hS0 : Aside0 (∀ u : World, Below W5.heap.size W5 u → u.cell? ⟨k3, 3, none⟩ = some (.slice O i d) ∧ u.cell? ⟨w.heap.size, 3, none⟩ = some (.slice A3 i c3)) := ⟨fun u hb => ⟨(hO4.out.below hb).cells3.2.2.2, (hO4.out.below hb).cells.2.2.2⟩⟩
      have hb5 := Aside0.mk (below_drew (Below.refl W5.heap.size W5))
      refine start_ (n := 11) (S := (fun w' => w'.cell? ⟨k3, 3, none⟩ = some (.slice O i d) ∧ w'.cell? ⟨w.heap.size, 3, none⟩ = some (.slice A3 i c3))) (ds := [10]) #[false, false, false, false, false, false, false, false, false, false, false] (by kernel_rfl) rfl rfl (hS0.out _ (below_drew (Below.refl _ _))) (fun hHeld => ?_)
      refine pure_ (i := 0) (N := some 43) (v := ?_) (a' := ?_) #[true, false, false, false, false, false, false, false, false, false, false] rfl rfl (by kernel_rfl) (fun _ _ _ h => h) (Or.inl ⟨by rfl, ?_⟩) ?_ ?_
      rotate_left
      · intro w'
        go_simp
        with_reducible rfl
      rotate_left
      · simp only [Act.put, List.setIfInBounds_toArray, List.set_cons_zero, List.set_cons_succ, i64_w, i32_w]
        rfl
      refine take_ (i := 1) (N := some 44) (v := ?_) (a' := ?_) #[true, true, false, false, false, false, false, false, false, false, false] rfl rfl (by kernel_rfl) (fun _ _ _ h => h) (Or.inl ⟨by rfl, ?_⟩) hHeld ?_ ?_
      rotate_left
      · rintro w' ⟨qa, qb⟩
        go_simp
        with_reducible rfl
      rotate_left
      · simp only [Act.put, List.setIfInBounds_toArray, List.set_cons_zero, List.set_cons_succ, i64_w, i32_w]
        rfl
      refine pure_ (i := 2) (N := some 45) (v := ?_) (a' := ?_) #[true, true, true, false, false, false, false, false, false, false, false] rfl rfl (by kernel_rfl) (fun _ _ _ h => h) (Or.inl ⟨by rfl, ?_⟩) ?_ ?_
      rotate_left
      · intro w'
        go_simp
        with_reducible rfl
      rotate_left
      · simp only [Act.put, List.setIfInBounds_toArray, List.set_cons_zero, List.set_cons_succ, i64_w, i32_w]
        rfl
      refine pure_ (i := 5) (N := some 48) (v := ?_) (a' := ?_) #[true, true, true, false, false, true, false, false, false, false, false] rfl rfl (by kernel_rfl) (fun _ _ _ h => h) (Or.inl ⟨by rfl, ?_⟩) ?_ ?_
      rotate_left
      · intro w'
        go_simp
        with_reducible rfl
      rotate_left
      · simp only [Act.put, List.setIfInBounds_toArray, List.set_cons_zero, List.set_cons_succ, i64_w, i32_w]
        rfl
      refine take_ (i := 6) (N := some 49) (v := ?_) (a' := ?_) #[true, true, true, false, false, true, true, false, false, false, false] rfl rfl (by kernel_rfl) (fun _ _ _ h => h) (Or.inl ⟨by rfl, ?_⟩) hHeld ?_ ?_
      rotate_left
      · rintro w' ⟨qa, qb⟩
        go_simp
        with_reducible rfl
      rotate_left
      · simp only [Act.put, List.setIfInBounds_toArray, List.set_cons_zero, List.set_cons_succ, i64_w, i32_w]
        rfl
      refine pure_ (i := 7) (N := some 50) (v := ?_) (a' := ?_) #[true, true, true, false, false, true, true, true, false, false, false] rfl rfl (by kernel_rfl) (fun _ _ _ h => h) (Or.inl ⟨by rfl, ?_⟩) ?_ ?_
      rotate_left
      · intro w'
        go_simp
        with_reducible rfl
      rotate_left
      · simp only [Act.put, List.setIfInBounds_toArray, List.set_cons_zero, List.set_cons_succ, i64_w, i32_w]
        rfl
      refine one_ (i := 3) (N := some 46) #[true, true, true, true, false, true, true, true, false, false, false] rfl rfl (by kernel_rfl) (by decide) (fun K hK => ?_)
      refine value_ (v := .slice (some ⟨W5.drew.heap.size, 0, none⟩) 1 1) (w1 := W5.drew.alloc (.cells #[.int .i64 77, .slice none 0 0] 82)) (by rfl) rfl (by go_simp) ?_
      refine hK.out _ _ (hS0.out _ (hb5.out.trans ((below_alloc (Below.refl W5.drew.heap.size W5.drew) (.cells #[.int .i64 77, .slice none 0 0] 82)).mono hb5.out.size))) (fun hHeld2 => ?_)
      clear hK
      refine norm_ (a' := ?_) ?_ ?_
      rotate_left
      · show Act.put _ (some 46) _ = _
        simp only [Act.put, List.setIfInBounds_toArray, List.set_cons_zero, List.set_cons_succ, i64_w, i32_w]
        rfl
      refine one_ (i := 4) (N := some 47) #[true, true, true, true, true, true, true, true, false, false, false] rfl rfl (by kernel_rfl) (by decide) (fun K hK => ?_)
      have hO5 := Aside0.mk (hO4.out.below hb5.out)
      refine Kd.R_append_step kM (w0 := w) w.heap.size (by rfl) (.tmp 44) (.tmp 46) 26 82 (.agg #[.int .i64 0, .slice none 0 0]) 32 rfl Tryd.underlying26 infoBa rfl (by decide) (by decide) (.slice O i d) (LB i) (77, [], false) [.int .i64 77, .slice none 0 0] (fun _ => True) (fun k => False) rfl rfl ⟨[_], [_], rfl, rfl, .inr ⟨rfl, rfl⟩⟩ (fun k hk => hk.elim) (fun _ _ => trivial) hO5.out.R3 hO5.out.bel hO5.out.bel.size (by rw [hlen.out]; have := hs3.out; omega) ?_
      intro v1 z1 hR_ hb_ hg_ _
      obtain ⟨O2, e2, hv1⟩ := Kd.R_slice hR_
      rw [List.length_append, hlen.out, List.length_singleton] at hv1
      subst hv1
      have hO6 := Aside0.mk (hO5.out.grow3 hR_ hb_ hg_)
      have g3 := hO6.out.cells3.2.2.2
      have f3 := hO6.out.fz3 3
      have he2 := (Kd.R_reads' hR_).2.1
      have qs := cut_cap (P := Tryd.prog) 26 82 .i64 Tryd.underlying26 hi26 O2 (i + 1) e2 i (by omega) (by omega)
      rw [Int.toNat_natCast] at qs
      clear hR_ hb_ hg_ he2
      refine hK.out _ _ ⟨g3, hO6.out.cells.2.2.2⟩ (fun hHeld4 => ?_)
      clear hK
      refine norm_ (a' := ?_) ?_ ?_
      rotate_left
      · show Act.put _ (some 47) _ = _
        simp only [Act.put, List.setIfInBounds_toArray, List.set_cons_zero, List.set_cons_succ, i64_w, i32_w]
        rfl
      refine pure_ (i := 8) (N := some 51) (v := ?_) (a' := ?_) #[true, true, true, true, true, true, true, true, true, false, false] rfl rfl (by kernel_rfl) (fun _ _ _ h => h) (Or.inl ⟨by rfl, ?_⟩) ?_ ?_
      rotate_left
      · intro w'
        go_simp
        with_reducible rfl
      rotate_left
      · simp only [Act.put, List.setIfInBounds_toArray, List.set_cons_zero, List.set_cons_succ, i64_w, i32_w]
        rfl
      refine pure_ (i := 9) (N := some 52) (v := ?_) (a' := ?_) #[true, true, true, true, true, true, true, true, true, true, false] rfl rfl (by kernel_rfl) (fun _ _ _ h => h) (Or.inl ⟨by rfl, ?_⟩) ?_ ?_
      rotate_left
      · intro w'
        go_simp
        with_reducible rfl
      rotate_left
      · simp only [Act.put, List.setIfInBounds_toArray, List.set_cons_zero, List.set_cons_succ, i64_w, i32_w]
        rfl
      refine last_ (i := 10) (N := none) #[true, true, true, true, true, true, true, true, true, true, true] rfl rfl (by kernel_rfl) (by decide) (fun K hK => ?_)
      refine skip_ (w1 := z1.setCell ⟨k3, 3, none⟩ (.slice O2 i e2)) (by rfl) rfl (by go_simp) ?_
      refine hK.out _ _ ?_
      clear hK
      refine done_ (by kernel_rfl) ?_
      have hO7 := Aside0.mk (hO6.out.put3 (.slice O2 i e2))
      obtain ⟨W8, hW8⟩ : ∃ W8, W8 = z1.setCell ⟨k3, 3, none⟩ (.slice O2 i e2) := ⟨_, rfl⟩
      rw [← hW8] at hO7 ⊢
      clear hW8 hO6 hb5 hO4 hS0
      obtain ⟨y0, y1, y2, y3⟩ := hO7.out.cells3
      obtain ⟨z0, z1', z2, z3, fz0, fz1, fz2, fz3⟩ := box4 hO7.out.x2
      go_wp2
      refine own_ret rfl (put4 hO7.out.x2 _ _ _ _) ⟨g, cap, B2, d2, O2, e2, rfl, ?_, ?_⟩
      · exact hOD.out _ _ _ _ _ _ _ _ _ _ _ _ _ B2 O2 d2 e2 hO7.out rfl rfl rfl (by rw [hLe.out.1]) _ _ _ _
      · exact hO7.out.bel.trans ((put4F W8 (w.heap.size + 1) _ _ _ _).below hO7.out.bel.size (fun k hk e => by omega))
end Go.Proofs.YtembdahclmffjaaDoor.Pk
/- wisplaw07.Kept: the walk. (Printed by gen_ok.py.) -/
namespace Go.Proofs.YtembdahclmffjaaDoor.Pk
open Go.RowKit Go.Proofs.YtembdahclmffjaaDoorW.PrintWords Go.Proofs.YtembdahclmffjaaDoorW.PrintLast Go.Proofs.YtembdahclmffjaaDoorW.PrintMore Go.Proofs.YtembdahclmffjaaDoor.Mem
set_option linter.unusedVariables false
set_option linter.unusedSimpArgs false
theorem add_step (a : Addr) (k : Nat) : a.add (k + 1) = ⟨(a.add k).block, (a.add k).off + 1, none⟩ := by
  unfold Addr.add
  rw [if_neg (by omega)]
  split
  · rename_i h; subst h; simp
  · simp [Nat.add_assoc]
theorem OwnC.mark2 {w : World} {g cap c2 c3 : Nat} {A2 A3 : Option Addr} {c : CartP} (h : OwnC w g cap A2 c2 A3 c3 c) : ∃ ad, A2 = some ad ∧ ∀ u, Below w.heap.size w u → u.cell? ⟨(ad.add (c.efs.length * 3)).block, (ad.add (c.efs.length * 3)).off + 1, none⟩ = some (.int .i64 77) := by
  obtain ⟨ad, cs, e, hl, hK, hcc⟩ := Kd.C_get h.efs (0, 0, 0) (c.efs.length : Int) (by omega) (by omega)
  rw [Int.toNat_natCast] at hK hcc
  rw [show (c.efs ++ [((7 : Int), (77 : Int), (0 : Int))]).getD c.efs.length (0, 0, 0) = (7, 77, 0) by rw [List.getD_eq_getElem?_getD, List.getElem?_append_right (Nat.le_refl _), Nat.sub_self]; rfl] at hK
  obtain ⟨x0, x1, rfl, h0, x2, x3, rfl, h2, h3⟩ := hK
  have h0' : x0 = [.int .u16 7] := h0
  have h2' : x2 = [.int .i64 77] := h2
  subst h0' h2'
  have h9 := hcc 1 (.int .i64 77) rfl
  rw [show kE.sz = 3 from rfl, add_step] at h9
  exact ⟨ad, e, fun u hb => (hb.cell (World.block_lt_of_cell? _ _ h9)).trans h9⟩
theorem OwnC.mark3 {w : World} {g cap c2 c3 : Nat} {A2 A3 : Option Addr} {c : CartP} (h : OwnC w g cap A2 c2 A3 c3 c) : ∃ ad, A3 = some ad ∧ ∀ u, Below w.heap.size w u → u.cell? (ad.add (c.bks.length * 2)) = some (.int .i64 77) := by
  obtain ⟨ad, cs, e, hl, hK, hcc⟩ := Kd.C_get h.bks (0, [], false) (c.bks.length : Int) (by omega) (by omega)
  rw [Int.toNat_natCast] at hK hcc
  rw [show (c.bks.map gM ++ [((77 : Int), ([] : List Int), false)]).getD c.bks.length (0, [], false) = (77, [], false) by rw [List.getD_eq_getElem?_getD, List.getElem?_append_right (by rw [List.length_map]; exact Nat.le_refl _), List.length_map, Nat.sub_self]; rfl] at hK
  obtain ⟨x0, x1, rfl, h0, _⟩ := hK
  have h0' : x0 = [.int .i64 77] := h0
  subst h0'
  have h9 := hcc 0 (.int .i64 77) rfl
  rw [show kM.sz = 2 from rfl, Nat.add_zero] at h9
  exact ⟨ad, e, fun u hb => (hb.cell (World.block_lt_of_cell? _ _ h9)).trans h9⟩
theorem OwnC.bank {w : World} {g cap c2 c3 : Nat} {A2 A3 : Option Addr} {c : CartP} (h : OwnC w g cap A2 c2 A3 c3 c) {i : Nat} (hi : i < c.bks.length) : ∃ ad gi ci, A3 = some ad ∧ w.cell? ⟨(ad.add (i * 2)).block, (ad.add (i * 2)).off + 1, none⟩ = some (.slice (some ⟨gi, 0, none⟩) (c.bks.getD i (0, [])).2.length ci) ∧ (c.bks.getD i (0, [])).2.length + 3 ≤ ci ∧ Kd.C (Kd.int .u8) w (some ⟨gi, 0, none⟩) ((c.bks.getD i (0, [])).2.length + 3) ((c.bks.getD i (0, [])).2 ++ mk3) := by
  obtain ⟨ad, cs, e, hl, hK, hcc⟩ := Kd.C_get h.bks (0, [], false) (i : Int) (by omega) (by omega)
  rw [Int.toNat_natCast] at hK hcc
  rw [show (c.bks.map gM ++ [((77 : Int), ([] : List Int), false)]).getD i (0, [], false) = gM (c.bks.getD i (0, [])) by rw [List.getD_eq_getElem?_getD, List.getElem?_append_left (by rw [List.length_map]; exact hi), List.getElem?_map, List.getD_eq_getElem?_getD, List.getElem?_eq_getElem hi]; rfl] at hK
  obtain ⟨x0, x1, rfl, h0, A, ci, rfl, h1, h2, h3⟩ := hK
  have h0' : x0 = [.int .i64 (c.bks.getD i (0, [])).1] := h0
  subst h0'
  obtain ⟨gi, rfl, h4, h5⟩ := h3 rfl
  have h9 := hcc 1 _ rfl
  rw [show kM.sz = 2 from rfl, add_step] at h9
  exact ⟨ad, gi, ci, e, h9, h4, h5⟩
/-- what Kept keeps: both cartridges' boxes -/
structure KpS (w u : World) (x0 x1 x2 x3 y0 y1 y2 y3 : Value) : Prop where
  bel : Below w.heap.size w u
  x : u.heap[w.heap.size]? = some (.cells #[x0, x1, x2, x3] 28 (0, 0))
  y : u.heap[w.heap.size + 1]? = some (.cells #[y0, y1, y2, y3] 28 (0, 0))
theorem KpS.below {w u u' : World} {x0 x1 x2 x3 y0 y1 y2 y3 : Value} (h : KpS w u x0 x1 x2 x3 y0 y1 y2 y3) (hb : Below u.heap.size u u') : KpS w u' x0 x1 x2 x3 y0 y1 y2 y3 :=
  ⟨h.bel.trans (hb.mono h.bel.size), (hb.block _ (heap_lt h.x)).trans h.x, (hb.block _ (heap_lt h.y)).trans h.y⟩
theorem KpS.cells {w u : World} {x0 x1 x2 x3 y0 y1 y2 y3 : Value} (h : KpS w u x0 x1 x2 x3 y0 y1 y2 y3) : u.cell? ⟨w.heap.size, 0, none⟩ = some x0 ∧ u.cell? ⟨w.heap.size, 1, none⟩ = some x1 ∧ u.cell? ⟨w.heap.size, 2, none⟩ = some x2 ∧ u.cell? ⟨w.heap.size, 3, none⟩ = some x3 ∧ u.cell? ⟨w.heap.size + 1, 0, none⟩ = some y0 ∧ u.cell? ⟨w.heap.size + 1, 1, none⟩ = some y1 ∧ u.cell? ⟨w.heap.size + 1, 2, none⟩ = some y2 ∧ u.cell? ⟨w.heap.size + 1, 3, none⟩ = some y3 :=
  ⟨(cellH h.x).trans rfl, (cellH h.x).trans rfl, (cellH h.x).trans rfl, (cellH h.x).trans rfl, (cellH h.y).trans rfl, (cellH h.y).trans rfl, (cellH h.y).trans rfl, (cellH h.y).trans rfl⟩
theorem KpS.start (w : World) (x0 x1 x2 x3 y0 y1 y2 y3 : Value) : KpS w ((w.alloc (.cells #[x0, x1, x2, x3] 28)).alloc (.cells #[y0, y1, y2, y3] 28)) x0 x1 x2 x3 y0 y1 y2 y3 := by
  have h1 := below_alloc (Below.refl w.heap.size w) (.cells #[x0, x1, x2, x3] 28)
  have hs : (w.alloc (.cells #[x0, x1, x2, x3] 28)).heap.size = w.heap.size + 1 := by rw [World.size_alloc]
  have h2 := below_alloc (Below.refl (w.alloc (.cells #[x0, x1, x2, x3] 28)).heap.size (w.alloc (.cells #[x0, x1, x2, x3] 28))) (.cells #[y0, y1, y2, y3] 28)
  have h3 := World.alloc_heap_new (w.alloc (.cells #[x0, x1, x2, x3] 28)) (.cells #[y0, y1, y2, y3] 28)
  rw [hs] at h2 h3
  exact ⟨h1.trans (h2.mono (by omega)), (h2.block _ (by omega)).trans (World.alloc_heap_new w _), h3⟩
set_option maxRecDepth 100000 in
set_option maxHeartbeats 8000000 in
theorem KeptAll {w : World} {g cap d0 c2 d2 c3 d3 : Nat} {A2 A3 B0 B2 B3 : Option Addr} {c : CartP} (hO : OwnC w g cap A2 c2 A3 c3 c) (hI : IsC w B0 d0 B2 d2 B3 d3 c) (s0 : c.code.length ≤ 140737488351232) (s2 : c.efs.length * 24 ≤ 140737488351232) (s3 : c.bks.length * 32 ≤ 140737488351232) (sb : ∀ b ∈ c.bks, b.2.length ≤ 140737488351232) :
    Calls Tryd.prog 29 #[crt (some ⟨g, 0, none⟩) cap A2 c2 A3 c3 c, crt B0 d0 B2 d2 B3 d3 c] w fun e w' => e = .returned (.bool true) ∧ Below w.heap.size w w' := by
  obtain ⟨i25, hi25, _, _, _⟩ := info_parts infoEf
  obtain ⟨i26, hi26, _, _, _⟩ := info_parts infoBa
  have kSm : Aside0 (∀ u, Below w.heap.size w u → Calls Tryd.prog 12 #[crt (some ⟨g, 0, none⟩) cap A2 c2 A3 c3 c, crt B0 d0 B2 d2 B3 d3 c] u fun e w' => e = .returned (.bool true) ∧ Below u.heap.size u w') := ⟨fun u hb => kSame (hO.below hb).ct ⟨_, _, _, _, _, _, rfl, hI.below hb⟩ (by omega) (by omega)⟩
  have kA0 : Aside0 (∀ u, Below w.heap.size w u → Calls Tryd.prog 14 #[.slice (some ⟨g, 0, none⟩) c.code.length cap, .slice B0 c.code.length d0] u fun e w' => e = .returned (.bool true) ∧ w' = u.drew) := ⟨fun u hb => AsWasC (hO.below hb).code hO.l0 (hI.below hb).code s0⟩
  have kAi : Aside0 (∀ u (i : Nat), Below w.heap.size w u → i < c.bks.length → ∃ ad gi ci be Bi di, A3 = some ad ∧ B3 = some be ∧ u.cell? ⟨(ad.add (i * 2)).block, (ad.add (i * 2)).off + 1, none⟩ = some (.slice (some ⟨gi, 0, none⟩) (c.bks.getD i (0, [])).2.length ci) ∧ u.cell? ⟨(be.add (i * 2)).block, (be.add (i * 2)).off + 1, none⟩ = some (.slice Bi (c.bks.getD i (0, [])).2.length di) ∧ Calls Tryd.prog 14 #[.slice (some ⟨gi, 0, none⟩) (c.bks.getD i (0, [])).2.length ci, .slice Bi (c.bks.getD i (0, [])).2.length di] u.drew fun e w' => e = .returned (.bool true) ∧ w' = u.drew.drew) := ⟨fun u i hb hi => by
    obtain ⟨ad, gi, ci, e1, h1, h2, h3⟩ := (hO.below hb).bank hi
    obtain ⟨be, Bi, di, e2, _, k1, _, k2⟩ := atB (Kd.C_below hI.bks hb) i hi
    have hdr := below_drew (Below.refl u.heap.size u)
    refine ⟨ad, gi, ci, be, Bi, di, e1, e2, h1, k1, AsWasC (Kd.C_below h3 hdr) h2 (Kd.C_below k2 hdr) (sb _ ?_)⟩
    rw [List.getD_eq_getElem?_getD, List.getElem?_eq_getElem hi]
    exact List.getElem_mem hi⟩
  obtain ⟨a2, rfl, hm2_⟩ := hO.mark2
  obtain ⟨a3, rfl, hm3_⟩ := hO.mark3
  have hm2 := Aside0.mk hm2_
  have hm3 := Aside0.mk hm3_
  have hl2 := hO.l2
  have hl3 := hO.l3
  unfold crt at kSm ⊢
  clear hO hI sb hm2_ hm3_ s0
  generalize c.code.length = n0 at *
  generalize c.efs.length = n2 at *
  generalize c.entry = ent at *
  generalize hn3 : c.bks.length = n3 at *
  obtain ⟨L, hL⟩ : ∃ f : Nat → Nat, f = fun i => (c.bks.getD i (0, [])).2.length := ⟨_, rfl⟩
  replace kAi : Aside0 (∀ u (i : Nat), Below w.heap.size w u → i < n3 → ∃ ad gi ci be Bi di, some a3 = some ad ∧ B3 = some be ∧ u.cell? ⟨(ad.add (i * 2)).block, (ad.add (i * 2)).off + 1, none⟩ = some (.slice (some ⟨gi, 0, none⟩) (L i) ci) ∧ u.cell? ⟨(be.add (i * 2)).block, (be.add (i * 2)).off + 1, none⟩ = some (.slice Bi (L i) di) ∧ Calls Tryd.prog 14 #[.slice (some ⟨gi, 0, none⟩) (L i) ci, .slice Bi (L i) di] u.drew fun e w' => e = .returned (.bool true) ∧ w' = u.drew.drew) := ⟨by rw [hL]; exact kAi.out⟩
  clear hL hn3
  have z2 : n2 ≤ 5864062014640 := by omega
  have z3 : n3 ≤ 4398046511104 := by omega
  clear s2 s3
  have qs2 := cut_cap (P := Tryd.prog) 25 80 .i64 Tryd.underlying25 hi25 (some a2) n2 c2 ((n2 : Int) + 1) (by omega) (by omega)
  rw [show ((n2 : Int) + 1).toNat = n2 + 1 by omega] at qs2
  have qs3 := cut_cap (P := Tryd.prog) 26 82 .i64 Tryd.underlying26 hi26 (some a3) n3 c3 ((n3 : Int) + 1) (by omega) (by omega)
  rw [show ((n3 : Int) + 1).toNat = n3 + 1 by omega] at qs3
  have w2 : wrap64 ((n2 : Int) + 1) = (n2 : Int) + 1 := by unfold wrap64; omega
  have w3 : wrap64 ((n3 : Int) + 1) = (n3 : Int) + 1 := by unfold wrap64; omega
  have lt2 : (n2 : Int) < (n2 : Int) + 1 := by omega
  have lt3 : (n3 : Int) < (n3 : Int) + 1 := by omega
  have hK0 := Aside0.mk (KpS.start w (.slice (some ⟨g, 0, none⟩) n0 cap) (.int .u16 ent) (.slice (some a2) n2 c2) (.slice (some a3) n3 c3) (.slice B0 n0 d0) (.int .u16 ent) (.slice B2 n2 d2) (.slice B3 n3 d3))
  go_enter Tryd.func29, Tryd.ntmps29
  go_upto_region 1 with (fail)
  obtain ⟨W0, hW0⟩ : ∃ W0, W0 = (w.alloc (.cells #[.slice (some ⟨g, 0, none⟩) n0 cap, .int .u16 ent, .slice (some a2) n2 c2, .slice (some a3) n3 c3] 28)).alloc (.cells #[.slice B0 n0 d0, .int .u16 ent, .slice B2 n2 d2, .slice B3 n3 d3] 28) := ⟨_, rfl⟩
  rw [← hW0] at hK0 ⊢
  clear hW0
  replace hK0 := Aside0.mk (hK0.out.below (below_drew (Below.refl _ _)))
  have hS0 : Aside0 (∀ u : World, KpS w u (.slice (some ⟨g, 0, none⟩) n0 cap) (.int .u16 ent) (.slice (some a2) n2 c2) (.slice (some a3) n3 c3) (.slice B0 n0 d0) (.int .u16 ent) (.slice B2 n2 d2) (.slice B3 n3 d3) → (u.cell? ⟨w.heap.size, 0, none⟩ = some (.slice (some ⟨g, 0, none⟩) n0 cap) ∧ u.cell? ⟨w.heap.size, 1, none⟩ = some (.int .u16 ent) ∧ u.cell? ⟨w.heap.size, 2, none⟩ = some (.slice (some a2) n2 c2) ∧ u.cell? ⟨w.heap.size, 3, none⟩ = some (.slice (some a3) n3 c3) ∧ u.cell? ⟨w.heap.size + 1, 0, none⟩ = some (.slice B0 n0 d0) ∧ u.cell? ⟨w.heap.size + 1, 1, none⟩ = some (.int .u16 ent) ∧ u.cell? ⟨w.heap.size + 1, 2, none⟩ = some (.slice B2 n2 d2) ∧ u.cell? ⟨w.heap.size + 1, 3, none⟩ = some (.slice B3 n3 d3)) ∧ u.cell? ⟨(a2.add (n2 * 3)).block, (a2.add (n2 * 3)).off + 1, none⟩ = some (.int .i64 77) ∧ u.cell? (a3.add (n3 * 2)) = some (.int .i64 77)) := ⟨fun u h => ⟨h.cells, hm2.out _ h.bel, hm3.out _ h.bel⟩⟩
  refine start_ (n := 43) (S := (fun w' => (w'.cell? ⟨w.heap.size, 0, none⟩ = some (.slice (some ⟨g, 0, none⟩) n0 cap) ∧ w'.cell? ⟨w.heap.size, 1, none⟩ = some (.int .u16 ent) ∧ w'.cell? ⟨w.heap.size, 2, none⟩ = some (.slice (some a2) n2 c2) ∧ w'.cell? ⟨w.heap.size, 3, none⟩ = some (.slice (some a3) n3 c3) ∧ w'.cell? ⟨w.heap.size + 1, 0, none⟩ = some (.slice B0 n0 d0) ∧ w'.cell? ⟨w.heap.size + 1, 1, none⟩ = some (.int .u16 ent) ∧ w'.cell? ⟨w.heap.size + 1, 2, none⟩ = some (.slice B2 n2 d2) ∧ w'.cell? ⟨w.heap.size + 1, 3, none⟩ = some (.slice B3 n3 d3)) ∧ w'.cell? ⟨(a2.add (n2 * 3)).block, (a2.add (n2 * 3)).off + 1, none⟩ = some (.int .i64 77) ∧ w'.cell? (a3.add (n3 * 2)) = some (.int .i64 77))) (ds := []) #[false, false, false, false, false, false, false, false, false, false, false, false, false, false, false, false, false, false, false, false, false, false, false, false, false, false, false, false, false, false, false, false, false, false, false, false, false, false, false, false, false, false, false] (by kernel_rfl) rfl rfl (hS0.out _ hK0.out) (fun hHeld => ?_)
  refine take_ (i := 0) (N := some 7) (v := ?_) (a' := ?_) #[true, false, false, false, false, false, false, false, false, false, false, false, false, false, false, false, false, false, false, false, false, false, false, false, false, false, false, false, false, false, false, false, false, false, false, false, false, false, false, false, false, false, false] rfl rfl (by kernel_rfl) (fun _ _ _ h => h) (Or.inl ⟨by rfl, ?_⟩) hHeld ?_ ?_
  rotate_left
  · rintro w' ⟨⟨p0, p1, p2, p3, r0, r1, r2, r3⟩, m2, m3⟩
    go_simp
    with_reducible rfl
  rotate_left
  · simp only [Act.put, List.setIfInBounds_toArray, List.set_cons_zero, List.set_cons_succ, i64_w, i32_w]
    rfl
  refine take_ (i := 1) (N := some 8) (v := ?_) (a' := ?_) #[true, true, false, false, false, false, false, false, false, false, false, false, false, false, false, false, false, false, false, false, false, false, false, false, false, false, false, false, false, false, false, false, false, false, false, false, false, false, false, false, false, false, false] rfl rfl (by kernel_rfl) (fun _ _ _ h => h) (Or.inl ⟨by rfl, ?_⟩) hHeld ?_ ?_
  rotate_left
  · rintro w' ⟨⟨p0, p1, p2, p3, r0, r1, r2, r3⟩, m2, m3⟩
    go_simp
    with_reducible rfl
  rotate_left
  · simp only [Act.put, List.setIfInBounds_toArray, List.set_cons_zero, List.set_cons_succ, i64_w, i32_w]
    rfl
  refine one_ (i := 2) (N := some 9) #[true, true, true, false, false, false, false, false, false, false, false, false, false, false, false, false, false, false, false, false, false, false, false, false, false, false, false, false, false, false, false, false, false, false, false, false, false, false, false, false, false, false, false] rfl rfl (by kernel_rfl) (by decide) (fun K hK => ?_)
  refine goes_ Tryd.func12 (by kernel_rfl) rfl #[.agg #[.slice (some ⟨g, 0, none⟩) n0 cap, .int .u16 ent, .slice (some a2) n2 c2, .slice (some a3) n3 c3], .agg #[.slice B0 n0 d0, .int .u16 ent, .slice B2 n2 d2, .slice B3 n3 d3]] (by rfl) rfl rfl (by first | rfl | kernel_rfl | simp [Act.eval]) ?_
  refine (kSm.out _ hK0.out.bel).mono ?_
  rintro e u1 ⟨rfl, hb_⟩
  have hK1 := Aside0.mk (hK0.out.below hb_)
  clear hb_
  refine ⟨_, rfl, hK.out _ _ (hS0.out _ hK1.out) (fun hHeld2 => ?_)⟩
  clear hK
  refine norm_ (a' := ?_) ?_ ?_
  rotate_left
  · show Act.put _ (some 9) _ = _
    simp only [Act.put, List.setIfInBounds_toArray, List.set_cons_zero, List.set_cons_succ, i64_w, i32_w]
    rfl
  refine pure_ (i := 3) (N := some 10) (v := ?_) (a' := ?_) #[true, true, true, true, false, false, false, false, false, false, false, false, false, false, false, false, false, false, false, false, false, false, false, false, false, false, false, false, false, false, false, false, false, false, false, false, false, false, false, false, false, false, false] rfl rfl (by kernel_rfl) (fun _ _ _ h => h) (Or.inl ⟨by rfl, ?_⟩) ?_ ?_
  rotate_left
  · intro w'
    go_simp
    with_reducible rfl
  rotate_left
  · simp only [Act.put, List.setIfInBounds_toArray, List.set_cons_zero, List.set_cons_succ, i64_w, i32_w]
    rfl
  refine pure_ (i := 4) (N := some 11) (v := ?_) (a' := ?_) #[true, true, true, true, true, false, false, false, false, false, false, false, false, false, false, false, false, false, false, false, false, false, false, false, false, false, false, false, false, false, false, false, false, false, false, false, false, false, false, false, false, false, false] rfl rfl (by kernel_rfl) (fun _ _ _ h => h) (Or.inl ⟨by rfl, ?_⟩) ?_ ?_
  rotate_left
  · intro w'
    go_simp
    with_reducible rfl
  rotate_left
  · simp only [Act.put, List.setIfInBounds_toArray, List.set_cons_zero, List.set_cons_succ, i64_w, i32_w]
    rfl
  refine take_ (i := 5) (N := some 12) (v := ?_) (a' := ?_) #[true, true, true, true, true, true, false, false, false, false, false, false, false, false, false, false, false, false, false, false, false, false, false, false, false, false, false, false, false, false, false, false, false, false, false, false, false, false, false, false, false, false, false] rfl rfl (by kernel_rfl) (fun _ _ _ h => h) (Or.inl ⟨by rfl, ?_⟩) hHeld2 ?_ ?_
  rotate_left
  · rintro w' ⟨⟨p0, p1, p2, p3, r0, r1, r2, r3⟩, m2, m3⟩
    go_simp
    with_reducible rfl
  rotate_left
  · simp only [Act.put, List.setIfInBounds_toArray, List.set_cons_zero, List.set_cons_succ, i64_w, i32_w]
    rfl
  refine pure_ (i := 6) (N := some 13) (v := ?_) (a' := ?_) #[true, true, true, true, true, true, true, false, false, false, false, false, false, false, false, false, false, false, false, false, false, false, false, false, false, false, false, false, false, false, false, false, false, false, false, false, false, false, false, false, false, false, false] rfl rfl (by kernel_rfl) (fun _ _ _ h => h) (Or.inl ⟨by rfl, ?_⟩) ?_ ?_
  rotate_left
  · intro w'
    go_simp
    with_reducible rfl
  rotate_left
  · simp only [Act.put, List.setIfInBounds_toArray, List.set_cons_zero, List.set_cons_succ, i64_w, i32_w]
    rfl
  refine take_ (i := 7) (N := some 14) (v := ?_) (a' := ?_) #[true, true, true, true, true, true, true, true, false, false, false, false, false, false, false, false, false, false, false, false, false, false, false, false, false, false, false, false, false, false, false, false, false, false, false, false, false, false, false, false, false, false, false] rfl rfl (by kernel_rfl) (fun _ _ _ h => h) (Or.inl ⟨by rfl, ?_⟩) hHeld2 ?_ ?_
  rotate_left
  · rintro w' ⟨⟨p0, p1, p2, p3, r0, r1, r2, r3⟩, m2, m3⟩
    go_simp
    with_reducible rfl
  rotate_left
  · simp only [Act.put, List.setIfInBounds_toArray, List.set_cons_zero, List.set_cons_succ, i64_w, i32_w]
    rfl
  refine one_ (i := 8) (N := some 15) #[true, true, true, true, true, true, true, true, true, false, false, false, false, false, false, false, false, false, false, false, false, false, false, false, false, false, false, false, false, false, false, false, false, false, false, false, false, false, false, false, false, false, false] rfl rfl (by kernel_rfl) (by decide) (fun K hK => ?_)
  refine goes_ Tryd.func14 (by kernel_rfl) rfl #[.slice (some ⟨g, 0, none⟩) n0 cap, .slice B0 n0 d0] (by rfl) rfl rfl (by first | rfl | kernel_rfl | simp [Act.eval]) ?_
  refine (kA0.out _ hK1.out.bel).mono ?_
  rintro e u2 ⟨rfl, rfl⟩
  have hK2 := Aside0.mk (hK1.out.below (below_drew (Below.refl _ _)))
  refine ⟨_, rfl, hK.out _ _ (hS0.out _ hK2.out) (fun hHeld3 => ?_)⟩
  clear hK
  refine norm_ (a' := ?_) ?_ ?_
  rotate_left
  · show Act.put _ (some 15) _ = _
    simp only [Act.put, List.setIfInBounds_toArray, List.set_cons_zero, List.set_cons_succ, i64_w, i32_w]
    rfl
  refine pure_ (i := 9) (N := some 16) (v := ?_) (a' := ?_) #[true, true, true, true, true, true, true, true, true, true, false, false, false, false, false, false, false, false, false, false, false, false, false, false, false, false, false, false, false, false, false, false, false, false, false, false, false, false, false, false, false, false, false] rfl rfl (by kernel_rfl) (fun _ _ _ h => h) (Or.inl ⟨by rfl, ?_⟩) ?_ ?_
  rotate_left
  · intro w'
    go_simp
    with_reducible rfl
  rotate_left
  · simp only [Act.put, List.setIfInBounds_toArray, List.set_cons_zero, List.set_cons_succ, i64_w, i32_w]
    rfl
  refine pure_ (i := 10) (N := some 17) (v := ?_) (a' := ?_) #[true, true, true, true, true, true, true, true, true, true, true, false, false, false, false, false, false, false, false, false, false, false, false, false, false, false, false, false, false, false, false, false, false, false, false, false, false, false, false, false, false, false, false] rfl rfl (by kernel_rfl) (fun _ _ _ h => h) (Or.inl ⟨by rfl, ?_⟩) ?_ ?_
  rotate_left
  · intro w'
    go_simp
    with_reducible rfl
  rotate_left
  · simp only [Act.put, List.setIfInBounds_toArray, List.set_cons_zero, List.set_cons_succ, i64_w, i32_w]
    rfl
  refine pure_ (i := 11) (N := some 18) (v := ?_) (a' := ?_) #[true, true, true, true, true, true, true, true, true, true, true, true, false, false, false, false, false, false, false, false, false, false, false, false, false, false, false, false, false, false, false, false, false, false, false, false, false, false, false, false, false, false, false] rfl rfl (by kernel_rfl) (fun _ _ _ h => h) (Or.inl ⟨by rfl, ?_⟩) ?_ ?_
  rotate_left
  · intro w'
    go_simp
    with_reducible rfl
  rotate_left
  · simp only [Act.put, List.setIfInBounds_toArray, List.set_cons_zero, List.set_cons_succ, i64_w, i32_w]
    rfl
  refine take_ (i := 12) (N := some 19) (v := ?_) (a' := ?_) #[true, true, true, true, true, true, true, true, true, true, true, true, true, false, false, false, false, false, false, false, false, false, false, false, false, false, false, false, false, false, false, false, false, false, false, false, false, false, false, false, false, false, false] rfl rfl (by kernel_rfl) (fun _ _ _ h => h) (Or.inl ⟨by rfl, ?_⟩) hHeld3 ?_ ?_
  rotate_left
  · rintro w' ⟨⟨p0, p1, p2, p3, r0, r1, r2, r3⟩, m2, m3⟩
    go_simp
    with_reducible rfl
  rotate_left
  · simp only [Act.put, List.setIfInBounds_toArray, List.set_cons_zero, List.set_cons_succ, i64_w, i32_w]
    rfl
  refine pure_ (i := 13) (N := some 20) (v := ?_) (a' := ?_) #[true, true, true, true, true, true, true, true, true, true, true, true, true, true, false, false, false, false, false, false, false, false, false, false, false, false, false, false, false, false, false, false, false, false, false, false, false, false, false, false, false, false, false] rfl rfl (by kernel_rfl) (fun _ _ _ h => h) (Or.inl ⟨by rfl, ?_⟩) ?_ ?_
  rotate_left
  · intro w'
    go_simp
    with_reducible rfl
  rotate_left
  · simp only [Act.put, List.setIfInBounds_toArray, List.set_cons_zero, List.set_cons_succ, i64_w, i32_w]
    rfl
  refine take_ (i := 14) (N := some 21) (v := ?_) (a' := ?_) #[true, true, true, true, true, true, true, true, true, true, true, true, true, true, true, false, false, false, false, false, false, false, false, false, false, false, false, false, false, false, false, false, false, false, false, false, false, false, false, false, false, false, false] rfl rfl (by kernel_rfl) (fun _ _ _ h => h) (Or.inl ⟨by rfl, ?_⟩) hHeld3 ?_ ?_
  rotate_left
  · rintro w' ⟨⟨p0, p1, p2, p3, r0, r1, r2, r3⟩, m2, m3⟩
    go_simp
    with_reducible rfl
  rotate_left
  · simp only [Act.put, List.setIfInBounds_toArray, List.set_cons_zero, List.set_cons_succ, i64_w, i32_w]
    rfl
  refine pure_ (i := 15) (N := some 22) (v := ?_) (a' := ?_) #[true, true, true, true, true, true, true, true, true, true, true, true, true, true, true, true, false, false, false, false, false, false, false, false, false, false, false, false, false, false, false, false, false, false, false, false, false, false, false, false, false, false, false] rfl rfl (by kernel_rfl) (fun _ _ _ h => h) (Or.inl ⟨by rfl, ?_⟩) ?_ ?_
  rotate_left
  · intro w'
    go_simp
    with_reducible rfl
  rotate_left
  · simp only [Act.put, List.setIfInBounds_toArray, List.set_cons_zero, List.set_cons_succ, i64_w, i32_w]
    rfl
  refine pure_ (i := 16) (N := some 23) (v := ?_) (a' := ?_) #[true, true, true, true, true, true, true, true, true, true, true, true, true, true, true, true, true, false, false, false, false, false, false, false, false, false, false, false, false, false, false, false, false, false, false, false, false, false, false, false, false, false, false] rfl rfl (by kernel_rfl) (fun _ _ _ h => h) (Or.inl ⟨by rfl, ?_⟩) ?_ ?_
  rotate_left
  · intro w'
    go_simp
    with_reducible rfl
  rotate_left
  · simp only [Act.put, List.setIfInBounds_toArray, List.set_cons_zero, List.set_cons_succ, i64_w, i32_w]
    rfl
  refine pure_ (i := 17) (N := some 24) (v := ?_) (a' := ?_) #[true, true, true, true, true, true, true, true, true, true, true, true, true, true, true, true, true, true, false, false, false, false, false, false, false, false, false, false, false, false, false, false, false, false, false, false, false, false, false, false, false, false, false] rfl rfl (by kernel_rfl) (fun _ _ _ h => h) (Or.inl ⟨by rfl, ?_⟩) ?_ ?_
  rotate_left
  · intro w'
    go_simp
    with_reducible rfl
  rotate_left
  · simp only [Act.put, List.setIfInBounds_toArray, List.set_cons_zero, List.set_cons_succ, i64_w, i32_w]
    rfl
  refine pure_ (i := 18) (N := some 25) (v := ?_) (a' := ?_) #[true, true, true, true, true, true, true, true, true, true, true, true, true, true, true, true, true, true, true, false, false, false, false, false, false, false, false, false, false, false, false, false, false, false, false, false, false, false, false, false, false, false, false] rfl rfl (by kernel_rfl) (fun _ _ _ h => h) (Or.inl ⟨by rfl, ?_⟩) ?_ ?_
  rotate_left
  · intro w'
    go_simp
    with_reducible rfl
  rotate_left
  · simp only [Act.put, List.setIfInBounds_toArray, List.set_cons_zero, List.set_cons_succ, i64_w, i32_w]
    rfl
  refine take_ (i := 19) (N := some 26) (v := ?_) (a' := ?_) #[true, true, true, true, true, true, true, true, true, true, true, true, true, true, true, true, true, true, true, true, false, false, false, false, false, false, false, false, false, false, false, false, false, false, false, false, false, false, false, false, false, false, false] rfl rfl (by kernel_rfl) (fun _ _ _ h => h) (Or.inl ⟨by rfl, ?_⟩) hHeld3 ?_ ?_
  rotate_left
  · rintro w' ⟨⟨p0, p1, p2, p3, r0, r1, r2, r3⟩, m2, m3⟩
    go_simp
    with_reducible rfl
  rotate_left
  · simp only [Act.put, List.setIfInBounds_toArray, List.set_cons_zero, List.set_cons_succ, i64_w, i32_w]
    rfl
  refine pure_ (i := 20) (N := some 27) (v := ?_) (a' := ?_) #[true, true, true, true, true, true, true, true, true, true, true, true, true, true, true, true, true, true, true, true, true, false, false, false, false, false, false, false, false, false, false, false, false, false, false, false, false, false, false, false, false, false, false] rfl rfl (by kernel_rfl) (fun _ _ _ h => h) (Or.inl ⟨by rfl, ?_⟩) ?_ ?_
  rotate_left
  · intro w'
    go_simp
    with_reducible rfl
  rotate_left
  · simp only [Act.put, List.setIfInBounds_toArray, List.set_cons_zero, List.set_cons_succ, i64_w, i32_w]
    rfl
  refine pure_ (i := 21) (N := some 28) (v := ?_) (a' := ?_) #[true, true, true, true, true, true, true, true, true, true, true, true, true, true, true, true, true, true, true, true, true, true, false, false, false, false, false, false, false, false, false, false, false, false, false, false, false, false, false, false, false, false, false] rfl rfl (by kernel_rfl) (fun _ _ _ h => h) (Or.inl ⟨by rfl, ?_⟩) ?_ ?_
  rotate_left
  · intro w'
    go_simp
    with_reducible rfl
  rotate_left
  · simp only [Act.put, List.setIfInBounds_toArray, List.set_cons_zero, List.set_cons_succ, i64_w, i32_w]
    rfl
  refine pure_ (i := 22) (N := some 29) (v := ?_) (a' := ?_) #[true, true, true, true, true, true, true, true, true, true, true, true, true, true, true, true, true, true, true, true, true, true, true, false, false, false, false, false, false, false, false, false, false, false, false, false, false, false, false, false, false, false, false] rfl rfl (by kernel_rfl) (fun _ _ _ h => h) (Or.inl ⟨by rfl, ?_⟩) ?_ ?_
  rotate_left
  · intro w'
    go_simp
    with_reducible rfl
  rotate_left
  · simp only [Act.put, List.setIfInBounds_toArray, List.set_cons_zero, List.set_cons_succ, i64_w, i32_w]
    rfl
  refine take_ (i := 23) (N := some 30) (v := ?_) (a' := ?_) #[true, true, true, true, true, true, true, true, true, true, true, true, true, true, true, true, true, true, true, true, true, true, true, true, false, false, false, false, false, false, false, false, false, false, false, false, false, false, false, false, false, false, false] rfl rfl (by kernel_rfl) (fun _ _ _ h => h) (Or.inl ⟨by rfl, ?_⟩) hHeld3 ?_ ?_
  rotate_left
  · rintro w' ⟨⟨p0, p1, p2, p3, r0, r1, r2, r3⟩, m2, m3⟩
    go_simp
    with_reducible rfl
  rotate_left
  · simp only [Act.put, List.setIfInBounds_toArray, List.set_cons_zero, List.set_cons_succ, i64_w, i32_w]
    rfl
  refine pure_ (i := 24) (N := some 31) (v := ?_) (a' := ?_) #[true, true, true, true, true, true, true, true, true, true, true, true, true, true, true, true, true, true, true, true, true, true, true, true, true, false, false, false, false, false, false, false, false, false, false, false, false, false, false, false, false, false, false] rfl rfl (by kernel_rfl) (fun _ _ _ h => h) (Or.inl ⟨by rfl, ?_⟩) ?_ ?_
  rotate_left
  · intro w'
    go_simp
    with_reducible rfl
  rotate_left
  · simp only [Act.put, List.setIfInBounds_toArray, List.set_cons_zero, List.set_cons_succ, i64_w, i32_w]
    rfl
  refine pure_ (i := 25) (N := some 32) (v := ?_) (a' := ?_) #[true, true, true, true, true, true, true, true, true, true, true, true, true, true, true, true, true, true, true, true, true, true, true, true, true, true, false, false, false, false, false, false, false, false, false, false, false, false, false, false, false, false, false] rfl rfl (by kernel_rfl) (fun _ _ _ h => h) (Or.inl ⟨by rfl, ?_⟩) ?_ ?_
  rotate_left
  · intro w'
    go_simp
    with_reducible rfl
  rotate_left
  · simp only [Act.put, List.setIfInBounds_toArray, List.set_cons_zero, List.set_cons_succ, i64_w, i32_w]
    rfl
  refine pure_ (i := 26) (N := some 33) (v := ?_) (a' := ?_) #[true, true, true, true, true, true, true, true, true, true, true, true, true, true, true, true, true, true, true, true, true, true, true, true, true, true, true, false, false, false, false, false, false, false, false, false, false, false, false, false, false, false, false] rfl rfl (by kernel_rfl) (fun _ _ _ h => h) (Or.inl ⟨by rfl, ?_⟩) ?_ ?_
  rotate_left
  · intro w'
    go_simp
    with_reducible rfl
  rotate_left
  · simp only [Act.put, List.setIfInBounds_toArray, List.set_cons_zero, List.set_cons_succ, i64_w, i32_w]
    rfl
  refine pure_ (i := 27) (N := some 34) (v := ?_) (a' := ?_) #[true, true, true, true, true, true, true, true, true, true, true, true, true, true, true, true, true, true, true, true, true, true, true, true, true, true, true, true, false, false, false, false, false, false, false, false, false, false, false, false, false, false, false] rfl rfl (by kernel_rfl) (fun _ _ _ h => h) (Or.inl ⟨by rfl, ?_⟩) ?_ ?_
  rotate_left
  · intro w'
    go_simp
    with_reducible rfl
  rotate_left
  · simp only [Act.put, List.setIfInBounds_toArray, List.set_cons_zero, List.set_cons_succ, i64_w, i32_w]
    rfl
  refine take_ (i := 28) (N := some 35) (v := ?_) (a' := ?_) #[true, true, true, true, true, true, true, true, true, true, true, true, true, true, true, true, true, true, true, true, true, true, true, true, true, true, true, true, true, false, false, false, false, false, false, false, false, false, false, false, false, false, false] rfl rfl (by kernel_rfl) (fun _ _ _ h => h) (Or.inl ⟨by rfl, ?_⟩) hHeld3 ?_ ?_
  rotate_left
  · rintro w' ⟨⟨p0, p1, p2, p3, r0, r1, r2, r3⟩, m2, m3⟩
    go_simp
    with_reducible rfl
  rotate_left
  · simp only [Act.put, List.setIfInBounds_toArray, List.set_cons_zero, List.set_cons_succ, i64_w, i32_w]
    rfl
  refine pure_ (i := 29) (N := some 36) (v := ?_) (a' := ?_) #[true, true, true, true, true, true, true, true, true, true, true, true, true, true, true, true, true, true, true, true, true, true, true, true, true, true, true, true, true, true, false, false, false, false, false, false, false, false, false, false, false, false, false] rfl rfl (by kernel_rfl) (fun _ _ _ h => h) (Or.inl ⟨by rfl, ?_⟩) ?_ ?_
  rotate_left
  · intro w'
    go_simp
    with_reducible rfl
  rotate_left
  · simp only [Act.put, List.setIfInBounds_toArray, List.set_cons_zero, List.set_cons_succ, i64_w, i32_w]
    rfl
  refine take_ (i := 30) (N := some 37) (v := ?_) (a' := ?_) #[true, true, true, true, true, true, true, true, true, true, true, true, true, true, true, true, true, true, true, true, true, true, true, true, true, true, true, true, true, true, true, false, false, false, false, false, false, false, false, false, false, false, false] rfl rfl (by kernel_rfl) (fun _ _ _ h => h) (Or.inl ⟨by rfl, ?_⟩) hHeld3 ?_ ?_
  rotate_left
  · rintro w' ⟨⟨p0, p1, p2, p3, r0, r1, r2, r3⟩, m2, m3⟩
    go_simp
    with_reducible rfl
  rotate_left
  · simp only [Act.put, List.setIfInBounds_toArray, List.set_cons_zero, List.set_cons_succ, i64_w, i32_w]
    rfl
  refine pure_ (i := 31) (N := some 38) (v := ?_) (a' := ?_) #[true, true, true, true, true, true, true, true, true, true, true, true, true, true, true, true, true, true, true, true, true, true, true, true, true, true, true, true, true, true, true, true, false, false, false, false, false, false, false, false, false, false, false] rfl rfl (by kernel_rfl) (fun _ _ _ h => h) (Or.inl ⟨by rfl, ?_⟩) ?_ ?_
  rotate_left
  · intro w'
    go_simp
    with_reducible rfl
  rotate_left
  · simp only [Act.put, List.setIfInBounds_toArray, List.set_cons_zero, List.set_cons_succ, i64_w, i32_w]
    rfl
  refine pure_ (i := 32) (N := some 39) (v := ?_) (a' := ?_) #[true, true, true, true, true, true, true, true, true, true, true, true, true, true, true, true, true, true, true, true, true, true, true, true, true, true, true, true, true, true, true, true, true, false, false, false, false, false, false, false, false, false, false] rfl rfl (by kernel_rfl) (fun _ _ _ h => h) (Or.inl ⟨by rfl, ?_⟩) ?_ ?_
  rotate_left
  · intro w'
    go_simp
    with_reducible rfl
  rotate_left
  · simp only [Act.put, List.setIfInBounds_toArray, List.set_cons_zero, List.set_cons_succ, i64_w, i32_w]
    rfl
  refine pure_ (i := 33) (N := some 40) (v := ?_) (a' := ?_) #[true, true, true, true, true, true, true, true, true, true, true, true, true, true, true, true, true, true, true, true, true, true, true, true, true, true, true, true, true, true, true, true, true, true, false, false, false, false, false, false, false, false, false] rfl rfl (by kernel_rfl) (fun _ _ _ h => h) (Or.inl ⟨by rfl, ?_⟩) ?_ ?_
  rotate_left
  · intro w'
    go_simp
    with_reducible rfl
  rotate_left
  · simp only [Act.put, List.setIfInBounds_toArray, List.set_cons_zero, List.set_cons_succ, i64_w, i32_w]
    rfl
  refine pure_ (i := 34) (N := some 41) (v := ?_) (a' := ?_) #[true, true, true, true, true, true, true, true, true, true, true, true, true, true, true, true, true, true, true, true, true, true, true, true, true, true, true, true, true, true, true, true, true, true, true, false, false, false, false, false, false, false, false] rfl rfl (by kernel_rfl) (fun _ _ _ h => h) (Or.inl ⟨by rfl, ?_⟩) ?_ ?_
  rotate_left
  · intro w'
    go_simp
    with_reducible rfl
  rotate_left
  · simp only [Act.put, List.setIfInBounds_toArray, List.set_cons_zero, List.set_cons_succ, i64_w, i32_w]
    rfl
  refine take_ (i := 35) (N := some 42) (v := ?_) (a' := ?_) #[true, true, true, true, true, true, true, true, true, true, true, true, true, true, true, true, true, true, true, true, true, true, true, true, true, true, true, true, true, true, true, true, true, true, true, true, false, false, false, false, false, false, false] rfl rfl (by kernel_rfl) (fun _ _ _ h => h) (Or.inl ⟨by rfl, ?_⟩) hHeld3 ?_ ?_
  rotate_left
  · rintro w' ⟨⟨p0, p1, p2, p3, r0, r1, r2, r3⟩, m2, m3⟩
    go_simp
    with_reducible rfl
  rotate_left
  · simp only [Act.put, List.setIfInBounds_toArray, List.set_cons_zero, List.set_cons_succ, i64_w, i32_w]
    rfl
  refine pure_ (i := 36) (N := some 43) (v := ?_) (a' := ?_) #[true, true, true, true, true, true, true, true, true, true, true, true, true, true, true, true, true, true, true, true, true, true, true, true, true, true, true, true, true, true, true, true, true, true, true, true, true, false, false, false, false, false, false] rfl rfl (by kernel_rfl) (fun _ _ _ h => h) (Or.inl ⟨by rfl, ?_⟩) ?_ ?_
  rotate_left
  · intro w'
    go_simp
    with_reducible rfl
  rotate_left
  · simp only [Act.put, List.setIfInBounds_toArray, List.set_cons_zero, List.set_cons_succ, i64_w, i32_w]
    rfl
  refine pure_ (i := 37) (N := some 44) (v := ?_) (a' := ?_) #[true, true, true, true, true, true, true, true, true, true, true, true, true, true, true, true, true, true, true, true, true, true, true, true, true, true, true, true, true, true, true, true, true, true, true, true, true, true, false, false, false, false, false] rfl rfl (by kernel_rfl) (fun _ _ _ h => h) (Or.inl ⟨by rfl, ?_⟩) ?_ ?_
  rotate_left
  · intro w'
    go_simp
    with_reducible rfl
  rotate_left
  · simp only [Act.put, List.setIfInBounds_toArray, List.set_cons_zero, List.set_cons_succ, i64_w, i32_w]
    rfl
  refine pure_ (i := 38) (N := some 45) (v := ?_) (a' := ?_) #[true, true, true, true, true, true, true, true, true, true, true, true, true, true, true, true, true, true, true, true, true, true, true, true, true, true, true, true, true, true, true, true, true, true, true, true, true, true, true, false, false, false, false] rfl rfl (by kernel_rfl) (fun _ _ _ h => h) (Or.inl ⟨by rfl, ?_⟩) ?_ ?_
  rotate_left
  · intro w'
    go_simp
    with_reducible rfl
  rotate_left
  · simp only [Act.put, List.setIfInBounds_toArray, List.set_cons_zero, List.set_cons_succ, i64_w, i32_w]
    rfl
  refine take_ (i := 39) (N := some 46) (v := ?_) (a' := ?_) #[true, true, true, true, true, true, true, true, true, true, true, true, true, true, true, true, true, true, true, true, true, true, true, true, true, true, true, true, true, true, true, true, true, true, true, true, true, true, true, true, false, false, false] rfl rfl (by kernel_rfl) (fun _ _ _ h => h) (Or.inl ⟨by rfl, ?_⟩) hHeld3 ?_ ?_
  rotate_left
  · rintro w' ⟨⟨p0, p1, p2, p3, r0, r1, r2, r3⟩, m2, m3⟩
    go_simp
    with_reducible rfl
  rotate_left
  · simp only [Act.put, List.setIfInBounds_toArray, List.set_cons_zero, List.set_cons_succ, i64_w, i32_w]
    rfl
  refine pure_ (i := 40) (N := some 47) (v := ?_) (a' := ?_) #[true, true, true, true, true, true, true, true, true, true, true, true, true, true, true, true, true, true, true, true, true, true, true, true, true, true, true, true, true, true, true, true, true, true, true, true, true, true, true, true, true, false, false] rfl rfl (by kernel_rfl) (fun _ _ _ h => h) (Or.inl ⟨by rfl, ?_⟩) ?_ ?_
  rotate_left
  · intro w'
    go_simp
    with_reducible rfl
  rotate_left
  · simp only [Act.put, List.setIfInBounds_toArray, List.set_cons_zero, List.set_cons_succ, i64_w, i32_w]
    rfl
  refine pure_ (i := 41) (N := some 48) (v := ?_) (a' := ?_) #[true, true, true, true, true, true, true, true, true, true, true, true, true, true, true, true, true, true, true, true, true, true, true, true, true, true, true, true, true, true, true, true, true, true, true, true, true, true, true, true, true, true, false] rfl rfl (by kernel_rfl) (fun _ _ _ h => h) (Or.inl ⟨by rfl, ?_⟩) ?_ ?_
  rotate_left
  · intro w'
    go_simp
    with_reducible rfl
  rotate_left
  · simp only [Act.put, List.setIfInBounds_toArray, List.set_cons_zero, List.set_cons_succ, i64_w, i32_w]
    rfl
  refine pure_ (i := 42) (N := some 5) (v := ?_) (a' := ?_) #[true, true, true, true, true, true, true, true, true, true, true, true, true, true, true, true, true, true, true, true, true, true, true, true, true, true, true, true, true, true, true, true, true, true, true, true, true, true, true, true, true, true, true] rfl rfl (by kernel_rfl) (fun _ _ _ h => h) (Or.inl ⟨by rfl, ?_⟩) ?_ ?_
  rotate_left
  · intro w'
    go_simp
    with_reducible rfl
  rotate_left
  · simp only [Act.put, List.setIfInBounds_toArray, List.set_cons_zero, List.set_cons_succ, i64_w, i32_w]
    rfl
  refine done_ (by kernel_rfl) ?_
  clear hHeld hHeld2 hHeld3 qs2 qs3 w2 w3 lt2 lt3 hS0 hm2 hm3 hK0 hK1 kSm kA0
  generalize u1.drew = u2 at hK2 ⊢
  go_wp2
  go_loopg [5, 6] n3 (fun gk v5 v6 wr => ∃ (i : Nat), v5 = .bool true ∧ v6 = .int .i64 (i : Int) ∧ i + gk = n3 ∧ Aside0 (KpS w wr (.slice (some ⟨g, 0, none⟩) n0 cap) (.int .u16 ent) (.slice (some a2) n2 c2) (.slice (some a3) n3 c3) (.slice B0 n0 d0) (.int .u16 ent) (.slice B2 n2 d2) (.slice B3 n3 d3)))
  case atStart => exact ⟨0, rfl, rfl, by omega, hK2⟩
  case round =>
    clear hK2
    obtain ⟨i, rfl, rfl, hi, hK⟩ := hrel
    obtain ⟨p0, p1, p2, p3, r0, r1, r2, r3⟩ := hK.out.cells
    cases gk with
    | succ k1 =>
      have hd : decide ((i : Int) < (n3 : Int)) = true := decide_eq_true (by omega)
      have hd' : decide (i < n3) = true := decide_eq_true (by omega)
      have hin : i < n3 := by omega
      obtain ⟨ad, gi, ci, be, Bi, di, e1, e2, y1, y2, kA_⟩ := kAi.out wr i hK.out.bel hin
      obtain rfl := Option.some.inj e1
      subst e2
      have kA := Aside0.mk kA_
      clear kA_
      generalize L i = li at y1 y2 kA
      go_upto_region 5 with (fail)
      have hKd := Aside0.mk (hK.out.below (below_drew (Below.refl _ _)))
      have hdd := Aside0.mk (below_drew (Below.refl wr.heap.size wr))
      have hSd := Aside0.mk (And.intro (show wr.drew.cell? ⟨w.heap.size, 3, none⟩ = some (.slice (some a3) n3 c3) from hKd.out.cells.2.2.2.1) (And.intro (show wr.drew.cell? ⟨w.heap.size + 1, 3, none⟩ = some (.slice (some be) n3 d3) from hKd.out.cells.2.2.2.2.2.2.2) (And.intro (show wr.drew.cell? ⟨(a3.add (i * 2)).block, (a3.add (i * 2)).off + 1, none⟩ = some (.slice (some ⟨gi, 0, none⟩) li ci) from y1) (show wr.drew.cell? ⟨(be.add (i * 2)).block, (be.add (i * 2)).off + 1, none⟩ = some (.slice Bi li di) from y2))))
      refine start_ (n := 14) (S := (fun w' => w'.cell? ⟨w.heap.size, 3, none⟩ = some (.slice (some a3) n3 c3) ∧ w'.cell? ⟨w.heap.size + 1, 3, none⟩ = some (.slice (some be) n3 d3) ∧ w'.cell? ⟨(a3.add (i * 2)).block, (a3.add (i * 2)).off + 1, none⟩ = some (.slice (some ⟨gi, 0, none⟩) li ci) ∧ w'.cell? ⟨(be.add (i * 2)).block, (be.add (i * 2)).off + 1, none⟩ = some (.slice Bi li di))) (ds := []) #[false, false, false, false, false, false, false, false, false, false, false, false, false, false] (by kernel_rfl) rfl rfl hSd.out (fun hHeld => ?_)
      refine pure_ (i := 0) (N := some 59) (v := ?_) (a' := ?_) #[true, false, false, false, false, false, false, false, false, false, false, false, false, false] rfl rfl (by kernel_rfl) (fun _ _ _ h => h) (Or.inl ⟨by rfl, ?_⟩) ?_ ?_
      rotate_left
      · intro w'
        go_simp
        with_reducible rfl
      rotate_left
      · simp only [Act.put, List.setIfInBounds_toArray, List.set_cons_zero, List.set_cons_succ, i64_w, i32_w]
        rfl
      refine take_ (i := 1) (N := some 60) (v := ?_) (a' := ?_) #[true, true, false, false, false, false, false, false, false, false, false, false, false, false] rfl rfl (by kernel_rfl) (fun _ _ _ h => h) (Or.inl ⟨by rfl, ?_⟩) hHeld ?_ ?_
      rotate_left
      · rintro w' ⟨q1, q2, q3, q4⟩
        go_simp
        with_reducible rfl
      rotate_left
      · simp only [Act.put, List.setIfInBounds_toArray, List.set_cons_zero, List.set_cons_succ, i64_w, i32_w]
        rfl
      refine pure_ (i := 2) (N := some 61) (v := ?_) (a' := ?_) #[true, true, true, false, false, false, false, false, false, false, false, false, false, false] rfl rfl (by kernel_rfl) (fun _ _ _ h => h) (Or.inl ⟨by rfl, ?_⟩) ?_ ?_
      rotate_left
      · intro w'
        go_simp
        with_reducible rfl
      rotate_left
      · simp only [Act.put, List.setIfInBounds_toArray, List.set_cons_zero, List.set_cons_succ, i64_w, i32_w]
        rfl
      refine pure_ (i := 3) (N := some 62) (v := ?_) (a' := ?_) #[true, true, true, true, false, false, false, false, false, false, false, false, false, false] rfl rfl (by kernel_rfl) (fun _ _ _ h => h) (Or.inl ⟨by rfl, ?_⟩) ?_ ?_
      rotate_left
      · intro w'
        go_simp
        with_reducible rfl
      rotate_left
      · simp only [Act.put, List.setIfInBounds_toArray, List.set_cons_zero, List.set_cons_succ, i64_w, i32_w]
        rfl
      refine pure_ (i := 4) (N := some 63) (v := ?_) (a' := ?_) #[true, true, true, true, true, false, false, false, false, false, false, false, false, false] rfl rfl (by kernel_rfl) (fun _ _ _ h => h) (Or.inl ⟨by rfl, ?_⟩) ?_ ?_
      rotate_left
      · intro w'
        go_simp
        with_reducible rfl
      rotate_left
      · simp only [Act.put, List.setIfInBounds_toArray, List.set_cons_zero, List.set_cons_succ, i64_w, i32_w]
        rfl
      refine take_ (i := 5) (N := some 64) (v := ?_) (a' := ?_) #[true, true, true, true, true, true, false, false, false, false, false, false, false, false] rfl rfl (by kernel_rfl) (fun _ _ _ h => h) (Or.inl ⟨by rfl, ?_⟩) hHeld ?_ ?_
      rotate_left
      · rintro w' ⟨q1, q2, q3, q4⟩
        go_simp
        with_reducible rfl
      rotate_left
      · simp only [Act.put, List.setIfInBounds_toArray, List.set_cons_zero, List.set_cons_succ, i64_w, i32_w]
        rfl
      refine pure_ (i := 6) (N := some 65) (v := ?_) (a' := ?_) #[true, true, true, true, true, true, true, false, false, false, false, false, false, false] rfl rfl (by kernel_rfl) (fun _ _ _ h => h) (Or.inl ⟨by rfl, ?_⟩) ?_ ?_
      rotate_left
      · intro w'
        go_simp
        with_reducible rfl
      rotate_left
      · simp only [Act.put, List.setIfInBounds_toArray, List.set_cons_zero, List.set_cons_succ, i64_w, i32_w]
        rfl
      refine take_ (i := 7) (N := some 66) (v := ?_) (a' := ?_) #[true, true, true, true, true, true, true, true, false, false, false, false, false, false] rfl rfl (by kernel_rfl) (fun _ _ _ h => h) (Or.inl ⟨by rfl, ?_⟩) hHeld ?_ ?_
      rotate_left
      · rintro w' ⟨q1, q2, q3, q4⟩
        go_simp
        with_reducible rfl
      rotate_left
      · simp only [Act.put, List.setIfInBounds_toArray, List.set_cons_zero, List.set_cons_succ, i64_w, i32_w]
        rfl
      refine pure_ (i := 8) (N := some 67) (v := ?_) (a' := ?_) #[true, true, true, true, true, true, true, true, true, false, false, false, false, false] rfl rfl (by kernel_rfl) (fun _ _ _ h => h) (Or.inl ⟨by rfl, ?_⟩) ?_ ?_
      rotate_left
      · intro w'
        go_simp
        with_reducible rfl
      rotate_left
      · simp only [Act.put, List.setIfInBounds_toArray, List.set_cons_zero, List.set_cons_succ, i64_w, i32_w]
        rfl
      refine pure_ (i := 9) (N := some 68) (v := ?_) (a' := ?_) #[true, true, true, true, true, true, true, true, true, true, false, false, false, false] rfl rfl (by kernel_rfl) (fun _ _ _ h => h) (Or.inl ⟨by rfl, ?_⟩) ?_ ?_
      rotate_left
      · intro w'
        go_simp
        with_reducible rfl
      rotate_left
      · simp only [Act.put, List.setIfInBounds_toArray, List.set_cons_zero, List.set_cons_succ, i64_w, i32_w]
        rfl
      refine pure_ (i := 10) (N := some 69) (v := ?_) (a' := ?_) #[true, true, true, true, true, true, true, true, true, true, true, false, false, false] rfl rfl (by kernel_rfl) (fun _ _ _ h => h) (Or.inl ⟨by rfl, ?_⟩) ?_ ?_
      rotate_left
      · intro w'
        go_simp
        with_reducible rfl
      rotate_left
      · simp only [Act.put, List.setIfInBounds_toArray, List.set_cons_zero, List.set_cons_succ, i64_w, i32_w]
        rfl
      refine take_ (i := 11) (N := some 70) (v := ?_) (a' := ?_) #[true, true, true, true, true, true, true, true, true, true, true, true, false, false] rfl rfl (by kernel_rfl) (fun _ _ _ h => h) (Or.inl ⟨by rfl, ?_⟩) hHeld ?_ ?_
      rotate_left
      · rintro w' ⟨q1, q2, q3, q4⟩
        go_simp
        with_reducible rfl
      rotate_left
      · simp only [Act.put, List.setIfInBounds_toArray, List.set_cons_zero, List.set_cons_succ, i64_w, i32_w]
        rfl
      refine one_ (i := 12) (N := some 71) #[true, true, true, true, true, true, true, true, true, true, true, true, true, false] rfl rfl (by kernel_rfl) (by decide) (fun K hK => ?_)
      refine goes_ Tryd.func14 (by kernel_rfl) rfl #[.slice (some ⟨gi, 0, none⟩) li ci, .slice Bi li di] (by rfl) rfl rfl (by first | rfl | kernel_rfl | simp [Act.eval]) ?_
      refine (kA.out).mono ?_
      rintro e u3 ⟨rfl, rfl⟩
      refine ⟨_, rfl, hK.out _ _ hSd.out (fun hHeld2 => ?_)⟩
      clear hK
      refine norm_ (a' := ?_) ?_ ?_
      rotate_left
      · show Act.put _ (some 71) _ = _
        simp only [Act.put, List.setIfInBounds_toArray, List.set_cons_zero, List.set_cons_succ, i64_w, i32_w]
        rfl
      refine pure_ (i := 13) (N := some 5) (v := ?_) (a' := ?_) #[true, true, true, true, true, true, true, true, true, true, true, true, true, true] rfl rfl (by kernel_rfl) (fun _ _ _ h => h) (Or.inl ⟨by rfl, ?_⟩) ?_ ?_
      rotate_left
      · intro w'
        go_simp
        with_reducible rfl
      rotate_left
      · simp only [Act.put, List.setIfInBounds_toArray, List.set_cons_zero, List.set_cons_succ, i64_w, i32_w]
        rfl
      refine done_ (by kernel_rfl) ?_
      have hK9 := Aside0.mk (hKd.out.below (below_drew (Below.refl _ _)))
      generalize wr.drew.drew = u9 at hK9 ⊢
      clear hSd hKd hdd kA p0 p1 p2 p3 r0 r1 r2 r3 y1 y2 hl2 hl3 z2 hd hd' hi25 hi26 kAi
      have hwi : wrap64 ((i : Int) + 1) = ((i + 1 : Nat) : Int) := by unfold wrap64; omega
      have hi2 := Aside0.mk hi
      clear hi hin z3
      go_wp2
      go_roundg k1
      case measure => have := hi2.out; omega
      case rel => exact ⟨i + 1, rfl, by first | rfl | rw [hwi], by have := hi2.out; omega, hK9⟩
    | zero =>
      have hd : decide ((i : Int) < (n3 : Int)) = false := decide_eq_false (by omega)
      have hd' : decide (i < n3) = false := decide_eq_false (by omega)
      go_wp2
      go_ret
      exact ⟨rfl, hK.out.bel⟩
end Go.Proofs.YtembdahclmffjaaDoor.Pk
/- wisplaw07.CartEncodes: the walk. (Printed by gen_ce.py.) -/
namespace Go.Proofs.YtembdahclmffjaaDoor.Pk
open Go.RowKit Go.Proofs.YtembdahclmffjaaDoorW.PrintWords Go.Proofs.YtembdahclmffjaaDoorW.PrintLast Go.Proofs.YtembdahclmffjaaDoorW.PrintMore Go.Proofs.YtembdahclmffjaaDoor.Mem
set_option linter.unusedVariables false
set_option linter.unusedSimpArgs false
/-- a list of one row, written over -/
theorem apart1 {X : World} {base : Nat} {v : Value} {E : List Int} (hR : Kd.R (Kd.int .u8) 5 X base (fun _ => True) v E) (hl : E.length ≤ 140737488351232) (hbase : base ≤ X.heap.size) :
    Calls Tryd.prog 28 #[.slice (some ⟨X.heap.size, 0, none⟩) 1 1] (X.alloc (.cells #[v] 22)) fun e w' => e = .returned (.bool true) ∧ Fr (X.alloc (.cells #[v] 22)) w' (fun q => base ≤ q ∧ q < X.heap.size) := by
  have hb := below_alloc (Below.refl X.heap.size X) (.cells #[v] 22)
  refine (Ap.Apart (w := X.alloc (.cells #[v] 22)) (base := base) (n := 1) (O := X.heap.size) (c := 1) (V := fun _ => v) (L := fun _ => E.length) (X := fun _ => E) ⟨fun _ _ => Kd.R_below hR hb, fun _ _ => rfl, fun i j hi hj hij => by omega⟩ (fun j hj => ?_) (fun j hj e => ?_) (by rw [World.size_alloc]; omega) (by omega) (fun _ _ => hl) (by rw [World.size_alloc]; omega)).mono ?_
  · obtain rfl : j = 0 := by omega
    exact (cellH (World.alloc_heap_new X (.cells #[v] 22))).trans rfl
  · have := Kd.R_lt hR _ e
    omega
  · rintro e w' ⟨he, hF⟩
    exact ⟨he, hF.mono (fun q hq ⟨j, hj, e⟩ => ⟨Kd.R_base hR q e, Kd.R_lt hR q e⟩)⟩
theorem pick_base {X Xe : World} {E : List Int} (hb : Below Xe.heap.size Xe X) (h : ∀ base, Kd.R (Kd.int .u8) 5 X base (fun _ => True) (.slice none 0 0) E) : Kd.R (Kd.int .u8) 5 X Xe.heap.size (fun _ => True) (.slice none 0 0) E := h _
/-- what the law keeps -/
structure Lw (w X : World) (b3 g cap : Nat) (A0 : Option Addr) (c0 : Nat) (A2 : Option Addr) (c2 : Nat) (A3 : Option Addr) (c3 : Nat) (B2 : Option Addr) (d2 : Nat) (B3 : Option Addr) (d3 : Nat) (c : CartP) : Prop where
  bel : Below w.heap.size w X
  tab : Tab X
  own : OwnC X g cap B2 d2 B3 d3 c
  isc : IsC X A0 c0 A2 c2 A3 c3 c
  x1 : X.heap[w.heap.size]? = some (.cells #[.slice A0 c.code.length c0, .int .u16 c.entry, .slice A2 c.efs.length c2, .slice A3 c.bks.length c3] 28 (0, 0))
  x3 : X.heap[b3]? = some (.cells #[.slice (some ⟨g, 0, none⟩) c.code.length cap, .int .u16 c.entry, .slice B2 c.efs.length d2, .slice B3 c.bks.length d3] 28 (0, 0))
namespace Lw
variable {w X X' : World} {b3 g cap c0 c2 c3 d2 d3 : Nat} {A0 A2 A3 B2 B3 : Option Addr} {c : CartP}
theorem below (h : Lw w X b3 g cap A0 c0 A2 c2 A3 c3 B2 d2 B3 d3 c) (hb : Below X.heap.size X X') : Lw w X' b3 g cap A0 c0 A2 c2 A3 c3 B2 d2 B3 d3 c :=
  ⟨h.bel.trans (hb.mono h.bel.size), h.tab.below hb, h.own.below hb, h.isc.below hb, (hb.block _ (heap_lt h.x1)).trans h.x1, (hb.block _ (heap_lt h.x3)).trans h.x3⟩
theorem cells (h : Lw w X b3 g cap A0 c0 A2 c2 A3 c3 B2 d2 B3 d3 c) : X.cell? ⟨w.heap.size, 0, none⟩ = some (.slice A0 c.code.length c0) ∧ X.cell? ⟨w.heap.size, 1, none⟩ = some (.int .u16 c.entry) ∧ X.cell? ⟨w.heap.size, 2, none⟩ = some (.slice A2 c.efs.length c2) ∧ X.cell? ⟨w.heap.size, 3, none⟩ = some (.slice A3 c.bks.length c3) ∧ X.cell? ⟨b3, 0, none⟩ = some (.slice (some ⟨g, 0, none⟩) c.code.length cap) ∧ X.cell? ⟨b3, 1, none⟩ = some (.int .u16 c.entry) ∧ X.cell? ⟨b3, 2, none⟩ = some (.slice B2 c.efs.length d2) ∧ X.cell? ⟨b3, 3, none⟩ = some (.slice B3 c.bks.length d3) :=
  ⟨(cellH h.x1).trans rfl, (cellH h.x1).trans rfl, (cellH h.x1).trans rfl, (cellH h.x1).trans rfl, (cellH h.x3).trans rfl, (cellH h.x3).trans rfl, (cellH h.x3).trans rfl, (cellH h.x3).trans rfl⟩
theorem after {Y W : World} {ob : Obj} (h : Lw w X b3 g cap A0 c0 A2 c2 A3 c3 B2 d2 B3 d3 c) (hb : Below X.heap.size X Y) (hF : Fr (Y.alloc ob) W (fun q => X.heap.size ≤ q ∧ q < Y.heap.size)) : Lw w W b3 g cap A0 c0 A2 c2 A3 c3 B2 d2 B3 d3 c := by
  have h2 := hb.trans ((below_alloc (Below.refl Y.heap.size Y) ob).mono hb.size)
  exact h.below (h2.trans (hF.below h2.size (fun k hk hs => by omega)))
theorem ct (h : Lw w X b3 g cap A0 c0 A2 c2 A3 c3 B2 d2 B3 d3 c) : CtV X (.agg #[.slice (some ⟨g, 0, none⟩) c.code.length cap, .int .u16 c.entry, .slice B2 c.efs.length d2, .slice B3 c.bks.length d3]) c := h.own.ct
end Lw
theorem Lw.start {w w1 : World} {g cap c0 c2 c3 d2 d3 : Nat} {A0 A2 A3 B2 B3 : Option Addr} {c : CartP} (hT : Tab w) (hI : IsC w A0 c0 A2 c2 A3 c3 c) (hO : OwnC w1 g cap B2 d2 B3 d3 c) (hb : Below (w.alloc (.cells #[.slice A0 c.code.length c0, .int .u16 c.entry, .slice A2 c.efs.length c2, .slice A3 c.bks.length c3] 28)).heap.size (w.alloc (.cells #[.slice A0 c.code.length c0, .int .u16 c.entry, .slice A2 c.efs.length c2, .slice A3 c.bks.length c3] 28)) w1) :
    Lw w (w1.alloc (.cells #[.slice (some ⟨g, 0, none⟩) c.code.length cap, .int .u16 c.entry, .slice B2 c.efs.length d2, .slice B3 c.bks.length d3] 28)) w1.heap.size g cap A0 c0 A2 c2 A3 c3 B2 d2 B3 d3 c := by
  have h1 := below_alloc (Below.refl w.heap.size w) (.cells #[.slice A0 c.code.length c0, .int .u16 c.entry, .slice A2 c.efs.length c2, .slice A3 c.bks.length c3] 28)
  have h3 := below_alloc (Below.refl w1.heap.size w1) (.cells #[.slice (some ⟨g, 0, none⟩) c.code.length cap, .int .u16 c.entry, .slice B2 c.efs.length d2, .slice B3 c.bks.length d3] 28)
  have h2 := h1.trans (hb.mono h1.size)
  have h4 := h2.trans (h3.mono h2.size)
  have e1 := World.alloc_heap_new w (.cells #[.slice A0 c.code.length c0, .int .u16 c.entry, .slice A2 c.efs.length c2, .slice A3 c.bks.length c3] 28)
  have e2 := (hb.block _ (heap_lt e1)).trans e1
  exact ⟨h4, hT.below h4, hO.below h3, hI.below h4, (h3.block _ (heap_lt e2)).trans e2, World.alloc_heap_new w1 _⟩
theorem enc_two (c : CartP) (hok : OkC c) (hwf : WfC c) : (encB c).length ≤ 524288 := by
  have h := there hok hwf
  exact (dec_lens h).2
set_option maxRecDepth 100000 in
set_option maxHeartbeats 8000000 in
theorem Enc_ok {w : World} {A0 A2 A3 : Option Addr} {c0 c2 c3 : Nat} {c : CartP} (hT : Tab w) (hI : IsC w A0 c0 A2 c2 A3 c3 c) (hwf : WfC c) (hz : Szs c) (hok : OkC c) :
    Calls Tryd.prog 7 #[.agg #[.slice A0 c.code.length c0, .int .u16 c.entry, .slice A2 c.efs.length c2, .slice A3 c.bks.length c3]] w fun e w' => e = .returned (.bool true) ∧ Below w.heap.size w w' := by
  have kOw : Aside0 (∀ W, Below w.heap.size w W → Calls Tryd.prog 24 #[.agg #[.slice A0 c.code.length c0, .int .u16 c.entry, .slice A2 c.efs.length c2, .slice A3 c.bks.length c3]] W fun e w' => ∃ g cap B2 d2 B3 d3, e = .returned (.agg #[.slice (some ⟨g, 0, none⟩) c.code.length cap, .int .u16 c.entry, .slice B2 c.efs.length d2, .slice B3 c.bks.length d3]) ∧ OwnC w' g cap B2 d2 B3 d3 c ∧ Below W.heap.size W w') := ⟨fun W hb => MkOwn (hI.below hb) hz.s0 hz.s2 hz.s3 hz.sb⟩
  have hB0 := Aside0.mk (below_alloc (Below.refl w.heap.size w) (.cells #[.slice A0 c.code.length c0, .int .u16 c.entry, .slice A2 c.efs.length c2, .slice A3 c.bks.length c3] 28))
  have hTT := Aside0.mk hT
  have hII := Aside0.mk hI
  have hww := Aside0.mk hwf
  have hzz := Aside0.mk hz
  have hoo := Aside0.mk hok
  clear hT hI hwf hz hok
  have he := Aside0.mk (show c.efs.length < 4611686018427387904 ∧ c.bks.length < 4611686018427387904 by have := hzz.out.s2; have := hzz.out.s3; omega)
  go_enter Tryd.func7, Tryd.ntmps7
  go_upto_region 2 with (go_at_call 24; ((with_reducible refine (kOw.out _ hB0.out).mono ?_); rintro e w1 ⟨g, cap, B2, d2, B3, d3, rfl, hO_, hb_⟩; have hL0 := Aside0.mk (Lw.start hTT.out hII.out hO_ hb_); clear hO_ hb_))
  obtain ⟨X0, hX0⟩ : ∃ X0, X0 = w1.alloc (.cells #[.slice (some ⟨g, 0, none⟩) c.code.length cap, .int .u16 c.entry, .slice B2 c.efs.length d2, .slice B3 c.bks.length d3] 28) := ⟨_, rfl⟩
  rw [← hX0] at hL0 ⊢
  clear hX0 kOw hB0
  generalize w1.heap.size = b3 at hL0 ⊢
  obtain ⟨L, hLd⟩ : ∃ L : World → Prop, L = fun X => Lw w X b3 g cap A0 c0 A2 c2 A3 c3 B2 d2 B3 d3 c := ⟨_, rfl⟩
  have hL : Aside0 (L X0) := ⟨by rw [hLd]; exact hL0.out⟩
  have hLb : Aside0 (∀ X X', L X → Below X.heap.size X X' → L X') := ⟨by rw [hLd]; exact fun X X' h hb => h.below hb⟩
  have hLc : Aside0 (∀ X, L X → X.cell? ⟨w.heap.size, 0, none⟩ = some (.slice A0 c.code.length c0) ∧ X.cell? ⟨w.heap.size, 1, none⟩ = some (.int .u16 c.entry) ∧ X.cell? ⟨w.heap.size, 2, none⟩ = some (.slice A2 c.efs.length c2) ∧ X.cell? ⟨w.heap.size, 3, none⟩ = some (.slice A3 c.bks.length c3) ∧ X.cell? ⟨b3, 0, none⟩ = some (.slice (some ⟨g, 0, none⟩) c.code.length cap) ∧ X.cell? ⟨b3, 1, none⟩ = some (.int .u16 c.entry) ∧ X.cell? ⟨b3, 2, none⟩ = some (.slice B2 c.efs.length d2) ∧ X.cell? ⟨b3, 3, none⟩ = some (.slice B3 c.bks.length d3)) := ⟨by rw [hLd]; exact fun X h => h.cells⟩
  have hLa : Aside0 (∀ X Y W ob, L X → Below X.heap.size X Y → Fr (Y.alloc ob) W (fun q => X.heap.size ≤ q ∧ q < Y.heap.size) → L W) := ⟨by rw [hLd]; exact fun X Y W ob h hb hF => h.after hb hF⟩
  have hLw : Aside0 (∀ X, L X → Below w.heap.size w X) := ⟨by rw [hLd]; exact fun X h => h.bel⟩
  have kKn : Aside0 (∀ X, L X → Calls Tryd.prog 15 #[] X fun e w' => e = .returned (.bool true) ∧ Below X.heap.size X w') := ⟨by rw [hLd]; exact fun X h => Known h.tab⟩
  have kKp : Aside0 (∀ X, L X → Calls Tryd.prog 29 #[.agg #[.slice (some ⟨g, 0, none⟩) c.code.length cap, .int .u16 c.entry, .slice B2 c.efs.length d2, .slice B3 c.bks.length d3], .agg #[.slice A0 c.code.length c0, .int .u16 c.entry, .slice A2 c.efs.length c2, .slice A3 c.bks.length c3]] X fun e w' => e = .returned (.bool true) ∧ Below X.heap.size X w') := ⟨by rw [hLd]; exact fun X h => KeptAll h.own h.isc hzz.out.s0 hzz.out.s2 hzz.out.s3 hzz.out.sb⟩
  have kCk : Aside0 (∀ X, L X → Calls Tryd.prog 17 #[.agg #[.slice (some ⟨g, 0, none⟩) c.code.length cap, .int .u16 c.entry, .slice B2 c.efs.length d2, .slice B3 c.bks.length d3]] X fun e w' => e = .returned (.int .i64 0) ∧ Below X.heap.size X w') := ⟨by rw [hLd]; exact fun X h => (chk_ok hoo.out) ▸ kChk h.ct he.out.1 he.out.2⟩
  have kRE : Aside0 (∀ X, L X → Calls Tryd.prog 25 #[.agg #[.slice A0 c.code.length c0, .int .u16 c.entry, .slice A2 c.efs.length c2, .slice A3 c.bks.length c3]] X fun e w' => ∃ A n k, e = .returned (.tuple #[.slice A n k, .int .i64 0]) ∧ n = (encB c).length ∧ n ≤ k ∧ Kd.C (Kd.int .u8) w' A n (encB c) ∧ Below X.heap.size X w') := ⟨by
    rw [hLd]
    intro X h
    refine (REncode_ok h.isc hoo.out hww.out).mono ?_
    rintro e w' ⟨v, rfl, hR, hb⟩
    obtain ⟨A, k, rfl, hk, hC⟩ := Kd.R_reads hR
    exact ⟨A, _, k, rfl, rfl, hk, hC, hb⟩⟩
  have kEn : Aside0 (∀ X, L X → Calls Tryd.prog 16 #[.agg #[.slice (some ⟨g, 0, none⟩) c.code.length cap, .int .u16 c.entry, .slice B2 c.efs.length d2, .slice B3 c.bks.length d3]] X fun e w' => ∃ A n k, e = .returned (.tuple #[.slice A n k, .int .i64 0]) ∧ n = (encB c).length ∧ n ≤ k ∧ Kd.R (Kd.int .u8) 5 w' X.heap.size (fun _ => True) (.slice A n k) (encB c) ∧ Below X.heap.size X w') := ⟨by
    rw [hLd]
    intro X h
    refine (kEnc h.tab h.ct hoo.out hww.out).mono ?_
    rintro e w' ⟨A, n, k, rfl, hn, hk, hR, _, hb⟩
    exact ⟨A, n, k, rfl, hn, hk, hR, hb⟩⟩
  have kSu : Aside0 (∀ X, L X → Calls Tryd.prog 26 #[.agg #[.slice (some ⟨g, 0, none⟩) c.code.length cap, .int .u16 c.entry, .slice B2 c.efs.length d2, .slice B3 c.bks.length d3]] X fun e w' => e = .returned (.tuple #[.int .u32 (sumI [bodyB c.entry (secs c)]), .int .i64 0]) ∧ Below X.heap.size X w') := ⟨by rw [hLd]; exact fun X h => CSum_ok h.tab h.own.isc hoo.out hww.out⟩
  have hlE := enc_two c hoo.out hww.out
  have hTB : allB (bodyB c.entry (secs c)) := fun x hx => encB_B hww.out hoo.out x (List.mem_append_left _ hx)
  have hEl : (encB c).length = (bodyB c.entry (secs c)).length + 4 := by show (bodyB c.entry (secs c) ++ wordB _).length = _; rw [List.length_append, word_len]
  have hEt : (encB c).take (bodyB c.entry (secs c)).length = bodyB c.entry (secs c) := List.take_left' rfl
  have kRS : Aside0 (∀ X A k, Kd.C (Kd.int .u8) X A (encB c).length (encB c) → Calls Tryd.prog 27 #[.slice A (bodyB c.entry (secs c)).length k] X fun e w' => e = .returned (.int .u32 (sumI [bodyB c.entry (secs c)])) ∧ X = w') := ⟨fun X A k hC => by
    have h1 := Kd.C_take (m := (bodyB c.entry (secs c)).length) hC (by omega)
    rw [hEt] at h1
    exact RefSum (c := k) h1 hTB⟩
  have hcut : Aside0 (∀ (A : Option Addr) k, (encB c).length ≤ k → ∀ W : World, (Instr.slice 22 (.slice A (encB c).length k) none (some (.int .i64 ((bodyB c.entry (secs c)).length : Int))) none).run Tryd.prog W = .ok (.slice A (bodyB c.entry (secs c)).length k) W) := ⟨fun A k hk => (cutT A (encB c).length k (encB c) (bodyB c.entry (secs c)).length hk (by omega)).1⟩
  obtain ⟨E, hE⟩ : ∃ E, encB c = E := ⟨_, rfl⟩
  obtain ⟨nT, hnT⟩ : ∃ n, (bodyB c.entry (secs c)).length = n := ⟨_, rfl⟩
  obtain ⟨S, hS⟩ : ∃ S, sumI [bodyB c.entry (secs c)] = S := ⟨_, rfl⟩
  rw [hE] at kRE kEn hlE hEl kRS hcut
  rw [hnT] at hEl kRS hcut
  rw [hS] at kSu kRS
  obtain ⟨n5, hn5⟩ : ∃ n, E.length = n := ⟨_, rfl⟩
  rw [hn5] at kRE kEn hlE hEl kRS hcut
  clear hE hnT hS hEt hTB
  have hn54 : wrap64 ((n5 : Int) - 4) = (nT : Int) := by unfold wrap64; omega
  have hn55 : (n5 : Int) - 4 = (nT : Int) := by omega
  clear hEl
  obtain ⟨sb, hsb⟩ : ∃ sb, strOfNums E = sb := ⟨_, rfl⟩
  have hcv : Aside0 (∀ X A k, Kd.C (Kd.int .u8) X A n5 E → (convert 22 9 (.slice A n5 k)).run Tryd.prog X = .ok (.string sb) X) := ⟨fun X A k hC => by
    rw [← hn5] at hC ⊢
    have h := Kd.C_string (P := Tryd.prog) (c := k) Tryd.underlying22 Tryd.underlying5 Tryd.underlying9 hC
    rw [hsb] at h
    exact h⟩
  have hcr : Aside0 (∀ X base A k, Kd.R (Kd.int .u8) 5 X base (fun _ => True) (.slice A n5 k) E → (convert 22 9 (.slice A n5 k)).run Tryd.prog X = .ok (.string sb) X) := ⟨fun X base A k hR => by
    have h := (Kd.R_reads' hR).2.2
    rw [hn5] at h
    exact hcv.out X A k h⟩
  have hEs : Aside0 (E.length ≤ 140737488351232) := ⟨by omega⟩
  have hd5 : decide ((n5 : Int) ≤ 524288) = true := decide_eq_true (by omega)
  clear hLd hII hTT hww hzz hoo he hsb hL0 hn5
  generalize c.code.length = n0 at *
  generalize c.entry = ent at *
  generalize c.efs.length = n2 at *
  generalize c.bks.length = n3 at *
  obtain ⟨p0, p1, p2, p3, p4, p5, p6, p7⟩ := hLc.out _ hL.out
  go_wp2_with (first | (go_at_call 25; ((with_reducible refine (kRE.out _ hL.out).mono ?_); rintro e X1 ⟨A5, n5_, k5, rfl, hn_, hk5_, hC_, hb_⟩; have hn_ := hn_.symm; subst hn_; have n0_ := Aside0.mk (hLb.out _ _ hL.out hb_); clear hL; have hL := n0_; clear n0_; (try clear p0 p1 p2 p3 p4 p5 p6 p7); obtain ⟨p0, p1, p2, p3, p4, p5, p6, p7⟩ := hLc.out _ hL.out; (try (have n1_ := Aside0.mk (Kd.C_below h5.out hb_); clear h5; have h5 := n1_; clear n1_; (try clear v5); have v5 := hcv.out _ _ k5 h5.out)); (try (have n2_ := Aside0.mk (Kd.R_below h6.out hb_); clear h6; have h6 := n2_; clear n2_; (try clear v6); have v6 := hcr.out _ _ _ _ h6.out)); (try (have n3_ := Aside0.mk (hbe.out.trans (hb_.mono hbe.out.size)); clear hbe; have hbe := n3_; clear n3_)); clear hb_; have h5 := Aside0.mk hC_; have v5 := hcv.out _ _ k5 h5.out; have cu5 := hcut.out A5 k5 hk5_; clear hC_ hk5_)) | (go_at_call 17; ((with_reducible refine (kCk.out _ hL.out).mono ?_); rintro e X1 ⟨rfl, hb_⟩; have n0_ := Aside0.mk (hLb.out _ _ hL.out hb_); clear hL; have hL := n0_; clear n0_; (try clear p0 p1 p2 p3 p4 p5 p6 p7); obtain ⟨p0, p1, p2, p3, p4, p5, p6, p7⟩ := hLc.out _ hL.out; (try (have n1_ := Aside0.mk (Kd.C_below h5.out hb_); clear h5; have h5 := n1_; clear n1_; (try clear v5); have v5 := hcv.out _ _ k5 h5.out)); (try (have n2_ := Aside0.mk (Kd.R_below h6.out hb_); clear h6; have h6 := n2_; clear n2_; (try clear v6); have v6 := hcr.out _ _ _ _ h6.out)); (try (have n3_ := Aside0.mk (hbe.out.trans (hb_.mono hbe.out.size)); clear hbe; have hbe := n3_; clear n3_)); clear hb_)) | (go_at_call 16; ((with_reducible refine (kEn.out _ hL.out).mono ?_); rintro e X1 ⟨A6, n6_, k6, rfl, hn_, hk6_, hR_, hb_⟩; have hn_ := hn_.symm; subst hn_; have hLe := hL; have hbe_ := hb_; have n0_ := Aside0.mk (hLb.out _ _ hL.out hb_); clear hL; have hL := n0_; clear n0_; (try clear p0 p1 p2 p3 p4 p5 p6 p7); obtain ⟨p0, p1, p2, p3, p4, p5, p6, p7⟩ := hLc.out _ hL.out; (try (have n1_ := Aside0.mk (Kd.C_below h5.out hb_); clear h5; have h5 := n1_; clear n1_; (try clear v5); have v5 := hcv.out _ _ k5 h5.out)); (try (have n2_ := Aside0.mk (Kd.R_below h6.out hb_); clear h6; have h6 := n2_; clear n2_; (try clear v6); have v6 := hcr.out _ _ _ _ h6.out)); (try (have n3_ := Aside0.mk (hbe.out.trans (hb_.mono hbe.out.size)); clear hbe; have hbe := n3_; clear n3_)); clear hb_; have h6 := Aside0.mk hR_; have v6 := hcr.out _ _ _ k6 h6.out; have hbe := Aside0.mk hbe_; clear hR_ hbe_ hk6_)) | (go_at_call 26; ((with_reducible refine (kSu.out _ hL.out).mono ?_); rintro e X1 ⟨rfl, hb_⟩; have n0_ := Aside0.mk (hLb.out _ _ hL.out hb_); clear hL; have hL := n0_; clear n0_; (try clear p0 p1 p2 p3 p4 p5 p6 p7); obtain ⟨p0, p1, p2, p3, p4, p5, p6, p7⟩ := hLc.out _ hL.out; (try (have n1_ := Aside0.mk (Kd.C_below h5.out hb_); clear h5; have h5 := n1_; clear n1_; (try clear v5); have v5 := hcv.out _ _ k5 h5.out)); (try (have n2_ := Aside0.mk (Kd.R_below h6.out hb_); clear h6; have h6 := n2_; clear n2_; (try clear v6); have v6 := hcr.out _ _ _ _ h6.out)); (try (have n3_ := Aside0.mk (hbe.out.trans (hb_.mono hbe.out.size)); clear hbe; have hbe := n3_; clear n3_)); clear hb_)) | (go_at_call 27; ((with_reducible refine (kRS.out _ _ k5 h5.out).mono ?_); rintro e X1 ⟨rfl, rfl⟩; skip)) | (go_at_call 11; ((with_reducible refine (kNum _ _).mono ?_); rintro e X1 ⟨rfl, hb_⟩; have n0_ := Aside0.mk (hLb.out _ _ hL.out hb_); clear hL; have hL := n0_; clear n0_; (try clear p0 p1 p2 p3 p4 p5 p6 p7); obtain ⟨p0, p1, p2, p3, p4, p5, p6, p7⟩ := hLc.out _ hL.out; (try (have n1_ := Aside0.mk (Kd.C_below h5.out hb_); clear h5; have h5 := n1_; clear n1_; (try clear v5); have v5 := hcv.out _ _ k5 h5.out)); (try (have n2_ := Aside0.mk (Kd.R_below h6.out hb_); clear h6; have h6 := n2_; clear n2_; (try clear v6); have v6 := hcr.out _ _ _ _ h6.out)); (try (have n3_ := Aside0.mk (hbe.out.trans (hb_.mono hbe.out.size)); clear hbe; have hbe := n3_; clear n3_)); clear hb_)) | (go_at_call 28; ((with_reducible refine (apart1 h6.out hEs.out hbe.out.size).mono ?_); rintro e X1 ⟨rfl, hF_⟩; have hL := Aside0.mk (hLa.out _ _ _ _ hLe.out hbe.out hF_); clear p0 p1 p2 p3 p4 p5 p6 p7; obtain ⟨p0, p1, p2, p3, p4, p5, p6, p7⟩ := hLc.out _ hL.out; clear hF_)) | (go_at_call 29; ((with_reducible refine (kKp.out _ hL.out).mono ?_); rintro e X1 ⟨rfl, hb_⟩; have hL := Aside0.mk (hLb.out _ _ hL.out hb_); clear hb_)) | (go_at_call 15; ((with_reducible refine (kKn.out _ hL.out).mono ?_); rintro e X1 ⟨rfl, hb_⟩; have hL := Aside0.mk (hLb.out _ _ hL.out hb_); clear hb_)))
  go_ret
  exact ⟨rfl, hLw.out _ hL.out⟩
set_option maxRecDepth 100000 in
set_option maxHeartbeats 8000000 in
theorem Enc_bad {w : World} {A0 A2 A3 : Option Addr} {c0 c2 c3 : Nat} {c : CartP} (hT : Tab w) (hI : IsC w A0 c0 A2 c2 A3 c3 c) (hwf : WfC c) (hz : Szs c) (hok : ¬ OkC c) :
    Calls Tryd.prog 7 #[.agg #[.slice A0 c.code.length c0, .int .u16 c.entry, .slice A2 c.efs.length c2, .slice A3 c.bks.length c3]] w fun e w' => e = .returned (.bool true) ∧ Below w.heap.size w w' := by
  have kOw : Aside0 (∀ W, Below w.heap.size w W → Calls Tryd.prog 24 #[.agg #[.slice A0 c.code.length c0, .int .u16 c.entry, .slice A2 c.efs.length c2, .slice A3 c.bks.length c3]] W fun e w' => ∃ g cap B2 d2 B3 d3, e = .returned (.agg #[.slice (some ⟨g, 0, none⟩) c.code.length cap, .int .u16 c.entry, .slice B2 c.efs.length d2, .slice B3 c.bks.length d3]) ∧ OwnC w' g cap B2 d2 B3 d3 c ∧ Below W.heap.size W w') := ⟨fun W hb => MkOwn (hI.below hb) hz.s0 hz.s2 hz.s3 hz.sb⟩
  have hB0 := Aside0.mk (below_alloc (Below.refl w.heap.size w) (.cells #[.slice A0 c.code.length c0, .int .u16 c.entry, .slice A2 c.efs.length c2, .slice A3 c.bks.length c3] 28))
  have hTT := Aside0.mk hT
  have hII := Aside0.mk hI
  have hww := Aside0.mk hwf
  have hzz := Aside0.mk hz
  have hoo := Aside0.mk hok
  clear hT hI hwf hz hok
  have he := Aside0.mk (show c.efs.length < 4611686018427387904 ∧ c.bks.length < 4611686018427387904 by have := hzz.out.s2; have := hzz.out.s3; omega)
  go_enter Tryd.func7, Tryd.ntmps7
  go_upto_region 2 with (go_at_call 24; ((with_reducible refine (kOw.out _ hB0.out).mono ?_); rintro e w1 ⟨g, cap, B2, d2, B3, d3, rfl, hO_, hb_⟩; have hL0 := Aside0.mk (Lw.start hTT.out hII.out hO_ hb_); clear hO_ hb_))
  obtain ⟨X0, hX0⟩ : ∃ X0, X0 = w1.alloc (.cells #[.slice (some ⟨g, 0, none⟩) c.code.length cap, .int .u16 c.entry, .slice B2 c.efs.length d2, .slice B3 c.bks.length d3] 28) := ⟨_, rfl⟩
  rw [← hX0] at hL0 ⊢
  clear hX0 kOw hB0
  generalize w1.heap.size = b3 at hL0 ⊢
  obtain ⟨L, hLd⟩ : ∃ L : World → Prop, L = fun X => Lw w X b3 g cap A0 c0 A2 c2 A3 c3 B2 d2 B3 d3 c := ⟨_, rfl⟩
  have hL : Aside0 (L X0) := ⟨by rw [hLd]; exact hL0.out⟩
  have hLb : Aside0 (∀ X X', L X → Below X.heap.size X X' → L X') := ⟨by rw [hLd]; exact fun X X' h hb => h.below hb⟩
  have hLc : Aside0 (∀ X, L X → X.cell? ⟨w.heap.size, 0, none⟩ = some (.slice A0 c.code.length c0) ∧ X.cell? ⟨w.heap.size, 1, none⟩ = some (.int .u16 c.entry) ∧ X.cell? ⟨w.heap.size, 2, none⟩ = some (.slice A2 c.efs.length c2) ∧ X.cell? ⟨w.heap.size, 3, none⟩ = some (.slice A3 c.bks.length c3) ∧ X.cell? ⟨b3, 0, none⟩ = some (.slice (some ⟨g, 0, none⟩) c.code.length cap) ∧ X.cell? ⟨b3, 1, none⟩ = some (.int .u16 c.entry) ∧ X.cell? ⟨b3, 2, none⟩ = some (.slice B2 c.efs.length d2) ∧ X.cell? ⟨b3, 3, none⟩ = some (.slice B3 c.bks.length d3)) := ⟨by rw [hLd]; exact fun X h => h.cells⟩
  have hLa : Aside0 (∀ X Y W ob, L X → Below X.heap.size X Y → Fr (Y.alloc ob) W (fun q => X.heap.size ≤ q ∧ q < Y.heap.size) → L W) := ⟨by rw [hLd]; exact fun X Y W ob h hb hF => h.after hb hF⟩
  have hLw : Aside0 (∀ X, L X → Below w.heap.size w X) := ⟨by rw [hLd]; exact fun X h => h.bel⟩
  have kKn : Aside0 (∀ X, L X → Calls Tryd.prog 15 #[] X fun e w' => e = .returned (.bool true) ∧ Below X.heap.size X w') := ⟨by rw [hLd]; exact fun X h => Known h.tab⟩
  have kKp : Aside0 (∀ X, L X → Calls Tryd.prog 29 #[.agg #[.slice (some ⟨g, 0, none⟩) c.code.length cap, .int .u16 c.entry, .slice B2 c.efs.length d2, .slice B3 c.bks.length d3], .agg #[.slice A0 c.code.length c0, .int .u16 c.entry, .slice A2 c.efs.length c2, .slice A3 c.bks.length c3]] X fun e w' => e = .returned (.bool true) ∧ Below X.heap.size X w') := ⟨by rw [hLd]; exact fun X h => KeptAll h.own h.isc hzz.out.s0 hzz.out.s2 hzz.out.s3 hzz.out.sb⟩
  have kCk : Aside0 (∀ X, L X → Calls Tryd.prog 17 #[.agg #[.slice (some ⟨g, 0, none⟩) c.code.length cap, .int .u16 c.entry, .slice B2 c.efs.length d2, .slice B3 c.bks.length d3]] X fun e w' => e = .returned (.int .i64 74) ∧ Below X.heap.size X w') := ⟨by rw [hLd]; exact fun X h => (chk_bad hoo.out) ▸ kChk h.ct he.out.1 he.out.2⟩
  have kRE : Aside0 (∀ X, L X → Calls Tryd.prog 25 #[.agg #[.slice A0 c.code.length c0, .int .u16 c.entry, .slice A2 c.efs.length c2, .slice A3 c.bks.length c3]] X fun e w' => e = .returned (.tuple #[.slice none 0 0, .int .i64 74]) ∧ Below X.heap.size X w') := ⟨by rw [hLd]; exact fun X h => REncode_bad h.isc hoo.out he.out.1 he.out.2⟩
  have kEn : Aside0 (∀ X, L X → Calls Tryd.prog 16 #[.agg #[.slice (some ⟨g, 0, none⟩) c.code.length cap, .int .u16 c.entry, .slice B2 c.efs.length d2, .slice B3 c.bks.length d3]] X fun e w' => e = .returned (.tuple #[.slice none 0 0, .int .i64 74]) ∧ Below X.heap.size X w') := ⟨by rw [hLd]; exact fun X h => kEncB h.ct hoo.out he.out.1 he.out.2⟩
  have kSu : Aside0 (∀ X, L X → Calls Tryd.prog 26 #[.agg #[.slice (some ⟨g, 0, none⟩) c.code.length cap, .int .u16 c.entry, .slice B2 c.efs.length d2, .slice B3 c.bks.length d3]] X fun e w' => e = .returned (.tuple #[.int .u32 0, .int .i64 74]) ∧ Below X.heap.size X w') := ⟨by rw [hLd]; exact fun X h => CSum_bad h.own.isc hoo.out he.out.1 he.out.2⟩
  obtain ⟨E, hE⟩ : ∃ E, ([] : List Int) = E := ⟨_, rfl⟩
  have hlE : (0 : Nat) ≤ 524288 := by omega
  have hn5 : E.length = 0 := by rw [← hE]; rfl
  have hnil : Aside0 (∀ X, Kd.C (Kd.int .u8) X none 0 E ∧ ∀ base, Kd.R (Kd.int .u8) 5 X base (fun _ => True) (.slice none 0 0) E) := ⟨by rw [← hE]; exact fun X => ⟨C_non _ X, fun base => Kd.R_nil _ _ _ _ _⟩⟩
  clear hE
  obtain ⟨sb, hsb⟩ : ∃ sb, strOfNums E = sb := ⟨_, rfl⟩
  have hcv : Aside0 (∀ X A k, Kd.C (Kd.int .u8) X A 0 E → (convert 22 9 (.slice A 0 k)).run Tryd.prog X = .ok (.string sb) X) := ⟨fun X A k hC => by
    rw [← hn5] at hC ⊢
    have h := Kd.C_string (P := Tryd.prog) (c := k) Tryd.underlying22 Tryd.underlying5 Tryd.underlying9 hC
    rw [hsb] at h
    exact h⟩
  have hcr : Aside0 (∀ X base A k, Kd.R (Kd.int .u8) 5 X base (fun _ => True) (.slice A 0 k) E → (convert 22 9 (.slice A 0 k)).run Tryd.prog X = .ok (.string sb) X) := ⟨fun X base A k hR => by
    have h := (Kd.R_reads' hR).2.2
    rw [hn5] at h
    exact hcv.out X A k h⟩
  have hEs : Aside0 (E.length ≤ 140737488351232) := ⟨by omega⟩
  have hd5 : decide ((0 : Int) ≤ 524288) = true := decide_eq_true (by omega)
  clear hLd hII hTT hww hzz hoo he hsb hL0 hn5
  generalize c.code.length = n0 at *
  generalize c.entry = ent at *
  generalize c.efs.length = n2 at *
  generalize c.bks.length = n3 at *
  obtain ⟨p0, p1, p2, p3, p4, p5, p6, p7⟩ := hLc.out _ hL.out
  go_wp2_with (first | (go_at_call 25; ((with_reducible refine (kRE.out _ hL.out).mono ?_); rintro e X1 ⟨rfl, hb_⟩; have n0_ := Aside0.mk (hLb.out _ _ hL.out hb_); clear hL; have hL := n0_; clear n0_; (try clear p0 p1 p2 p3 p4 p5 p6 p7); obtain ⟨p0, p1, p2, p3, p4, p5, p6, p7⟩ := hLc.out _ hL.out; (try (have n1_ := Aside0.mk (Kd.C_below h5.out hb_); clear h5; have h5 := n1_; clear n1_; (try clear v5); have v5 := hcv.out _ _ 0 h5.out)); (try (have n2_ := Aside0.mk (Kd.R_below h6.out hb_); clear h6; have h6 := n2_; clear n2_; (try clear v6); have v6 := hcr.out _ _ _ _ h6.out)); (try (have n3_ := Aside0.mk (hbe.out.trans (hb_.mono hbe.out.size)); clear hbe; have hbe := n3_; clear n3_)); clear hb_; have h5 := Aside0.mk (hnil.out X1).1; have v5 := hcv.out _ _ 0 h5.out)) | (go_at_call 17; ((with_reducible refine (kCk.out _ hL.out).mono ?_); rintro e X1 ⟨rfl, hb_⟩; have n0_ := Aside0.mk (hLb.out _ _ hL.out hb_); clear hL; have hL := n0_; clear n0_; (try clear p0 p1 p2 p3 p4 p5 p6 p7); obtain ⟨p0, p1, p2, p3, p4, p5, p6, p7⟩ := hLc.out _ hL.out; (try (have n1_ := Aside0.mk (Kd.C_below h5.out hb_); clear h5; have h5 := n1_; clear n1_; (try clear v5); have v5 := hcv.out _ _ 0 h5.out)); (try (have n2_ := Aside0.mk (Kd.R_below h6.out hb_); clear h6; have h6 := n2_; clear n2_; (try clear v6); have v6 := hcr.out _ _ _ _ h6.out)); (try (have n3_ := Aside0.mk (hbe.out.trans (hb_.mono hbe.out.size)); clear hbe; have hbe := n3_; clear n3_)); clear hb_)) | (go_at_call 16; ((with_reducible refine (kEn.out _ hL.out).mono ?_); rintro e X1 ⟨rfl, hb_⟩; have hLe := hL; have hbe_ := hb_; have n0_ := Aside0.mk (hLb.out _ _ hL.out hb_); clear hL; have hL := n0_; clear n0_; (try clear p0 p1 p2 p3 p4 p5 p6 p7); obtain ⟨p0, p1, p2, p3, p4, p5, p6, p7⟩ := hLc.out _ hL.out; (try (have n1_ := Aside0.mk (Kd.C_below h5.out hb_); clear h5; have h5 := n1_; clear n1_; (try clear v5); have v5 := hcv.out _ _ 0 h5.out)); (try (have n2_ := Aside0.mk (Kd.R_below h6.out hb_); clear h6; have h6 := n2_; clear n2_; (try clear v6); have v6 := hcr.out _ _ _ _ h6.out)); (try (have n3_ := Aside0.mk (hbe.out.trans (hb_.mono hbe.out.size)); clear hbe; have hbe := n3_; clear n3_)); clear hb_; have h6 := Aside0.mk (pick_base hbe_ (hnil.out X1).2); have v6 := hcr.out _ _ _ 0 h6.out; have hbe := Aside0.mk hbe_; clear hbe_)) | (go_at_call 26; ((with_reducible refine (kSu.out _ hL.out).mono ?_); rintro e X1 ⟨rfl, hb_⟩; have n0_ := Aside0.mk (hLb.out _ _ hL.out hb_); clear hL; have hL := n0_; clear n0_; (try clear p0 p1 p2 p3 p4 p5 p6 p7); obtain ⟨p0, p1, p2, p3, p4, p5, p6, p7⟩ := hLc.out _ hL.out; (try (have n1_ := Aside0.mk (Kd.C_below h5.out hb_); clear h5; have h5 := n1_; clear n1_; (try clear v5); have v5 := hcv.out _ _ 0 h5.out)); (try (have n2_ := Aside0.mk (Kd.R_below h6.out hb_); clear h6; have h6 := n2_; clear n2_; (try clear v6); have v6 := hcr.out _ _ _ _ h6.out)); (try (have n3_ := Aside0.mk (hbe.out.trans (hb_.mono hbe.out.size)); clear hbe; have hbe := n3_; clear n3_)); clear hb_)) | (go_at_call 11; ((with_reducible refine (kNum _ _).mono ?_); rintro e X1 ⟨rfl, hb_⟩; have n0_ := Aside0.mk (hLb.out _ _ hL.out hb_); clear hL; have hL := n0_; clear n0_; (try clear p0 p1 p2 p3 p4 p5 p6 p7); obtain ⟨p0, p1, p2, p3, p4, p5, p6, p7⟩ := hLc.out _ hL.out; (try (have n1_ := Aside0.mk (Kd.C_below h5.out hb_); clear h5; have h5 := n1_; clear n1_; (try clear v5); have v5 := hcv.out _ _ 0 h5.out)); (try (have n2_ := Aside0.mk (Kd.R_below h6.out hb_); clear h6; have h6 := n2_; clear n2_; (try clear v6); have v6 := hcr.out _ _ _ _ h6.out)); (try (have n3_ := Aside0.mk (hbe.out.trans (hb_.mono hbe.out.size)); clear hbe; have hbe := n3_; clear n3_)); clear hb_)) | (go_at_call 28; ((with_reducible refine (apart1 h6.out hEs.out hbe.out.size).mono ?_); rintro e X1 ⟨rfl, hF_⟩; have hL := Aside0.mk (hLa.out _ _ _ _ hLe.out hbe.out hF_); clear p0 p1 p2 p3 p4 p5 p6 p7; obtain ⟨p0, p1, p2, p3, p4, p5, p6, p7⟩ := hLc.out _ hL.out; clear hF_)) | (go_at_call 29; ((with_reducible refine (kKp.out _ hL.out).mono ?_); rintro e X1 ⟨rfl, hb_⟩; have hL := Aside0.mk (hLb.out _ _ hL.out hb_); clear hb_)) | (go_at_call 15; ((with_reducible refine (kKn.out _ hL.out).mono ?_); rintro e X1 ⟨rfl, hb_⟩; have hL := Aside0.mk (hLb.out _ _ hL.out hb_); clear hb_)))
  go_ret
  exact ⟨rfl, hLw.out _ hL.out⟩
/-- the law, for every cartridge -/
theorem EncAll {w : World} {A0 A2 A3 : Option Addr} {n0 c0 n2 c2 n3 c3 : Nat} {y : Int} {c : CartP} (hT : Tab w) (hct : CtV w (.agg #[.slice A0 n0 c0, .int .u16 y, .slice A2 n2 c2, .slice A3 n3 c3]) c ∧ WfC c) (hz : Szs c) :
    Calls Tryd.prog 7 #[.agg #[.slice A0 n0 c0, .int .u16 y, .slice A2 n2 c2, .slice A3 n3 c3]] w fun e w' => e = .returned (.bool true) ∧ Below w.heap.size w w' := by
  obtain ⟨⟨a0, d0, a2, d2, a3, d3, e, hI⟩, hwf⟩ := hct
  unfold crt at e
  simp only [Value.agg.injEq, Array.mk.injEq, List.cons.injEq, Value.slice.injEq, Value.int.injEq, and_true, true_and] at e
  obtain ⟨⟨rfl, rfl, rfl⟩, rfl, ⟨rfl, rfl, rfl⟩, rfl, rfl, rfl⟩ := e
  by_cases h : OkC c
  · exact Enc_ok hT hI hwf hz h
  · exact Enc_bad hT hI hwf hz h
end Go.Proofs.YtembdahclmffjaaDoor.Pk
