/- Apart of rows of structs ((*wisp/wisplaw02.shelf).apart): the walk. -/
import Derived.Test.YtjphhnhloeanlaaGp
import Derived.Test.YtjphhnhloeanlaaPx5
import Derived.WalkSpells
import Derived.Lib.SliceRun
import Derived.Outline
import Derived.Deep.LoopGhost
namespace Go.Proofs.Ytjphhnhloeanlaa.Gp
open Go.RowKit Go.Proofs.YtjphhnhloeanlaaW.PrintWords Go.Proofs.YtjphhnhloeanlaaW.PrintLast Go.Proofs.YtjphhnhloeanlaaW.PrintMore Go.Proofs.Ytjphhnhloeanlaa.Mem
set_option linter.unusedVariables false
set_option linter.unusedSimpArgs false
theorem infoL : (Try.prog.info? 57).map (fun i => (i.zero, i.size, i.bytes)) = some (some (.slice none 0 0), 1, 24) := by kernel_rfl
/-- the mark of row j -/
def Mj (j : Nat) : P.S25 := ⟨-1000 - (j : Int), 0⟩
theorem seg_all {cs seg : List Value} {m : Nat} (h : cs.length = m) (hl : seg.length = m) : cs.take 0 ++ seg ++ cs.drop (0 + seg.length) = seg := by
  rw [List.take_zero, List.nil_append, List.drop_of_length_le (by omega), List.append_nil]
theorem flat : Flat P.k25 := ⟨rfl, fun w w' x cs h => by have := P.k25_open h; subst this; exact P.k25_mk w' x⟩
theorem same_l (xs : List P.S25) (h : xs.length ≤ 4611686018427387903) : ∀ d i k, i + d = xs.length → d < k → P.wisplaw02_same.l0 k xs xs (i : Int) = some true := by
  intro d
  induction d with
  | zero =>
    intro i k hi hk
    obtain ⟨k, rfl⟩ : ∃ m, k = m + 1 := ⟨k - 1, by omega⟩
    simp only [P.wisplaw02_same.l0]
    rw [if_neg (by omega)]
  | succ d ih =>
    intro i k hi hk
    obtain ⟨k, rfl⟩ : ∃ m, k = m + 1 := ⟨k - 1, by omega⟩
    have hn := ih (i + 1) k (by omega) (by omega)
    have hw : wrap64 ((i : Int) + 1) = ((i + 1 : Nat) : Int) := by unfold wrap64; omega
    simp only [P.wisplaw02_same.l0, hw, hn]
    rw [if_pos (by omega), if_pos (by omega), if_pos (by omega), if_neg (by simp)]
theorem same_at {w : World} {A0 A1 : Option Addr} {c0 c1 : Nat} {xs : List P.S25} (h0 : Kd.C P.k25 w A0 xs.length xs) (h1 : Kd.C P.k25 w A1 xs.length xs) (l0 : xs.length ≤ c0) (l1 : xs.length ≤ c1) (h : xs.length ≤ 4611686018427387903) (W : World) (hb : Below w.heap.size w W) (q : Nat) :
    Calls Try.prog 29 #[.slice A0 xs.length c0, .slice A1 xs.length c1] (W.drewN q) fun e w' => e = .returned (.bool true) ∧ ∃ m, w' = (W.drewN q).drewN m := by
  have hb2 := pw_below_drewN hb q
  refine (P.wisplaw02_same.calls (xs.length + 1) A0 c0 xs A1 c1 xs true _ (Kd.C_below h0 hb2) l0 (Kd.C_below h1 hb2) l1 ?_).mono fun e w' ⟨a, b⟩ => ⟨a, by obtain ⟨m, b⟩ := b; exact ⟨m, b⟩⟩
  unfold P.wisplaw02_same.f
  rw [if_pos rfl]
  exact same_l xs h xs.length 0 (xs.length + 1) (by omega) (by omega)
set_option maxRecDepth 100000 in
set_option maxHeartbeats 4000000 in
theorem Apart {w : World} {base n O O2 c d kb : Nat} {V : Nat → Value} {L : Nat → Nat} {X : Nat → List P.S25} (hX : Rows P.k25 25 w base n V L X) (hO : ∀ j, j < n → w.cell? ⟨O, j, none⟩ = some (V j)) (hne : ∀ j, j < n → (V j).ownBlock ≠ some O) (hOl : O < w.heap.size) (hn : n ≤ 100) (hL : ∀ j, j < n → L j ≤ 1000000000) (hbase : base ≤ w.heap.size) (hk0 : w.cell? ⟨kb, 0, none⟩ = some (.slice (some ⟨O, 0, none⟩) n c)) (hk1 : w.cell? ⟨kb, 1, none⟩ = some (.slice (some ⟨O2, 0, none⟩) n d)) (hkne : ∀ j, j < n → (V j).ownBlock ≠ some kb) (hW : ∀ j, j < n → ∃ A c, w.cell? ⟨O2, j, none⟩ = some (.slice A (L j) c) ∧ L j ≤ c ∧ Kd.C P.k25 w A (L j) (X j)) :
    Calls Try.prog 37 #[.pointer (some ⟨kb, 0, none⟩)] w fun e w' => e = .returned (.bool true) ∧ Fr w w' (fun q => ∃ j, j < n ∧ (V j).ownBlock = some q) := by
  have hXX := Aside0.mk hX
  have hOO := Aside0.mk hO
  have hNN := Aside0.mk hne
  have hLL := Aside0.mk hL
  have hkbl := World.block_lt_of_cell? _ _ hk0
  have hkk0 := Aside0.mk hk0
  have hkk1 := Aside0.mk hk1
  have hkn := Aside0.mk hkne
  have hWW := Aside0.mk hW
  clear hX hO hne hL hk0 hk1 hkne hW
  go_enter Try.func37, Try.ntmps37
  go_wp2
  go_loopg [3] n (fun gk v3 wr => ∃ (i m : Nat), v3 = .int .i64 (i : Int) ∧ i + gk = n ∧ wr = w.drewN m)
  case atStart => exact ⟨0, 0, rfl, by omega, rfl⟩
  case round =>
    obtain ⟨i0, md, rfl, hi0, hwd⟩ := hrel
    have hB0 := Aside0.mk (show Below w.heap.size w wr by rw [hwd]; exact pw_below_drewN (Below.refl _ _) md)
    have hk0 : wr.cell? ⟨kb, 0, none⟩ = some (.slice (some ⟨O, 0, none⟩) n c) := (hB0.out.cell hkbl).trans hkk0.out
    have hk1 : wr.cell? ⟨kb, 1, none⟩ = some (.slice (some ⟨O2, 0, none⟩) n d) := (hB0.out.cell hkbl).trans hkk1.out
    cases gk with
    | succ k0 =>
      have hd : decide ((i0 : Int) < (n : Int)) = true := decide_eq_true (by omega)
      have hd' : decide (i0 < n) = true := decide_eq_true (by omega)
      have hin : i0 < n := by omega
      obtain ⟨A1, c1, e1, hl1, hC1⟩ := Kd.R_reads (hXX.out.R i0 hin)
      rw [hXX.out.len i0 hin] at e1 hl1
      have hx0 := hOO.out i0 hin
      rw [e1] at hx0
      obtain ⟨A2, c2, hx1, hl2, hC2⟩ := hWW.out i0 hin
      replace hx0 := (hB0.out.cell (World.block_lt_of_cell? _ _ hx0)).trans hx0
      replace hx1 := (hB0.out.cell (World.block_lt_of_cell? _ _ hx1)).trans hx1
      have kS := same_at (A0 := A1) (A1 := A2) (c0 := c1) (c1 := c2) hC1 (by rw [← hXX.out.len i0 hin] at hC2; exact hC2) (by rw [hXX.out.len i0 hin]; exact hl1) (by rw [hXX.out.len i0 hin]; exact hl2) (by have := hLL.out i0 hin; rw [hXX.out.len i0 hin]; omega) wr hB0.out
      rw [hXX.out.len i0 hin] at kS
      have kSS := Aside0.mk kS
      have hwdd := Aside0.mk hwd
      generalize L i0 = m0 at hx0 hx1 kSS
      clear e1 hl1 hC1 hl2 hC2 kS hwd
      go_wp2
      go_quiet ((go_at_call 29; with_reducible exact Calls.quiet_of (kSS.out _)))
      go_wp2
      go_roundg k0
      case measure => omega
      case rel => exact ⟨i0 + 1, md + nq, rfl, by omega, by rw [hwdd.out, World.drewN_drewN]⟩
    | zero =>
      have hd : decide ((i0 : Int) < (n : Int)) = false := decide_eq_false (by omega)
      have hd' : decide (i0 < n) = false := decide_eq_false (by omega)
      obtain ⟨W0, hWe⟩ : ∃ W0, W0 = wr := ⟨_, rfl⟩
      have hW0 : Aside0 (Below w.heap.size w W0) := ⟨by rw [hWe]; exact hB0.out⟩
      have hXX0 := Aside0.mk (show Rows P.k25 25 W0 base n V L X from ⟨fun j hj => Kd.R_below (hXX.out.R j hj) hW0.out, hXX.out.len, hXX.out.apart⟩)
      have outr0 : Aside0 (∀ {W : World}, Fr W0 W (fun q => ∃ j, j < n ∧ (V j).ownBlock = some q) → ∀ j, j < n → W.cell? ⟨O, j, none⟩ = some (V j)) := ⟨fun hF j hj => by
        rw [← hOO.out j hj]
        exact World.cell?_of_block ((hF.block O (Nat.lt_of_lt_of_le hOl hW0.out.size) (fun ⟨j, hj, e⟩ => hNN.out j hj e)).trans (hW0.out.block O hOl))⟩
      have outk : Aside0 (∀ {W : World}, Fr W0 W (fun q => ∃ j, j < n ∧ (V j).ownBlock = some q) → W.cell? ⟨kb, 0, none⟩ = some (.slice (some ⟨O, 0, none⟩) n c)) := ⟨fun hF => by
        rw [← hkk0.out]
        exact World.cell?_of_block (a := ⟨kb, 0, none⟩) ((hF.block kb (Nat.lt_of_lt_of_le hkbl hW0.out.size) (fun ⟨j, hj, e⟩ => hkn.out j hj e)).trans (hW0.out.block kb hkbl))⟩
      clear hk1 hwd hB0
      rw [← hWe] at hk0 ⊢
      have hbase0 : base ≤ W0.heap.size := by have := hW0.out.size; omega
      clear hWe hi0
      go_wp2
      clear hd hd' hk0
      go_loopg [4, 5] n (fun gk v4 v5 wr => ∃ (i : Nat), v4 = .int .i64 (i : Int) ∧ i + gk = n ∧ Aside0 (Over P.k25 25 W0 wr base n V L Mj i 0))
      case atStart => exact ⟨0, rfl, by omega, ⟨Over.start hXX0.out⟩⟩
      case round =>
        obtain ⟨i, rfl, hi, hOv⟩ := hrel
        cases gk with
        | succ k1 =>
          have hd : decide (i < n) = true := decide_eq_true (by omega)
          have hin : i < n := by omega
          obtain ⟨A, cc, hv, hlc⟩ := hOv.out.shape hin
          have hvv := Aside0.mk hv
          obtain ⟨m, hm⟩ : ∃ m, m = L i := ⟨_, rfl⟩
          have hmm := Aside0.mk hm
          clear hv hm
          have hkb := outk.out hOv.out.F
          go_wp2
          go_loopg [5] m (fun gk v5 wr2 => ∃ (k : Nat), v5 = .int .i64 (k : Int) ∧ k + gk = m ∧ Aside0 (Over P.k25 25 W0 wr2 base n V L Mj i k))
          case atStart => exact ⟨0, rfl, by omega, hOv⟩
          case round =>
            obtain ⟨k, rfl, hk, hOv2⟩ := hrel
            clear hOv
            have hx2 := outr0.out hOv2.out.F i hin
            cases gk with
            | succ k2 =>
              have hd2 : decide (k < m) = true := decide_eq_true (by omega)
              obtain ⟨g, c2, hv2⟩ := hOv2.out.addr hin (by have := hmm.out; omega)
              rw [hvv.out] at hx2
              have hv3 := hv2
              rw [hvv.out] at hv3
              injection hv3 with e1 e2 e3
              subst e1 e3
              rw [← hmm.out] at hx2
              have hkL : k < L i := by have := hmm.out; omega
              obtain ⟨X, hX2, hdn, hpk⟩ := hOv2.out.rows
              have hRi := hX2.R i hin
              rw [hv2] at hRi
              obtain ⟨_, _, hCi⟩ := Kd.R_reads' hRi
              obtain ⟨ad, cs, e0, hcl, hK, hcc⟩ := Kd.C_get hCi P.z25 (k : Int) (by omega) (by rw [hX2.len i hin]; omega)
              cases e0
              have hcc2 : ∀ j u, cs[j]? = some u → wr.cell? ⟨g, (k : Int).toNat * P.k25.sz + j, none⟩ = some u := fun j u hj => by
                have := hcc j u hj
                rw [add_plain] at this
                exact this
              have hRm := hRi
              rw [← hmm.out] at hRm
              have hRR := Aside0.mk hRm
              have hcl2 := Aside0.mk hcl
              have hcc3 := Aside0.mk hcc2
              have hW1 : Aside0 (∀ {W'}, P.k25.R 25 W' base (fun _ => True) (.slice (some ⟨g, 0, none⟩) (L i) cc) ((X i).set (k : Int).toNat (Mj i)) → wr.grownBy W' (some g) → Over P.k25 25 W0 W' base n V L Mj i (k + 1)) := ⟨fun h1 h2 => Over.write flat hOv2.out.F hX2 hdn hpk hin hkL hv2 (by rw [Int.toNat_natCast] at h1; exact h1) h2⟩
              clear e2 hv2 hX2 hdn hpk hRi hRm hCi hcl hK hcc hcc2
              skip
              have hm63 : m ≤ 1000000000 := by have := hLL.out i hin; have := hmm.out; omega
              have hmL := Aside0.mk (hmm.out : m = L i)
              have hkb := outk.out hOv2.out.F
              go_wp2_with ((with_reducible refine gate_store (t := 25) (p := 70) rfl ?_); refine Kd.R_store P.k25 (w0 := wr) base (by rfl) rfl 25 (.tmp 70) (.tmp 69) rfl 25 (k : Int) 0 (X i) (Mj i) _ ([.int .i64 (-1000 - (i : Int)), .int .i64 0]) cs (fun _ => True) (fun _ => False) rfl (by rw [Int.toNat_natCast]; rfl) rfl rfl (by kernel_rfl) (by intro q hq; simp only [List.mem_cons, List.not_mem_nil, or_false] at hq; rcases hq with rfl | rfl <;> rfl) hRR.out (by omega) (by omega) hcl2.out hcc3.out (Nat.le_of_eq rfl) (by rw [seg_all (m := 2) hcl2.out rfl]; exact P.k25_mkM _ _ _ (Mj i)) (fun q hq => hq.elim) (Below.refl _ _) ?_; intro w5 ho _ hg; rw [hmm.out] at ho; have hO5 := Aside0.mk (hW1.out ho hg); clear ho hg)
              go_roundg k2
              case measure => omega
              case rel => exact ⟨k + 1, rfl, by omega, hO5⟩
            | zero =>
              have hd2 : decide (k < m) = false := decide_eq_false (by omega)
              rw [hvv.out, ← hmm.out] at hx2
              have hkb := outk.out hOv2.out.F
              go_wp2
              go_roundg k1
              case measure => omega
              case rel => exact ⟨i + 1, rfl, by omega, ⟨by
                have e : k = L i := by have := hmm.out; omega
                have h := hOv2.out
                rw [e] at h
                exact h.next hin⟩⟩
        | zero =>
          have hin : i = n := by omega
          subst hin
          have hd : decide (i < i) = false := decide_eq_false (by omega)
          obtain ⟨W1, rfl⟩ : ∃ W1, W1 = wr := ⟨_, rfl⟩
          have hX1 := Aside0.mk hOv.out.done
          have hF1 := Aside0.mk hOv.out.F
          have hs1 := hF1.out.size
          clear hOv
          have hkb := outk.out hF1.out
          go_wp2
          go_loopg [6, 7, 8, 9] i (fun gk v6 v7 v8 v9 wr2 => ∃ (j : Nat) (v : Value) (D : List (Option Addr × Nat × Nat)), v6 = v ∧ v7 = .int .i64 (j : Int) ∧ j + gk = i ∧ Aside0 (Long P.k25 57 W1 wr2 i V L Mj j v D))
          case atStart => exact ⟨0, _, _, rfl, rfl, by omega, ⟨Long.start _ _ _ _ _⟩⟩
          case round =>
            obtain ⟨j, v6, D, hv5, rfl, hj, hLg⟩ := hrel
            replace hv5 := hv5.symm
            subst hv5
            cases gk with
            | succ k1 =>
              have hd : decide (j < i) = true := decide_eq_true (by omega)
              have hjn : j < i := by omega
              have hF2 : Fr W0 wr (fun q => ∃ j, j < i ∧ (V j).ownBlock = some q) := hF1.out.trans hLg.out.F (fun q _ ⟨j', hj', e⟩ => ⟨j', by omega, e⟩)
              have hx := outr0.out hF2 j hjn
              have hrow := hLg.out.row flat hX1.out hjn
              have hG0 := Aside0.mk (Grow.start hrow)
              obtain ⟨A, cc, hv, hlc, _⟩ := Kd.R_reads hrow
              rw [List.length_replicate] at hv
              obtain ⟨u, hu⟩ : ∃ u, u = V j := ⟨_, rfl⟩
              rw [← hu] at hx
              have huu := Aside0.mk hu
              clear hv hlc hrow hF2 hu
              obtain ⟨W2, rfl⟩ : ∃ W2, W2 = wr := ⟨_, rfl⟩
              have hkb := outk.out (hF1.out.trans hLg.out.F (fun q _ ⟨j', hj', e⟩ => ⟨j', by omega, e⟩))
              go_wp2
              go_loopg [8, 9] 80 (fun gk v8 v9 wr2 => ∃ (k : Nat) (v : Value), v8 = v ∧ v9 = .int .i64 (k : Int) ∧ k + gk = 80 ∧ Aside0 (Grow P.k25 25 W2 wr2 base (V j) (L j) (Mj j) k v))
              case atStart => exact ⟨0, u, rfl, rfl, by omega, ⟨by rw [huu.out]; exact hG0.out⟩⟩
              case round =>
                obtain ⟨k, x, hx7, rfl, hk, hG⟩ := hrel
                replace hx7 := hx7.symm
                subst hx7
                cases gk with
                | succ k2 =>
                  have hd2 : decide ((k : Int) < 80) = true := decide_eq_true (by omega)
                  have hlen : Aside0 ((List.replicate (L j + k) (Mj j)).length + 1 ≤ maxLen) := ⟨by rw [List.length_replicate]; have := hLL.out j hjn; unfold maxLen; omega⟩
                  have hlen2 : Aside0 (((List.replicate (L j + k) (Mj j)).length + 1) * 16 ≤ 140737488355328) := ⟨by rw [List.length_replicate]; have := hLL.out j hjn; omega⟩
                  have hbs : Aside0 (base ≤ wr.heap.size) := ⟨by have := hG.out.F.size; have := hLg.out.F.size; omega⟩
                  skip
                  go_wp2_with (at_builtin; go_must (refine app1 (P := Try.prog) (d := P.k25) (e := 25) (Mj j) ([.int .i64 (-1000 - (j : Int)), .int .i64 0]) (t := 57) (.agg #[(.int .i64 0), (.int .i64 0)]) 16 rfl _ _ rfl rfl rfl Try.underlying57 P.info25 rfl (by decide) (fun W0 b ok => P.k25_mkM W0 b ok (Mj j)) hG.out.R hbs.out hlen.out hlen2.out ?_); intro v1 w1 hR hg hat; have hG1 := Aside0.mk (hG.out.step flat hR hg hat); clear hR hg hat)
                  go_roundg k2
                  case measure => omega
                  case rel => exact ⟨k + 1, v1, rfl, rfl, by omega, hG1⟩
                | zero =>
                  have hk80 : k = 80 := by omega
                  subst hk80
                  have hd2 : decide (((80 : Nat) : Int) < 80) = false := rfl
                  obtain ⟨g, cx, e, _⟩ := Kd.R_form hG.out.R (by rw [List.length_replicate]; omega)
                  rw [List.length_replicate] at e
                  subst e
                  have hRL := Aside0.mk (hLg.out.keep hX1.out hjn hG.out)
                  have hbs : Aside0 (W1.heap.size ≤ wr.heap.size) := ⟨by have := hG.out.F.size; have := hLg.out.F.size; omega⟩
                  have hlen : Aside0 ((D.length + 1) * 24 ≤ 140737488355328) := ⟨by rw [hLg.out.len]; omega⟩
                  go_wp2_with (at_builtin; go_must (refine Kd.R_append dsc (w0 := wr) W1.heap.size rfl _ _ 68 57 (.slice none 0 0) 24 rfl Try.underlying68 infoL rfl (by decide) (by decide) v6 D (some ⟨g, 0, none⟩, L j + 80, cx) [.slice (some ⟨g, 0, none⟩) (L j + 80) cx] (fun _ => True) (fun _ => False) rfl rfl rfl (fun k hk => hk.elim) (fun _ _ => trivial) hRL.out (Below.refl _ _) hbs.out hlen.out ?_); intro v1 w1 hR hb hg hat; have hL1 := Aside0.mk (hLg.out.step flat hX1.out hjn hG.out hR hg hat); clear hR hb hg hat)
                  go_roundg k1
                  case measure => omega
                  case rel => exact ⟨j + 1, v1, _, rfl, rfl, by omega, hL1⟩
            | zero =>
              have hjn : j = i := by omega
              subst hjn
              have hd : decide (j < j) = false := decide_eq_false (by omega)
              obtain ⟨A, cL, e, _, hCL⟩ := Kd.R_reads hLg.out.R
              rw [hLg.out.len] at e hCL
              subst e
              have hCC := Aside0.mk hCL
              clear hCL
              have hF2 := Aside0.mk (hF1.out.trans hLg.out.F (fun q _ ⟨j', hj', e⟩ => ⟨j', by omega, e⟩) : Fr W0 wr (fun q => ∃ i, i < j ∧ (V i).ownBlock = some q))
              obtain ⟨W3, rfl⟩ : ∃ W3, W3 = wr := ⟨_, rfl⟩
              have hkb := outk.out hF2.out
              go_wp2
              go_loopg [10, 11] j (fun gk v10 v11 wr2 => ∃ (i : Nat), v10 = .int .i64 (i : Int) ∧ i + gk = j ∧ Aside0 (Below W3.heap.size W3 wr2))
              case atStart => exact ⟨0, rfl, by omega, ⟨Below.refl _ _⟩⟩
              case round =>
                obtain ⟨i, rfl, hi, hBw⟩ := hrel
                have hF3 := Aside0.mk (hF2.out.trans (Fr.of_below hBw.out (fun _ => False)) (fun _ _ e => e.elim))
                have hkb := outk.out hF3.out
                cases gk with
                | zero =>
                  have hd : decide (i < j) = false := decide_eq_false (by omega)
                  go_wp2
                  go_ret
                  exact ⟨rfl, (Fr.of_below hW0.out _).trans hF3.out (fun _ _ e => e)⟩
                | succ k1 =>
                  have hd : decide (i < j) = true := decide_eq_true (by omega)
                  have hij : i < j := by omega
                  obtain ⟨a0, cs, e0, _, hK, hx0⟩ := Kd.C_get hCC.out (none, 0, 0) (i : Int) (by omega) (by omega)
                  subst e0
                  obtain ⟨g, cg, hDi, hcg, hCg, _⟩ := hLg.out.new i hij
                  obtain ⟨A2, c2, hv2, hc2, hC2⟩ := hLg.out.old i hij
                  have hx2 := outr0.out hF2.out i hij
                  rw [hv2] at hx2
                  have hK2 : cs = [.slice (some ⟨g, 0, none⟩) (L i + 80) cg] := by
                    have e : D.getD (i : Int).toNat (none, 0, 0) = (some ⟨g, 0, none⟩, L i + 80, cg) := by rw [Int.toNat_natCast, List.getD_eq_getElem?_getD, hDi]; rfl
                    have h : cs = [Value.slice (D.getD (i : Int).toNat (none, 0, 0)).1 (D.getD (i : Int).toNat (none, 0, 0)).2.1 (D.getD (i : Int).toNat (none, 0, 0)).2.2] := hK
                    rw [e] at h
                    exact h
                  subst hK2
                  have hx1 := hx0 0 _ rfl
                  rw [Int.toNat_natCast, show dsc.sz = 1 from rfl, Nat.mul_one, Nat.add_zero] at hx1
                  have hli := hLL.out i hij
                  obtain ⟨n1, hn1⟩ : ∃ n1, n1 = L i := ⟨_, rfl⟩
                  obtain ⟨n2, hn2⟩ : ∃ n2, n2 = n1 + 80 := ⟨_, rfl⟩
                  rw [← hn1, ← hn2] at hx1 hCg
                  rw [← hn1] at hx2 hC2 hli
                  have hAll : Aside0 (∀ X, Below W3.heap.size W3 X → X.cell? (a0.add i) = some (.slice (some ⟨g, 0, none⟩) n2 cg) ∧ X.cell? ⟨O, i, none⟩ = some (.slice A2 n1 c2) ∧ Kd.C P.k25 X (some ⟨g, 0, none⟩) n2 (List.replicate n2 (Mj i)) ∧ Kd.C P.k25 X A2 n1 (List.replicate n1 (Mj i)) ∧ X.cell? ⟨kb, 0, none⟩ = some (.slice (some ⟨O, 0, none⟩) j c)) := ⟨fun X hb => ⟨(hb.cell (World.block_lt_of_cell? _ _ hx1)).trans hx1, (hb.cell (World.block_lt_of_cell? _ _ hx2)).trans hx2, Kd.C_below hCg hb, Kd.C_below hC2 hb, outk.out (hF2.out.trans (Fr.of_below hb (fun _ => False)) (fun _ _ e => e.elim))⟩⟩
                  have hn22 := Aside0.mk hn2
                  have hb : n2 ≤ 1000000080 := by omega
                  clear hK hx0 hDi hcg hCg hv2 hc2 hC2 hn1 hn2 hx1 hx2
                  go_wp2
                  go_loopg [11] n2 (fun gk v11 wr2 => ∃ (k : Nat), v11 = .int .i64 (k : Int) ∧ k + gk = n2 ∧ Aside0 (Below W3.heap.size W3 wr2))
                  case atStart => exact ⟨0, rfl, by omega, hBw⟩
                  case round =>
                    clear hBw hF3 hkb
                    obtain ⟨k, rfl, hk, hBw⟩ := hrel
                    obtain ⟨hx1, hx2, hCg, hC2, hkb⟩ := hAll.out _ hBw.out
                    cases gk with
                    | zero =>
                      have hd2 : decide (k < n2) = false := decide_eq_false (by omega)
                      clear hCg hC2
                      go_wp2
                      go_roundg k1
                      case measure => omega
                      case rel => exact ⟨i + 1, rfl, by omega, hBw⟩
                    | succ k2 =>
                      have hd2 : decide (k < n2) = true := decide_eq_true (by omega)
                      have hbA := below_alloc (Below.refl wr.heap.size wr) (.cells #[.int .i64 (-1000 - (i : Int)), .int .i64 0] 25)
                      have hBA := Aside0.mk (hBw.out.trans (hbA.mono hBw.out.size))
                      obtain ⟨hX1, hX2, hCG, hCO, hKB⟩ := hAll.out _ hBA.out
                      obtain ⟨a1, cs1, e1, _, hK1, hc1⟩ := Kd.C_get hCG P.z25 (k : Int) (by omega) (by omega)
                      cases e1
                      have hr1 : (List.replicate n2 (Mj i)).getD (k : Int).toNat P.z25 = Mj i := by
                        rw [Int.toNat_natCast, List.getD_eq_getElem?_getD, List.getElem?_replicate, if_pos (by omega)]; rfl
                      rw [hr1] at hK1
                      obtain rfl := P.k25_open hK1
                      have hy := hc1 0 _ rfl
                      have hy1 := hc1 1 _ rfl
                      rw [Int.toNat_natCast, add_plain, Nat.add_zero] at hy
                      rw [Int.toNat_natCast, add_plain] at hy1
                      change (wr.alloc (.cells #[.int .i64 (-1000 - (i : Int)), .int .i64 0] 25)).cell? ⟨g, k * 2, none⟩ = some (.int .i64 (-1000 - (i : Int))) at hy
                      change (wr.alloc (.cells #[.int .i64 (-1000 - (i : Int)), .int .i64 0] 25)).cell? ⟨g, k * 2 + 1, none⟩ = some (.int .i64 0) at hy1
                      clear hr1 hK1 hc1 hCG hCg hC2 hbA
                      by_cases hkl : k < n1
                      · have hd3 : decide (k < n1) = true := decide_eq_true hkl
                        obtain ⟨a2, cs2, e2, _, hK2, hc2⟩ := Kd.C_get hCO P.z25 (k : Int) (by omega) (by omega)
                        subst e2
                        have hr2 : (List.replicate n1 (Mj i)).getD (k : Int).toNat P.z25 = Mj i := by
                          rw [Int.toNat_natCast, List.getD_eq_getElem?_getD, List.getElem?_replicate, if_pos (by omega)]; rfl
                        rw [hr2] at hK2
                        obtain rfl := P.k25_open hK2
                        have hz := hc2 0 _ rfl
                        have hz1 := hc2 1 _ rfl
                        rw [Int.toNat_natCast, Nat.add_zero] at hz
                        rw [Int.toNat_natCast] at hz1
                        change (wr.alloc (.cells #[.int .i64 (-1000 - (i : Int)), .int .i64 0] 25)).cell? (a2.add (k * 2)) = some (.int .i64 (-1000 - (i : Int))) at hz
                        change (wr.alloc (.cells #[.int .i64 (-1000 - (i : Int)), .int .i64 0] 25)).cell? (a2.add (k * 2 + 1)) = some (.int .i64 0) at hz1
                        rw [add_field _ _ 1 (by omega)] at hz1
                        clear hr2 hK2 hc2 hCO
                        go_wp2
                        go_quiet (fail)
                        go_wp2
                        go_roundg k2
                        case measure => omega
                        case rel => exact ⟨k + 1, rfl, by omega, ⟨pw_below_drewN hBA.out _⟩⟩
                      · have hd3 : decide (k < n1) = false := decide_eq_false hkl
                        clear hCO
                        go_wp2
                        go_quiet (fail)
                        go_wp2
                        go_roundg k2
                        case measure => omega
                        case rel => exact ⟨k + 1, rfl, by omega, ⟨pw_below_drewN hBA.out _⟩⟩
end Go.Proofs.Ytjphhnhloeanlaa.Gp
