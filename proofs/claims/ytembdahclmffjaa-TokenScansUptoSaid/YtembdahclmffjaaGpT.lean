/- Apart of rows of structs (wisp/wisplaw09.apart): the walk. -/
import Derived.Test.YtembdahclmffjaaGp
import Derived.Test.YtembdahclmffjaaPx2
import Derived.WalkSpells
import Derived.Lib.SliceRun
import Derived.Outline
import Derived.Deep.LoopGhost
namespace Go.Proofs.Ytembdahclmffjaa.Gp
open Go.RowKit Go.Proofs.YtembdahclmffjaaW.PrintWords Go.Proofs.YtembdahclmffjaaW.PrintLast Go.Proofs.YtembdahclmffjaaW.PrintMore Go.Proofs.Ytembdahclmffjaa.Mem
set_option linter.unusedVariables false
set_option linter.unusedSimpArgs false
theorem infoL : (Try.prog.info? 22).map (fun i => (i.zero, i.size, i.bytes)) = some (some (.slice none 0 0), 1, 24) := by kernel_rfl
/-- the mark of row j -/
def Mj (j : Nat) : P.S30 := ⟨1000 + (j : Int), ⟨#[]⟩, 0, ⟨0, 0⟩⟩
theorem seg_all {cs seg : List Value} {m : Nat} (h : cs.length = m) (hl : seg.length = m) : cs.take 0 ++ seg ++ cs.drop (0 + seg.length) = seg := by
  rw [List.take_zero, List.nil_append, List.drop_of_length_le (by omega), List.append_nil]
theorem flat : Flat P.k30 := ⟨rfl, fun w w' x cs h => by have := P.k30_open h; subst this; exact P.k30_mk w' x⟩
set_option maxRecDepth 100000 in
set_option maxHeartbeats 4000000 in
theorem Apart {w : World} {base n O c : Nat} {V : Nat → Value} {L : Nat → Nat} {X : Nat → List P.S30} (hX : Rows P.k30 30 w base n V L X) (hO : ∀ j, j < n → w.cell? ⟨O, j, none⟩ = some (V j)) (hne : ∀ j, j < n → (V j).ownBlock ≠ some O) (hOl : O < w.heap.size) (hn : n ≤ 100) (hL : ∀ j, j < n → L j ≤ 1000000000) (hbase : base ≤ w.heap.size) :
    Calls Try.prog 14 #[.slice (some ⟨O, 0, none⟩) n c] w fun e w' => e = .returned (.bool true) ∧ Fr w w' (fun q => ∃ j, j < n ∧ (V j).ownBlock = some q) := by
  have hXX := Aside0.mk hX
  have hOO := Aside0.mk hO
  have hNN := Aside0.mk hne
  have hLL := Aside0.mk hL
  clear hX hO hne hL
  have outer : ∀ {W : World}, Fr w W (fun q => ∃ j, j < n ∧ (V j).ownBlock = some q) → ∀ j, j < n → W.cell? ⟨O, j, none⟩ = some (V j) := fun hF j hj => by
    rw [← hOO.out j hj]
    exact World.cell?_of_block (hF.block O hOl (fun ⟨j, hj, e⟩ => hNN.out j hj e))
  have outr := Aside0.mk @outer
  clear outer
  go_enter Try.func14, Try.ntmps14
  go_wp2
  go_loopg [3, 4] n (fun gk v3 v4 wr => ∃ (i : Nat), v3 = .int .i64 (i : Int) ∧ i + gk = n ∧ Aside0 (Over P.k30 30 w wr base n V L Mj i 0))
  case atStart => exact ⟨0, rfl, by omega, ⟨Over.start hXX.out⟩⟩
  case round =>
    obtain ⟨i, rfl, hi, hOv⟩ := hrel
    cases gk with
    | succ k1 =>
      have hd : decide (i < n) = true := decide_eq_true (by omega)
      have hin : i < n := by omega
      obtain ⟨A, cc, hv, hlc⟩ := hOv.out.shape hin
      have hvv := Aside0.mk hv
      obtain ⟨m, hm⟩ : ∃ m, m = L i := ⟨_, rfl⟩
      have hmm := Aside0.mk hm
      clear hv hm
      go_wp2
      go_loopg [4] m (fun gk v4 wr2 => ∃ (k : Nat), v4 = .int .i64 (k : Int) ∧ k + gk = m ∧ Aside0 (Over P.k30 30 w wr2 base n V L Mj i k))
      case atStart => exact ⟨0, rfl, by omega, hOv⟩
      case round =>
        obtain ⟨k, rfl, hk, hOv2⟩ := hrel
        clear hOv
        have hx2 := outr.out hOv2.out.F i hin
        cases gk with
        | succ k2 =>
          have hd2 : decide (k < m) = true := decide_eq_true (by omega)
          obtain ⟨g, c2, hv2⟩ := hOv2.out.addr hin (by have := hmm.out; omega)
          rw [hvv.out] at hx2
          have hv3 := hv2
          rw [hvv.out] at hv3
          injection hv3 with e1 e2 e3
          subst e1 e3
          rw [← hmm.out] at hx2
          have hkL : k < L i := by have := hmm.out; omega
          obtain ⟨X, hX2, hdn, hpk⟩ := hOv2.out.rows
          have hRi := hX2.R i hin
          rw [hv2] at hRi
          obtain ⟨_, _, hCi⟩ := Kd.R_reads' hRi
          obtain ⟨ad, cs, e0, hcl, hK, hcc⟩ := Kd.C_get hCi P.z30 (k : Int) (by omega) (by rw [hX2.len i hin]; omega)
          cases e0
          have hcc2 : ∀ j u, cs[j]? = some u → wr.cell? ⟨g, (k : Int).toNat * P.k30.sz + j, none⟩ = some u := fun j u hj => by
            have := hcc j u hj
            rw [add_plain] at this
            exact this
          have hRm := hRi
          rw [← hmm.out] at hRm
          have hRR := Aside0.mk hRm
          have hcl2 := Aside0.mk hcl
          have hcc3 := Aside0.mk hcc2
          have hW1 : Aside0 (∀ {W'}, P.k30.R 30 W' base (fun _ => True) (.slice (some ⟨g, 0, none⟩) (L i) cc) ((X i).set (k : Int).toNat (Mj i)) → wr.grownBy W' (some g) → Over P.k30 30 w W' base n V L Mj i (k + 1)) := ⟨fun h1 h2 => Over.write flat hOv2.out.F hX2 hdn hpk hin hkL hv2 (by rw [Int.toNat_natCast] at h1; exact h1) h2⟩
          clear e2 hv2 hX2 hdn hpk hRi hRm hCi hcl hK hcc hcc2
          skip
          have hm63 : m ≤ 1000000000 := by have := hLL.out i hin; have := hmm.out; omega
          have hmL := Aside0.mk (hmm.out : m = L i)
          go_wp2_with ((with_reducible refine gate_store (t := 30) (p := 34) rfl ?_); refine Kd.R_store P.k30 (w0 := wr) base (by rfl) rfl 30 (.tmp 34) (.tmp 33) rfl 30 (k : Int) 0 (X i) (Mj i) _ ([.int .i64 (1000 + (i : Int)), .string ⟨#[]⟩, .int .u16 0, .int .i64 0, .int .i64 0]) cs (fun _ => True) (fun _ => False) rfl (by rw [Int.toNat_natCast]; rfl) rfl rfl (by kernel_rfl) (by intro q hq; simp only [List.mem_cons, List.not_mem_nil, or_false] at hq; rcases hq with rfl | rfl | rfl | rfl | rfl <;> rfl) hRR.out (by omega) (by omega) hcl2.out hcc3.out (Nat.le_of_eq rfl) (by rw [seg_all (m := 5) hcl2.out rfl]; exact P.k30_mkM _ _ _ (Mj i)) (fun q hq => hq.elim) (Below.refl _ _) ?_; intro w5 ho _ hg; rw [hmm.out] at ho; have hO5 := Aside0.mk (hW1.out ho hg); clear ho hg)
          go_roundg k2
          case measure => omega
          case rel => exact ⟨k + 1, rfl, by omega, hO5⟩
        | zero =>
          have hd2 : decide (k < m) = false := decide_eq_false (by omega)
          rw [hvv.out, ← hmm.out] at hx2
          go_wp2
          go_roundg k1
          case measure => omega
          case rel => exact ⟨i + 1, rfl, by omega, ⟨by
            have e : k = L i := by have := hmm.out; omega
            have h := hOv2.out
            rw [e] at h
            exact h.next hin⟩⟩
    | zero =>
      have hin : i = n := by omega
      subst hin
      have hd : decide (i < i) = false := decide_eq_false (by omega)
      obtain ⟨W1, rfl⟩ : ∃ W1, W1 = wr := ⟨_, rfl⟩
      have hX1 := Aside0.mk hOv.out.done
      have hF1 := Aside0.mk hOv.out.F
      have hs1 := hF1.out.size
      clear hOv
      go_wp2
      go_loopg [5, 6, 7, 8] i (fun gk v5 v6 v7 v8 wr2 => ∃ (j : Nat) (v : Value) (D : List (Option Addr × Nat × Nat)), v5 = v ∧ v6 = .int .i64 (j : Int) ∧ j + gk = i ∧ Aside0 (Long P.k30 22 W1 wr2 i V L Mj j v D))
      case atStart => exact ⟨0, _, _, rfl, rfl, by omega, ⟨Long.start _ _ _ _ _⟩⟩
      case round =>
        obtain ⟨j, v5, D, hv5, rfl, hj, hLg⟩ := hrel
        replace hv5 := hv5.symm
        subst hv5
        cases gk with
        | succ k1 =>
          have hd : decide (j < i) = true := decide_eq_true (by omega)
          have hjn : j < i := by omega
          have hF2 : Fr w wr (fun q => ∃ j, j < i ∧ (V j).ownBlock = some q) := hF1.out.trans hLg.out.F (fun q _ ⟨j', hj', e⟩ => ⟨j', by omega, e⟩)
          have hx := outr.out hF2 j hjn
          have hrow := hLg.out.row flat hX1.out hjn
          have hG0 := Aside0.mk (Grow.start hrow)
          obtain ⟨A, cc, hv, hlc, _⟩ := Kd.R_reads hrow
          rw [List.length_replicate] at hv
          obtain ⟨u, hu⟩ : ∃ u, u = V j := ⟨_, rfl⟩
          rw [← hu] at hx
          have huu := Aside0.mk hu
          clear hv hlc hrow hF2 hu
          obtain ⟨W2, rfl⟩ : ∃ W2, W2 = wr := ⟨_, rfl⟩
          go_wp2
          go_loopg [7, 8] 80 (fun gk v7 v8 wr2 => ∃ (k : Nat) (v : Value), v7 = v ∧ v8 = .int .i64 (k : Int) ∧ k + gk = 80 ∧ Aside0 (Grow P.k30 30 W2 wr2 base (V j) (L j) (Mj j) k v))
          case atStart => exact ⟨0, u, rfl, rfl, by omega, ⟨by rw [huu.out]; exact hG0.out⟩⟩
          case round =>
            obtain ⟨k, x, hx7, rfl, hk, hG⟩ := hrel
            replace hx7 := hx7.symm
            subst hx7
            cases gk with
            | succ k2 =>
              have hd2 : decide ((k : Int) < 80) = true := decide_eq_true (by omega)
              have hlen : Aside0 ((List.replicate (L j + k) (Mj j)).length + 1 ≤ maxLen) := ⟨by rw [List.length_replicate]; have := hLL.out j hjn; unfold maxLen; omega⟩
              have hlen2 : Aside0 (((List.replicate (L j + k) (Mj j)).length + 1) * 48 ≤ 140737488355328) := ⟨by rw [List.length_replicate]; have := hLL.out j hjn; omega⟩
              have hbs : Aside0 (base ≤ wr.heap.size) := ⟨by have := hG.out.F.size; have := hLg.out.F.size; omega⟩
              skip
              go_wp2_with (at_builtin; go_must (refine app1 (P := Try.prog) (d := P.k30) (e := 30) (Mj j) ([.int .i64 (1000 + (j : Int)), .string ⟨#[]⟩, .int .u16 0, .int .i64 0, .int .i64 0]) (t := 22) (.agg #[(.int .i64 0), (.string ⟨#[]⟩), (.int .u16 0), (.int .i64 0), (.int .i64 0)]) 48 rfl _ _ rfl rfl rfl Try.underlying22 P.info30 rfl (by decide) (fun w b ok => P.k30_mkM w b ok (Mj j)) hG.out.R hbs.out hlen.out hlen2.out ?_); intro v1 w1 hR hg hat; have hG1 := Aside0.mk (hG.out.step flat hR hg hat); clear hR hg hat)
              go_roundg k2
              case measure => omega
              case rel => exact ⟨k + 1, v1, rfl, rfl, by omega, hG1⟩
            | zero =>
              have hk80 : k = 80 := by omega
              subst hk80
              have hd2 : decide (((80 : Nat) : Int) < 80) = false := rfl
              obtain ⟨g, cx, e, _⟩ := Kd.R_form hG.out.R (by rw [List.length_replicate]; omega)
              rw [List.length_replicate] at e
              subst e
              have hRL := Aside0.mk (hLg.out.keep hX1.out hjn hG.out)
              have hbs : Aside0 (W1.heap.size ≤ wr.heap.size) := ⟨by have := hG.out.F.size; have := hLg.out.F.size; omega⟩
              have hlen : Aside0 ((D.length + 1) * 24 ≤ 140737488355328) := ⟨by rw [hLg.out.len]; omega⟩
              go_wp2_with (at_builtin; go_must (refine Kd.R_append dsc (w0 := wr) W1.heap.size rfl _ _ 37 22 (.slice none 0 0) 24 rfl Try.underlying37 infoL rfl (by decide) (by decide) v5 D (some ⟨g, 0, none⟩, L j + 80, cx) [.slice (some ⟨g, 0, none⟩) (L j + 80) cx] (fun _ => True) (fun _ => False) rfl rfl rfl (fun k hk => hk.elim) (fun _ _ => trivial) hRL.out (Below.refl _ _) hbs.out hlen.out ?_); intro v1 w1 hR hb hg hat; have hL1 := Aside0.mk (hLg.out.step flat hX1.out hjn hG.out hR hg hat); clear hR hb hg hat)
              go_roundg k1
              case measure => omega
              case rel => exact ⟨j + 1, v1, _, rfl, rfl, by omega, hL1⟩
        | zero =>
          have hjn : j = i := by omega
          subst hjn
          have hd : decide (j < j) = false := decide_eq_false (by omega)
          obtain ⟨A, cL, e, _, hCL⟩ := Kd.R_reads hLg.out.R
          rw [hLg.out.len] at e hCL
          subst e
          have hCC := Aside0.mk hCL
          clear hCL
          have hF2 := Aside0.mk (hF1.out.trans hLg.out.F (fun q _ ⟨j', hj', e⟩ => ⟨j', by omega, e⟩) : Fr w wr (fun q => ∃ i, i < j ∧ (V i).ownBlock = some q))
          obtain ⟨W3, rfl⟩ : ∃ W3, W3 = wr := ⟨_, rfl⟩
          go_wp2
          go_loopg [9, 10] j (fun gk v9 v10 wr2 => ∃ (i : Nat), v9 = .int .i64 (i : Int) ∧ i + gk = j ∧ wr2 = W3)
          case atStart => exact ⟨0, rfl, by omega, rfl⟩
          case round =>
            obtain ⟨i, rfl, hi, rfl⟩ := hrel
            cases gk with
            | zero =>
              have hd : decide (i < j) = false := decide_eq_false (by omega)
              go_wp2
              go_ret
              exact ⟨rfl, hF2.out⟩
            | succ k1 =>
              have hd : decide (i < j) = true := decide_eq_true (by omega)
              have hij : i < j := by omega
              obtain ⟨a0, cs, e0, _, hK, hx0⟩ := Kd.C_get hCC.out (none, 0, 0) (i : Int) (by omega) (by omega)
              subst e0
              obtain ⟨g, cg, hDi, hcg, hCg, _⟩ := hLg.out.new i hij
              obtain ⟨A2, c2, hv2, hc2, hC2⟩ := hLg.out.old i hij
              have hx2 := outr.out hF2.out i hij
              rw [hv2] at hx2
              have hK2 : cs = [.slice (some ⟨g, 0, none⟩) (L i + 80) cg] := by
                have e : D.getD (i : Int).toNat (none, 0, 0) = (some ⟨g, 0, none⟩, L i + 80, cg) := by rw [Int.toNat_natCast, List.getD_eq_getElem?_getD, hDi]; rfl
                have h : cs = [Value.slice (D.getD (i : Int).toNat (none, 0, 0)).1 (D.getD (i : Int).toNat (none, 0, 0)).2.1 (D.getD (i : Int).toNat (none, 0, 0)).2.2] := hK
                rw [e] at h
                exact h
              subst hK2
              have hx1 := hx0 0 _ rfl
              rw [Int.toNat_natCast, show dsc.sz = 1 from rfl, Nat.mul_one, Nat.add_zero] at hx1
              have hli := hLL.out i hij
              obtain ⟨n1, hn1⟩ : ∃ n1, n1 = L i := ⟨_, rfl⟩
              obtain ⟨n2, hn2⟩ : ∃ n2, n2 = n1 + 80 := ⟨_, rfl⟩
              rw [← hn1, ← hn2] at hx1 hCg
              rw [← hn1] at hx2 hC2 hli
              have hCgg := Aside0.mk hCg
              have hC22 := Aside0.mk hC2
              have hn22 := Aside0.mk hn2
              have hb : n2 ≤ 1000000080 := by omega
              skip
              clear hK hx0 hDi hcg hCg hv2 hc2 hC2 hn1 hn2
              go_wp2
              go_loopg [10] n2 (fun gk v10 wr2 => ∃ (k : Nat), v10 = .int .i64 (k : Int) ∧ k + gk = n2 ∧ wr2 = wr)
              case atStart => exact ⟨0, rfl, by omega, rfl⟩
              case round =>
                obtain ⟨k, rfl, hk, rfl⟩ := hrel
                cases gk with
                | zero =>
                  have hd2 : decide (k < n2) = false := decide_eq_false (by omega)
                  go_wp2
                  go_roundg k1
                  case measure => omega
                  case rel => exact ⟨i + 1, rfl, by omega, rfl⟩
                | succ k2 =>
                  have hd2 : decide (k < n2) = true := decide_eq_true (by omega)
                  obtain ⟨a1, cs1, e1, _, hK1, hc1⟩ := Kd.C_get hCgg.out P.z30 (k : Int) (by omega) (by omega)
                  cases e1
                  have hr1 : (List.replicate n2 (Mj i)).getD (k : Int).toNat P.z30 = Mj i := by
                    rw [Int.toNat_natCast, List.getD_eq_getElem?_getD, List.getElem?_replicate, if_pos (by omega)]; rfl
                  rw [hr1] at hK1
                  obtain rfl := P.k30_open hK1
                  have hy := hc1 0 _ rfl
                  rw [Int.toNat_natCast, add_plain, Nat.add_zero] at hy
                  change wr.cell? ⟨g, k * 5, none⟩ = some (.int .i64 (1000 + (i : Int))) at hy
                  clear hr1 hK1 hc1
                  by_cases hkl : k < n1
                  · have hd3 : decide (k < n1) = true := decide_eq_true hkl
                    obtain ⟨a2, cs2, e2, _, hK2, hc2⟩ := Kd.C_get hC22.out P.z30 (k : Int) (by omega) (by omega)
                    subst e2
                    have hr2 : (List.replicate n1 (Mj i)).getD (k : Int).toNat P.z30 = Mj i := by
                      rw [Int.toNat_natCast, List.getD_eq_getElem?_getD, List.getElem?_replicate, if_pos (by omega)]; rfl
                    rw [hr2] at hK2
                    obtain rfl := P.k30_open hK2
                    have hz := hc2 0 _ rfl
                    rw [Int.toNat_natCast, Nat.add_zero] at hz
                    change wr.cell? (a2.add (k * 5)) = some (.int .i64 (1000 + (i : Int))) at hz
                    clear hr2 hK2 hc2
                    go_wp2
                    go_roundg k2
                    case measure => omega
                    case rel => exact ⟨k + 1, rfl, by omega, rfl⟩
                  · have hd3 : decide (k < n1) = false := decide_eq_false hkl
                    go_wp2
                    go_roundg k2
                    case measure => omega
                    case rel => exact ⟨k + 1, rfl, by omega, rfl⟩
/-- a row, and between which blocks it lies -/
abbrev Born := (Value × List P.S30) × Nat × Nat
abbrev RD (W : World) (base : Nat) (v : Value) (xs : List P.S30) : Prop := P.k30.R 30 W base (fun _ => True) v xs
structure Fresh (W : World) (xss : List (Value × List P.S30)) : Prop where
  R : ∀ p ∈ xss, RD W 0 p.1 p.2
  apart : xss.Pairwise (fun p q => ∀ k, p.1.ownBlock = some k → q.1.ownBlock ≠ some k)
theorem Fresh.get {W : World} {xss : List (Value × List P.S30)} (h : Fresh W xss) : Rows P.k30 30 W 0 xss.length (fun j => (xss.getD j (.slice none 0 0, [])).1) (fun j => (xss.getD j (.slice none 0 0, [])).2.length) (fun j => (xss.getD j (.slice none 0 0, [])).2) := by
  have hg : ∀ j (hj : j < xss.length), xss.getD j (.slice none 0 0, []) = xss[j] := fun j hj => by rw [List.getD_eq_getElem?_getD, List.getElem?_eq_getElem hj]; rfl
  refine ⟨fun j hj => ?_, fun j hj => rfl, fun i j hi hj hne q hq e => ?_⟩
  · show RD W 0 (xss.getD j (.slice none 0 0, [])).1 (xss.getD j (.slice none 0 0, [])).2
    rw [hg j hj]; exact h.R _ (List.getElem_mem hj)
  · simp only [hg i hi] at hq
    simp only [hg j hj] at e
    have hp := List.pairwise_iff_getElem.1 h.apart
    rcases Nat.lt_or_ge i j with hl | hl
    · exact hp i j hi hj hl q hq e
    · exact hp j i hj hi (by omega) q e hq
theorem ApartL {W : World} {xss : List (Value × List P.S30)} (h : Fresh W xss) (hn : xss.length ≤ 100) (hl : ∀ p ∈ xss, p.2.length ≤ 1000000000) :
    Calls Try.prog 14 #[.slice (some ⟨W.heap.size, 0, none⟩) xss.length xss.length] (W.alloc (.cells (xss.map (·.1)).toArray 22)) fun e w' => e = .returned (.bool true) ∧ Fr W w' (fun q => ∃ p ∈ xss, p.1.ownBlock = some q) := by
  have hg : ∀ j (hj : j < xss.length), xss.getD j (.slice none 0 0, []) = xss[j] := fun j hj => by rw [List.getD_eq_getElem?_getD, List.getElem?_eq_getElem hj]; rfl
  have h2 : Fresh (W.alloc (.cells (xss.map (·.1)).toArray 22)) xss := ⟨fun p hp => Kd.R_alloc (h.R p hp) _, h.apart⟩
  have hh := World.alloc_heap_new W (.cells (xss.map (·.1)).toArray 22)
  refine (Apart (O := W.heap.size) (c := xss.length) h2.get (fun j hj => ?_) (fun j hj e => ?_) (by rw [World.size_alloc]; omega) hn (fun j hj => ?_) (Nat.zero_le _)).mono fun e w' ⟨he, hF⟩ => ⟨he, ?_⟩
  · simp only [World.cell?, hh, hg j hj]
    simp [hj]
  · simp only [hg j hj] at e
    have := Kd.R_lt (h.R _ (List.getElem_mem hj)) _ e
    omega
  · simp only [hg j hj]
    exact hl _ (List.getElem_mem hj)
  · refine ((Fr.refl W _).alloc _).trans hF (fun q _ ⟨j, hj, e⟩ => ?_)
    simp only [hg j hj] at e
    exact ⟨_, List.getElem_mem hj, e⟩
theorem Fresh.of {W : World} {L : List Born} (h : ∀ p ∈ L, RD W p.2.1 p.1.1 p.1.2 ∧ ∀ k, p.1.1.ownBlock = some k → k < p.2.2) (hp : L.Pairwise fun p q => p.2.2 ≤ q.2.1 ∨ q.2.2 ≤ p.2.1) : Fresh W (L.map (·.1)) := by
  refine ⟨fun p hp => ?_, ?_⟩
  · obtain ⟨q, hq, rfl⟩ := List.mem_map.1 hp
    exact Kd.R_lower (h q hq).1 (Nat.zero_le _)
  · rw [List.pairwise_map]
    refine List.Pairwise.imp_of_mem (fun {p q} hp' hq' hpq k hk e => ?_) hp
    have h1 := Kd.R_base (h p hp').1 k hk
    have h2 := (h p hp').2 k hk
    have h3 := Kd.R_base (h q hq').1 k e
    have h4 := (h q hq').2 k e
    omega
set_option maxHeartbeats 2000000 in
/-- three rows, made one behind the other; the literal holds them in the order a b c, b and c in any order of birth -/
theorem Apart3 {W : World} {a1 a2 b1 b2 c1 c2 B : Nat} {a b c : Value} {x y z : List P.S30} (ha : RD W a1 a x) (hb : RD W b1 b y) (hc : RD W c1 c z) (h1 : ∀ k, a.ownBlock = some k → k < a2) (h2 : ∀ k, b.ownBlock = some k → k < b2) (h3 : ∀ k, c.ownBlock = some k → k < c2)
    (k1 : a2 ≤ b1 ∨ b2 ≤ a1) (k2 : a2 ≤ c1 ∨ c2 ≤ a1) (k3 : b2 ≤ c1 ∨ c2 ≤ b1) (s1 : B ≤ a1) (s2 : B ≤ b1) (s3 : B ≤ c1) (hx : x.length ≤ 1000000000) (hy : y.length ≤ 1000000000) (hz : z.length ≤ 1000000000) :
    Calls Try.prog 14 #[.slice (some ⟨W.heap.size, 0, none⟩) 3 3] (W.alloc (.cells #[a, b, c] 22)) fun e w' => e = .returned (.bool true) ∧ Fr W w' (fun q => B ≤ q) := by
  have hm : ∀ (p : Born), p ∈ ([((a, x), a1, a2), ((b, y), b1, b2), ((c, z), c1, c2)] : List Born) → p = ((a, x), a1, a2) ∨ p = ((b, y), b1, b2) ∨ p = ((c, z), c1, c2) := fun p hp => by simpa using hp
  have hF : Fresh W ([((a, x), a1, a2), ((b, y), b1, b2), ((c, z), c1, c2)].map (·.1)) := by
    refine Fresh.of (L := [((a, x), a1, a2), ((b, y), b1, b2), ((c, z), c1, c2)]) (fun p hp => ?_) ?_
    · rcases hm p hp with rfl | rfl | rfl
      · exact ⟨ha, h1⟩
      · exact ⟨hb, h2⟩
      · exact ⟨hc, h3⟩
    · refine List.Pairwise.cons ?_ (List.Pairwise.cons ?_ (List.Pairwise.cons ?_ List.Pairwise.nil))
      all_goals
        intro q hq
        simp only [List.mem_cons, List.not_mem_nil, or_false] at hq
      · rcases hq with rfl | rfl
        · exact k1
        · exact k2
      · subst hq; exact k3
  have h := ApartL hF (by simp) (fun p hp => by
    have hp2 : p = (a, x) ∨ p = (b, y) ∨ p = (c, z) := by simpa using hp
    rcases hp2 with rfl | rfl | rfl <;> assumption)
  refine Calls.mono h (fun e w' ⟨he, hF⟩ => ⟨he, hF.mono (fun q _ ⟨p, hp, e⟩ => ?_)⟩)
  · have hp2 : p = (a, x) ∨ p = (b, y) ∨ p = (c, z) := by simpa using hp
    rcases hp2 with rfl | rfl | rfl
    · have := Kd.R_base ha q e; omega
    · have := Kd.R_base hb q e; omega
    · have := Kd.R_base hc q e; omega
theorem RD_fr {W W' : World} {B : Nat} {S : Nat → Prop} {v : Value} {xs : List P.S30} (h : RD W B v xs) (hF : Fr W W' S) (hS : ∀ k, S k → k < B) : RD W' B v xs :=
  Kd.R_mono (hF.row (Kd.R_bound h) (fun q hq _ e => by have := hq.2.1; have := hS q e; omega)) (fun _ _ => trivial)
end Go.Proofs.Ytembdahclmffjaa.Gp
