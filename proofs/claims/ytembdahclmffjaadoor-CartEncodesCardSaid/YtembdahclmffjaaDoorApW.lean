/- wisplaw03.Apart: the walk. -/
import Derived.Test.YtembdahclmffjaaDoorAp
import Derived.WalkSpells
import Derived.Lib.SliceRun
import Derived.Outline
import Derived.Deep.LoopGhost
namespace Go.Proofs.YtembdahclmffjaaDoor.Ap
open Go.RowKit Go.Proofs.YtembdahclmffjaaDoorW.PrintWords Go.Proofs.YtembdahclmffjaaDoorW.PrintLast Go.Proofs.YtembdahclmffjaaDoorW.PrintMore Go.Proofs.YtembdahclmffjaaDoor.Mem
set_option linter.unusedVariables false
set_option linter.unusedSimpArgs false
theorem infoL : (Tryd.prog.info? 22).map (fun i => (i.zero, i.size, i.bytes)) = some (some (.slice none 0 0), 1, 24) := by kernel_rfl
/-- the mark of row j -/
def Mj (j : Nat) : Int := (j : Int) + 1
set_option maxRecDepth 100000 in
set_option maxHeartbeats 4000000 in
theorem Apart {w : World} {base n O c : Nat} {V : Nat → Value} {L : Nat → Nat} {X : Nat → List Int} (hX : Rows w base n V L X) (hO : ∀ j, j < n → w.cell? ⟨O, j, none⟩ = some (V j)) (hne : ∀ j, j < n → (V j).ownBlock ≠ some O) (hOl : O < w.heap.size) (hn : n ≤ 100) (hL : ∀ j, j < n → L j ≤ 140737488351232) (hbase : base ≤ w.heap.size) :
    Calls Tryd.prog 28 #[.slice (some ⟨O, 0, none⟩) n c] w fun e w' => e = .returned (.bool true) ∧ Fr w w' (fun q => ∃ j, j < n ∧ (V j).ownBlock = some q) := by
  have hXX := Aside0.mk hX
  have hOO := Aside0.mk hO
  have hNN := Aside0.mk hne
  have hLL := Aside0.mk hL
  clear hX hO hne hL
  have outer : ∀ {W : World}, Fr w W (fun q => ∃ j, j < n ∧ (V j).ownBlock = some q) → ∀ j, j < n → W.cell? ⟨O, j, none⟩ = some (V j) := fun hF j hj => by
    rw [← hOO.out j hj]
    exact World.cell?_of_block (hF.block O hOl (fun ⟨j, hj, e⟩ => hNN.out j hj e))
  have outr := Aside0.mk @outer
  clear outer
  go_enter Tryd.func28, Tryd.ntmps28
  go_wp2
  go_loopg [3, 13] n (fun gk v3 v13 wr => ∃ (i : Nat), v13 = .int .i64 (i : Int) ∧ i + gk = n ∧ Aside0 (Over w wr base n V L Mj i 0))
  case atStart => exact ⟨0, rfl, by omega, ⟨Over.start hXX.out⟩⟩
  case round =>
    obtain ⟨i, rfl, hi, hOv⟩ := hrel
    cases gk with
    | succ k1 =>
      have hd : decide (i < n) = true := decide_eq_true (by omega)
      have hin : i < n := by omega
      have hx := outr.out hOv.out.F i hin
      obtain ⟨A, cc, hv, hlc⟩ := hOv.out.shape hin
      rw [hv] at hx
      have hvv := Aside0.mk hv
      obtain ⟨m, hm⟩ : ∃ m, m = L i := ⟨_, rfl⟩
      rw [← hm] at hx
      have hmm := Aside0.mk hm
      clear hv hm
      go_wp2
      go_loopg [4, 21] m (fun gk v4 v21 wr2 => ∃ (k : Nat), v21 = .int .i64 (k : Int) ∧ k + gk = m ∧ Aside0 (Over w wr2 base n V L Mj i k))
      case atStart => exact ⟨0, rfl, by omega, hOv⟩
      case round =>
        obtain ⟨k, rfl, hk, hOv2⟩ := hrel
        clear hOv
        cases gk with
        | succ k2 =>
          have hd2 : decide (k < m) = true := decide_eq_true (by omega)
          have hx2 := outr.out hOv2.out.F i hin
          obtain ⟨g, c2, hv2⟩ := hOv2.out.addr hin (by have := hmm.out; omega)
          rw [hvv.out] at hx2
          have hv3 := hv2
          rw [hvv.out] at hv3
          injection hv3 with e1 e2 e3
          subst e1 e3
          rw [← hmm.out] at hx2
          obtain ⟨⟨u, hu⟩, hf⟩ := hOv2.out.cell hin (by have := hmm.out; omega) hv2
          have hv22 := Aside0.mk hv2
          clear e2 hv2
          have q1 : (i : Int) % 250 = i := by omega
          have q2 : IntKind.u8.wrap ((i : Int) + 1) = (i : Int) + 1 := by rw [IntKind.wrap_u8]; omega
          have q3 : ((i : Int) + 1) % 256 = (i : Int) + 1 := by omega
          have hm63 : m ≤ 140737488351232 := by have := hLL.out i hin; have := hmm.out; omega
          go_wp2
          go_roundg k2
          case measure => omega
          case rel => exact ⟨k + 1, rfl, by omega, ⟨hOv2.out.write hin (by have := hmm.out; omega) hv22.out⟩⟩
        | zero =>
          have hd2 : decide (k < m) = false := decide_eq_false (by omega)
          go_wp2
          go_roundg k1
          case measure => omega
          case rel => exact ⟨i + 1, rfl, by omega, ⟨by
            have e : k = L i := by have := hmm.out; omega
            have h := hOv2.out
            rw [e] at h
            exact h.next hin⟩⟩
    | zero =>
      have hin : i = n := by omega
      subst hin
      have hd : decide (i < i) = false := decide_eq_false (by omega)
      obtain ⟨W1, rfl⟩ : ∃ W1, W1 = wr := ⟨_, rfl⟩
      have hX1 := Aside0.mk hOv.out.done
      have hF1 := Aside0.mk hOv.out.F
      have hs1 := hF1.out.size
      clear hOv
      go_wp2
      go_loopg [5, 6, 7, 8, 38] i (fun gk v5 v6 v7 v8 v38 wr2 => ∃ (j : Nat) (v : Value) (D : List (Option Addr × Nat × Nat)), v5 = v ∧ v38 = .int .i64 (j : Int) ∧ j + gk = i ∧ Aside0 (Long W1 wr2 i V L Mj j v D))
      case atStart => exact ⟨0, _, _, rfl, rfl, by omega, ⟨Long.start _ _ _ _ _⟩⟩
      case round =>
        obtain ⟨j, v5, D, hv5, rfl, hj, hLg⟩ := hrel
        replace hv5 := hv5.symm
        subst hv5
        cases gk with
        | succ k1 =>
          have hd : decide (j < i) = true := decide_eq_true (by omega)
          have hjn : j < i := by omega
          have hF2 : Fr w wr (fun q => ∃ j, j < i ∧ (V j).ownBlock = some q) := hF1.out.trans hLg.out.F (fun q _ ⟨j', hj', e⟩ => ⟨j', by omega, e⟩)
          have hx := outr.out hF2 j hjn
          have hrow := hLg.out.row hX1.out hjn
          have hG0 := Aside0.mk (Grow.start hrow)
          obtain ⟨A, cc, hv, hlc, _⟩ := Kd.R_reads hrow
          rw [List.length_replicate] at hv
          obtain ⟨u, hu⟩ : ∃ u, u = V j := ⟨_, rfl⟩
          rw [← hu] at hx
          have huu := Aside0.mk hu
          have q1 : (j : Int) % 250 = j := by omega
          have q3 : ((j : Int) + 1) % 256 = (j : Int) + 1 := by omega
          clear hv hlc hrow hF2 hu
          obtain ⟨W2, rfl⟩ : ∃ W2, W2 = wr := ⟨_, rfl⟩
          go_wp2
          go_loopg [7, 8] 80 (fun gk v7 v8 wr2 => ∃ (k : Nat) (v : Value), v7 = v ∧ v8 = .int .i64 (k : Int) ∧ k + gk = 80 ∧ Aside0 (Grow W2 wr2 base (V j) (L j) (Mj j) k v))
          case atStart => exact ⟨0, u, rfl, rfl, by omega, ⟨by rw [huu.out]; exact hG0.out⟩⟩
          case round =>
            obtain ⟨k, x, hx7, rfl, hk, hG⟩ := hrel
            replace hx7 := hx7.symm
            subst hx7
            cases gk with
            | succ k2 =>
              have hd2 : decide ((k : Int) < 80) = true := decide_eq_true (by omega)
              have hlen : Aside0 ((List.replicate (L j + k) (Mj j)).length + 1 ≤ 140737488355328) := ⟨by rw [List.length_replicate]; have := hLL.out j hjn; omega⟩
              have hbs : Aside0 (base ≤ wr.heap.size) := ⟨by have := hG.out.F.size; have := hLg.out.F.size; omega⟩
              go_wp2_with (at_builtin; go_must (refine app1 (Mj j) rfl _ _ rfl rfl rfl hG.out.R hbs.out hlen.out ?_); intro v1 w1 hR hg hat; have hG1 := Aside0.mk (hG.out.step hR hg hat); clear hR hg hat)
              go_roundg k2
              case measure => omega
              case rel => exact ⟨k + 1, v1, rfl, rfl, by omega, hG1⟩
            | zero =>
              have hk80 : k = 80 := by omega
              subst hk80
              have hd2 : decide (((80 : Nat) : Int) < 80) = false := rfl
              obtain ⟨g, cx, e, _⟩ := Kd.R_form hG.out.R (by rw [List.length_replicate]; omega)
              rw [List.length_replicate] at e
              subst e
              have hRL := Aside0.mk (hLg.out.keep hX1.out hjn hG.out)
              have hbs : Aside0 (W1.heap.size ≤ wr.heap.size) := ⟨by have := hG.out.F.size; have := hLg.out.F.size; omega⟩
              have hlen : Aside0 ((D.length + 1) * 24 ≤ 140737488355328) := ⟨by rw [hLg.out.len]; omega⟩
              go_wp2_with (at_builtin; go_must (refine Kd.R_append dsc (w0 := wr) W1.heap.size rfl _ _ 67 22 (.slice none 0 0) 24 rfl Tryd.underlying67 infoL rfl (by decide) (by decide) v5 D (some ⟨g, 0, none⟩, L j + 80, cx) [.slice (some ⟨g, 0, none⟩) (L j + 80) cx] (fun _ => True) (fun _ => False) rfl rfl rfl (fun k hk => hk.elim) (fun _ _ => trivial) hRL.out (Below.refl _ _) hbs.out hlen.out ?_); intro v1 w1 hR hb hg hat; have hL1 := Aside0.mk (hLg.out.step hX1.out hjn hG.out hR hg hat); clear hR hb hg hat)
              go_roundg k1
              case measure => omega
              case rel => exact ⟨j + 1, v1, _, rfl, rfl, by omega, hL1⟩
        | zero =>
          have hjn : j = i := by omega
          subst hjn
          have hd : decide (j < j) = false := decide_eq_false (by omega)
          obtain ⟨A, cL, e, _, hCL⟩ := Kd.R_reads hLg.out.R
          rw [hLg.out.len] at e hCL
          subst e
          have hCC := Aside0.mk hCL
          clear hCL
          have hF2 := Aside0.mk (hF1.out.trans hLg.out.F (fun q _ ⟨j', hj', e⟩ => ⟨j', by omega, e⟩) : Fr w wr (fun q => ∃ i, i < j ∧ (V i).ownBlock = some q))
          obtain ⟨W3, rfl⟩ : ∃ W3, W3 = wr := ⟨_, rfl⟩
          go_wp2
          go_loopg [9, 63] j (fun gk v9 v63 wr2 => ∃ (i : Nat), v63 = .int .i64 (i : Int) ∧ i + gk = j ∧ wr2 = W3)
          case atStart => exact ⟨0, rfl, by omega, rfl⟩
          case round =>
            obtain ⟨i, rfl, hi, rfl⟩ := hrel
            cases gk with
            | zero =>
              have hd : decide (i < j) = false := decide_eq_false (by omega)
              go_wp2
              go_ret
              exact ⟨rfl, hF2.out⟩
            | succ k1 =>
              have hd : decide (i < j) = true := decide_eq_true (by omega)
              have hij : i < j := by omega
              obtain ⟨a0, cs, e0, _, hK, hx0⟩ := Kd.C_get hCC.out (none, 0, 0) (i : Int) (by omega) (by omega)
              subst e0
              obtain ⟨g, cg, hDi, hcg, hCg, _⟩ := hLg.out.new i hij
              obtain ⟨A2, c2, hv2, hc2, hC2⟩ := hLg.out.old i hij
              have hx2 := outr.out hF2.out i hij
              rw [hv2] at hx2
              have hK2 : cs = [.slice (some ⟨g, 0, none⟩) (L i + 80) cg] := by
                have e : D.getD (i : Int).toNat (none, 0, 0) = (some ⟨g, 0, none⟩, L i + 80, cg) := by rw [Int.toNat_natCast, List.getD_eq_getElem?_getD, hDi]; rfl
                have h : cs = [Value.slice (D.getD (i : Int).toNat (none, 0, 0)).1 (D.getD (i : Int).toNat (none, 0, 0)).2.1 (D.getD (i : Int).toNat (none, 0, 0)).2.2] := hK
                rw [e] at h
                exact h
              subst hK2
              have hx1 := hx0 0 _ rfl
              rw [Int.toNat_natCast, show dsc.sz = 1 from rfl, Nat.mul_one, Nat.add_zero] at hx1
              have hli := hLL.out i hij
              obtain ⟨n1, hn1⟩ : ∃ n1, n1 = L i := ⟨_, rfl⟩
              obtain ⟨n2, hn2⟩ : ∃ n2, n2 = n1 + 80 := ⟨_, rfl⟩
              rw [← hn1, ← hn2] at hx1 hCg
              rw [← hn1] at hx2 hC2 hli
              have hCgg := Aside0.mk hCg
              have hC22 := Aside0.mk hC2
              have hn22 := Aside0.mk hn2
              have q1 : (i : Int) % 250 = i := by omega
              have q3 : ((i : Int) + 1) % 256 = (i : Int) + 1 := by omega
              have hb : n2 ≤ 140737488351332 := by omega
              clear hK hx0 hDi hcg hCg hv2 hc2 hC2 hn1 hn2
              go_wp2
              go_loopg [10, 71] n2 (fun gk v10 v71 wr2 => ∃ (k : Nat), v71 = .int .i64 (k : Int) ∧ k + gk = n2 ∧ wr2 = wr)
              case atStart => exact ⟨0, rfl, by omega, rfl⟩
              case round =>
                obtain ⟨k, rfl, hk, rfl⟩ := hrel
                cases gk with
                | zero =>
                  have hd2 : decide (k < n2) = false := decide_eq_false (by omega)
                  go_wp2
                  go_roundg k1
                  case measure => omega
                  case rel => exact ⟨i + 1, rfl, by omega, rfl⟩
                | succ k2 =>
                  have hd2 : decide (k < n2) = true := decide_eq_true (by omega)
                  obtain ⟨a1, e1, hy⟩ := Kd.at_int hCgg.out (k : Int) (by omega) (by omega)
                  cases e1
                  rw [Int.toNat_natCast, add_plain] at hy
                  have hr1 : rd (List.replicate n2 (Mj i)) (k : Int) = (i : Int) + 1 := by
                    unfold rd; rw [Int.toNat_natCast, List.getD_eq_getElem?_getD, List.getElem?_replicate, if_pos (by omega)]; rfl
                  rw [hr1] at hy
                  clear hr1
                  by_cases hkl : k < n1
                  · have hd3 : decide (k < n1) = true := decide_eq_true hkl
                    obtain ⟨a2, e2, hz⟩ := Kd.at_int hC22.out (k : Int) (by omega) (by omega)
                    subst e2
                    rw [Int.toNat_natCast] at hz
                    have hr2 : rd (List.replicate n1 (Mj i)) (k : Int) = (i : Int) + 1 := by
                      unfold rd; rw [Int.toNat_natCast, List.getD_eq_getElem?_getD, List.getElem?_replicate, if_pos (by omega)]; rfl
                    rw [hr2] at hz
                    clear hr2
                    go_wp2
                    go_roundg k2
                    case measure => omega
                    case rel => exact ⟨k + 1, rfl, by omega, rfl⟩
                  · have hd3 : decide (k < n1) = false := decide_eq_false hkl
                    go_wp2
                    go_roundg k2
                    case measure => omega
                    case rel => exact ⟨k + 1, rfl, by omega, rfl⟩
end Go.Proofs.YtembdahclmffjaaDoor.Ap
