/- The sum over parts (pack.Sum): its contract, the table of the program as it is laid. -/
import Derived.Test.YtpjdgndbcjinjaaDoorWr
namespace Go.Proofs.YtpjdgndbcjinjaaDoor.Pk
open Go.RowKit Go.Proofs.YtpjdgndbcjinjaaDoorW.PrintWords Go.Proofs.YtpjdgndbcjinjaaDoorW.PrintLast Go.Proofs.YtpjdgndbcjinjaaDoorW.PrintMore Go.Proofs.YtpjdgndbcjinjaaDoor.Mem
set_option linter.unusedVariables false
set_option linter.unusedSimpArgs false
def tabI : List Int := [0x00000000, 0x1DB71064, 0x3B6E20C8, 0x26D930AC, 0x76DC4190, 0x6B6B51F4, 0x4DB26158, 0x5005713C, 0xEDB88320, 0xF00F9344, 0xD6D6A3E8, 0xCB61B38C, 0x9B64C2B0, 0x86D3D2D4, 0xA00AE278, 0xBDBDF21C]
/-- the program's table lies in its variable -/
def Tab (w : World) : Prop := 0 < w.heap.size ∧ ∀ i : Nat, i < 16 → w.cell? ⟨0, i, none⟩ = some (.int .u32 (rd tabI (i : Int)))
theorem Tab.fr {w w' : World} {S : Nat → Prop} (h : Tab w) (hf : Fr w w' S) (hs : ¬ S 0) : Tab w' :=
  ⟨Nat.lt_of_lt_of_le h.1 hf.size, fun i hi => by
    have h1 := h.2 i hi
    rw [← h1]
    exact World.cell?_of_block (hf.block _ (World.block_lt_of_cell? _ _ h1) hs)⟩
theorem Tab.below {w w' : World} (h : Tab w) (hb : Below w.heap.size w w') : Tab w' := h.fr (Fr.of_below hb (fun _ => False)) (fun h => h)
def st4 (x : Int) : Int := Go.bits .xor .u32 (rd tabI (x % 16)) (x / 16)
def upI (x b : Int) : Int := st4 (st4 (Go.bits .xor .u32 x (b % 4294967296)))
def sumI (ps : List (List Int)) : Int := Go.bits .xor .u32 4294967295 (ps.flatten.foldl upI 4294967295)
theorem bits32 (op : BinOp) (a b : Int) : 0 ≤ Go.bits op .u32 a b ∧ Go.bits op .u32 a b ≤ 4294967295 := by
  unfold Go.bits
  simp only [IntKind.wrap_u32]
  omega
theorem upI_ok (x b : Int) : 0 ≤ upI x b ∧ upI x b ≤ 4294967295 := by unfold upI st4; exact bits32 _ _ _
set_option maxRecDepth 100000 in
set_option maxHeartbeats 4000000 in
theorem Sum {w : World} {A : Option Addr} {c : Nat} {ps : List (List Int)} (hT : Tab w) (hC : Kd.C (Kd.slice 5 (Kd.int .u8)) w A ps.length ps) :
    Calls Tryd.prog 23 #[.slice A ps.length c] w fun e w' => e = .returned (.int .u32 (sumI ps)) ∧ w = w' := by
  obtain ⟨n, hn⟩ : ∃ n, n = ps.length := ⟨_, rfl⟩
  have hnn := Aside0.mk hn
  have hTT := Aside0.mk hT
  have hCC := Aside0.mk hC
  rw [← hn]
  have hn63 : n ≤ 9223372036854775807 := by have := hC.2.1; omega
  clear hn hT hC
  go_enter Tryd.func23, Tryd.ntmps23
  go_wp2
  go_loopg [3, 10] n (fun gk v3 v10 wr => ∃ (i : Nat) (x : Int), v3 = .int .u32 x ∧ v10 = .int .i64 (i : Int) ∧ 0 ≤ x ∧ x ≤ 4294967295 ∧ i + gk = n ∧ wr = w ∧ Aside0 ((ps.drop i).flatten.foldl upI x = ps.flatten.foldl upI 4294967295))
  case atStart => exact ⟨0, 4294967295, rfl, rfl, by omega, by omega, by omega, rfl, ⟨rfl⟩⟩
  case round =>
    obtain ⟨i, x, rfl, rfl, hx0, hx1, hi, rfl, hx⟩ := hrel
    cases gk with
    | zero =>
      have hd : decide (i < n) = false := decide_eq_false (by omega)
      go_wp2
      go_ret
      have h1 := hx.out
      rw [List.drop_of_length_le (by have := hnn.out; omega)] at h1
      refine ⟨?_, rfl⟩
      rw [sumI, ← h1]; rfl
    | succ k1 =>
      have hd : decide (i < n) = true := decide_eq_true (by omega)
      obtain ⟨a0, cc, e0, hnil, hK, hx0c⟩ := Kd.C_get hCC.out [] (i : Int) (by omega) (by have := hnn.out; omega)
      subst e0
      obtain ⟨A1, c1, rfl, hl1, hC1⟩ := hK
      have hx1c := hx0c 0 _ rfl
      rw [Int.toNat_natCast, show (Kd.slice 5 (Kd.int .u8)).sz = 1 from rfl, Nat.mul_one, Nat.add_zero] at hx1c
      clear hx0c
      have hlt : i < ps.length := by have := hnn.out; omega
      have hX := hx.out
      rw [List.drop_eq_getElem_cons hlt, List.flatten_cons, List.foldl_append] at hX
      have hpi : ps.getD i [] = ps[i] := by rw [List.getD_eq_getElem?_getD, List.getElem?_eq_getElem hlt]; rfl
      simp only [Int.toNat_natCast] at hC1 hx1c
      rw [hpi] at hC1 hx1c
      clear hx hpi hl1 hnil
      generalize ps[i] = p at hC1 hx1c hX
      clear hlt
      have hXX := Aside0.mk hX
      clear hX
      obtain ⟨m, hm⟩ : ∃ m, m = p.length := ⟨_, rfl⟩
      have hmm := Aside0.mk hm
      have hCC1 := Aside0.mk hC1
      rw [← hm] at hx1c
      have hm63 : m ≤ 9223372036854775807 := by have := hC1.2.1; omega
      clear hm hC1
      go_wp2
      obtain ⟨wo, rfl⟩ : ∃ wo : World, wo = wr := ⟨_, rfl⟩
      go_loopg [3, 16] m (fun gj v3 v16 wq => ∃ (j : Nat) (y : Int), v3 = .int .u32 y ∧ v16 = .int .i64 (j : Int) ∧ 0 ≤ y ∧ y ≤ 4294967295 ∧ j + gj = m ∧ wq = wo ∧ Aside0 ((p.drop j).foldl upI y = p.foldl upI x))
      case atStart => exact ⟨0, x, rfl, rfl, hx0, hx1, by omega, rfl, ⟨rfl⟩⟩
      case round =>
        obtain ⟨j, y, rfl, rfl, hy0, hy1, hj, rfl, hy⟩ := hrel
        cases gk with
        | zero =>
          have hd2 : decide (j < m) = false := decide_eq_false (by omega)
          go_wp2
          go_roundg k1
          case measure => omega
          case rel =>
            refine ⟨i + 1, y, rfl, rfl, hy0, hy1, by omega, rfl, ⟨?_⟩⟩
            have h1 := hy.out
            rw [List.drop_of_length_le (by have := hmm.out; omega)] at h1
            rw [← hXX.out, ← h1]; rfl
        | succ j1 =>
          have hd2 : decide (j < m) = true := decide_eq_true (by omega)
          obtain ⟨a1, e1, hxb⟩ := Kd.at_int hCC1.out (j : Int) (by omega) (by have := hmm.out; omega)
          subst e1
          rw [Int.toNat_natCast] at hxb
          have hlt : j < p.length := by have := hmm.out; omega
          have hY := hy.out
          have hdr : p.drop j = rd p (j : Int) :: p.drop (j + 1) := by
            rw [List.drop_eq_getElem_cons hlt]
            congr 1
            unfold rd
            rw [Int.toNat_natCast, List.getD_eq_getElem?_getD, List.getElem?_eq_getElem hlt]; rfl
          rw [hdr, List.foldl_cons] at hY
          clear hy hdr hlt
          generalize rd p (j : Int) = bv at hxb hY
          obtain ⟨Z, hZ⟩ : ∃ Z, Go.bits .xor .u32 y (bv % 4294967296) = Z := ⟨_, rfl⟩
          have hzb := bits32 .xor y (bv % 4294967296)
          rw [hZ] at hzb
          have hz0 := hzb.1
          have hz1 := hzb.2
          clear hzb
          have hYY : Aside0 (List.foldl upI (st4 (st4 Z)) (p.drop (j + 1)) = p.foldl upI x) := ⟨by rw [← hZ]; exact hY⟩
          clear hY
          go_wp2
          obtain ⟨wp, rfl⟩ : ∃ wp : World, wp = wr := ⟨_, rfl⟩
          go_loopg [3, 24] 2 (fun gl v3 v24 wl => ∃ (l : Nat) (z : Int), v3 = .int .u32 z ∧ v24 = .int .i64 (l : Int) ∧ 0 ≤ z ∧ z ≤ 4294967295 ∧ l + gl = 2 ∧ wl = wp ∧ Aside0 ((match gl with | 0 => z | 1 => st4 z | _ => st4 (st4 z)) = st4 (st4 Z)))
          case atStart => exact ⟨0, Z, rfl, rfl, hz0, hz1, by omega, rfl, ⟨rfl⟩⟩
          case round =>
            obtain ⟨l, z, rfl, rfl, hq0, hq1, hl, rfl, hq⟩ := hrel
            cases gk with
            | zero =>
              have hd3 : decide ((l : Int) < 2) = false := decide_eq_false (by omega)
              go_wp2
              go_roundg j1
              case measure => omega
              case rel => exact ⟨j + 1, z, rfl, rfl, hq0, hq1, by omega, rfl, ⟨by rw [← hYY.out, show z = st4 (st4 Z) from hq.out]⟩⟩
            | succ l1 =>
              have hd3 : decide ((l : Int) < 2) = true := decide_eq_true (by omega)
              obtain ⟨q, hq16⟩ := Int.eq_ofNat_of_zero_le (show 0 ≤ z % 16 by omega)
              have hcell := hTT.out.2 q (by omega)
              obtain ⟨V, hV⟩ : ∃ V, Go.bits .xor .u32 (rd tabI (q : Int)) (z / 16) = V := ⟨_, rfl⟩
              have hVb := bits32 .xor (rd tabI (q : Int)) (z / 16)
              rw [hV] at hVb
              have hV0 := hVb.1
              have hV1 := hVb.2
              clear hVb
              have hVV : Aside0 (V = st4 z) := ⟨by rw [← hV, ← hq16]; rfl⟩
              generalize rd tabI (q : Int) = T at hcell hV
              go_wp2
              go_roundg l1
              case measure => omega
              case rel =>
                refine ⟨l + 1, V, rfl, rfl, hV0, hV1, by omega, rfl, ⟨?_⟩⟩
                rw [hVV.out, ← hq.out]
                match l1, hl with
                | 0, _ => rfl
                | 1, _ => rfl
end Go.Proofs.YtpjdgndbcjinjaaDoor.Pk
