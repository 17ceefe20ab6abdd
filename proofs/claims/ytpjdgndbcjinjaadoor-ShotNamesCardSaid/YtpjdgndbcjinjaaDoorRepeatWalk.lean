import Derived.Test.YtpjdgndbcjinjaaDoorPx0
import Derived.Lib.SlBuf
import Derived.Lib.MakeNoZero
import Derived.Laws.CopyRow
import Derived.Laws.CopyOwn
import Derived.RangeFuncBox
import Derived.Lib.SliceRun
namespace Go.Proofs.YtpjdgndbcjinjaaDoor.P
open Go.RowKit Go.Lib Go.Proofs.YtpjdgndbcjinjaaDoorW.PrintWords Go.Proofs.YtpjdgndbcjinjaaDoorW.PrintLast Go.Proofs.YtpjdgndbcjinjaaDoorW.PrintMore Go.Proofs.YtpjdgndbcjinjaaDoor.Mine
set_option linter.unusedVariables false
set_option linter.unusedSimpArgs false
def bytes_Repeat.f (l0 : List Int) (n : Int) : Option (List Int) := if l0.length = 1 ∧ 1 ≤ n ∧ n ≤ 256 then some (List.replicate n.toNat (rd l0 0)) else none

theorem noZero_run (T : Nat) (W : World) (hT : T ≤ 281474976710656) : ∃ cs : Array Value, (callFunc 41 #[.int .i64 (T : Int)]).run Tryd.prog W = .ok (.value (.slice (some ⟨W.heap.size, 0, none⟩) T cs.size)) ((W.alloc (.cells cs 5)).drewN 2) ∧ T ≤ cs.size ∧ cs.size ≤ maxLen := by
  obtain ⟨cs, hrunM, hle, hmx⟩ := Lib.run_makeNoZero (P := Tryd.prog) W #[3] 24 5 Tryd.underlying24 T hT
  refine ⟨cs, ?_, hle, hmx (by unfold maxLen; omega)⟩
  rw [run_callFunc_extern Tryd.func41 (by kernel_rfl) (by kernel_rfl) (by kernel_rfl) (e := Extern.BytealgMakeNoZero.makeNoZero #[3] #[24]) (by kernel_rfl), hrunM]
  rfl
theorem rep_m {bp T : Nat} (hb1 : 1 ≤ bp) (hlt : (bp : Int) < (T : Int)) : 1 ≤ bp.min (T - bp) ∧ bp.min (T - bp) ≤ T - bp := ⟨Nat.le_min.2 ⟨hb1, by omega⟩, Nat.min_le_right _ _⟩
theorem rep_w {bp T m : Nat} (h : T ≤ 256) (h1 : bp ≤ T) (h2 : m ≤ T - bp) : wrap64 ((bp : Int) + (m : Int)) = ((bp + m : Nat) : Int) := by unfold wrap64; omega
theorem rep_le {bp T m : Nat} (h1 : bp ≤ T) (h2 : m ≤ T - bp) : bp + m ≤ T := by omega
theorem rep_lt {bp T m g : Nat} (hlt : (bp : Int) < (T : Int)) (hm : 1 ≤ m) (h2 : m ≤ T - bp) (hg : T - bp ≤ g) : T - (bp + m) < g := by omega
theorem add0 (g j : Nat) : (⟨g, 0, none⟩ : Addr).add j = ⟨g, j, none⟩ := by unfold Addr.add; split <;> simp_all
/-- the buffer: its first k cells hold x -/
def RepSt (w W : World) (T : Nat) (x : Int) (k : Nat) : Prop := ∃ cur : Array Value, W.heap[w.heap.size]? = some (.cells cur 5 (0, 0)) ∧ (T ≤ cur.size ∧ cur.size ≤ maxLen) ∧ (∀ j, j < k → cur[j]? = some (.int .u8 x)) ∧ Below w.heap.size w W
theorem RepSt.cell {w W : World} {T : Nat} {x : Int} {k j : Nat} (h : RepSt w W T x k) (hj : j < k) : W.cell? ⟨w.heap.size, j, none⟩ = some (.int .u8 x) := by
  obtain ⟨cur, hg, _, hc, _⟩ := h
  simp only [World.cell?, hg]; exact hc j hj
theorem RepSt.drewN {w W : World} {T : Nat} {x : Int} {k : Nat} (h : RepSt w W T x k) (n : Nat) : RepSt w (W.drewN n) T x k := by
  obtain ⟨cur, hg, h1, hc, hB⟩ := h
  exact ⟨cur, hg, h1, hc, pw_below_drewN hB n⟩
theorem copyK {w W : World} {T k m : Nat} {x : Int} (hS : RepSt w W T x k) (a : Addr) (sLen sCap dCap : Nat) (hm : m = Nat.min sLen (T - k)) (hk : k ≤ T) (hsrc : ∀ j, j < m → W.cell? (a.add j) = some (.int .u8 x)) :
    ∃ W2, (Builtin.copy_ #[24, 24] 3 #[.slice (some ⟨w.heap.size, k, none⟩) (T - k) dCap, .slice (some a) sLen sCap]).run Tryd.prog W = .ok (.int .i64 (m : Int)) W2 ∧ RepSt w W2 T x (k + m) := by
  obtain ⟨cur, hg, hT, hc, hB⟩ := hS
  have hml : k + m ≤ cur.size := by have : m ≤ T - k := by rw [hm]; exact Nat.min_le_right _ _
                                    have := hT.1; omega
  obtain ⟨i0, hi, hz0, hz1, hz2⟩ := info_parts info5
  have hr := run_copy_row (P := Tryd.prog) W 24 24 3 5 w.heap.size k (T - k) dCap a sLen sCap cur 5 (List.replicate m (.int .u8 x)) Tryd.underlying24 (by rw [hi]; simp [hz1]) hg (by simp [hm])
    (fun j v hj => by
      rw [List.getElem?_replicate] at hj
      split at hj
      · cases hj; exact hsrc j (by assumption)
      · cases hj) (by simpa using hml) (fun v hv => by rw [List.eq_of_mem_replicate hv]; rfl)
  rw [List.length_replicate] at hr
  refine ⟨_, hr, _, setRow_heap _ _ _ _ _ _ hg, ?_, fun j hj => ?_, below_setRow hB (Nat.le_refl _) _⟩
  · have e : min k cur.size + (m + (cur.size - (k + m))) = cur.size := by omega
    have e2 : T ≤ min k cur.size + (m + (cur.size - (k + m))) ∧ min k cur.size + (m + (cur.size - (k + m))) ≤ maxLen := by rw [e]; exact hT
    simpa using e2
  · simp only [List.getElem?_toArray]
    by_cases h1 : j < k
    · rw [List.append_assoc, List.getElem?_append_left (by simp; omega), List.getElem?_take_of_lt h1]
      simpa using hc j h1
    · rw [List.append_assoc, List.getElem?_append_right (by simp; omega), List.getElem?_append_left (by simp; omega), List.getElem?_replicate, if_pos (by simp; omega)]
theorem copy0 {w : World} {a : Addr} {c0 T : Nat} {x : Int} (nd : Nat) (cs : Array Value) (hle : T ≤ cs.size ∧ cs.size ≤ maxLen) (h1 : 1 ≤ T) (hx : w.cell? a = some (.int .u8 x)) :
    ∃ W2, (Builtin.copy_ #[24, 24] 3 #[.slice (some ⟨w.heap.size, 0, none⟩) T T, .slice (some a) 1 c0]).run Tryd.prog (((w.drewN nd).alloc (.cells cs 5)).drewN 2) = .ok (.int .i64 1) W2 ∧ RepSt w W2 T x 1 := by
  have hB : Below w.heap.size w (((w.drewN nd).alloc (.cells cs 5)).drewN 2) := pw_below_drewN (below_alloc (pw_below_drewN (Below.refl _ w) nd) _) 2
  have hS : RepSt w (((w.drewN nd).alloc (.cells cs 5)).drewN 2) T x 0 := ⟨cs, World.alloc_heap_new (w.drewN nd) (.cells cs 5), hle, fun j hj => absurd hj (by omega), hB⟩
  obtain ⟨W2, h2, h3⟩ := copyK (m := 1) hS a 1 c0 T (by rw [Nat.sub_zero]; exact (Nat.min_eq_left h1).symm) (Nat.zero_le _) (fun j hj => by
    obtain rfl : j = 0 := by omega
    rw [show a.add 0 = a by simp [Addr.add]]
    exact (hB.cell (World.block_lt_of_cell? _ _ hx)).trans hx)
  exact ⟨W2, h2, h3⟩
set_option maxHeartbeats 8000000 in
set_option maxRecDepth 100000 in
theorem Repeat_walk (hMul : ∀ (T : Nat) (w : World), 1 ≤ T → T ≤ 256 → Calls Tryd.prog 40 #[.int .u64 1, .int .u64 (T : Int)] w fun e w' => e = .returned (.tuple #[.int .u64 0, .int .u64 (T : Int)]) ∧ Drawn0 w w')
    (a : Addr) (c0 : Nat) (x : Int) (T : Nat) (h1 : 1 ≤ T) (h2 : T ≤ 256) (w : World) (hx : w.cell? a = some (.int .u8 x)) :
    Calls Tryd.prog 30 #[.slice (some a) 1 c0, .int .i64 (T : Int)] w fun e w' => e = .returned (.slice (some ⟨w.heap.size, 0, none⟩) T T) ∧ RepSt w w' T x T := by
  have mixed : Tryd.prog.follows .mixedOrders = true := by kernel_rfl
  have f0 : ((T : Int) == 0) = false := beq_eq_false_iff_ne.2 (by omega)
  have f1 : decide ((T : Int) < 0) = false := decide_eq_false (by omega)
  have f3 : decide ((T : Int) > 9223372036854775807) = false := decide_eq_false (by omega)
  have f4 : decide ((T : Int) > 8192) = false := decide_eq_false (by omega)
  have e1 : IntKind.u64.wrap (T : Int) = (T : Int) := by
    show (T : Int) % 18446744073709551616 = T; omega
  have e2 : IntKind.i64.wrap (T : Int) = (T : Int) := by rw [i64_w]; unfold wrap64; omega
  go_enter Tryd.func30, Tryd.ntmps30
  go_wp2_with (first | (go_at_call 40; refine (hMul T _ h1 h2).mono ?_; rintro e w' ⟨rfl, ⟨nd, rfl⟩⟩; obtain ⟨cs, hcall, hle⟩ := noZero_run T (w.drewN nd) (by omega); have i1 : (T : Int) ≤ (cs.size : Int) := (by have := hle.1; omega); obtain ⟨W2, hcp, hS2⟩ := copy0 (c0 := c0) nd cs hle h1 hx) | (at_builtin; refine Lib.wpList_copy_run _ rfl _ _ 24 24 rfl _ _ rfl rfl hcp ?_))
  clear hcp hcall
  go_loopg [10] T (fun g v wr => ∃ bp : Nat, v = .int .i64 (bp : Int) ∧ 1 ≤ bp ∧ bp ≤ T ∧ T - bp ≤ g ∧ Aside0 (RepSt w wr T x bp))
  case atStart => exact ⟨1, rfl, Nat.le_refl _, h1, by omega, ⟨hS2⟩⟩
  case round =>
    obtain ⟨bp, rfl, hb1, hb2, hg, HS⟩ := hrel
    by_cases hlt : (bp : Int) < (T : Int)
    · have d : decide ((bp : Int) < (T : Int)) = true := decide_eq_true hlt
      have hmn : min (bp : Int) (T : Int) = (bp : Int) := Int.min_eq_left (by omega)
      obtain ⟨i0', hi', _, hzz, _⟩ := info_parts info5
      have hs1 : ∀ W : World, (Instr.slice 24 (.slice (some ⟨w.heap.size, 0, none⟩) T T) (some (.int .i64 (bp : Int))) none none).run Tryd.prog W = .ok (.slice (some ⟨w.heap.size, bp, none⟩) (T - bp) (T - bp)) W := fun W => by
        have := cut_from (P := Tryd.prog) 24 5 .i64 Tryd.underlying24 hi' 1 hzz (some ⟨w.heap.size, 0, none⟩) T T bp (by omega) (by omega) W
        rw [Int.toNat_natCast, if_neg (by omega)] at this
        simpa [Addr.add, show bp ≠ 0 by omega] using this
      have hs2 : ∀ W : World, (Instr.slice 24 (.slice (some ⟨w.heap.size, 0, none⟩) T T) none (some (.int .i64 (bp : Int))) none).run Tryd.prog W = .ok (.slice (some ⟨w.heap.size, 0, none⟩) bp T) W := fun W => by
        have := cut_to (P := Tryd.prog) 24 5 .i64 Tryd.underlying24 hi' (some ⟨w.heap.size, 0, none⟩) T T bp (by omega) (by omega) (Nat.le_refl _) W
        rwa [Int.toNat_natCast] at this
      obtain ⟨m, hm⟩ : ∃ m, m = Nat.min bp (T - bp) := ⟨_, rfl⟩
      have hSd : RepSt w wr.drew T x bp := HS.out.drewN 1
      obtain ⟨W3, hcp3, hS3⟩ := copyK hSd ⟨w.heap.size, 0, none⟩ bp T (T - bp) hm hb2 (fun j hj => by
        have hjb : j < bp := by rw [hm] at hj; exact Nat.lt_of_lt_of_le hj (Nat.min_le_left _ _)
        rw [add0 w.heap.size j]; exact hSd.cell hjb)
      go_wp2
      go_region
      obtain ⟨hm1, hm2⟩ := rep_m hb1 hlt
      rw [hm] at hS3
      clear hcp3 hm hs1 hs2 HS hSd hmn d
      generalize bp.min (T - bp) = m at hm1 hm2 hS3 ⊢
      have hw := rep_w h2 hb2 hm2
      rw [hw]
      go_wp2
      go_roundg (T - (bp + m))
      case measure => exact rep_lt hlt hm1 hm2 hg
      case rel => exact ⟨bp + m, rfl, Nat.le_trans hb1 (Nat.le_add_right _ _), rep_le hb2 hm2, Nat.le_refl _, ⟨hS3⟩⟩
    · have d : decide ((bp : Int) < (T : Int)) = false := decide_eq_false hlt
      go_wp2
      go_ret
      obtain rfl : bp = T := by omega
      exact ⟨rfl, HS.out⟩
end Go.Proofs.YtpjdgndbcjinjaaDoor.P
