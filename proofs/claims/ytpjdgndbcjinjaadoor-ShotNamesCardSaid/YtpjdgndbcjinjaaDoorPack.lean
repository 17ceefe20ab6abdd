import Derived.Test.YtpjdgndbcjinjaaDoorIter
import Derived.Lib.SliceRun
namespace Go.Proofs.YtpjdgndbcjinjaaDoor.P
open Go.RowKit Go.Shelf Go.Proofs.YtpjdgndbcjinjaaDoorW.PrintWords
attribute [local go_sem] Oper.semAt_some
set_option linter.unusedVariables false
set_option linter.unusedSimpArgs false

def runBytes (r : Nat × Int) : List Int := [wrap64 ((r.1 : Int) - 1) % 256, r.2]
def packOf (l : List (Nat × Int)) : List Int := l.flatMap runBytes
theorem packOf_snoc (l : List (Nat × Int)) (r : Nat × Int) : packOf (l ++ [r]) = packOf l ++ runBytes r := by simp [packOf]
theorem packOf_len : ∀ l : List (Nat × Int), (packOf l).length = 2 * l.length
  | [] => rfl
  | r :: l => by have := packOf_len l; simp [packOf, runBytes] at *; omega
def shot_Pack.f (l0 : List Int) : Option (List Int × Int) := if l0.length = 3072 then some (packOf (runsOf l0.length l0), 0) else some ([], 2)
def bytes_Clone.f (l0 : List Int) : Option (List Int) := if l0.length ≤ 140737488351232 then some l0 else none

theorem cell_two_new (w : World) (x y : Value) (t : TypeId) : ∀ j u, [x, y][j]? = some u → (w.alloc (.cells #[x, y] t)).cell? ((⟨w.heap.size, 0, none⟩ : Addr).add j) = some u := by
  intro j u hj
  have hh := World.alloc_heap_new w (.cells #[x, y] t)
  match j, hj with
  | 0, hj => simp at hj; subst hj; rw [show (⟨w.heap.size, 0, none⟩ : Addr).add 0 = ⟨w.heap.size, 0, none⟩ by simp [Addr.add]]; simp only [World.cell?, hh]; rfl
  | 1, hj => simp at hj; subst hj; rw [show (⟨w.heap.size, 0, none⟩ : Addr).add 1 = ⟨w.heap.size, 1, none⟩ by simp [Addr.add]]; simp only [World.cell?, hh]; rfl
  | j + 2, hj => simp at hj
theorem one_two (a b : Int) : ∀ u ∈ [Value.int .u8 a, Value.int .u8 b], u.oneCell' = true := by
  intro u hu
  simp at hu
  rcases hu with rfl | rfl <;> rfl

theorem boxedEx_own (B : Nat) (t : TypeId) : Own (fun (_ : List (Nat × Int)) W => ∃ v, Boxed W B t v) := fun s X Y row hs hg hrow => by
  obtain ⟨v, hv⟩ := hs
  exact ⟨v, hv.kept hg (fun e' => by obtain ⟨o, ho, hc⟩ := hrow B e'.symm; rw [show X.heap[B]? = _ from hv] at ho; cases ho; cases hc)⟩

set_option maxHeartbeats 1000000 in
theorem screen_in (D n : Nat) (A0 : Option Addr) (c0 : Nat) (N : Nat) (w : World) :
    CallsIn (FF D) n Tryd.prog 32 #[.slice A0 N c0] w fun e w' => e = .returned (.bool (decide (N = 3072))) ∧ w = w' := by
  refine callsIn_of_wp Tryd.func32 rfl (by simp [Fence.list]) ?_ rfl
  simp only [Tryd.ntmps32, List.size_toArray, List.length_cons, List.length_nil, Nat.reduceAdd, Nat.reduceSub, Array.replicate_succ, Array.replicate_zero, List.push_toArray, List.append_toArray, List.nil_append, List.cons_append]
  gi_wp2
  go_ret
  refine ⟨?_, rfl⟩
  congr 2
  by_cases h : N = 3072
  · simp [h]
  · have h2 : ((N : Int) == 3072) = false := beq_eq_false_iff_ne.mpr (by omega)
    simp [h, h2]

set_option maxHeartbeats 1000000 in
theorem runs_in (D n : Nat) (v : Value) (w : World) (A0 : Option Addr) (l c0 : Nat) (hv : v = .slice A0 l c0) :
    CallsIn (FF D) n Tryd.prog 36 #[v] w fun e w' => e = .returned (.func (.func 42) #[] #[.pointer (some ⟨w.heap.size, 0, none⟩)]) ∧ w' = w.alloc (.cells #[v] 24) := by
  subst hv
  refine callsIn_of_wp Tryd.func36 rfl (by simp [Fence.list]) ?_ rfl
  simp only [Tryd.ntmps36, List.size_toArray, List.length_cons, List.length_nil, Nat.reduceAdd, Nat.reduceSub, Array.replicate_succ, Array.replicate_zero, List.push_toArray, List.append_toArray, List.nil_append, List.cons_append]
  gi_wp2
  go_ret
  exact ⟨rfl, rfl⟩

set_option maxRecDepth 100000 in
set_option maxHeartbeats 4000000 in
theorem Pack_in (D : Nat) (A0 : Option Addr) (c0 : Nat) (l0 : List Int) (w : World) (hC : Kd.C (Kd.int .u8) w A0 l0.length l0) (hc0 : l0.length ≤ c0) (hl : l0.length = 3072) :
    CallsIn (FF D) 3 Tryd.prog 25 #[.slice A0 l0.length c0] w fun e W' => ∃ v, e = .returned (.tuple #[v, .int .i64 0]) ∧ W'.ownsRow w.heap.size 5 1 v (packOf (runsOf l0.length l0)).length ((packOf (runsOf l0.length l0)).map (Value.int .u8)) ∧ Below w.heap.size w W' := by
  obtain ⟨i0, hi, hz0, hz1, hz2⟩ := info_parts info5
  have hmx : Tryd.prog.follows .mixedOrders = true := by kernel_rfl
  refine callsIn_of_wp_marks Tryd.func25 rfl (by simp [Fence.list]) ?_ rfl
  simp only [Tryd.ntmps25, List.size_toArray, List.length_cons, List.length_nil, Nat.reduceAdd, Nat.reduceSub, Array.replicate_succ, Array.replicate_zero, List.push_toArray, List.append_toArray, List.nil_append, List.cons_append]
  obtain ⟨N, hN⟩ : ∃ N, N = l0.length := ⟨_, rfl⟩
  have hd : decide (N = 3072) = true := decide_eq_true (by omega)
  obtain ⟨R, hR⟩ : ∃ R, R = packOf (runsOf l0.length l0) := ⟨_, rfl⟩
  rw [← hR]
  have hCN := Aside0.mk hC
  clear hC
  rw [← hN]
  have hLN := Aside0.mk hl
  have hcN := Aside0.mk hc0
  have hRN := Aside0.mk hR
  have hNN := Aside0.mk hN
  clear hl hc0 hR hN
  gi_wp2_with (first | (gi_at_call 32; refine (screen_in D _ _ _ N _).mono ?_; rintro e w' ⟨rfl, rfl⟩; rw [hd]) | (gi_at_call 36; refine (runs_in D _ _ _ A0 N c0 rfl).mono ?_; rintro e w' ⟨rfl, rfl⟩))
  have hC := hCN.out
  have hl := hLN.out
  have hc0 := hcN.out
  have bO := Boxed.new w 24 (.slice none 0 0)
  have bN := Boxed.new (w.alloc (.cells #[.slice none 0 0] 24)) 24 (.slice A0 N c0)
  rw [World.size_alloc] at bN
  have hB0 : Below w.heap.size w ((w.alloc (.cells #[.slice none 0 0] 24)).alloc (.cells #[.slice A0 N c0] 24)) := ((Below.refl _ w).alloc (Nat.le_refl _) _).alloc (by simp) _
  refine range_box (α := Nat × Int) (F := FF D) rfl (by omega) (gf := 42) (lb := #[.pointer (some ⟨w.heap.size + 1, 0, none⟩)]) rfl (by simp [Fence.list]) (enters_of Tryd.func42 (by kernel_rfl) rfl)
    (encs := fun x => #[.int .i64 (x.1 : Int), .int .u8 x.2]) (fun _ => rfl) (Kp := KpB w.heap.size (w.heap.size + 1)) (fun h k => ⟨h.1.trans k.1, k.2.trans h.2⟩)
    (fun W l o o' hl' h1 h2 h3 => ⟨belowK_b (w := w) (Nat.le_refl _) W l o o' (by simp at hl'; omega) h1 h2 h3, World.putObj_heap_other (by simp at hl'; omega)⟩)
    (S := fun ys => ys = runsOf l0.length l0) (N := l0.length) (Bn := w.heap.size + 1) (by simp)
    (fun pre W => ((∃ v, Boxed W w.heap.size 24 v ∧ W.ownsRow w.heap.size 5 1 v (packOf pre).length ((packOf pre).map (Value.int .u8)) ∧ True) ∧ (∃ u, Boxed W (w.heap.size + 1) 24 u)) ∧ Below w.heap.size w W)
    (OwnFrom.and (OwnFrom.and (Own.from (holdsRow_own w.heap.size w.heap.size 24 5 1 (fun pre => (packOf pre).length) (fun pre => (packOf pre).map (Value.int .u8)) (fun _ _ => True)) _) (Own.from (boxedEx_own (w.heap.size + 1) 24) _)) (ownFrom_below (Nat.le_refl _) (by simp; omega)))
    ?hIb ⟨⟨⟨_, bO.alloc _, World.ownsRow_nil _ _ _ _, trivial⟩, _, bN⟩, hB0⟩ ?hseq
    (fun x => { tmps := #[.slice A0 N c0, undef, .slice none 0 0, .int .i64 0, .pointer (some ⟨w.heap.size, 0, none⟩), .int .i64 (x.1 : Int), .int .u8 x.2, .slice A0 N c0, .bool true, .bool false, .slice A0 N c0, .func (.func 42) #[] #[.pointer (some ⟨w.heap.size + 1, 0, none⟩)], .int .i64 (x.1 : Int), .int .u8 x.2, undef, undef, undef, undef, undef, undef, undef, undef], defers := [] }) ?assign ?body ?done
  case hIb =>
    rintro pre A v ⟨⟨⟨u, hu, hr, _⟩, z, hz⟩, hB⟩
    exact ⟨⟨⟨u, hu.other (by omega) v, hr.kept (grownBy_setCell' A _ v) (.inr (hz.not_row (by decide) hr).symm), trivial⟩, v, hz.set v⟩, hB.setCell (p := ⟨w.heap.size + 1, 0, none⟩) (by simp) v⟩
  case hseq =>
    intro l J W hJa hJb hY hWB hJ0
    have hNl := hNN.out
    refine runs1_in D 2 (by omega) l (w.heap.size + 1) w A0 c0 l0 hC (by omega) J _ hJa hJb (by simp) hY W ?_ (hB0.trans (hWB.mono (by simp; omega))) hJ0
    rw [← hNl]
    exact (hWB.block (w.heap.size + 1) (by simp)).trans bN
  case assign =>
    intro l x W K hK
    gi_wp2
    exact hK
  case body =>
    rintro l pre x W ⟨⟨⟨v, hv, hrow, _⟩, z, hz⟩, hB⟩ hlt
    have hcv := hv.cell
    have hpl := packOf_len pre
    have hlen1 : (packOf pre).length + 2 ≤ maxLen := by rw [hpl]; simp only [maxLen]; omega
    have hlen2 : ((packOf pre).length + 2) * 1 ≤ 140737488355328 := by rw [hpl]; omega
    have hbsz : w.heap.size ≤ (W.alloc (Obj.cells #[Value.int IntKind.u8 (wrap64 (↑x.fst - 1) % 256), Value.int IntKind.u8 x.snd] 5)).heap.size := by have := hB.size; simp; omega
    have hso := Aside0.mk (show packOf (pre ++ [x]) = packOf pre ++ [wrap64 ((x.1 : Int) - 1) % 256, x.2] from packOf_snoc pre x)
    clear hpl
    gi_wp2_with (gi_at_builtin; refine wpListIn_append_own _ rfl _ _ 24 rfl w.heap.size 5 i0 (.int .u8 0) 1 1 Tryd.underlying24 hi hz0 hz1 hz2 rfl (by decide) _ _ _ rfl (hrow.alloc _) ⟨W.heap.size, 0, none⟩ 2 2 [.int .u8 (wrap64 (↑x.fst - 1) % 256), .int .u8 x.snd] rfl rfl (cell_two_new _ _ _ _) (one_two _ _) hlen1 hlen2 hbsz ?_; intro v' w1 hown' hgrow _; obtain ⟨g', cap', rfl⟩ := ownsRow_succ hown'; obtain ⟨hv1, hv2, hr2, hk2, hb2⟩ := hv.appended (by decide) hrow hB.size (Nat.le_refl _) hown' hgrow; have hc1 := hv1.cell; have hf1 := hv1.frozen)
    have hz1' : Boxed w1 (w.heap.size + 1) 24 z := (hz.alloc _).kept hgrow (hz.not_row (by decide) hrow)
    have hz2' := hz1'.other (B' := w.heap.size) (by omega) (Value.slice (some { block := g', off := 0 }) ((packOf pre).length + 1 + 1) cap')
    refine ⟨hk2.from _, ⟨hb2, hz2'.trans hz.symm⟩, ⟨⟨_, hv2, ?_⟩, z, hz2'⟩, hB.trans hb2⟩
    rw [hso.out]
    simpa using hr2
  case done =>
    rintro Dd xs W hD rfl ⟨⟨⟨v, hv, hrow, _⟩, z, hz⟩, hB⟩ hK
    have hcv := hv.cell
    have hR := hRN.out
    rw [← hR] at hrow
    gi_wp2
    refine ⟨by simp, .inl ⟨_, _, rfl, run_takeDeferred hK, ?_⟩⟩
    exact ⟨_, results_tmp2 rfl _ _ _, v, rfl, ownsRow_putObj hrow _ hK rfl, hB.trans (belowK_b (w := w) (Nat.le_refl _) W Dd _ _ (by simp at hD; omega) hK rfl rfl)⟩

set_option maxRecDepth 100000 in
set_option maxHeartbeats 4000000 in
theorem Pack_no (D : Nat) (A0 : Option Addr) (c0 N : Nat) (w : World) (hl : N ≠ 3072) :
    CallsIn (FF D) 3 Tryd.prog 25 #[.slice A0 N c0] w fun e W' => e = .returned (.tuple #[.slice none 0 0, .int .i64 2]) ∧ w = W' := by
  have hd : decide (N = 3072) = false := decide_eq_false hl
  refine callsIn_of_wp Tryd.func25 rfl (by simp [Fence.list]) ?_ rfl
  simp only [Tryd.ntmps25, List.size_toArray, List.length_cons, List.length_nil, Nat.reduceAdd, Nat.reduceSub, Array.replicate_succ, Array.replicate_zero, List.push_toArray, List.append_toArray, List.nil_append, List.cons_append]
  gi_wp2_with (first | (gi_at_call 32; refine (screen_in D _ _ _ N _).mono ?_; rintro e w' ⟨rfl, rfl⟩; rw [hd]))
  refine bodyPost_ret (results_tmp2 rfl _ _ _) rfl ?_
  exact ⟨rfl, rfl⟩

theorem shot_Pack.calls (A0 : Option Addr) (c0 : Nat) (l0 : List Int) (r1 : List Int) (r2 : Int) (w : World) (hr0 : Kd.C (Kd.int .u8) w A0 l0.length l0) (hc0 : l0.length ≤ c0) (h : shot_Pack.f l0 = some (r1, r2)) :
    Calls Tryd.prog 25 #[.slice A0 l0.length c0] w fun e w' => ∃ v0_ : Value, e = .returned (.tuple #[v0_, .int .i64 r2]) ∧ Kd.R (Kd.int .u8) 5 w' w.heap.size (fun _ => True) v0_ r1 ∧ Below w.heap.size w w' := by
  refine calls_of_every_depth (L := [25, 32, 36, 42]) (n := 3) fun D => ?_
  by_cases hl : l0.length = 3072
  · rw [shot_Pack.f, if_pos hl] at h
    obtain ⟨rfl, rfl⟩ := Prod.mk.inj (Option.some.inj h)
    refine (Pack_in D A0 c0 l0 w hr0 hc0 hl).mono ?_
    rintro e W' ⟨v, rfl, ho, hB⟩
    exact ⟨v, rfl, Kd.R_of_own (h1 := fun _ => rfl) (ok := fun _ => True) ho (fun _ _ => trivial), hB⟩
  · rw [shot_Pack.f, if_neg hl] at h
    obtain ⟨rfl, rfl⟩ := Prod.mk.inj (Option.some.inj h)
    refine (Pack_no D A0 c0 l0.length w hl).mono ?_
    rintro e W' ⟨rfl, rfl⟩
    exact ⟨_, rfl, Kd.R_nil _ _ _ _ _, Below.refl _ _⟩

set_option maxRecDepth 100000 in
set_option maxHeartbeats 4000000 in
theorem bytes_Clone.calls (A0 : Option Addr) (c0 : Nat) (l0 : List Int) (r : List Int) (w : World) (hr0 : Kd.C (Kd.int .u8) w A0 l0.length l0) (hc0 : l0.length ≤ c0) (h : bytes_Clone.f l0 = some r) :
    Calls Tryd.prog 33 #[.slice A0 l0.length c0] w fun e w' => ∃ v0_ : Value, e = .returned v0_ ∧ Kd.R (Kd.int .u8) 5 w' w.heap.size (fun _ => True) v0_ r ∧ Below w.heap.size w w' := by
  have hsz : l0.length ≤ 140737488351232 := by
    apply Classical.byContradiction; intro hh; rw [bytes_Clone.f, if_neg hh] at h; cases h
  rw [bytes_Clone.f, if_pos hsz] at h
  obtain rfl := Option.some.inj h
  have hSZ := Aside0.mk hsz
  clear hsz
  have mixed : Tryd.prog.follows .mixedOrders = true := by kernel_rfl
  obtain ⟨i0, hi, hz0, hz1, hz2⟩ := info_parts info5
  have q22 : ∀ (w : World) (a : Option Addr) (n c n' c' : Nat), (binOp .eql 24 (.slice a n c) (.slice none n' c')).run Tryd.prog w = .ok (.bool a.isNone) w := fun w a n c n' c' => Go.Lib.run_eql_slice_nil w _ _ a n c n' c' Tryd.underlying24
  obtain ⟨n, hn⟩ : ∃ n, n = l0.length := ⟨_, rfl⟩
  have hC := Aside0.mk hr0
  have hN := Aside0.mk hn
  rw [← hn]
  clear hr0 hc0 hn h
  cases A0 with
  | none =>
    go_enter Tryd.func33, Tryd.ntmps33
    go_wp2
    go_ret
    have hr0 := hC.out
    have : l0 = [] := by
      cases l0 with
      | nil => rfl
      | cons x t => obtain ⟨ad, e, _⟩ := Kd.at_int hr0 0 (by omega) (by simp); cases e
    subst this
    exact ⟨_, rfl, Kd.R_nil _ _ _ _ _, Below.refl _ _⟩
  | some a =>
    go_enter Tryd.func33, Tryd.ntmps33
    go_wp2_with (at_builtin; refine wpList_append_own _ rfl _ _ 24 rfl w.heap.size 5 i0 (.int .u8 0) 1 1 Tryd.underlying24 hi hz0 hz1 hz2 rfl (by decide) _ _ _ rfl (World.ownsRow_made w #[] 0 (Nat.le_refl _) (Nat.zero_le _) rfl) a n _ (l0.map (Value.int .u8)) rfl ?qc1 ?qc2 ?qc3 ?qc4 ?qc5 ?qc6 ?_)
    case qc1 => simp [hN.out]
    case qc2 =>
      intro j u hj
      have hjn : j < l0.length := by
        have := (List.getElem?_eq_some_iff.1 hj).1
        simpa using this
      refine Go.Lib.cell?_alloc_some _ ?_
      obtain ⟨ad, e, hx⟩ := Kd.at_int hC.out j (by omega) (by omega)
      cases e
      rw [Int.toNat_natCast] at hx
      rw [hx]
      have e : (l0.map (Value.int .u8))[j]? = some (Value.int .u8 (rd l0 j)) := by simp [rd, List.getD, List.getElem?_eq_getElem hjn]
      rw [e] at hj
      exact hj
    case qc3 => intro u hu; obtain ⟨x, _, rfl⟩ := List.mem_map.1 hu; rfl
    case qc4 => have := hSZ.out; have := hN.out; unfold maxLen; omega
    case qc5 => have := hSZ.out; have := hN.out; omega
    case qc6 => simp
    intro v' w1 hown hgrow hnil
    go_wp2
    go_ret
    have hNo := hN.out
    subst hNo
    refine ⟨v', rfl, Kd.R_of_own (h1 := fun _ => rfl) (ok := fun _ => True) (by have h2 := hown; (try simp at h2); exact h2) (fun _ _ => trivial), ?_⟩
    exact ((Below.refl _ w).alloc (Nat.le_refl _) _).grown hgrow (by simp) (by intro k hk; simp [Value.ownBlock] at hk; omega)
end Go.Proofs.YtpjdgndbcjinjaaDoor.P
