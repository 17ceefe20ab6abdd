/- layout.defs: the iterator: its contract. -/
import Derived.Test.YtjphhnhloeanlaaLp
import Derived.Test.YtjphhnhloeanlaaRb
import Derived.Shelf.Abstract
import Derived.WalkKit
import Derived.OwnWalkIn
import Derived.TacticsInMore
import Derived.LoopNIn
import Derived.LoopIn
import Derived.Maps.AppendAt
import Derived.Sort.EveryDepth
import Derived.RegionIn
import Derived.Shelf.RegionOpen
import Derived.Sort.QuietIn
import Derived.Sort.CutIn
namespace Go.Proofs.Ytjphhnhloeanlaa.P
open Go.RowKit Go.Shelf Go.Proofs.YtjphhnhloeanlaaW.PrintWords Go.Proofs.YtjphhnhloeanlaaW.PrintLast Go.Proofs.YtjphhnhloeanlaaW.PrintMore Go.Proofs.Ytjphhnhloeanlaa.Mem
attribute [local go_sem] Oper.semAt_some
set_option linter.unusedVariables false
set_option linter.unusedSimpArgs false
@[local simp, local go_sem] theorem wide_fn (f : FuncId) : Fence.wide.fn f = True := rfl
@[local simp, local go_sem] theorem wide_depth : Fence.wide.depth = none := rfl
@[local simp, local go_sem] theorem wide_alive : Fence.wide.alive = false := rfl
theorem name_world {F : Fence} {n : Nat} {P : Program} {c : Code} {Q : Exit → Act → World → Prop} {a : Act} {w : World} (Rw : World → Prop) (h : Rw w) (k : ∀ wy, Rw wy → Code.wpIn F n P c Q a wy) : Code.wpIn F n P c Q a w := k w h
/-- what a round that goes on keeps -/
def Kp (n0 : Nat) (W W' : World) : Prop := Below n0 W W' ∧ ∀ (k : Nat) (cs : Array Value) (t : TypeId) (fr : Nat × Nat), (t = 82 ∨ t = 32) → W.heap[k]? = some (Obj.cells cs t fr) → W'.heap[k]? = W.heap[k]?
theorem Kp.trans {n0 : Nat} {A B C : World} (h : Kp n0 A B) (k : Kp n0 B C) : Kp n0 A C :=
  ⟨h.1.trans k.1, fun i cs t fr ht hi => by
    have h1 := h.2 i cs t fr ht hi
    rw [hi] at h1
    rw [hi, ← h1]
    rw [k.2 i cs t fr ht h1]⟩
abbrev spotV (a s r b : Int) : Value := .agg #[.int .i64 a, .int .i64 s, .int .i64 r, .int .i64 b]
def adr (A : Option Addr) : Addr := A.getD ⟨0, 0, none⟩
def encs (A : Option Addr) (ds : List Df) (x : Fin ds.length) : Array Value := #[.pointer (some ((adr A).add (x.val * 6))), spotV (atN ds x.val) (dsz (dfA ds x.val)) (ramN ds x.val) (dby (dfA ds x.val))]
/-- the iterator's own variable -/
def Spot (W : World) (B : Nat) (a s r b : Int) : Prop := W.heap[B]? = some (.cells #[.int .i64 a, .int .i64 s, .int .i64 r, .int .i64 b] 82)
theorem Spot.cells {W : World} {B : Nat} {a s r b : Int} (h : Spot W B a s r b) : W.cell? ⟨B, 0, none⟩ = some (.int .i64 a) ∧ W.cell? ⟨B, 1, none⟩ = some (.int .i64 s) ∧ W.cell? ⟨B, 2, none⟩ = some (.int .i64 r) ∧ W.cell? ⟨B, 3, none⟩ = some (.int .i64 b) := by
  unfold Spot at h
  refine ⟨?_, ?_, ?_, ?_⟩ <;> simp [World.cell?, h]
theorem Spot.frozen {W : World} {B : Nat} {a s r b : Int} (h : Spot W B a s r b) (k : Nat) : W.frozen? ⟨B, k, none⟩ = false := by
  unfold Spot at h
  simp [World.frozen?, h]
theorem Spot.set0 {W : World} {B : Nat} {a s r b : Int} (h : Spot W B a s r b) (x : Int) : Spot (W.setCell ⟨B, 0, none⟩ (.int .i64 x)) B x s r b := by
  unfold Spot at *
  simp [World.setCell, Array.getElem?_modify, h]
theorem Spot.set1 {W : World} {B : Nat} {a s r b : Int} (h : Spot W B a s r b) (x : Int) : Spot (W.setCell ⟨B, 1, none⟩ (.int .i64 x)) B a x r b := by
  unfold Spot at *
  simp [World.setCell, Array.getElem?_modify, h]
theorem Spot.set2 {W : World} {B : Nat} {a s r b : Int} (h : Spot W B a s r b) (x : Int) : Spot (W.setCell ⟨B, 2, none⟩ (.int .i64 x)) B a s x b := by
  unfold Spot at *
  simp [World.setCell, Array.getElem?_modify, h]
theorem Spot.set3 {W : World} {B : Nat} {a s r b : Int} (h : Spot W B a s r b) (x : Int) : Spot (W.setCell ⟨B, 3, none⟩ (.int .i64 x)) B a s r x := by
  unfold Spot at *
  simp [World.setCell, Array.getElem?_modify, h]
theorem Spot.lt {W : World} {B : Nat} {a s r b : Int} (h : Spot W B a s r b) : B < W.heap.size := (Array.getElem?_eq_some_iff.1 h).1
theorem Spot.drewN {W : World} {B : Nat} {a s r b : Int} (h : Spot W B a s r b) (q : Nat) : Spot (W.drewN q) B a s r b := h
/-- a definition's cells -/
structure DefAt (W : World) (ad : Addr) (d : Df) (A3 : Option Addr) (c3 : Nat) : Prop where
  k : W.cell? ad = some (.int .i64 d.f0)
  nm : W.cell? ⟨ad.block, ad.off + 1, none⟩ = some (.string d.f1)
  v : W.cell? ⟨ad.block, ad.off + 2, none⟩ = some (.int .u16 d.f2)
  b : W.cell? ⟨ad.block, ad.off + 3, none⟩ = some (.slice A3 d.f3.length c3)
  l : W.cell? ⟨ad.block, ad.off + 4, none⟩ = some (.int .i64 d.f4.f0)
  c : W.cell? ⟨ad.block, ad.off + 5, none⟩ = some (.int .i64 d.f4.f1)
  C3 : k38.C W A3 d.f3.length d.f3
theorem DefAt.of {W : World} {A : Option Addr} {n : Nat} {ds : List Df} (h : k36.C W A n ds) (i : Nat) (hi : i < ds.length) : ∃ A3 c3, A = some (adr A) ∧ DefAt W ((adr A).add (i * 6)) (dfA ds i) A3 c3 := by
  obtain ⟨ad, A3, c3, e, h0, h1, h2, h3, h4, h5, l3, g3⟩ := at_T36 h (i : Int) (by omega) (by have := h.1; omega)
  have er : rd_T36 ds (i : Int) = dfA ds i := by unfold rd_T36 dfA; rw [Int.toNat_natCast]
  rw [er] at h0 h1 h2 h3 h4 h5 g3
  rw [Int.toNat_natCast] at h0 h1 h2 h3 h4 h5
  subst e
  exact ⟨A3, c3, rfl, h0, h1, h2, h3, h4, h5, g3⟩
theorem DefAt.below {W W' : World} {ad : Addr} {d : Df} {A3 : Option Addr} {c3 : Nat} (h : DefAt W ad d A3 c3) (hb : Below W.heap.size W W') : DefAt W' ad d A3 c3 := by
  have m : ∀ (a : Addr) (v : Value), W.cell? a = some v → W'.cell? a = some v := fun a v e => (hb.cell (World.block_lt_of_cell? _ _ e)).trans e
  exact ⟨m _ _ h.k, m _ _ h.nm, m _ _ h.v, m _ _ h.b, m _ _ h.l, m _ _ h.c, Kd.C_below h.C3 hb⟩
theorem DefAt.lt {W : World} {ad : Addr} {d : Df} {A3 : Option Addr} {c3 : Nat} (h : DefAt W ad d A3 c3) : ad.block < W.heap.size := World.block_lt_of_cell? _ _ h.k
/-- the boxed program -/
def BoxP (W : World) (B : Nat) (A : Option Addr) (n c : Nat) (u : Value) : Prop := W.heap[B]? = some (.cells #[.slice A n c, u] 32)
theorem BoxP.cell {W : World} {B n c : Nat} {A : Option Addr} {u : Value} (h : BoxP W B A n c u) : W.cell? ⟨B, 0, none⟩ = some (.slice A n c) := by
  unfold BoxP at h; simp [World.cell?, h]
theorem BoxP.other {W : World} {B n c : Nat} {A : Option Addr} {u : Value} (h : BoxP W B A n c u) {p : Addr} (hp : p.block ≠ B) (v : Value) : BoxP (W.setCell p v) B A n c u := (Below.heap_setCell _ _ _ B (Ne.symm hp)).trans h
theorem BoxP.lt {W : World} {B n c : Nat} {A : Option Addr} {u : Value} (h : BoxP W B A n c u) : B < W.heap.size := (Array.getElem?_eq_some_iff.1 h).1
theorem AbidesFrom.drewN {β : Type} {B : Nat} {J : β → World → Prop} (h : AbidesFrom B J) {s : β} {W : World} (hs : J s W) (q : Nat) : J s (W.drewN q) := h s W _ none hs ⟨rfl, rfl, rfl, Nat.le_refl _, fun _ _ _ => rfl⟩ (fun _ e => by cases e)
theorem AbidesFrom.alloc {β : Type} {B : Nat} {J : β → World → Prop} (h : AbidesFrom B J) {s : β} {W : World} (hs : J s W) (o : Obj) : J s (W.alloc o) := h s W _ none hs (World.grownBy_alloc W o none) (fun _ e => by cases e)
set_option maxRecDepth 100000 in
set_option maxHeartbeats 4000000 in
theorem defs_in {w0 : World} {A : Option Addr} {c : Nat} {u : Value} {ds : List Df} (hC : k36.C w0 A ds.length ds) (hok : OkD ds) {bp : Nat} (hbp : w0.heap.size ≤ bp)
    (l : Nat) (J Jx : List (Fin ds.length) → World → Prop) (W : World) (hJa : AbidesFrom W.heap.size J) (hJb : ∀ pre X p v, p.block = W.heap.size → J pre X → J pre (X.setCell p v)) (hlt : bp < W.heap.size)
    (hY : ∀ pre x W1, J pre W1 → (∃ a s r b, Spot W1 W.heap.size a s r b) → pre.length < ds.length → YieldAt Fence.wide 1 Try.prog l (encs A ds x) W1 fun e W' => (e = .returned (.bool true) ∧ J (pre ++ [x]) W' ∧ Kp w0.heap.size W1 W') ∨ (e = .returned (.bool false) ∧ Jx (pre ++ [x]) W'))
    (hb : Below w0.heap.size w0 W) (hp : BoxP W bp A ds.length c u) (h0 : J [] W) :
    CallsIn Fence.wide 2 Try.prog 51 #[.func (.yield l) #[] #[], .pointer (some ⟨bp, 0, none⟩)] W fun e W' => (∃ v, e = .returned v) ∧ ((∃ xs, xs.map Fin.val = List.range ds.length ∧ J xs W') ∨ (∃ pre, pre.map Fin.val = List.range pre.length ∧ Jx pre W')) := by
  obtain ⟨N, hN⟩ : ∃ N, N = ds.length := ⟨_, rfl⟩
  have hNN := Aside0.mk hN
  have hn63 : N ≤ 1000000000 := by have := hok.n; omega
  have hCC := Aside0.mk hC
  have hokk := Aside0.mk hok
  have hbb := Aside0.mk hb
  have hpp := Aside0.mk hp
  have h00 := Aside0.mk h0
  have hYY := Aside0.mk hY
  have hJaa := Aside0.mk hJa
  have hJbb := Aside0.mk hJb
  obtain ⟨B, hB⟩ : ∃ B, B = W.heap.size := ⟨_, rfl⟩
  have hBB := Aside0.mk hB
  have hbB : bp < B := by omega
  have hnB : ¬ bp = B := by omega
  have hcp := hp.cell
  have hlt2 : bp < W.heap.size := hlt
  rw [← hN] at hcp
  clear hN hC hok hb hp h0 hY hJa hJb hB
  refine callsIn_of_wp Try.func51 rfl (by simp) ?_ rfl
  simp only [Try.ntmps51, List.size_toArray, List.length_cons, List.length_nil, Nat.reduceAdd, Nat.reduceSub, Array.replicate_succ, Array.replicate_zero, List.push_toArray, List.append_toArray, List.nil_append, List.cons_append]
  gi_wp2
  rw [← hBB.out]
  have hS0 : Spot (W.alloc (.cells #[.int .i64 128, .int .i64 0, .int .i64 0, .int .i64 0] 82)) B 128 0 0 0 := by rw [hBB.out]; exact World.alloc_heap_new W _
  have hSS := Aside0.mk hS0
  clear hS0
  gi_loopw [10] (fun v wr => ∃ (i : Nat) (pre : List (Fin ds.length)), v = .int .i64 (i : Int) ∧ i ≤ N ∧ Aside0 (pre.map Fin.val = List.range i) ∧ Aside0 (BoxP wr bp A ds.length c u) ∧ Aside0 (∃ s y : Int, Spot wr B (atN ds i) s (ramN ds i) y) ∧ Aside0 (Below w0.heap.size w0 wr) ∧ Aside0 (J pre wr))
    (fun v _ => N - (intOf v).toNat)
  case atStart =>
    exact ⟨0, [], rfl, Nat.zero_le _, ⟨rfl⟩, ⟨(Below.heap_alloc W _ bp hlt).trans hpp.out⟩, ⟨0, 0, hSS.out⟩, ⟨below_alloc hbb.out _⟩, ⟨AbidesFrom.alloc hJaa.out h00.out _⟩⟩
  case round =>
    obtain ⟨i, pre, rfl, hi, hpre, hP, ⟨s0, y0, hS⟩, hB, hJ⟩ := hrel
    have hpl : pre.length = i := by have := congrArg List.length hpre.out; simpa using this
    have hplA := Aside0.mk hpl
    clear hpl
    by_cases hlt3 : i < N
    · have hd : decide (i < N) = true := decide_eq_true hlt3
      have hil : i < ds.length := by have := hNN.out; omega
      obtain ⟨A3, c3, eA, hDf⟩ := DefAt.of hCC.out i hil
      have hdm := dfA_mem hil
      have hcn : cnL (dfA ds i).f3 < 1000000000000 := by have := cnD_mem hdm; have := hokk.out.c; omega
      have hv := hokk.out.v _ hdm
      obtain ⟨a0, rfl⟩ : ∃ a0, A = some a0 := ⟨_, eA⟩
      rw [show (adr (some a0)) = a0 from rfl] at hDf
      have hblk : ¬ (a0.add (i * 6)).block = B := by have := hDf.lt; omega
      have hcw := hP.out.cell
      rw [← hNN.out] at hcw
      obtain ⟨sc0, sc1, sc2, sc3⟩ := hS.cells
      have sf := hS.frozen
      have hSa := Aside0.mk hS
      have hD0 := Aside0.mk hDf
      have hszA := Aside0.mk (show (dsz (dfA ds i)) = if (dfA ds i).f0 = 1 then 2 + szL (dfA ds i).f3 + 2 else if (dfA ds i).f0 = 3 then 4 else if (dfA ds i).f0 = 2 then 4 else 0 from rfl)
      have hbyA := Aside0.mk (show (dby (dfA ds i)) = if (dfA ds i).f0 = 3 then (dfA ds i).f2.toNat else 0 from rfl)
      have hbd := dsz_bd hokk.out hil
      have hb1 := atN_bd hokk.out i
      have hb2 := ramN_bd hokk.out i
      have hsuA := Aside0.mk (atN_succ hil)
      have hsuR := Aside0.mk (ramN_succ hil)
      have hYi := Aside0.mk (fun W1 h1 h2 => hYY.out pre ⟨i, hil⟩ W1 h1 h2 (by have := hplA.out; omega))
      have henc : encs (some a0) ds ⟨i, hil⟩ = #[.pointer (some (a0.add (i * 6))), spotV (atN ds i) (dsz (dfA ds i)) (ramN ds i) (dby (dfA ds i))] := rfl
      rw [henc] at hYi
      clear hS hDf eA hdm henc
      have hsf1 := sf 1
      have hsf3 := sf 3
      clear sf
      generalize dfA ds i = d at *
      generalize dsz d = S at *
      generalize dby d = Y at *
      generalize atN ds i = at0 at *
      generalize ramN ds i = rm0 at *
      gi_upto_region 6 with (fail)
      refine name_world (fun wy => BoxP wy bp (some a0) ds.length c u ∧ Spot wy B at0 0 rm0 0 ∧ Below w0.heap.size w0 wy ∧ J pre wy ∧ DefAt wy (a0.add (i * 6)) d A3 c3) ?_ ?_
      · have hF := (hB.out.setCell (p := ⟨B, 1, none⟩) (by show _ ≤ B; omega) (.int .i64 0)).setCell (p := ⟨B, 3, none⟩) (by show _ ≤ B; omega) (.int .i64 0)
        have hF2 : Below w0.heap.size w0 wr := hB.out
        refine ⟨(hP.out.other (p := ⟨B, 1, none⟩) (Ne.symm hnB) _).other (p := ⟨B, 3, none⟩) (Ne.symm hnB) _, (hSa.out.set1 0).set3 0, hF, hJbb.out _ _ _ _ hBB.out (hJbb.out _ _ _ _ hBB.out hJ.out), ?_⟩
        exact hD0.out.below hF
      · rintro wy ⟨hPy, hSy, hBy, hJy, hDy⟩
        have hPy2 := Aside0.mk hPy
        have hSy2 := Aside0.mk hSy
        have hBy2 := Aside0.mk hBy
        have hJy2 := Aside0.mk hJy
        have hC3 := Aside0.mk hDy.C3
        have e0 := hDy.k
        have e2 := hDy.v
        have e3 := hDy.b
        have hf1 := hSy.frozen 1
        have hf3 := hSy.frozen 3
        obtain ⟨sy0, sy1, sy2, sy3⟩ := hSy.cells
        have hT := Aside0.mk (fun q => Size_at (c := c3) (Kd.C_drewN hC3.out q) rfl hcn)
        have hT0 := Aside0.mk (Size_at (c := c3) hC3.out rfl hcn)
        have bT := szL_bd (cnL d.f3) d.f3 (Nat.le_refl _)
        clear hPy hSy hBy hJy hDy hP hSa hB hJ hD0 hcw sc0 sc1 sc2 sc3 hsf1 hsf3
        obtain ⟨v0, v1⟩ := hv
        rcases (show d.f0 = 1 ∨ d.f0 = 3 ∨ d.f0 = 2 ∨ (d.f0 ≠ 1 ∧ d.f0 ≠ 3 ∧ d.f0 ≠ 2) by omega) with hk | hk | hk | ⟨hk1, hk3, hk2⟩
        case' inl =>
          have hS1 : Aside0 (S = 2 + szL d.f3 + 2) := ⟨by rw [hszA.out, if_pos hk]⟩
          have hY1 : Aside0 (Y = 0) := ⟨by rw [hbyA.out, if_neg (by omega)]⟩
          rw [hk] at e0
          generalize szL d.f3 = T at *
          generalize d.f3.length = n3 at *
          have bT2 : T ≤ 8000000000000 := by omega
          clear bT
          gi_upto_region 14 with (gi_at_call 18; ((with_reducible refine (callsIn_wide.2 hT0.out).mono ?_)); rintro e w1 ⟨rfl, q, rfl⟩)
          refine name_world (fun wz => BoxP wz bp (some a0) ds.length c u ∧ Spot wz B at0 S rm0 Y ∧ Below w0.heap.size w0 wz ∧ J pre wz) ⟨BoxP.other (W := wy.drewN q) hPy2.out (p := ⟨B, 1, none⟩) (Ne.symm hnB) _, (by rw [hS1.out, hY1.out]; have h := (hSy2.out.drewN q).set1 (2 + (T : Int) + 2); simpa using h), (pw_below_drewN hBy2.out q).setCell (p := ⟨B, 1, none⟩) (by show _ ≤ B; omega) _, hJbb.out _ _ _ _ hBB.out (AbidesFrom.drewN hJaa.out hJy2.out q)⟩ ?_
        case' inr.inl =>
          have hS1 : Aside0 (S = 4) := ⟨by rw [hszA.out, if_neg (by omega), if_pos hk]⟩
          have hY1 : Aside0 ((Y : Int) = d.f2) := ⟨by rw [hbyA.out, if_pos hk]; omega⟩
          rw [hk] at e0
          gi_upto_region 14 with (fail)
          refine name_world (fun wz => BoxP wz bp (some a0) ds.length c u ∧ Spot wz B at0 S rm0 Y ∧ Below w0.heap.size w0 wz ∧ J pre wz) ⟨(hPy2.out.other (p := ⟨B, 3, none⟩) (Ne.symm hnB) _).other (p := ⟨B, 1, none⟩) (Ne.symm hnB) _, (by rw [hS1.out, hY1.out]; exact (hSy2.out.set3 d.f2).set1 4), (hBy2.out.setCell (p := ⟨B, 3, none⟩) (by show _ ≤ B; omega) _).setCell (p := ⟨B, 1, none⟩) (by show _ ≤ B; omega) _, hJbb.out _ _ _ _ hBB.out (hJbb.out _ _ _ _ hBB.out hJy2.out)⟩ ?_
        case' inr.inr.inl =>
          have hS1 : Aside0 (S = 4) := ⟨by rw [hszA.out, if_neg (by omega), if_neg (by omega), if_pos hk]⟩
          have hY1 : Aside0 (Y = 0) := ⟨by rw [hbyA.out, if_neg (by omega)]⟩
          rw [hk] at e0
          gi_upto_region 14 with (fail)
          refine name_world (fun wz => BoxP wz bp (some a0) ds.length c u ∧ Spot wz B at0 S rm0 Y ∧ Below w0.heap.size w0 wz ∧ J pre wz) ⟨hPy2.out.other (p := ⟨B, 1, none⟩) (Ne.symm hnB) _, (by rw [hS1.out, hY1.out]; exact hSy2.out.set1 4), hBy2.out.setCell (p := ⟨B, 1, none⟩) (by show _ ≤ B; omega) _, hJbb.out _ _ _ _ hBB.out hJy2.out⟩ ?_
        case' inr.inr.inr =>
          have hS1 : Aside0 (S = 0) := ⟨by rw [hszA.out, if_neg hk1, if_neg hk3, if_neg hk2]⟩
          have hY1 : Aside0 (Y = 0) := ⟨by rw [hbyA.out, if_neg hk3]⟩
          have d1 : (d.f0 == 1) = false := beq_eq_false_iff_ne.2 hk1
          have d3 : (d.f0 == 3) = false := beq_eq_false_iff_ne.2 hk3
          have d2 : (d.f0 == 2) = false := beq_eq_false_iff_ne.2 hk2
          clear hk1 hk2 hk3
          generalize d.f0 = kd at *
          gi_upto_region 14 with (fail)
          refine name_world (fun wz => BoxP wz bp (some a0) ds.length c u ∧ Spot wz B at0 S rm0 Y ∧ Below w0.heap.size w0 wz ∧ J pre wz) ⟨hPy2.out, (by rw [hS1.out, hY1.out]; exact hSy2.out), hBy2.out, hJy2.out⟩ ?_
        all_goals
          rintro wz ⟨hPz, hSz, hBz, hJz⟩
          obtain ⟨fn, tm, asg, bdy, hy, hR⟩ := hYi.out wz hJz ⟨_, _, _, _, by rw [← hBB.out]; exact hSz⟩
          obtain ⟨z0, z1, z2, z3⟩ := hSz.cells
          have hPz2 := Aside0.mk hPz
          have hSz2 := Aside0.mk hSz
          have hBz2 := Aside0.mk hBz
          have hRR := Aside0.mk hR
          clear hPz hSz hBz hJz hR e0 e2 e3 hf1 hf3 sy0 sy1 sy2 sy3
          gi_wp2
          refine hRR.out.mono ?_
          rintro e W3 (⟨rfl, hJ3, hK3⟩ | ⟨rfl, hF⟩)
          · have hP3 : BoxP W3 bp (some a0) ds.length c u := (hK3.2 bp _ _ _ (.inr rfl) hPz2.out).trans hPz2.out
            have hS3 : Spot W3 B at0 S rm0 Y := (hK3.2 B _ _ _ (.inl rfl) hSz2.out).trans hSz2.out
            have hB3 := Aside0.mk (hBz2.out.trans hK3.1)
            obtain ⟨x0, x1, x2, x3⟩ := hS3.cells
            have xf0 := hS3.frozen 0
            have xf2 := hS3.frozen 2
            have hPA := Aside0.mk hP3
            have hSA := Aside0.mk hS3
            have hJA := Aside0.mk hJ3
            clear hP3 hS3 hJ3 hK3 hy z0 z1 z2 z3
            gi_wp2
            have hmap : (pre ++ [(⟨i, hil⟩ : Fin ds.length)]).map Fin.val = List.range (i + 1) := by rw [List.map_append, hpre.out, List.range_succ]; rfl
            refine ⟨⟨i + 1, pre ++ [(⟨i, hil⟩ : Fin ds.length)], by rw [Int.natCast_succ], hlt3, ⟨hmap⟩, ⟨(hPA.out.other (p := ⟨B, 0, none⟩) (Ne.symm hnB) _).other (p := ⟨B, 2, none⟩) (Ne.symm hnB) _⟩, ⟨S, Y, ?_⟩, ⟨(hB3.out.setCell (p := ⟨B, 0, none⟩) (by show _ ≤ B; omega) _).setCell (p := ⟨B, 2, none⟩) (by show _ ≤ B; omega) _⟩, ⟨hJbb.out _ _ _ _ hBB.out (hJbb.out _ _ _ _ hBB.out hJA.out)⟩⟩, ?_⟩
            · rw [hsuA.out, hsuR.out, Int.natCast_add, Int.natCast_add]
              exact (hSA.out.set0 _).set2 _
            · simp only [intOf]; omega
          · gi_wp2
            have hmap : (pre ++ [(⟨i, hil⟩ : Fin ds.length)]).map Fin.val = List.range (pre ++ [(⟨i, hil⟩ : Fin ds.length)]).length := by
              rw [List.map_append, hpre.out, List.length_append, List.length_singleton, hplA.out, List.range_succ]; rfl
            refine bodyPost_ret (results_none rfl _ _ _) rfl ?_
            exact ⟨⟨_, rfl⟩, .inr ⟨_, hmap, hF⟩⟩
    · have hd : decide (i < N) = false := decide_eq_false hlt3
      gi_wp2
      go_end0
      obtain rfl : i = N := by omega
      exact ⟨⟨_, rfl⟩, .inl ⟨pre, by rw [hpre.out, hNN.out], hJ.out⟩⟩
end Go.Proofs.Ytjphhnhloeanlaa.P
