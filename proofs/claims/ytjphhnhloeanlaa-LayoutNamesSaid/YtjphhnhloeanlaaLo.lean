/- layout.Of: its contract. -/
import Derived.Test.YtjphhnhloeanlaaLi
import Derived.Test.YtjphhnhloeanlaaRr
import Derived.Test.YtjphhnhloeanlaaGp
namespace Go.Proofs.Ytjphhnhloeanlaa.P
open Go.RowKit Go.Shelf Go.Proofs.YtjphhnhloeanlaaW.PrintWords Go.Proofs.YtjphhnhloeanlaaW.PrintLast Go.Proofs.YtjphhnhloeanlaaW.PrintMore Go.Proofs.Ytjphhnhloeanlaa.Mem
attribute [local go_sem] Oper.semAt_some
attribute [local simp, local go_sem] wide_fn wide_depth wide_alive
set_option linter.unusedVariables false
set_option linter.unusedSimpArgs false
/-- what is cells lies as it lay -/
def KeepC (W W' : World) : Prop := ∀ (k : Nat) (cs : Array Value) (t : TypeId) (fr : Nat × Nat), W.heap[k]? = some (Obj.cells cs t fr) → W'.heap[k]? = W.heap[k]?
theorem R_keepC {α : Type} {d : Kd α} (hE : d.E = []) {e base : Nat} {ok : Nat → Prop} {W W' : World} {v : Value} {xs : List α} (h : d.R e W base ok v xs) (hk : ∀ q, v.ownBlock = some q → ∀ (cs : Array Value) (fr : Nat × Nat), W.heap[q]? = some (Obj.cells cs e fr) → W'.heap[q]? = W.heap[q]?) : d.R e W' base ok v xs := by
  obtain ⟨h0, inner, hown, hr⟩ := id h
  have ht := Kd.R_tight hE h
  refine Kd.R_mono (Kd.R_step (ok := fun q => v.ownBlock = some q) (Kd.R_mono ht (fun q hq => hq.symm)) (fun q hq hlt => ?_)) (fun q hq => h0 q hq)
  rcases hown.2 with ⟨rfl, hn⟩ | ⟨g, cap, cur, rfl, hbg, hg, _⟩
  · simp [Value.ownBlock] at hq
  · simp [Value.ownBlock] at hq
    subst hq
    exact hk g rfl cur _ hg
theorem hpA {w : World} {o : Obj} {k : Nat} (h : k = w.heap.size) : (w.alloc o).heap[k]? = some o := by subst h; exact World.alloc_heap_new w o
theorem hpB {w : World} {o x : Obj} {k : Nat} (h : w.heap[k]? = some x) : (w.alloc o).heap[k]? = some x := (Below.heap_alloc w o k (Array.getElem?_eq_some_iff.1 h).1).trans h
abbrev PosB (W : World) (B : Nat) (l c : Int) : Prop := W.heap[B]? = some (Obj.cells #[.int .i64 l, .int .i64 c] 25)
def codeOf (ds : List Df) (pre : List (Fin ds.length)) : Int := match pre.getLast? with
  | none => 128
  | some x => atN ds (x.val + 1)
def ramOf (ds : List Df) (pre : List (Fin ds.length)) : Int := match pre.getLast? with
  | none => 0
  | some x => ramN ds (x.val + 1)
abbrev kP := k50
/-- what holds at the loop's head, where the definitions pre have been read -/
structure Head (w : World) (ds : List Df) (pre : List (Fin ds.length)) (W : World) : Prop where
  ex : ∃ v, Boxed W (w.heap.size + 1) 23 v ∧ kP.R 50 W w.heap.size (fun k => k ≠ w.heap.size + 9) v (pre.map fun x => plc ds x.val)
  cd : Boxed W (w.heap.size + 2) 3 (.int .i64 (codeOf ds pre))
  rm : Boxed W (w.heap.size + 3) 3 (.int .i64 (ramOf ds pre))
  po : PosB W (w.heap.size + 4) 0 0
  er : Boxed W (w.heap.size + 5) 26 (.int .i64 0)
  b : Below w.heap.size w W
  ok : ∀ k (h : k < pre.length), errN ds k (pre[k]).val = 0
/-- what holds where the loop has been left -/
structure Left (w : World) (ds : List Df) (c : Code) (pre : List (Fin ds.length)) (W : World) : Prop where
  c : c = .ret
  ex : ∃ p0 x, pre = p0 ++ [x] ∧ (∀ k (h : k < p0.length), errN ds k (p0[k]).val = 0) ∧ errN ds p0.length x.val ≠ 0 ∧ PosB W (w.heap.size + 4) (dfA ds x.val).f4.f0 (dfA ds x.val).f4.f1 ∧ Boxed W (w.heap.size + 5) 26 (.int .i64 (errN ds p0.length x.val))
  v : Boxed W (w.heap.size + 1) 23 (.slice none 0 0)
  cd : Boxed W (w.heap.size + 2) 3 (.int .i64 0)
  rm : Boxed W (w.heap.size + 3) 3 (.int .i64 0)
  b : Below w.heap.size w W
theorem Head.keep {w W W' : World} {ds : List Df} {pre : List (Fin ds.length)} (h : Head w ds pre W) (hk : ∀ (k : Nat) (cs : Array Value) (t : TypeId) (fr : Nat × Nat), k ≠ w.heap.size + 9 → W.heap[k]? = some (Obj.cells cs t fr) → W'.heap[k]? = W.heap[k]?) (hb : Below w.heap.size w W') : Head w ds pre W' := by
  obtain ⟨v, h1, h2⟩ := h.ex
  have bx : ∀ {B : Nat} {t : TypeId} {u : Value}, B ≠ w.heap.size + 9 → Boxed W B t u → Boxed W' B t u := fun hn hx => (hk _ _ _ _ hn hx).trans hx
  exact ⟨⟨v, bx (by omega) h1, R_keepC rfl h2 (fun q hq cs fr e => hk q cs _ fr (h2.1 q hq) e)⟩, bx (by omega) h.cd, bx (by omega) h.rm, (hk _ _ _ _ (by omega) h.po).trans h.po, bx (by omega) h.er, hb, h.ok⟩
theorem Left.keep {w W W' : World} {ds : List Df} {c : Code} {pre : List (Fin ds.length)} (h : Left w ds c pre W) (hk : ∀ (k : Nat) (cs : Array Value) (t : TypeId) (fr : Nat × Nat), k ≠ w.heap.size + 9 → W.heap[k]? = some (Obj.cells cs t fr) → W'.heap[k]? = W.heap[k]?) (hb : Below w.heap.size w W') : Left w ds c pre W' := by
  have bx : ∀ {B : Nat} {t : TypeId} {u : Value}, B ≠ w.heap.size + 9 → Boxed W B t u → Boxed W' B t u := fun hn hx => (hk _ _ _ _ hn hx).trans hx
  obtain ⟨p0, x, h1, h2, h3, h4, h5⟩ := h.ex
  exact ⟨h.c, ⟨p0, x, h1, h2, h3, (hk _ _ _ _ (by omega) h4).trans h4, bx (by omega) h5⟩, bx (by omega) h.v, bx (by omega) h.cd, bx (by omega) h.rm, hb⟩
theorem keep_own {B : Nat} {W W' : World} {row : Option Nat} (hg : W.grownBy W' row) (hr : ∀ r, row = some r → B ≤ r ∧ ∃ o : Obj, W.heap[r]? = some o ∧ o.isCells = false) (k : Nat) (cs : Array Value) (t : TypeId) (fr : Nat × Nat) (h : W.heap[k]? = some (Obj.cells cs t fr)) : W'.heap[k]? = W.heap[k]? :=
  hg.block k (Array.getElem?_eq_some_iff.1 h).1 (fun e => by obtain ⟨_, o, ho, hc⟩ := hr k e.symm; rw [h] at ho; cases ho; cases hc)
theorem below_own {n0 B : Nat} (hB : n0 ≤ B) {w W W' : World} {row : Option Nat} (hb : Below n0 w W) (hn : n0 ≤ W.heap.size) (hg : W.grownBy W' row) (hr : ∀ r, row = some r → B ≤ r ∧ ∃ o : Obj, W.heap[r]? = some o ∧ o.isCells = false) : Below n0 w W' :=
  hb.grown hg hn (fun k e => by have := (hr k e).1; omega)
theorem head_own (w : World) (ds : List Df) : OwnFrom (w.heap.size + 7) (fun pre W => Head w ds pre W) := fun s W W' row hs hg hr =>
  hs.keep (fun k cs t fr _ h => keep_own hg hr k cs t fr h) (below_own (by omega) hs.b hs.b.size hg hr)
theorem left_own (w : World) (ds : List Df) (c : Code) : OwnFrom (w.heap.size + 7) (fun pre W => Left w ds c pre W) := fun s W W' row hs hg hr =>
  hs.keep (fun k cs t fr _ h => keep_own hg hr k cs t fr h) (below_own (by omega) hs.b hs.b.size hg hr)
/-- the frame of a round -/
def tmpsOf (w : World) (A A2 : Option Addr) (N c n2 c2 b1 b2 b3 b4 b5 b6 : Nat) (ad : Addr) (a s r y : Int) (b : Nat) : Array Value := #[.agg #[.slice A N c, .slice A2 n2 c2], .pointer (some ⟨w.heap.size, 0, none⟩), .pointer (some ⟨b1, 0, none⟩), .pointer (some ⟨b2, 0, none⟩), .pointer (some ⟨b3, 0, none⟩), .pointer (some ⟨b4, 0, none⟩), .pointer (some ⟨b5, 0, none⟩), .pointer (some ad), .pointer (some ⟨b, 0, none⟩), undef, .agg #[.slice A N c, .slice A2 n2 c2], .func (.func 51) #[] #[.pointer (some ⟨b6, 0, none⟩)], .pointer (some ad), .agg #[.int .i64 a, .int .i64 s, .int .i64 r, .int .i64 y], undef, undef, undef, undef, undef, undef, undef, undef, undef, undef, undef, undef, undef, undef, undef, undef, undef, undef, undef, undef, undef, undef, undef, undef, undef, undef, undef, undef, undef, undef, undef, undef, undef, undef, undef, undef, undef, undef, undef, undef, undef, undef, undef, undef, undef, undef, undef, undef, undef, undef, undef, undef, undef, undef, undef]
set_option maxHeartbeats 1000000 in
theorem defs_at (n : Nat) (s1 s2 : Value) (w : World) {A1 A2 : Option Addr} {n1 c1 n2 c2 : Nat} (h1 : s1 = .slice A1 n1 c1) (h2 : s2 = .slice A2 n2 c2) :
    CallsIn Fence.wide n Try.prog 38 #[.agg #[s1, s2]] w fun e w' => e = .returned (.func (.func 51) #[] #[.pointer (some ⟨w.heap.size, 0, none⟩)]) ∧ w' = w.alloc (.cells #[s1, s2] 32) := by
  subst h1 h2
  refine callsIn_of_wp Try.func38 rfl (by simp) ?_ rfl
  simp only [Try.ntmps38, List.size_toArray, List.length_cons, List.length_nil, Nat.reduceAdd, Nat.reduceSub, Array.replicate_succ, Array.replicate_zero, List.push_toArray, List.append_toArray, List.nil_append, List.cons_append]
  gi_wp2
  go_ret
  exact ⟨rfl, rfl⟩
theorem neB {H b1 b2 b3 b4 b5 b6 : Nat} (h : b1 = H + 1 ∧ b2 = H + 2 ∧ b3 = H + 3 ∧ b4 = H + 4 ∧ b5 = H + 5 ∧ b6 = H + 6) : ¬ b2 = b1 ∧ ¬ b3 = b1 ∧ ¬ b4 = b1 ∧ ¬ b5 = b1 ∧ ¬ b3 = b2 ∧ ¬ b4 = b2 ∧ ¬ b5 = b2 ∧ ¬ b4 = b3 ∧ ¬ b5 = b3 ∧ ¬ b5 = b4 := by omega
theorem neB2 {H b1 b2 b3 b4 b5 b6 b : Nat} (h : b1 = H + 1 ∧ b2 = H + 2 ∧ b3 = H + 3 ∧ b4 = H + 4 ∧ b5 = H + 5 ∧ b6 = H + 6) (hb : H + 9 < b) : ¬ b = b2 ∧ ¬ b = b3 ∧ ¬ b = b1 ∧ ¬ b = b4 ∧ ¬ b = b5 := by omega
theorem neD {H b1 b2 b3 b4 b5 b6 x : Nat} (h : b1 = H + 1 ∧ b2 = H + 2 ∧ b3 = H + 3 ∧ b4 = H + 4 ∧ b5 = H + 5 ∧ b6 = H + 6) (hb : x < H) : ¬ x = b1 ∧ ¬ x = b2 ∧ ¬ x = b3 ∧ ¬ x = b4 ∧ ¬ x = b5 := by omega
theorem wr_add {a b : Nat} (ha : a ≤ 70000000000000) (hb : b ≤ 20000000000) : wrap64 ((a : Int) + b) = ((a + b : Nat) : Int) := by unfold wrap64; omega
/-- behind a round's first statement -/
structure Mid (w : World) (ds : List Df) (pre : List (Fin ds.length)) (i : Nat) (W0 W : World) (b1 b2 b3 b4 b5 b : Nat) (v : Value) (ad : Addr) (A3 : Option Addr) (c3 : Nat) : Prop where
  bv : Boxed W b1 23 v
  R : kP.R 50 W w.heap.size (fun k => k ≠ w.heap.size + 9) v (pre.map fun x => plc ds x.val)
  cd : Boxed W b2 3 (.int .i64 (atN ds (i + 1) : Int))
  rm : Boxed W b3 3 (.int .i64 (ramN ds (i + 1) : Int))
  po : PosB W b4 0 0
  er : Boxed W b5 26 (.int .i64 0)
  bl : Below w.heap.size w W
  sp : Spot W b (atN ds i) (dsz (dfA ds i)) (ramN ds i) (dby (dfA ds i))
  df : DefAt W ad (dfA ds i) A3 c3
  kf : KeepsFrom (w.heap.size + 7) W0 W
  kp : Kp w.heap.size W0 W
theorem Mid.of {w : World} {ds : List Df} {pre : List (Fin ds.length)} {i : Nat} {W : World} {b1 b2 b3 b4 b5 b6 b : Nat} {v : Value} {ad : Addr} {A3 : Option Addr} {c3 : Nat} (e : b1 = w.heap.size + 1 ∧ b2 = w.heap.size + 2 ∧ b3 = w.heap.size + 3 ∧ b4 = w.heap.size + 4 ∧ b5 = w.heap.size + 5 ∧ b6 = w.heap.size + 6)
    (hb9 : w.heap.size + 9 < b) (hil : i < ds.length) (hI : Head w ds pre W) (hv : Boxed W b1 23 v) (hR : kP.R 50 W w.heap.size (fun k => k ≠ w.heap.size + 9) v (pre.map fun x => plc ds x.val)) (hS : Spot W b (atN ds i) (dsz (dfA ds i)) (ramN ds i) (dby (dfA ds i))) (hD : DefAt W ad (dfA ds i) A3 c3) (hD0 : DefAt w ad (dfA ds i) A3 c3) :
    Mid w ds pre i W ((W.drew.setCell ⟨b2, 0, none⟩ (.int .i64 ((atN ds i + dsz (dfA ds i) : Nat) : Int))).setCell ⟨b3, 0, none⟩ (.int .i64 ((ramN ds i + dby (dfA ds i) : Nat) : Int))) b1 b2 b3 b4 b5 b v ad A3 c3 := by
  obtain ⟨f1, f2, f3, f4, f5, f6⟩ := e
  have hc := hI.cd
  have hr := hI.rm
  have hp := hI.po
  have he := hI.er
  rw [← f2] at hc
  rw [← f3] at hr
  rw [← f4] at hp
  rw [← f5] at he
  have hc0 : Boxed W.drew b2 3 (.int .i64 (codeOf ds pre)) := hc
  have hr0 : Boxed W.drew b3 3 (.int .i64 (ramOf ds pre)) := hr
  have hF : Below w.heap.size w ((W.drew.setCell ⟨b2, 0, none⟩ (.int .i64 ((atN ds i + dsz (dfA ds i) : Nat) : Int))).setCell ⟨b3, 0, none⟩ (.int .i64 ((ramN ds i + dby (dfA ds i) : Nat) : Int))) := ((below_drew1 hI.b).setCell (p := ⟨b2, 0, none⟩) (by show _ ≤ b2; omega) _).setCell (p := ⟨b3, 0, none⟩) (by show _ ≤ b3; omega) _
  have hk : ∀ (q : Nat), q ≠ b2 → q ≠ b3 → ((W.drew.setCell ⟨b2, 0, none⟩ (.int .i64 ((atN ds i + dsz (dfA ds i) : Nat) : Int))).setCell ⟨b3, 0, none⟩ (.int .i64 ((ramN ds i + dby (dfA ds i) : Nat) : Int))).heap[q]? = W.heap[q]? := fun q h1 h2 => (Below.heap_setCell _ ⟨b3, 0, none⟩ _ q h2).trans (Below.heap_setCell _ ⟨b2, 0, none⟩ _ q h1)
  have hkc : ∀ (q : Nat) (cs : Array Value) (t : TypeId) (fr : Nat × Nat), t ≠ 3 → W.heap[q]? = some (Obj.cells cs t fr) → ((W.drew.setCell ⟨b2, 0, none⟩ (.int .i64 ((atN ds i + dsz (dfA ds i) : Nat) : Int))).setCell ⟨b3, 0, none⟩ (.int .i64 ((ramN ds i + dby (dfA ds i) : Nat) : Int))).heap[q]? = W.heap[q]? := fun q cs t fr ht hq => by
    refine hk q (fun e => ?_) (fun e => ?_)
    · subst e; unfold Boxed at hc; rw [hq] at hc; injection hc with h1; injection h1 with _ h2 _; exact ht h2
    · subst e; unfold Boxed at hr; rw [hq] at hr; injection hr with h1; injection h1 with _ h2 _; exact ht h2
  refine ⟨(hk b1 (by omega) (by omega)).trans hv, R_keepC rfl hR (fun q _ cs fr hq => hkc q cs _ fr (by decide) hq), ?_, ?_, (hk b4 (by omega) (by omega)).trans hp, (hk b5 (by omega) (by omega)).trans he, hF, (hk b (by omega) (by omega)).trans hS, hD0.below hF, ?_, ?_⟩
  · rw [atN_succ hil]; exact (hc0.set _).other (B' := b3) (by omega) _
  · rw [ramN_succ hil]; exact (hr0.other (B' := b2) (by omega) _).set _
  · refine ⟨by simp [World.setCell], fun q o hB hq ho => ?_⟩
    rw [hk q (by omega) (by omega)]; exact hq
  · refine ⟨((below_drew1 (Below.refl _ _)).setCell (p := ⟨b2, 0, none⟩) (by show _ ≤ b2; omega) _).setCell (p := ⟨b3, 0, none⟩) (by show _ ≤ b3; omega) _, fun q cs t fr ht hq => hkc q cs t fr (by rcases ht with rfl | rfl <;> decide) hq⟩
theorem kf_set {B : Nat} {W0 W : World} (h : KeepsFrom B W0 W) {p : Addr} (hp : p.block < B) (v : Value) : KeepsFrom B W0 (W.setCell p v) :=
  h.trans ⟨by simp [World.setCell], fun q o hB hq _ => (Below.heap_setCell _ _ _ q (by omega)).trans hq⟩
theorem DefAt.set {w W : World} {ad : Addr} {d : Df} {A3 : Option Addr} {c3 : Nat} (h0 : DefAt w ad d A3 c3) (hb : Below w.heap.size w W) {p : Addr} (hp : w.heap.size ≤ p.block) (v : Value) : DefAt (W.setCell p v) ad d A3 c3 := h0.below (hb.setCell hp v)
abbrev Nums (H b1 b2 b3 b4 b5 b6 : Nat) : Prop := b1 = H + 1 ∧ b2 = H + 2 ∧ b3 = H + 3 ∧ b4 = H + 4 ∧ b5 = H + 5 ∧ b6 = H + 6
theorem PosB.cells {W : World} {B : Nat} {l c : Int} (h : PosB W B l c) : W.cell? ⟨B, 0, none⟩ = some (.int .i64 l) ∧ W.cell? ⟨B, 1, none⟩ = some (.int .i64 c) ∧ ∀ k, W.frozen? ⟨B, k, none⟩ = false := by
  refine ⟨?_, ?_, fun k => ?_⟩ <;> simp [World.cell?, World.frozen?, h]
theorem PosB.set {W : World} {B : Nat} {l c : Int} (h : PosB W B l c) (x y : Int) : PosB ((W.setCell ⟨B, 0, none⟩ (.int .i64 x)).setCell ⟨B, 1, none⟩ (.int .i64 y)) B x y := by
  unfold PosB at *
  simp [World.setCell, Array.getElem?_modify, h]
theorem PosB.other {W : World} {B : Nat} {l c : Int} (h : PosB W B l c) {p : Addr} (hp : p.block ≠ B) (u : Value) : PosB (W.setCell p u) B l c := (Below.heap_setCell _ _ _ B (Ne.symm hp)).trans h
/-- the function's variables -/
structure Bx (w W0 W : World) (b1 b2 b3 b4 b5 : Nat) (x1 : Value) (x2 x3 l c E : Int) (ad : Addr) (d : Df) (A3 : Option Addr) (c3 : Nat) : Prop where
  bv : Boxed W b1 23 x1
  cd : Boxed W b2 3 (.int .i64 x2)
  rm : Boxed W b3 3 (.int .i64 x3)
  po : PosB W b4 l c
  er : Boxed W b5 26 (.int .i64 E)
  bl : Below w.heap.size w W
  df : DefAt W ad d A3 c3
  kf : KeepsFrom (w.heap.size + 7) W0 W
namespace Bx
variable {w W0 W : World} {b1 b2 b3 b4 b5 b6 : Nat} {x1 : Value} {x2 x3 l c E : Int} {ad : Addr} {d : Df} {A3 : Option Addr} {c3 : Nat}
theorem drew (h : Bx w W0 W b1 b2 b3 b4 b5 x1 x2 x3 l c E ad d A3 c3) (hD : DefAt w ad d A3 c3) : Bx w W0 W.drew b1 b2 b3 b4 b5 x1 x2 x3 l c E ad d A3 c3 :=
  ⟨h.bv, h.cd, h.rm, h.po, h.er, below_drew1 h.bl, hD.below (below_drew1 h.bl), h.kf.trans ⟨Nat.le_refl _, fun _ _ _ k _ => k⟩⟩
theorem set1 (h : Bx w W0 W b1 b2 b3 b4 b5 x1 x2 x3 l c E ad d A3 c3) (hD : DefAt w ad d A3 c3) (e : Nums w.heap.size b1 b2 b3 b4 b5 b6) (y : Value) : Bx w W0 (W.setCell ⟨b1, 0, none⟩ y) b1 b2 b3 b4 b5 y x2 x3 l c E ad d A3 c3 :=
  ⟨h.bv.set _, h.cd.other (by omega) _, h.rm.other (by omega) _, h.po.other (p := ⟨b1, 0, none⟩) (by show b1 ≠ b4; omega) _, h.er.other (by omega) _, h.bl.setCell (p := ⟨b1, 0, none⟩) (by show _ ≤ b1; omega) _, hD.set h.bl (p := ⟨b1, 0, none⟩) (by show _ ≤ b1; omega) _, kf_set h.kf (p := ⟨b1, 0, none⟩) (by show b1 < _; omega) _⟩
theorem set2 (h : Bx w W0 W b1 b2 b3 b4 b5 x1 x2 x3 l c E ad d A3 c3) (hD : DefAt w ad d A3 c3) (e : Nums w.heap.size b1 b2 b3 b4 b5 b6) (y : Int) : Bx w W0 (W.setCell ⟨b2, 0, none⟩ (.int .i64 y)) b1 b2 b3 b4 b5 x1 y x3 l c E ad d A3 c3 :=
  ⟨h.bv.other (by omega) _, h.cd.set _, h.rm.other (by omega) _, h.po.other (p := ⟨b2, 0, none⟩) (by show b2 ≠ b4; omega) _, h.er.other (by omega) _, h.bl.setCell (p := ⟨b2, 0, none⟩) (by show _ ≤ b2; omega) _, hD.set h.bl (p := ⟨b2, 0, none⟩) (by show _ ≤ b2; omega) _, kf_set h.kf (p := ⟨b2, 0, none⟩) (by show b2 < _; omega) _⟩
theorem set3 (h : Bx w W0 W b1 b2 b3 b4 b5 x1 x2 x3 l c E ad d A3 c3) (hD : DefAt w ad d A3 c3) (e : Nums w.heap.size b1 b2 b3 b4 b5 b6) (y : Int) : Bx w W0 (W.setCell ⟨b3, 0, none⟩ (.int .i64 y)) b1 b2 b3 b4 b5 x1 x2 y l c E ad d A3 c3 :=
  ⟨h.bv.other (by omega) _, h.cd.other (by omega) _, h.rm.set _, h.po.other (p := ⟨b3, 0, none⟩) (by show b3 ≠ b4; omega) _, h.er.other (by omega) _, h.bl.setCell (p := ⟨b3, 0, none⟩) (by show _ ≤ b3; omega) _, hD.set h.bl (p := ⟨b3, 0, none⟩) (by show _ ≤ b3; omega) _, kf_set h.kf (p := ⟨b3, 0, none⟩) (by show b3 < _; omega) _⟩
theorem set4 (h : Bx w W0 W b1 b2 b3 b4 b5 x1 x2 x3 l c E ad d A3 c3) (hD : DefAt w ad d A3 c3) (e : Nums w.heap.size b1 b2 b3 b4 b5 b6) (y z : Int) : Bx w W0 ((W.setCell ⟨b4, 0, none⟩ (.int .i64 y)).setCell ⟨b4, 1, none⟩ (.int .i64 z)) b1 b2 b3 b4 b5 x1 x2 x3 y z E ad d A3 c3 := by
  have hb1 : Below w.heap.size w (W.setCell ⟨b4, 0, none⟩ (.int .i64 y)) := h.bl.setCell (p := ⟨b4, 0, none⟩) (by show _ ≤ b4; omega) _
  have o : ∀ {B : Nat} {t : TypeId} {u : Value}, Boxed W B t u → B ≠ b4 → Boxed ((W.setCell ⟨b4, 0, none⟩ (.int .i64 y)).setCell ⟨b4, 1, none⟩ (.int .i64 z)) B t u := fun hx hn => (Below.heap_setCell _ ⟨b4, 1, none⟩ _ _ hn).trans (hx.other hn _)
  exact ⟨o h.bv (by omega), o h.cd (by omega), o h.rm (by omega), h.po.set _ _, o h.er (by omega), hb1.setCell (p := ⟨b4, 1, none⟩) (by show _ ≤ b4; omega) _, hD.set hb1 (p := ⟨b4, 1, none⟩) (by show _ ≤ b4; omega) _, kf_set (kf_set h.kf (p := ⟨b4, 0, none⟩) (by show b4 < _; omega) _) (p := ⟨b4, 1, none⟩) (by show b4 < _; omega) _⟩
theorem set5 (h : Bx w W0 W b1 b2 b3 b4 b5 x1 x2 x3 l c E ad d A3 c3) (hD : DefAt w ad d A3 c3) (e : Nums w.heap.size b1 b2 b3 b4 b5 b6) (y : Int) : Bx w W0 (W.setCell ⟨b5, 0, none⟩ (.int .i64 y)) b1 b2 b3 b4 b5 x1 x2 x3 l c y ad d A3 c3 :=
  ⟨h.bv.other (by omega) _, h.cd.other (by omega) _, h.rm.other (by omega) _, h.po.other (p := ⟨b5, 0, none⟩) (by show b5 ≠ b4; omega) _, h.er.set _, h.bl.setCell (p := ⟨b5, 0, none⟩) (by show _ ≤ b5; omega) _, hD.set h.bl (p := ⟨b5, 0, none⟩) (by show _ ≤ b5; omega) _, kf_set h.kf (p := ⟨b5, 0, none⟩) (by show b5 < _; omega) _⟩
end Bx
/-- a place in memory -/
def PlB (W : World) (B : Nat) (nm : ByteArray) (a s r : Int) : Prop := W.heap[B]? = some (Obj.cells #[.string nm, .int .u16 a, .int .i64 s, .int .u16 r] 50)
theorem PlB.cells {W : World} {B : Nat} {nm : ByteArray} {a s r : Int} (h : PlB W B nm a s r) : W.cell? ⟨B, 0, none⟩ = some (.string nm) ∧ W.cell? ⟨B, 1, none⟩ = some (.int .u16 a) ∧ W.cell? ⟨B, 2, none⟩ = some (.int .i64 s) ∧ W.cell? ⟨B, 3, none⟩ = some (.int .u16 r) ∧ ∀ k, W.frozen? ⟨B, k, none⟩ = false := by
  unfold PlB at h
  refine ⟨?_, ?_, ?_, ?_, fun k => ?_⟩ <;> simp [World.cell?, World.frozen?, h]
theorem cell_al {W : World} {p : Addr} {v : Value} (h : W.cell? p = some v) (o : Obj) : (W.alloc o).cell? p = some v := ((below_alloc (Below.refl W.heap.size W) o).cell (World.block_lt_of_cell? _ _ h)).trans h
theorem hpLt {W : World} {k : Nat} {o : Obj} (h : W.heap[k]? = some o) : k < W.heap.size := (Array.getElem?_eq_some_iff.1 h).1
abbrev NeX (w : World) (b1 b2 b3 b4 b5 b : Nat) (v : Value) (X : Nat) : Prop := X ≠ b1 ∧ X ≠ b2 ∧ X ≠ b3 ∧ X ≠ b4 ∧ X ≠ b5 ∧ X ≠ b ∧ v.ownBlock ≠ some X ∧ w.heap.size ≤ X
section
variable {w : World} {ds : List Df} {pre : List (Fin ds.length)} {i : Nat} {W0 W : World} {b1 b2 b3 b4 b5 b6 b : Nat} {v : Value} {ad : Addr} {A3 : Option Addr} {c3 : Nat}
theorem Mid.made (h : Mid w ds pre i W0 W b1 b2 b3 b4 b5 b v ad A3 c3) (hD0 : DefAt w ad (dfA ds i) A3 c3) (nm : ByteArray) (a s r : Int) :
    Mid w ds pre i W0 (W.alloc (Obj.cells #[.string nm, .int .u16 a, .int .i64 s, .int .u16 r] 50)).drew b1 b2 b3 b4 b5 b v ad A3 c3 ∧ PlB (W.alloc (Obj.cells #[.string nm, .int .u16 a, .int .i64 s, .int .u16 r] 50)).drew W.heap.size nm a s r ∧ NeX w b1 b2 b3 b4 b5 b v W.heap.size := by
  have l1 := hpLt h.bv
  have l2 := hpLt h.cd
  have l3 := hpLt h.rm
  have l4 := hpLt h.po
  have l5 := hpLt h.er
  have l6 := hpLt h.sp
  have hb := h.bl.size
  have hB : Below w.heap.size w (W.alloc (Obj.cells #[.string nm, .int .u16 a, .int .i64 s, .int .u16 r] 50)).drew := below_drew1 (below_alloc h.bl _)
  have hk : ∀ {q : Nat} {o : Obj}, W.heap[q]? = some o → (W.alloc (Obj.cells #[.string nm, .int .u16 a, .int .i64 s, .int .u16 r] 50)).drew.heap[q]? = some o := fun hq => hpB hq
  refine ⟨⟨hk h.bv, Kd.R_drew (Kd.R_alloc h.R _), hk h.cd, hk h.rm, hk h.po, hk h.er, hB, hk h.sp, hD0.below hB, h.kf.trans ⟨?_, fun q o _ hq _ => hk hq⟩, Kp.trans h.kp ⟨below_drew1 ((Below.refl _ W).alloc hb _), fun q cs t fr _ hq => (hk hq).trans hq.symm⟩⟩, World.alloc_heap_new W _, by omega, by omega, by omega, by omega, by omega, by omega, fun e => ?_, hb⟩
  · show W.heap.size ≤ (W.alloc _).heap.size
    rw [World.size_alloc]; omega
  · have := Kd.R_lt h.R _ e; omega
theorem Mid.setX (h : Mid w ds pre i W0 W b1 b2 b3 b4 b5 b v ad A3 c3) (hD0 : DefAt w ad (dfA ds i) A3 c3) {X : Nat} {nm : ByteArray} {a s r : Int} (hP : PlB W X nm a s r) (hn : NeX w b1 b2 b3 b4 b5 b v X) (y : Int) :
    Mid w ds pre i W0 (W.setCell ⟨X, 3, none⟩ (.int .u16 y)) b1 b2 b3 b4 b5 b v ad A3 c3 ∧ PlB (W.setCell ⟨X, 3, none⟩ (.int .u16 y)) X nm a s y := by
  obtain ⟨n1, n2, n3, n4, n5, n6, n7, n8⟩ := hn
  have hk : ∀ (q : Nat), q ≠ X → (W.setCell ⟨X, 3, none⟩ (.int .u16 y)).heap[q]? = W.heap[q]? := fun q hq => Below.heap_setCell _ ⟨X, 3, none⟩ _ q hq
  have hB : Below w.heap.size w (W.setCell ⟨X, 3, none⟩ (.int .u16 y)) := h.bl.setCell (p := ⟨X, 3, none⟩) n8 _
  refine ⟨⟨(hk _ n1.symm).trans h.bv, R_keepC rfl h.R (fun q hq _ _ _ => hk q (fun e => n7 (by rw [hq, e]))), (hk _ n2.symm).trans h.cd, (hk _ n3.symm).trans h.rm, (hk _ n4.symm).trans h.po, (hk _ n5.symm).trans h.er, hB, (hk _ n6.symm).trans h.sp, hD0.below hB, h.kf.trans ⟨by simp [World.setCell], fun q o _ hq ho => (hk q (fun e => ?_)).trans hq⟩, Kp.trans h.kp ⟨(Below.refl _ W).setCell (p := ⟨X, 3, none⟩) n8 _, fun q cs t fr ht hq => hk q (fun e => ?_)⟩⟩, ?_⟩
  · subst e; unfold PlB at hP; rw [hP] at hq; cases hq; cases ho
  · subst e; unfold PlB at hP; rw [hP] at hq; injection hq with h1; injection h1 with _ h2 _; rcases ht with rfl | rfl <;> cases h2
  · unfold PlB at *
    simp [World.setCell, Array.getElem?_modify, hP]
theorem own_cells {W : World} {base : Nat} {ok : Nat → Prop} {v : Value} {xs : List Pl} (h : kP.R 50 W base ok v xs) {q : Nat} (hq : v.ownBlock = some q) : base ≤ q ∧ ∃ cs fr, W.heap[q]? = some (Obj.cells cs 50 fr) := by
  obtain ⟨h0, inner, hown, hr⟩ := id h
  rcases hown.2 with ⟨rfl, hn⟩ | ⟨g, cap, cur, rfl, hbg, hg, _⟩
  · simp [Value.ownBlock] at hq
  · simp [Value.ownBlock] at hq
    subst hq
    exact ⟨hbg, cur, _, hg⟩
theorem codeOf_snoc (ds : List Df) (pre : List (Fin ds.length)) (x : Fin ds.length) : codeOf ds (pre ++ [x]) = atN ds (x.val + 1) := by simp [codeOf]
theorem ramOf_snoc (ds : List Df) (pre : List (Fin ds.length)) (x : Fin ds.length) : ramOf ds (pre ++ [x]) = ramN ds (x.val + 1) := by simp [ramOf]
theorem Mid.fin (h : Mid w ds pre i W0 W b1 b2 b3 b4 b5 b v ad A3 c3) (e : Nums w.heap.size b1 b2 b3 b4 b5 b6) (hsp : ∃ a s r y, Spot W0 (w.heap.size + 9) a s r y) (hil : i < ds.length) (hok : ∀ k (h : k < pre.length), errN ds k (pre[k]).val = 0) (hE : errN ds pre.length i = 0)
    {v1 : Value} {w1 : World} (hR : kP.R 50 w1 w.heap.size (fun _ => True) v1 ((pre.map fun x => plc ds x.val) ++ [plc ds i])) (hg : W.grownBy w1 v.ownBlock) :
    Boxed w1 b1 23 v ∧ KeepsFrom (w.heap.size + 7) W0 (w1.setCell ⟨b1, 0, none⟩ v1) ∧ Kp w.heap.size W0 (w1.setCell ⟨b1, 0, none⟩ v1) ∧ Head w ds (pre ++ [⟨i, hil⟩]) (w1.setCell ⟨b1, 0, none⟩ v1) := by
  obtain ⟨f1, f2, f3, f4, f5, f6⟩ := e
  have hkc : ∀ (q : Nat) (cs : Array Value) (t : TypeId) (fr : Nat × Nat), t ≠ 50 → W.heap[q]? = some (Obj.cells cs t fr) → w1.heap[q]? = W.heap[q]? := fun q cs t fr ht hq => hg.block q (hpLt hq) (fun e => by
    obtain ⟨_, cs', fr', hc⟩ := own_cells h.R e.symm
    rw [hq] at hc; injection hc with h1; injection h1 with _ h2 _; exact ht h2)
  have hkn : ∀ (q : Nat) (o : Obj), W.heap[q]? = some o → o.isCells = false → w1.heap[q]? = W.heap[q]? := fun q o hq ho => hg.block q (hpLt hq) (fun e => by
    obtain ⟨_, cs', fr', hc⟩ := own_cells h.R e.symm
    rw [hq] at hc; cases hc; cases ho)
  have bx : ∀ {B : Nat} {t : TypeId} {u : Value}, t ≠ 50 → Boxed W B t u → Boxed w1 B t u := fun ht hx => (hkc _ _ _ _ ht hx).trans hx
  have hb1 := bx (by decide) h.bv
  have hBw : Below w.heap.size w w1 := h.bl.grown hg h.bl.size (fun q hq => (own_cells h.R hq).1)
  have hWb : Below w.heap.size W w1 := (Below.refl _ W).grown hg h.bl.size (fun q hq => (own_cells h.R hq).1)
  have hs : ∀ (q : Nat), q ≠ b1 → (w1.setCell ⟨b1, 0, none⟩ v1).heap[q]? = w1.heap[q]? := fun q hq => Below.heap_setCell _ ⟨b1, 0, none⟩ _ q hq
  refine ⟨hb1, h.kf.trans ⟨?_, fun q o hB hq ho => ?_⟩, Kp.trans h.kp ⟨hWb.setCell (p := ⟨b1, 0, none⟩) (by show _ ≤ b1; omega) _, fun q cs t fr ht hq => ?_⟩, ?_⟩
  · have := hg.size; simp [World.setCell]; omega
  · rw [hs q (by omega)]; exact (hkn q o hq ho).trans hq
  · rw [hs q (fun e => ?_)]
    · exact hkc q cs t fr (by rcases ht with rfl | rfl <;> decide) hq
    · subst e; have hbv := h.bv; unfold Boxed at hbv; rw [hbv] at hq; injection hq with h1; injection h1 with _ h2 _; rcases ht with rfl | rfl <;> cases h2
  · refine ⟨⟨v1, by rw [← f1]; exact hb1.set v1, ?_⟩, ?_, ?_, ?_, ?_, hBw.setCell (p := ⟨b1, 0, none⟩) (by show _ ≤ b1; omega) _, ?_⟩
    · have hR2 : kP.R 50 (w1.setCell ⟨b1, 0, none⟩ v1) w.heap.size (fun _ => True) v1 ((pre ++ [(⟨i, hil⟩ : Fin ds.length)]).map fun x => plc ds x.val) := by
        rw [List.map_append]
        refine R_keepC rfl hR (fun q hq cs fr hc => hs q (fun e => ?_))
        subst e; unfold Boxed at hb1; rw [hb1] at hc; injection hc with h1; injection h1 with _ h2 _; cases h2
      refine ⟨fun q hq e => ?_, hR2.2⟩
      obtain ⟨a, s, r, y, h9⟩ := hsp
      have h10 := (h.kp.2 _ _ _ _ (.inl rfl) h9).trans h9
      have h11 := (hkc _ _ _ _ (by decide) h10).trans h10
      subst e
      obtain ⟨_, cs, fr, hc⟩ := own_cells hR hq
      rw [h11] at hc; injection hc with h1; injection h1 with _ h2 _; cases h2
    · rw [codeOf_snoc, ← f2]; exact (bx (by decide) h.cd).other (by omega) _
    · rw [ramOf_snoc, ← f3]; exact (bx (by decide) h.rm).other (by omega) _
    · rw [← f4]; exact (hs b4 (by omega)).trans ((hkc _ _ _ _ (by decide) h.po).trans h.po)
    · rw [← f5]; exact (bx (by decide) h.er).other (by omega) _
    · intro k hk
      rw [List.length_append, List.length_singleton] at hk
      rcases Nat.lt_or_ge k pre.length with h1 | h1
      · rw [List.getElem_append_left h1]; exact hok k h1
      · obtain rfl : k = pre.length := by omega
        rw [List.getElem_append_right (Nat.le_refl _)]; simpa using hE
end
theorem app1In {F : Fence} {n' : Nat} {P : Program} {α : Type} {d : Kd α} {e : TypeId} {ops : Array Oper} {Q : Exit → Act → World → Prop} {o : Oper} {rest : List Oper} {a : Act} {W : World} {base : Nat} {v : Value} {xs : List α} (p : α) (cs : List Value) {t : TypeId} (z : Value) (bytes : Nat) (hgd : o.guard = none) (s x : Operand)
    (ho : o.op = .call { callee := .builtin .append, args := #[s, x], argTypes := #[t, t] }) (hs : a.eval s = v) (hx : a.eval x = .slice (some ⟨W.heap.size, 0, none⟩) 1 1)
    (ht : P.underlying t = some (.slice e)) (hinfo : (P.info? e).map (fun i => (i.zero, i.size, i.bytes)) = some (some z, d.sz, bytes)) (hz : z.cells.size = d.sz) (hs0 : 0 < d.sz)
    (hM : ∀ w base ok, d.M w base ok p cs) (HR : d.R e W base (fun _ => True) v xs) (hbase : base ≤ W.heap.size) (hl : xs.length + 1 ≤ maxLen) (hbb : (xs.length + 1) * bytes ≤ 140737488355328)
    (h : ∀ v1 w1, d.R e w1 base (fun _ => True) v1 (xs ++ [p]) → W.grownBy w1 v.ownBlock → (v1.ownBlock = v.ownBlock ∨ (Below W.heap.size W w1 ∧ ∃ b, v1.ownBlock = some b ∧ W.heap.size ≤ b)) → wpListIn F n' P ops Q rest (a.put o.dst v1) w1) :
    wpListIn F n' P ops Q (o :: rest) a (W.alloc (.cells cs.toArray e)) := by
  refine wpListIn_plain hgd fun K hK => ?_
  obtain ⟨v1, w1, hr, h2, h3, h4⟩ := Gp.run_app1 o.type ht hinfo hz hs0 hM HR hbase hl hbb
  unfold Oper.wpIn
  refine ⟨?_, ?_⟩
  · simp [Oper.about, ho, resolve, Target.leads, Sem.run_pure]
  · rw [Oper.semAt_plain F _ _ (by rw [ho]; intro c hc'; cases hc')]
    simp only [execOp, ho, resolve, invoke, builtin, Sem.run_bind, Sem.run_pure, Result.andThen_ok, List.map_toArray, List.map_cons, List.map_nil, hs, hx, hr]
    exact hK _ _ (h v1 w1 h2 h3 h4)
theorem infoPl : (Try.prog.info? 50).map (fun i => (i.zero, i.size, i.bytes)) = some (some (.agg #[.string ⟨#[]⟩, .int .u16 0, .int .i64 0, .int .u16 0]), 4, 40) := by kernel_rfl
theorem Mid.err {w : World} {ds : List Df} {pre : List (Fin ds.length)} {i : Nat} {W0 W : World} {b1 b2 b3 b4 b5 b6 b : Nat} {v : Value} {ad : Addr} {A3 : Option Addr} {c3 : Nat} (h : Mid w ds pre i W0 W b1 b2 b3 b4 b5 b v ad A3 c3) (e : Nums w.heap.size b1 b2 b3 b4 b5 b6) (hD0 : DefAt w ad (dfA ds i) A3 c3) (E : Int) :
    Bx w W0 (W.setCell ⟨b5, 0, none⟩ (.int .i64 E)) b1 b2 b3 b4 b5 v (atN ds (i + 1)) (ramN ds (i + 1)) 0 0 E ad (dfA ds i) A3 c3 :=
  Bx.set5 ⟨h.bv, h.cd, h.rm, h.po, h.er, h.bl, h.df, h.kf⟩ hD0 e E
/-- the function's variables, behind the loop -/
structure By (w W : World) (b1 b2 b3 b4 b5 : Nat) (x1 : Value) (x2 x3 l c E : Int) : Prop where
  bv : Boxed W b1 23 x1
  cd : Boxed W b2 3 (.int .i64 x2)
  rm : Boxed W b3 3 (.int .i64 x3)
  po : PosB W b4 l c
  er : Boxed W b5 26 (.int .i64 E)
  bl : Below w.heap.size w W
namespace By
variable {w W : World} {b1 b2 b3 b4 b5 b6 : Nat} {x1 : Value} {x2 x3 l c E : Int}
theorem drew (h : By w W b1 b2 b3 b4 b5 x1 x2 x3 l c E) : By w W.drew b1 b2 b3 b4 b5 x1 x2 x3 l c E := ⟨h.bv, h.cd, h.rm, h.po, h.er, below_drew1 h.bl⟩
theorem set1 (h : By w W b1 b2 b3 b4 b5 x1 x2 x3 l c E) (e : Nums w.heap.size b1 b2 b3 b4 b5 b6) (y : Value) : By w (W.setCell ⟨b1, 0, none⟩ y) b1 b2 b3 b4 b5 y x2 x3 l c E :=
  ⟨h.bv.set _, h.cd.other (by omega) _, h.rm.other (by omega) _, h.po.other (p := ⟨b1, 0, none⟩) (by show b1 ≠ b4; omega) _, h.er.other (by omega) _, h.bl.setCell (p := ⟨b1, 0, none⟩) (by show _ ≤ b1; omega) _⟩
theorem set2 (h : By w W b1 b2 b3 b4 b5 x1 x2 x3 l c E) (e : Nums w.heap.size b1 b2 b3 b4 b5 b6) (y : Int) : By w (W.setCell ⟨b2, 0, none⟩ (.int .i64 y)) b1 b2 b3 b4 b5 x1 y x3 l c E :=
  ⟨h.bv.other (by omega) _, h.cd.set _, h.rm.other (by omega) _, h.po.other (p := ⟨b2, 0, none⟩) (by show b2 ≠ b4; omega) _, h.er.other (by omega) _, h.bl.setCell (p := ⟨b2, 0, none⟩) (by show _ ≤ b2; omega) _⟩
theorem set3 (h : By w W b1 b2 b3 b4 b5 x1 x2 x3 l c E) (e : Nums w.heap.size b1 b2 b3 b4 b5 b6) (y : Int) : By w (W.setCell ⟨b3, 0, none⟩ (.int .i64 y)) b1 b2 b3 b4 b5 x1 x2 y l c E :=
  ⟨h.bv.other (by omega) _, h.cd.other (by omega) _, h.rm.set _, h.po.other (p := ⟨b3, 0, none⟩) (by show b3 ≠ b4; omega) _, h.er.other (by omega) _, h.bl.setCell (p := ⟨b3, 0, none⟩) (by show _ ≤ b3; omega) _⟩
theorem set4 (h : By w W b1 b2 b3 b4 b5 x1 x2 x3 l c E) (e : Nums w.heap.size b1 b2 b3 b4 b5 b6) (y z : Int) : By w ((W.setCell ⟨b4, 0, none⟩ (.int .i64 y)).setCell ⟨b4, 1, none⟩ (.int .i64 z)) b1 b2 b3 b4 b5 x1 x2 x3 y z E := by
  have hb1 : Below w.heap.size w (W.setCell ⟨b4, 0, none⟩ (.int .i64 y)) := h.bl.setCell (p := ⟨b4, 0, none⟩) (by show _ ≤ b4; omega) _
  have o : ∀ {B : Nat} {t : TypeId} {u : Value}, Boxed W B t u → B ≠ b4 → Boxed ((W.setCell ⟨b4, 0, none⟩ (.int .i64 y)).setCell ⟨b4, 1, none⟩ (.int .i64 z)) B t u := fun hx hn => (Below.heap_setCell _ ⟨b4, 1, none⟩ _ _ hn).trans (hx.other hn _)
  exact ⟨o h.bv (by omega), o h.cd (by omega), o h.rm (by omega), h.po.set _ _, o h.er (by omega), hb1.setCell (p := ⟨b4, 1, none⟩) (by show _ ≤ b4; omega) _⟩
theorem set5 (h : By w W b1 b2 b3 b4 b5 x1 x2 x3 l c E) (e : Nums w.heap.size b1 b2 b3 b4 b5 b6) (y : Int) : By w (W.setCell ⟨b5, 0, none⟩ (.int .i64 y)) b1 b2 b3 b4 b5 x1 x2 x3 l c y :=
  ⟨h.bv.other (by omega) _, h.cd.other (by omega) _, h.rm.other (by omega) _, h.po.other (p := ⟨b5, 0, none⟩) (by show b5 ≠ b4; omega) _, h.er.set _, h.bl.setCell (p := ⟨b5, 0, none⟩) (by show _ ≤ b5; omega) _⟩
end By
theorem range_at {n : Nat} {xs : List (Fin n)} {m : Nat} (h : xs.map Fin.val = List.range m) : xs.length = m ∧ ∀ k (hk : k < xs.length), (xs[k]).val = k := by
  have hl : xs.length = m := by have := congrArg List.length h; simpa using this
  refine ⟨hl, fun k hk => ?_⟩
  have h1 : (xs.map Fin.val)[k]? = some (xs[k]).val := by rw [List.getElem?_map, List.getElem?_eq_getElem hk]; rfl
  rw [h, List.getElem?_range (by omega)] at h1
  exact (Option.some.inj h1).symm
theorem head_done {w W : World} {ds : List Df} {xs : List (Fin ds.length)} (h : Head w ds xs W) (hS : xs.map Fin.val = List.range ds.length) : ofA ds = (xs.map fun x => plc ds x.val, codeOf ds xs, ramOf ds xs, 0, 0, 0) := by
  obtain ⟨hl, hv⟩ := range_at hS
  have he : ∀ j, j < ds.length → errN ds j j = 0 := fun j hj => by
    have h1 := h.ok j (by omega)
    rwa [hv j (by omega)] at h1
  have hm : (xs.map fun x => plc ds x.val) = (List.range ds.length).map (plc ds) := by rw [← hS, List.map_map]; rfl
  have hg : codeOf ds xs = atN ds ds.length ∧ ramOf ds xs = ramN ds ds.length := by
    rcases Nat.eq_zero_or_pos ds.length with h0 | h0
    · have hx : xs = [] := List.eq_nil_of_length_eq_zero (by omega)
      subst hx
      have e0 : ds = [] := List.eq_nil_of_length_eq_zero h0
      subst e0
      exact ⟨rfl, rfl⟩
    · have hgl : xs.getLast? = some (xs[xs.length - 1]'(by omega)) := by rw [List.getLast?_eq_getElem?, List.getElem?_eq_getElem (by omega)]
      have hvl := hv (xs.length - 1) (by omega)
      unfold codeOf ramOf
      rw [hgl]
      dsimp only
      rw [hvl, show xs.length - 1 + 1 = ds.length by omega]
      exact ⟨rfl, rfl⟩
  rw [ofA_done he, hm, hg.1, hg.2]
theorem left_stop {w W : World} {ds : List Df} {c : Code} {pre : List (Fin ds.length)} (h : Left w ds c pre W) (hS : pre.map Fin.val = List.range pre.length) :
    ∃ l k E, ofA ds = ([], 0, 0, l, k, E) ∧ PosB W (w.heap.size + 4) l k ∧ Boxed W (w.heap.size + 5) 26 (.int .i64 E) := by
  obtain ⟨p0, x, rfl, h1, h2, h3, h4⟩ := h.ex
  obtain ⟨_, hv⟩ := range_at hS
  have hx : x.val = p0.length := by
    have := hv p0.length (by simp)
    rw [List.getElem_append_right (Nat.le_refl _)] at this
    simpa using this
  refine ⟨_, _, _, ?_, h3, h4⟩
  rw [hx] at h2 ⊢
  rw [ofA_stop (m := p0.length) (by rw [← hx]; exact x.isLt) (fun j hj => ?_) h2]
  have h5 := h1 j hj
  have h6 := hv j (by simp; omega)
  rw [List.getElem_append_left hj] at h6
  rwa [h6] at h5
theorem By.put {w W : World} {b1 b2 b3 b4 b5 : Nat} {x1 : Value} {x2 x3 l c E : Int} (h : By w W b1 b2 b3 b4 b5 x1 x2 x3 l c E) {D : Nat} (hD : w.heap.size ≤ D) {o o' : Obj} (ho : W.heap[D]? = some o) (hc : o.isCells = false) : By w (W.putObj D o') b1 b2 b3 b4 b5 x1 x2 x3 l c E := by
  have k : ∀ {q : Nat} {cs : Array Value} {t : TypeId} {fr : Nat × Nat}, W.heap[q]? = some (Obj.cells cs t fr) → (W.putObj D o').heap[q]? = some (Obj.cells cs t fr) := fun hq => (World.putObj_heap_other (fun e => by subst e; rw [ho] at hq; cases hq; cases hc)).trans hq
  exact ⟨k h.bv, k h.cd, k h.rm, k h.po, k h.er, h.bl.grown (grownBy_putObj' W D o') h.bl.size (fun q e => by cases e; exact hD)⟩
/-- a row of places behind a store into another box, or another object -/
theorem row_keep {w W W' : World} {v : Value} {xs : List Pl} (h : kP.R 50 W w.heap.size (fun _ => True) v xs) (hk : ∀ (q : Nat) (cs : Array Value) (fr : Nat × Nat), W.heap[q]? = some (Obj.cells cs 50 fr) → W'.heap[q]? = W.heap[q]?) : kP.R 50 W' w.heap.size (fun _ => True) v xs := R_keepC rfl h (fun q _ cs fr e => hk q cs fr e)
set_option maxRecDepth 100000 in
set_option maxHeartbeats 4000000 in
theorem Of_in {w : World} {A A2 : Option Addr} {c n2 c2 : Nat} {ds : List Df} (hC : k36.C w A ds.length ds) (hok : OkD ds) :
    CallsIn Fence.wide 3 Try.prog 14 #[.agg #[.slice A ds.length c, .slice A2 n2 c2]] w fun e W' => ∃ v, e = .returned (.tuple #[v, .int .i64 (ofA ds).2.1, .int .i64 (ofA ds).2.2.1, .agg #[.int .i64 (ofA ds).2.2.2.1, .int .i64 (ofA ds).2.2.2.2.1], .int .i64 (ofA ds).2.2.2.2.2]) ∧ kP.R 50 W' w.heap.size (fun _ => True) v (ofA ds).1 ∧ Below w.heap.size w W' := by
  obtain ⟨N, hN⟩ : ∃ N, N = ds.length := ⟨_, rfl⟩
  have hNN := Aside0.mk hN
  have hn63 : N ≤ 1000000000 := by have := hok.n; omega
  have hCC := Aside0.mk hC
  have hokk := Aside0.mk hok
  rw [← hN]
  clear hN hC hok
  refine callsIn_of_wp_marks Try.func14 rfl (by simp) ?_ rfl
  simp only [Try.ntmps14, List.size_toArray, List.length_cons, List.length_nil, Nat.reduceAdd, Nat.reduceSub, Array.replicate_succ, Array.replicate_zero, List.push_toArray, List.append_toArray, List.nil_append, List.cons_append]
  gi_wp2_with (gi_at_call 38; refine (defs_at _ _ _ _ rfl rfl).mono ?_; rintro e w' ⟨rfl, rfl⟩)
  obtain ⟨b1, hb1⟩ : ∃ b, w.heap.size + 1 = b := ⟨_, rfl⟩
  rw [hb1]
  obtain ⟨b2, hb2⟩ : ∃ b, b1 + 1 = b := ⟨_, rfl⟩
  rw [hb2]
  obtain ⟨b3, hb3⟩ : ∃ b, b2 + 1 = b := ⟨_, rfl⟩
  rw [hb3]
  obtain ⟨b4, hb4⟩ : ∃ b, b3 + 1 = b := ⟨_, rfl⟩
  rw [hb4]
  obtain ⟨b5, hb5⟩ : ∃ b, b4 + 1 = b := ⟨_, rfl⟩
  rw [hb5]
  obtain ⟨b6, hb6⟩ : ∃ b, b5 + 1 = b := ⟨_, rfl⟩
  rw [hb6]
  have e1 : Aside0 (b1 = w.heap.size + 1 ∧ b2 = w.heap.size + 2 ∧ b3 = w.heap.size + 3 ∧ b4 = w.heap.size + 4 ∧ b5 = w.heap.size + 5 ∧ b6 = w.heap.size + 6) := ⟨by omega⟩
  clear hb1 hb2 hb3 hb4 hb5 hb6
  refine name_world (fun W7 => Head w ds [] W7 ∧ BoxP W7 b6 A N c (.slice A2 n2 c2) ∧ W7.heap.size = w.heap.size + 7) ⟨⟨⟨.slice none 0 0, ?_, Kd.R_nil _ _ _ _ _⟩, ?_, ?_, ?_, ?_, ?_, fun k h => absurd h (by simp)⟩, ?_, ?_⟩ ?_
  · exact hpB (hpB (hpB (hpB (hpB (hpA (by simp only [World.size_alloc]))))))
  · exact hpB (hpB (hpB (hpB (hpA (by simp only [World.size_alloc])))))
  · exact hpB (hpB (hpB (hpA (by simp only [World.size_alloc]))))
  · exact hpB (hpB (hpA (by simp only [World.size_alloc])))
  · exact hpB (hpA (by simp only [World.size_alloc]))
  · exact (((((((Below.refl _ w).alloc (Nat.le_refl _) _).alloc (by simp only [World.size_alloc]; omega) _).alloc (by simp only [World.size_alloc]; omega) _).alloc (by simp only [World.size_alloc]; omega) _).alloc (by simp only [World.size_alloc]; omega) _).alloc (by simp only [World.size_alloc]; omega) _).alloc (by simp only [World.size_alloc]; omega) _
  · exact hpA (by have := e1.out; simp only [World.size_alloc]; omega)
  · simp only [World.size_alloc]
  rintro W7 ⟨hH7, hP7, hz7⟩
  have hP8 : BoxP W7 b6 A ds.length c (.slice A2 n2 c2) := by rw [← hNN.out]; exact hP7
  have eb6 := Aside0.mk e1.out.2.2.2.2.2
  refine Rb.range_boxH (α := Fin ds.length) rfl (by omega) (gf := 51) (lb := #[.pointer (some ⟨b6, 0, none⟩)]) rfl (by simp) (enters_of Try.func51 (by kernel_rfl) rfl) (encs := encs A ds) (fun _ => rfl) (Kp := Kp w.heap.size) Kp.trans ?hKb (S := fun xs => xs.map Fin.val = List.range ds.length) (Sp := fun pre => pre.map Fin.val = List.range pre.length) (N := ds.length)
    (fun W => ∃ a s r b, Spot W (w.heap.size + 9) a s r b) (Head w ds) (Left w ds) (by rw [hz7]; exact head_own w ds) (fun c => by rw [hz7]; exact left_own w ds c) ?hIb hH7 ?hseq (fun x a' W => ∃ b, a' = { tmps := tmpsOf w A A2 N c n2 c2 b1 b2 b3 b4 b5 b6 ((adr A).add (x.val * 6)) (atN ds x.val) (dsz (dfA ds x.val)) (ramN ds x.val) (dby (dfA ds x.val)) b, defers := [] } ∧ Spot W b (atN ds x.val) (dsz (dfA ds x.val)) (ramN ds x.val) (dby (dfA ds x.val)) ∧ w.heap.size + 9 < b ∧ ∃ a s r y, Spot W (w.heap.size + 9) a s r y) ?hAx ?assign ?body ?done ?stop
  case hKb =>
    intro W l o o' hl h1 h2 h3
    refine ⟨belowK_b (w := W7) (n₀ := w.heap.size) (by rw [hz7]; omega) W l o o' hl h1 h2 h3, fun k cs t fr _ hk => World.putObj_heap_other (fun e => ?_)⟩
    subst e
    rw [h1] at hk
    cases hk
    cases h2
  case hIb =>
    intro pre X p v hp hX
    rw [hz7] at hp
    exact hX.keep (fun k cs t fr hn _ => Below.heap_setCell _ _ _ k (by omega)) (hX.b.setCell (by omega) v)
  case hseq =>
    intro l J Jx W hJa hJb hz hY hbW hJ0
    refine defs_in (c := c) (u := .slice A2 n2 c2) hCC.out hokk.out (bp := b6) (by have := eb6.out; omega) l J Jx W hJa (fun pre X p v hp => hJb pre X p v (by omega)) (by have := eb6.out; omega) (fun pre x W1 h1 h2 h3 => hY pre x W1 h1 (by rw [show w.heap.size + 9 = W.heap.size by omega]; exact h2) h3) (hH7.b.trans (hbW.mono (by omega))) ((hbW.block b6 (by have := eb6.out; omega)).trans hP8) hJ0
  case hAx =>
    rintro x a' _ X Y row ⟨b, e, hS, hlt, a, s, r, y, h9⟩ hg hr
    exact ⟨b, e, (keep_own hg hr b _ _ _ hS).trans hS, hlt, a, s, r, y, (keep_own hg hr _ _ _ _ h9).trans h9⟩
  case assign =>
    intro l pre x W K hI hYw hK
    have henc : encs A ds x = #[.pointer (some ((adr A).add (x.val * 6))), .agg #[.int .i64 (atN ds x.val), .int .i64 (dsz (dfA ds x.val)), .int .i64 (ramN ds x.val), .int .i64 (dby (dfA ds x.val))]] := rfl
    rw [henc]
    clear henc
    gi_wp2
    obtain ⟨a1, s1, r1, y1, hS1⟩ := hYw
    have hlt := hS1.lt
    refine hK _ _ ((KeepsOthers.alloc W _).from _) ⟨(Below.refl _ W).alloc (by omega) _, fun k cs t fr _ hk => (hpB hk).trans hk.symm⟩ (OwnFrom.alloc (head_own w ds) _ hI) ⟨W.heap.size, rfl, hpA rfl, hlt, a1, s1, r1, y1, hpB hS1⟩
  case body =>
    rintro l pre x a' W hI ⟨b, rfl, hS, hb9, hsp⟩ hlen
    have hsp9 := Aside0.mk hsp
    clear hsp
    obtain ⟨i, hil⟩ := x
    obtain ⟨A3, c3, eA, hDf⟩ := DefAt.of hCC.out i hil
    have hbd := dsz_bd hokk.out hil
    obtain ⟨v, hbv, hR⟩ := hI.ex
    rw [← e1.out.1] at hbv
    have hM := Aside0.mk (Mid.of e1.out hb9 hil hI hbv hR hS (hDf.below hI.b) hDf)
    have hIok := Aside0.mk hI.ok
    have hD0 := Aside0.mk hDf
    have u1 := Aside0.mk (wr_add (a := atN ds i) (b := dsz (dfA ds i)) (by have := atN_bd hokk.out i; omega) (by omega))
    have u2 := Aside0.mk (wr_add (a := ramN ds i) (b := dby (dfA ds i)) (by have := ramN_bd hokk.out i; omega) (by omega))
    obtain ⟨s0, s1, s2, s3⟩ := hS.cells
    obtain ⟨n1, n2, _, _, _⟩ := neB2 e1.out hb9
    obtain ⟨_, _, _, _, n3, _⟩ := neB e1.out
    have hbc := hI.cd
    have hbr := hI.rm
    rw [← e1.out.2.1] at hbc
    rw [← e1.out.2.2.1] at hbr
    have cc := hbc.cell
    have cr := hbr.cell
    have zc := hbc.frozen
    have zr := hbr.frozen
    have hbrA := Aside0.mk hbr
    clear hDf hI hS hR hbv hbc hbr hbd eA
    dsimp only at s0 s1 s2 s3 u1 u2 hM ⊢
    unfold tmpsOf
    generalize (adr A).add (i * 6) = ad at *
    obtain ⟨aN, haN⟩ : ∃ x, atN ds i = x := ⟨_, rfl⟩
    obtain ⟨rN, hrN⟩ : ∃ x, ramN ds i = x := ⟨_, rfl⟩
    obtain ⟨S, hSz⟩ : ∃ x, dsz (dfA ds i) = x := ⟨_, rfl⟩
    obtain ⟨Y, hY⟩ : ∃ x, dby (dfA ds i) = x := ⟨_, rfl⟩
    rw [haN] at s0 u1 hM ⊢
    rw [hSz] at s1 u1 hM ⊢
    rw [hrN] at s2 u2 hM ⊢
    rw [hY] at s3 u2 hM ⊢
    have haNA := Aside0.mk haN
    have hrNA := Aside0.mk hrN
    have hSzA := Aside0.mk hSz
    have hYA := Aside0.mk hY
    clear haN hrN hSz hY
    gi_wp2
    refine Rr.start_round (n := 12) (S := (fun w' => w'.cell? ⟨b, 0, none⟩ = some (.int .i64 (aN : Int)) ∧ w'.cell? ⟨b, 1, none⟩ = some (.int .i64 (S : Int)) ∧ w'.cell? ⟨b, 2, none⟩ = some (.int .i64 (rN : Int)) ∧ w'.cell? ⟨b, 3, none⟩ = some (.int .i64 (Y : Int)))) (ds := []) #[false, false, false, false, false, false, false, false, false, false, false, false] (by kernel_rfl) rfl rfl (by kernel_rfl) (by rintro ⟨_, _, h⟩; exact h) ⟨s0, s1, s2, s3⟩ (fun hHeld => ?_)
    refine pure_ (i := 0) (N := some 14) (v := ?_) (a' := ?_) #[true, false, false, false, false, false, false, false, false, false, false, false] rfl rfl (by kernel_rfl) (fun _ _ _ h => h) (Or.inl ⟨by rfl, ?_⟩) ?_ ?_
    rotate_left
    · intro w'
      go_simp
      with_reducible rfl
    rotate_left
    · simp only [Act.put, List.setIfInBounds_toArray, List.set_cons_zero, List.set_cons_succ, i64_w, i32_w]
      rfl
    refine take_ (i := 1) (N := some 15) (v := ?_) (a' := ?_) #[true, true, false, false, false, false, false, false, false, false, false, false] rfl rfl (by kernel_rfl) (fun _ _ _ h => h) (Or.inl ⟨by rfl, ?_⟩) hHeld ?_ ?_
    rotate_left
    · rintro w' ⟨g0, g1, g2, g3⟩
      go_simp
      with_reducible rfl
    rotate_left
    · simp only [Act.put, List.setIfInBounds_toArray, List.set_cons_zero, List.set_cons_succ, i64_w, i32_w]
      rfl
    as_aux_lemma =>
      refine pure_ (i := 2) (N := some 16) (v := ?_) (a' := ?_) #[true, true, true, false, false, false, false, false, false, false, false, false] rfl rfl (by kernel_rfl) (fun _ _ _ h => h) (Or.inl ⟨by rfl, ?_⟩) ?_ ?_
      rotate_left
      · intro w'
        go_simp
        with_reducible rfl
      rotate_left
      · simp only [Act.put, List.setIfInBounds_toArray, List.set_cons_zero, List.set_cons_succ, i64_w, i32_w]
        rfl
      refine take_ (i := 3) (N := some 17) (v := ?_) (a' := ?_) #[true, true, true, true, false, false, false, false, false, false, false, false] rfl rfl (by kernel_rfl) (fun _ _ _ h => h) (Or.inl ⟨by rfl, ?_⟩) hHeld ?_ ?_
      rotate_left
      · rintro w' ⟨g0, g1, g2, g3⟩
        go_simp
        with_reducible rfl
      rotate_left
      · simp only [Act.put, List.setIfInBounds_toArray, List.set_cons_zero, List.set_cons_succ, i64_w, i32_w]
        rfl
      refine pure_ (i := 4) (N := some 18) (v := ?_) (a' := ?_) #[true, true, true, true, true, false, false, false, false, false, false, false] rfl rfl (by kernel_rfl) (fun _ _ _ h => h) (Or.inl ⟨by rfl, ?_⟩) ?_ ?_
      rotate_left
      · intro w'
        go_simp
        with_reducible rfl
      rotate_left
      · simp only [Act.put, List.setIfInBounds_toArray, List.set_cons_zero, List.set_cons_succ, i64_w, i32_w]
        rfl
      as_aux_lemma =>
        refine pure_ (i := 5) (N := some 19) (v := ?_) (a' := ?_) #[true, true, true, true, true, true, false, false, false, false, false, false] rfl rfl (by kernel_rfl) (fun _ _ _ h => h) (Or.inl ⟨by rfl, ?_⟩) ?_ ?_
        rotate_left
        · intro w'
          go_simp
          with_reducible rfl
        rotate_left
        · simp only [Act.put, List.setIfInBounds_toArray, List.set_cons_zero, List.set_cons_succ, i64_w, i32_w]
          rfl
        refine take_ (i := 6) (N := some 20) (v := ?_) (a' := ?_) #[true, true, true, true, true, true, true, false, false, false, false, false] rfl rfl (by kernel_rfl) (fun _ _ _ h => h) (Or.inl ⟨by rfl, ?_⟩) hHeld ?_ ?_
        rotate_left
        · rintro w' ⟨g0, g1, g2, g3⟩
          go_simp
          with_reducible rfl
        rotate_left
        · simp only [Act.put, List.setIfInBounds_toArray, List.set_cons_zero, List.set_cons_succ, i64_w, i32_w]
          rfl
        refine pure_ (i := 7) (N := some 21) (v := ?_) (a' := ?_) #[true, true, true, true, true, true, true, true, false, false, false, false] rfl rfl (by kernel_rfl) (fun _ _ _ h => h) (Or.inl ⟨by rfl, ?_⟩) ?_ ?_
        rotate_left
        · intro w'
          go_simp
          with_reducible rfl
        rotate_left
        · simp only [Act.put, List.setIfInBounds_toArray, List.set_cons_zero, List.set_cons_succ, i64_w, i32_w]
          rfl
        as_aux_lemma =>
          refine take_ (i := 8) (N := some 22) (v := ?_) (a' := ?_) #[true, true, true, true, true, true, true, true, true, false, false, false] rfl rfl (by kernel_rfl) (fun _ _ _ h => h) (Or.inl ⟨by rfl, ?_⟩) hHeld ?_ ?_
          rotate_left
          · rintro w' ⟨g0, g1, g2, g3⟩
            go_simp
            with_reducible rfl
          rotate_left
          · simp only [Act.put, List.setIfInBounds_toArray, List.set_cons_zero, List.set_cons_succ, i64_w, i32_w]
            rfl
          refine pure_ (i := 9) (N := some 23) (v := ?_) (a' := ?_) #[true, true, true, true, true, true, true, true, true, true, false, false] rfl rfl (by kernel_rfl) (fun _ _ _ h => h) (Or.inl ⟨by rfl, ?_⟩) ?_ ?_
          rotate_left
          · intro w'
            go_simp
            with_reducible rfl
          rotate_left
          · simp only [Act.put, List.setIfInBounds_toArray, List.set_cons_zero, List.set_cons_succ, i64_w, i32_w]
            rfl
          refine one_ (i := 10) (N := none) #[true, true, true, true, true, true, true, true, true, true, true, false] rfl rfl (by kernel_rfl) (by decide) (fun K hK => ?_)
          refine skip_ (w1 := W.drew.setCell ⟨b2, 0, none⟩ (.int .i64 (wrap64 ((aN : Int) + S)))) (by rfl) rfl (by go_simp) ?_
          refine hK.out _ _ (by refine ⟨?_, ?_, ?_, ?_⟩ <;> go_simp) (fun hHeld2 => ?_)
          clear hK
          have hx := (show Boxed W.drew b3 3 _ from hbrA.out).other (B' := b2) n3 (.int .i64 (wrap64 ((aN : Int) + S)))
          generalize hV1 : W.drew.setCell ⟨b2, 0, none⟩ (.int .i64 (wrap64 ((aN : Int) + S))) = V1 at *
          have hVA := Aside0.mk hV1
          clear hV1 cc zc cr zr
          have cr := hx.cell
          have zr := hx.frozen
          clear hx
          as_aux_lemma =>
            refine one_ (i := 11) (N := none) #[true, true, true, true, true, true, true, true, true, true, true, true] rfl rfl (by kernel_rfl) (by decide) (fun K hK => ?_)
            refine skip_ (w1 := V1.setCell ⟨b3, 0, none⟩ (.int .i64 (wrap64 ((rN : Int) + Y)))) (by rfl) rfl (by go_simp) ?_
            refine hK.out _ _ (by refine ⟨?_, ?_, ?_, ?_⟩ <;> go_simp) (fun hHeld3 => ?_)
            clear hK
            refine done_ (by kernel_rfl) ?_
            rw [← hVA.out, u1.out, u2.out]
            generalize (W.drew.setCell ⟨b2, 0, none⟩ (.int .i64 ((aN + S : Nat) : Int))).setCell ⟨b3, 0, none⟩ (.int .i64 ((rN + Y : Nat) : Int)) = wy at hM ⊢
            clear cr zr hVA s0 s1 s2 s3 u1 u2 hHeld hHeld2 hHeld3 hbrA n1 n2 n3
            clear V1
            obtain ⟨pl, hpl⟩ : ∃ x, pre.length = x := ⟨_, rfl⟩
            obtain ⟨cN, hcN⟩ : ∃ x, atN ds (i + 1) = x := ⟨_, rfl⟩
            obtain ⟨qN, hqN⟩ : ∃ x, ramN ds (i + 1) = x := ⟨_, rfl⟩
            have hplA := Aside0.mk hpl
            have hcNA := Aside0.mk hcN
            have hqNA := Aside0.mk hqN
            have hMy := hM.out
            obtain ⟨Av, cv, hve, hvl, _⟩ := Kd.R_reads hMy.R
            rw [List.length_map, hpl] at hve hvl
            subst hve
            have k1 := hMy.bv.cell
            have k2 := hMy.cd.cell
            have k3 := hMy.rm.cell
            have k5 := hMy.er.cell
            have z5 := hMy.er.frozen
            rw [hcN] at k2
            rw [hqN] at k3
            have bc : cN ≤ 20000000000 := by rw [← hcN]; exact atN_bd hokk.out _
            have bq : qN ≤ 70000000000000 := by rw [← hqN]; exact ramN_bd hokk.out _
            have hEN := Aside0.mk (show errN ds pl i = if pl = 512 then 110 else if 16384 < atN ds (i + 1) then 111 else if 16384 < ramN ds (i + 1) then 112 else 0 from rfl)
            rw [hcN, hqN] at hEN
            have hpl63 : pl ≤ 1000000000 := by have := hokk.out.n; omega
            clear hpl hcN hqN hMy hvl
            by_cases c1 : pl = 512
            · have d1 : ((pl : Int) == 512) = true := beq_iff_eq.2 (by omega)
              have hE := Aside0.mk (show errN ds pl i = 110 by rw [hEN.out, if_pos c1])
              clear c1
              have hZ := Aside0.mk (hM.out.err e1.out hD0.out 110)
              as_aux_lemma =>
                gi_upto_region 12 with (fail)
                generalize wy.setCell ⟨b5, 0, none⟩ (.int .i64 110) = wz at hZ ⊢
                clear k1 k2 k3 k5 z5
                have w5 := hZ.out.er.cell
                gi_upto_region 13 with (fail)
                obtain ⟨L, hL⟩ : ∃ x, (dfA ds i).f4.f0 = x := ⟨_, rfl⟩
                obtain ⟨C, hC⟩ : ∃ x, (dfA ds i).f4.f1 = x := ⟨_, rfl⟩
                have hL2 := Aside0.mk hL
                have hC2 := Aside0.mk hC
                have y1 := hZ.out.df.l
                have y2 := hZ.out.df.c
                rw [hL] at y1
                rw [hC] at y2
                clear hL hC
                have hX0 := Aside0.mk (hZ.out.drew hD0.out)
                have q1 := hZ.out.bv.cell
                have q2 := hZ.out.cd.cell
                have q3 := hZ.out.rm.cell
                obtain ⟨q4, t4, r4⟩ := hZ.out.po.cells
                have q5 := hZ.out.er.cell
                have t1 := hZ.out.bv.frozen
                have t2 := hZ.out.cd.frozen
                have t3 := hZ.out.rm.frozen
                have t5 := hZ.out.er.frozen
                have r40 := r4 0
                have r41 := r4 1
                clear r4 w5
                refine Rr.start_round (n := 10) (S := (fun w' => w'.cell? ⟨ad.block, ad.off + 4, none⟩ = some (.int .i64 L) ∧ w'.cell? ⟨ad.block, ad.off + 5, none⟩ = some (.int .i64 C) ∧ w'.cell? ⟨b5, 0, none⟩ = some (.int .i64 110))) (ds := []) #[false, false, false, false, false, false, false, false, false, false] (by kernel_rfl) rfl rfl (by kernel_rfl) (by rintro ⟨_, _, h⟩; exact h) ⟨y1, y2, q5⟩ (fun hHeld => ?_)
                refine pure_ (i := 0) (N := some 36) (v := ?_) (a' := ?_) #[true, false, false, false, false, false, false, false, false, false] rfl rfl (by kernel_rfl) (fun _ _ _ h => h) (Or.inl ⟨by rfl, ?_⟩) ?_ ?_
                rotate_left
                · intro w'
                  go_simp
                  with_reducible rfl
                rotate_left
                · simp only [Act.put, List.setIfInBounds_toArray, List.set_cons_zero, List.set_cons_succ, i64_w, i32_w]
                  rfl
                refine pure_ (i := 1) (N := some 37) (v := ?_) (a' := ?_) #[true, true, false, false, false, false, false, false, false, false] rfl rfl (by kernel_rfl) (fun _ _ _ h => h) (Or.inl ⟨by rfl, ?_⟩) ?_ ?_
                rotate_left
                · intro w'
                  go_simp
                  with_reducible rfl
                rotate_left
                · simp only [Act.put, List.setIfInBounds_toArray, List.set_cons_zero, List.set_cons_succ, i64_w, i32_w]
                  rfl
                as_aux_lemma =>
                  refine pure_ (i := 2) (N := some 38) (v := ?_) (a' := ?_) #[true, true, true, false, false, false, false, false, false, false] rfl rfl (by kernel_rfl) (fun _ _ _ h => h) (Or.inl ⟨by rfl, ?_⟩) ?_ ?_
                  rotate_left
                  · intro w'
                    go_simp
                    with_reducible rfl
                  rotate_left
                  · simp only [Act.put, List.setIfInBounds_toArray, List.set_cons_zero, List.set_cons_succ, i64_w, i32_w]
                    rfl
                  refine take_ (i := 3) (N := some 39) (v := ?_) (a' := ?_) #[true, true, true, true, false, false, false, false, false, false] rfl rfl (by kernel_rfl) (fun _ _ _ h => h) (Or.inl ⟨by rfl, ?_⟩) hHeld ?_ ?_
                  rotate_left
                  · rintro w' ⟨g0, g1, g2⟩
                    go_simp
                    with_reducible rfl
                  rotate_left
                  · simp only [Act.put, List.setIfInBounds_toArray, List.set_cons_zero, List.set_cons_succ, i64_w, i32_w]
                    rfl
                  refine take_ (i := 4) (N := some 40) (v := ?_) (a' := ?_) #[true, true, true, true, true, false, false, false, false, false] rfl rfl (by kernel_rfl) (fun _ _ _ h => h) (Or.inl ⟨by rfl, ?_⟩) hHeld ?_ ?_
                  rotate_left
                  · rintro w' ⟨g0, g1, g2⟩
                    go_simp
                    with_reducible rfl
                  rotate_left
                  · simp only [Act.put, List.setIfInBounds_toArray, List.set_cons_zero, List.set_cons_succ, i64_w, i32_w]
                    rfl
                  as_aux_lemma =>
                    refine one_ (i := 5) (N := none) #[true, true, true, true, true, true, false, false, false, false] rfl rfl (by kernel_rfl) (by decide) (fun K hK => ?_)
                    refine skip_ (w1 := wz.drew.setCell ⟨b1, 0, none⟩ (.slice none 0 0)) (by rfl) rfl (by go_simp) ?_
                    refine hK.out _ _ ⟨(hX0.out.set1 hD0.out e1.out (.slice none 0 0)).df.l.trans (by rw [hL2.out]), (hX0.out.set1 hD0.out e1.out (.slice none 0 0)).df.c.trans (by rw [hC2.out]), (hX0.out.set1 hD0.out e1.out (.slice none 0 0)).er.cell⟩ (fun hHeld2 => ?_)
                    clear hK
                    have hX1 := Aside0.mk (hX0.out.set1 hD0.out e1.out (.slice none 0 0))
                    generalize wz.drew.setCell ⟨b1, 0, none⟩ (.slice none 0 0) = V1 at *
                    clear q1 q2 q3 q4 q5 t1 t2 t3 t4 t5 r40 r41
                    have q1 := hX1.out.bv.cell
                    have q2 := hX1.out.cd.cell
                    have q3 := hX1.out.rm.cell
                    obtain ⟨q4, t4, r4⟩ := hX1.out.po.cells
                    have q5 := hX1.out.er.cell
                    have t1 := hX1.out.bv.frozen
                    have t2 := hX1.out.cd.frozen
                    have t3 := hX1.out.rm.frozen
                    have t5 := hX1.out.er.frozen
                    have r40 := r4 0
                    have r41 := r4 1
                    clear r4
                    refine one_ (i := 6) (N := none) #[true, true, true, true, true, true, true, false, false, false] rfl rfl (by kernel_rfl) (by decide) (fun K hK => ?_)
                    refine skip_ (w1 := V1.setCell ⟨b2, 0, none⟩ (.int .i64 0)) (by rfl) rfl (by go_simp) ?_
                    refine hK.out _ _ ⟨(hX1.out.set2 hD0.out e1.out 0).df.l.trans (by rw [hL2.out]), (hX1.out.set2 hD0.out e1.out 0).df.c.trans (by rw [hC2.out]), (hX1.out.set2 hD0.out e1.out 0).er.cell⟩ (fun hHeld3 => ?_)
                    clear hK
                    have hX2 := Aside0.mk (hX1.out.set2 hD0.out e1.out 0)
                    generalize V1.setCell ⟨b2, 0, none⟩ (.int .i64 0) = V2 at *
                    clear q1 q2 q3 q4 q5 t1 t2 t3 t4 t5 r40 r41
                    have q1 := hX2.out.bv.cell
                    have q2 := hX2.out.cd.cell
                    have q3 := hX2.out.rm.cell
                    obtain ⟨q4, t4, r4⟩ := hX2.out.po.cells
                    have q5 := hX2.out.er.cell
                    have t1 := hX2.out.bv.frozen
                    have t2 := hX2.out.cd.frozen
                    have t3 := hX2.out.rm.frozen
                    have t5 := hX2.out.er.frozen
                    have r40 := r4 0
                    have r41 := r4 1
                    clear r4
                    refine one_ (i := 7) (N := none) #[true, true, true, true, true, true, true, true, false, false] rfl rfl (by kernel_rfl) (by decide) (fun K hK => ?_)
                    refine skip_ (w1 := V2.setCell ⟨b3, 0, none⟩ (.int .i64 0)) (by rfl) rfl (by go_simp) ?_
                    refine hK.out _ _ ⟨(hX2.out.set3 hD0.out e1.out 0).df.l.trans (by rw [hL2.out]), (hX2.out.set3 hD0.out e1.out 0).df.c.trans (by rw [hC2.out]), (hX2.out.set3 hD0.out e1.out 0).er.cell⟩ (fun hHeld4 => ?_)
                    clear hK
                    have hX3 := Aside0.mk (hX2.out.set3 hD0.out e1.out 0)
                    generalize V2.setCell ⟨b3, 0, none⟩ (.int .i64 0) = V3 at *
                    clear q1 q2 q3 q4 q5 t1 t2 t3 t4 t5 r40 r41
                    have q1 := hX3.out.bv.cell
                    have q2 := hX3.out.cd.cell
                    have q3 := hX3.out.rm.cell
                    obtain ⟨q4, t4, r4⟩ := hX3.out.po.cells
                    have q5 := hX3.out.er.cell
                    have t1 := hX3.out.bv.frozen
                    have t2 := hX3.out.cd.frozen
                    have t3 := hX3.out.rm.frozen
                    have t5 := hX3.out.er.frozen
                    have r40 := r4 0
                    have r41 := r4 1
                    clear r4
                    as_aux_lemma =>
                      refine one_ (i := 8) (N := none) #[true, true, true, true, true, true, true, true, true, false] rfl rfl (by kernel_rfl) (by decide) (fun K hK => ?_)
                      refine skip_ (w1 := (V3.setCell ⟨b4, 0, none⟩ (.int .i64 L)).setCell ⟨b4, 1, none⟩ (.int .i64 C)) (by rfl) rfl (by go_simp) ?_
                      refine hK.out _ _ ⟨(hX3.out.set4 hD0.out e1.out L C).df.l.trans (by rw [hL2.out]), (hX3.out.set4 hD0.out e1.out L C).df.c.trans (by rw [hC2.out]), (hX3.out.set4 hD0.out e1.out L C).er.cell⟩ (fun hHeld5 => ?_)
                      clear hK
                      have hX4 := Aside0.mk (hX3.out.set4 hD0.out e1.out L C)
                      generalize (V3.setCell ⟨b4, 0, none⟩ (.int .i64 L)).setCell ⟨b4, 1, none⟩ (.int .i64 C) = V4 at *
                      clear q1 q2 q3 q4 q5 t1 t2 t3 t4 t5 r40 r41
                      have q1 := hX4.out.bv.cell
                      have q2 := hX4.out.cd.cell
                      have q3 := hX4.out.rm.cell
                      obtain ⟨q4, t4, r4⟩ := hX4.out.po.cells
                      have q5 := hX4.out.er.cell
                      have t1 := hX4.out.bv.frozen
                      have t2 := hX4.out.cd.frozen
                      have t3 := hX4.out.rm.frozen
                      have t5 := hX4.out.er.frozen
                      have r40 := r4 0
                      have r41 := r4 1
                      clear r4
                      refine one_ (i := 9) (N := none) #[true, true, true, true, true, true, true, true, true, true] rfl rfl (by kernel_rfl) (by decide) (fun K hK => ?_)
                      refine skip_ (w1 := V4.setCell ⟨b5, 0, none⟩ (.int .i64 110)) (by rfl) rfl (by go_simp) ?_
                      refine hK.out _ _ ⟨(hX4.out.set5 hD0.out e1.out 110).df.l.trans (by rw [hL2.out]), (hX4.out.set5 hD0.out e1.out 110).df.c.trans (by rw [hC2.out]), (hX4.out.set5 hD0.out e1.out 110).er.cell⟩ (fun hHeld6 => ?_)
                      clear hK
                      have hX5 := Aside0.mk (hX4.out.set5 hD0.out e1.out 110)
                      generalize V4.setCell ⟨b5, 0, none⟩ (.int .i64 110) = V5 at *
                      clear q1 q2 q3 q4 q5 t1 t2 t3 t4 t5 r40 r41
                      have q1 := hX5.out.bv.cell
                      have q2 := hX5.out.cd.cell
                      have q3 := hX5.out.rm.cell
                      obtain ⟨q4, t4, r4⟩ := hX5.out.po.cells
                      have q5 := hX5.out.er.cell
                      have t1 := hX5.out.bv.frozen
                      have t2 := hX5.out.cd.frozen
                      have t3 := hX5.out.rm.frozen
                      have t5 := hX5.out.er.frozen
                      have r40 := r4 0
                      have r41 := r4 1
                      clear r4
                      refine done_ (by kernel_rfl) ?_
                      gi_wp2
                      refine ⟨by rw [hz7]; exact hX5.out.kf, rfl, ⟨pre, ⟨i, hil⟩, rfl, hIok.out, by rw [hplA.out]; show errN ds pl i ≠ 0; rw [hE.out]; decide, ?_, ?_⟩, ?_, ?_, ?_, hX5.out.bl⟩
                      · rw [← e1.out.2.2.2.1, hL2.out, hC2.out]; exact hX5.out.po
                      · rw [← e1.out.2.2.2.2.1, hplA.out]; show Boxed _ _ _ (.int .i64 (errN ds pl i)); rw [hE.out]; exact hX5.out.er
                      · rw [← e1.out.1]; exact hX5.out.bv
                      · rw [← e1.out.2.1]; exact hX5.out.cd
                      · rw [← e1.out.2.2.1]; exact hX5.out.rm
            · have d1 : ((pl : Int) == 512) = false := beq_eq_false_iff_ne.2 (by omega)
              by_cases c2 : 16384 < cN
              · have d2 : decide ((cN : Int) > 16384) = true := decide_eq_true (by omega)
                have hE := Aside0.mk (show errN ds pl i = 111 by rw [hEN.out, if_neg c1, if_pos c2])
                clear c1 c2
                have hZ := Aside0.mk (hM.out.err e1.out hD0.out 111)
                as_aux_lemma =>
                  gi_upto_region 12 with (fail)
                  generalize wy.setCell ⟨b5, 0, none⟩ (.int .i64 111) = wz at hZ ⊢
                  clear k1 k2 k3 k5 z5
                  have w5 := hZ.out.er.cell
                  gi_upto_region 13 with (fail)
                  obtain ⟨L, hL⟩ : ∃ x, (dfA ds i).f4.f0 = x := ⟨_, rfl⟩
                  obtain ⟨C, hC⟩ : ∃ x, (dfA ds i).f4.f1 = x := ⟨_, rfl⟩
                  have hL2 := Aside0.mk hL
                  have hC2 := Aside0.mk hC
                  have y1 := hZ.out.df.l
                  have y2 := hZ.out.df.c
                  rw [hL] at y1
                  rw [hC] at y2
                  clear hL hC
                  have hX0 := Aside0.mk (hZ.out.drew hD0.out)
                  have q1 := hZ.out.bv.cell
                  have q2 := hZ.out.cd.cell
                  have q3 := hZ.out.rm.cell
                  obtain ⟨q4, t4, r4⟩ := hZ.out.po.cells
                  have q5 := hZ.out.er.cell
                  have t1 := hZ.out.bv.frozen
                  have t2 := hZ.out.cd.frozen
                  have t3 := hZ.out.rm.frozen
                  have t5 := hZ.out.er.frozen
                  have r40 := r4 0
                  have r41 := r4 1
                  clear r4 w5
                  refine Rr.start_round (n := 10) (S := (fun w' => w'.cell? ⟨ad.block, ad.off + 4, none⟩ = some (.int .i64 L) ∧ w'.cell? ⟨ad.block, ad.off + 5, none⟩ = some (.int .i64 C) ∧ w'.cell? ⟨b5, 0, none⟩ = some (.int .i64 111))) (ds := []) #[false, false, false, false, false, false, false, false, false, false] (by kernel_rfl) rfl rfl (by kernel_rfl) (by rintro ⟨_, _, h⟩; exact h) ⟨y1, y2, q5⟩ (fun hHeld => ?_)
                  refine pure_ (i := 0) (N := some 36) (v := ?_) (a' := ?_) #[true, false, false, false, false, false, false, false, false, false] rfl rfl (by kernel_rfl) (fun _ _ _ h => h) (Or.inl ⟨by rfl, ?_⟩) ?_ ?_
                  rotate_left
                  · intro w'
                    go_simp
                    with_reducible rfl
                  rotate_left
                  · simp only [Act.put, List.setIfInBounds_toArray, List.set_cons_zero, List.set_cons_succ, i64_w, i32_w]
                    rfl
                  refine pure_ (i := 1) (N := some 37) (v := ?_) (a' := ?_) #[true, true, false, false, false, false, false, false, false, false] rfl rfl (by kernel_rfl) (fun _ _ _ h => h) (Or.inl ⟨by rfl, ?_⟩) ?_ ?_
                  rotate_left
                  · intro w'
                    go_simp
                    with_reducible rfl
                  rotate_left
                  · simp only [Act.put, List.setIfInBounds_toArray, List.set_cons_zero, List.set_cons_succ, i64_w, i32_w]
                    rfl
                  as_aux_lemma =>
                    refine pure_ (i := 2) (N := some 38) (v := ?_) (a' := ?_) #[true, true, true, false, false, false, false, false, false, false] rfl rfl (by kernel_rfl) (fun _ _ _ h => h) (Or.inl ⟨by rfl, ?_⟩) ?_ ?_
                    rotate_left
                    · intro w'
                      go_simp
                      with_reducible rfl
                    rotate_left
                    · simp only [Act.put, List.setIfInBounds_toArray, List.set_cons_zero, List.set_cons_succ, i64_w, i32_w]
                      rfl
                    refine take_ (i := 3) (N := some 39) (v := ?_) (a' := ?_) #[true, true, true, true, false, false, false, false, false, false] rfl rfl (by kernel_rfl) (fun _ _ _ h => h) (Or.inl ⟨by rfl, ?_⟩) hHeld ?_ ?_
                    rotate_left
                    · rintro w' ⟨g0, g1, g2⟩
                      go_simp
                      with_reducible rfl
                    rotate_left
                    · simp only [Act.put, List.setIfInBounds_toArray, List.set_cons_zero, List.set_cons_succ, i64_w, i32_w]
                      rfl
                    refine take_ (i := 4) (N := some 40) (v := ?_) (a' := ?_) #[true, true, true, true, true, false, false, false, false, false] rfl rfl (by kernel_rfl) (fun _ _ _ h => h) (Or.inl ⟨by rfl, ?_⟩) hHeld ?_ ?_
                    rotate_left
                    · rintro w' ⟨g0, g1, g2⟩
                      go_simp
                      with_reducible rfl
                    rotate_left
                    · simp only [Act.put, List.setIfInBounds_toArray, List.set_cons_zero, List.set_cons_succ, i64_w, i32_w]
                      rfl
                    as_aux_lemma =>
                      refine one_ (i := 5) (N := none) #[true, true, true, true, true, true, false, false, false, false] rfl rfl (by kernel_rfl) (by decide) (fun K hK => ?_)
                      refine skip_ (w1 := wz.drew.setCell ⟨b1, 0, none⟩ (.slice none 0 0)) (by rfl) rfl (by go_simp) ?_
                      refine hK.out _ _ ⟨(hX0.out.set1 hD0.out e1.out (.slice none 0 0)).df.l.trans (by rw [hL2.out]), (hX0.out.set1 hD0.out e1.out (.slice none 0 0)).df.c.trans (by rw [hC2.out]), (hX0.out.set1 hD0.out e1.out (.slice none 0 0)).er.cell⟩ (fun hHeld2 => ?_)
                      clear hK
                      have hX1 := Aside0.mk (hX0.out.set1 hD0.out e1.out (.slice none 0 0))
                      generalize wz.drew.setCell ⟨b1, 0, none⟩ (.slice none 0 0) = V1 at *
                      clear q1 q2 q3 q4 q5 t1 t2 t3 t4 t5 r40 r41
                      have q1 := hX1.out.bv.cell
                      have q2 := hX1.out.cd.cell
                      have q3 := hX1.out.rm.cell
                      obtain ⟨q4, t4, r4⟩ := hX1.out.po.cells
                      have q5 := hX1.out.er.cell
                      have t1 := hX1.out.bv.frozen
                      have t2 := hX1.out.cd.frozen
                      have t3 := hX1.out.rm.frozen
                      have t5 := hX1.out.er.frozen
                      have r40 := r4 0
                      have r41 := r4 1
                      clear r4
                      refine one_ (i := 6) (N := none) #[true, true, true, true, true, true, true, false, false, false] rfl rfl (by kernel_rfl) (by decide) (fun K hK => ?_)
                      refine skip_ (w1 := V1.setCell ⟨b2, 0, none⟩ (.int .i64 0)) (by rfl) rfl (by go_simp) ?_
                      refine hK.out _ _ ⟨(hX1.out.set2 hD0.out e1.out 0).df.l.trans (by rw [hL2.out]), (hX1.out.set2 hD0.out e1.out 0).df.c.trans (by rw [hC2.out]), (hX1.out.set2 hD0.out e1.out 0).er.cell⟩ (fun hHeld3 => ?_)
                      clear hK
                      have hX2 := Aside0.mk (hX1.out.set2 hD0.out e1.out 0)
                      generalize V1.setCell ⟨b2, 0, none⟩ (.int .i64 0) = V2 at *
                      clear q1 q2 q3 q4 q5 t1 t2 t3 t4 t5 r40 r41
                      have q1 := hX2.out.bv.cell
                      have q2 := hX2.out.cd.cell
                      have q3 := hX2.out.rm.cell
                      obtain ⟨q4, t4, r4⟩ := hX2.out.po.cells
                      have q5 := hX2.out.er.cell
                      have t1 := hX2.out.bv.frozen
                      have t2 := hX2.out.cd.frozen
                      have t3 := hX2.out.rm.frozen
                      have t5 := hX2.out.er.frozen
                      have r40 := r4 0
                      have r41 := r4 1
                      clear r4
                      refine one_ (i := 7) (N := none) #[true, true, true, true, true, true, true, true, false, false] rfl rfl (by kernel_rfl) (by decide) (fun K hK => ?_)
                      refine skip_ (w1 := V2.setCell ⟨b3, 0, none⟩ (.int .i64 0)) (by rfl) rfl (by go_simp) ?_
                      refine hK.out _ _ ⟨(hX2.out.set3 hD0.out e1.out 0).df.l.trans (by rw [hL2.out]), (hX2.out.set3 hD0.out e1.out 0).df.c.trans (by rw [hC2.out]), (hX2.out.set3 hD0.out e1.out 0).er.cell⟩ (fun hHeld4 => ?_)
                      clear hK
                      have hX3 := Aside0.mk (hX2.out.set3 hD0.out e1.out 0)
                      generalize V2.setCell ⟨b3, 0, none⟩ (.int .i64 0) = V3 at *
                      clear q1 q2 q3 q4 q5 t1 t2 t3 t4 t5 r40 r41
                      have q1 := hX3.out.bv.cell
                      have q2 := hX3.out.cd.cell
                      have q3 := hX3.out.rm.cell
                      obtain ⟨q4, t4, r4⟩ := hX3.out.po.cells
                      have q5 := hX3.out.er.cell
                      have t1 := hX3.out.bv.frozen
                      have t2 := hX3.out.cd.frozen
                      have t3 := hX3.out.rm.frozen
                      have t5 := hX3.out.er.frozen
                      have r40 := r4 0
                      have r41 := r4 1
                      clear r4
                      as_aux_lemma =>
                        refine one_ (i := 8) (N := none) #[true, true, true, true, true, true, true, true, true, false] rfl rfl (by kernel_rfl) (by decide) (fun K hK => ?_)
                        refine skip_ (w1 := (V3.setCell ⟨b4, 0, none⟩ (.int .i64 L)).setCell ⟨b4, 1, none⟩ (.int .i64 C)) (by rfl) rfl (by go_simp) ?_
                        refine hK.out _ _ ⟨(hX3.out.set4 hD0.out e1.out L C).df.l.trans (by rw [hL2.out]), (hX3.out.set4 hD0.out e1.out L C).df.c.trans (by rw [hC2.out]), (hX3.out.set4 hD0.out e1.out L C).er.cell⟩ (fun hHeld5 => ?_)
                        clear hK
                        have hX4 := Aside0.mk (hX3.out.set4 hD0.out e1.out L C)
                        generalize (V3.setCell ⟨b4, 0, none⟩ (.int .i64 L)).setCell ⟨b4, 1, none⟩ (.int .i64 C) = V4 at *
                        clear q1 q2 q3 q4 q5 t1 t2 t3 t4 t5 r40 r41
                        have q1 := hX4.out.bv.cell
                        have q2 := hX4.out.cd.cell
                        have q3 := hX4.out.rm.cell
                        obtain ⟨q4, t4, r4⟩ := hX4.out.po.cells
                        have q5 := hX4.out.er.cell
                        have t1 := hX4.out.bv.frozen
                        have t2 := hX4.out.cd.frozen
                        have t3 := hX4.out.rm.frozen
                        have t5 := hX4.out.er.frozen
                        have r40 := r4 0
                        have r41 := r4 1
                        clear r4
                        refine one_ (i := 9) (N := none) #[true, true, true, true, true, true, true, true, true, true] rfl rfl (by kernel_rfl) (by decide) (fun K hK => ?_)
                        refine skip_ (w1 := V4.setCell ⟨b5, 0, none⟩ (.int .i64 111)) (by rfl) rfl (by go_simp) ?_
                        refine hK.out _ _ ⟨(hX4.out.set5 hD0.out e1.out 111).df.l.trans (by rw [hL2.out]), (hX4.out.set5 hD0.out e1.out 111).df.c.trans (by rw [hC2.out]), (hX4.out.set5 hD0.out e1.out 111).er.cell⟩ (fun hHeld6 => ?_)
                        clear hK
                        have hX5 := Aside0.mk (hX4.out.set5 hD0.out e1.out 111)
                        generalize V4.setCell ⟨b5, 0, none⟩ (.int .i64 111) = V5 at *
                        clear q1 q2 q3 q4 q5 t1 t2 t3 t4 t5 r40 r41
                        have q1 := hX5.out.bv.cell
                        have q2 := hX5.out.cd.cell
                        have q3 := hX5.out.rm.cell
                        obtain ⟨q4, t4, r4⟩ := hX5.out.po.cells
                        have q5 := hX5.out.er.cell
                        have t1 := hX5.out.bv.frozen
                        have t2 := hX5.out.cd.frozen
                        have t3 := hX5.out.rm.frozen
                        have t5 := hX5.out.er.frozen
                        have r40 := r4 0
                        have r41 := r4 1
                        clear r4
                        refine done_ (by kernel_rfl) ?_
                        gi_wp2
                        refine ⟨by rw [hz7]; exact hX5.out.kf, rfl, ⟨pre, ⟨i, hil⟩, rfl, hIok.out, by rw [hplA.out]; show errN ds pl i ≠ 0; rw [hE.out]; decide, ?_, ?_⟩, ?_, ?_, ?_, hX5.out.bl⟩
                        · rw [← e1.out.2.2.2.1, hL2.out, hC2.out]; exact hX5.out.po
                        · rw [← e1.out.2.2.2.2.1, hplA.out]; show Boxed _ _ _ (.int .i64 (errN ds pl i)); rw [hE.out]; exact hX5.out.er
                        · rw [← e1.out.1]; exact hX5.out.bv
                        · rw [← e1.out.2.1]; exact hX5.out.cd
                        · rw [← e1.out.2.2.1]; exact hX5.out.rm
              · have d2 : decide ((cN : Int) > 16384) = false := decide_eq_false (by omega)
                by_cases c3 : 16384 < qN
                · have d3 : decide ((qN : Int) > 16384) = true := decide_eq_true (by omega)
                  have hE := Aside0.mk (show errN ds pl i = 112 by rw [hEN.out, if_neg c1, if_neg c2, if_pos c3])
                  clear c1 c2 c3
                  have hZ := Aside0.mk (hM.out.err e1.out hD0.out 112)
                  as_aux_lemma =>
                    gi_upto_region 12 with (fail)
                    generalize wy.setCell ⟨b5, 0, none⟩ (.int .i64 112) = wz at hZ ⊢
                    clear k1 k2 k3 k5 z5
                    have w5 := hZ.out.er.cell
                    gi_upto_region 13 with (fail)
                    obtain ⟨L, hL⟩ : ∃ x, (dfA ds i).f4.f0 = x := ⟨_, rfl⟩
                    obtain ⟨C, hC⟩ : ∃ x, (dfA ds i).f4.f1 = x := ⟨_, rfl⟩
                    have hL2 := Aside0.mk hL
                    have hC2 := Aside0.mk hC
                    have y1 := hZ.out.df.l
                    have y2 := hZ.out.df.c
                    rw [hL] at y1
                    rw [hC] at y2
                    clear hL hC
                    have hX0 := Aside0.mk (hZ.out.drew hD0.out)
                    have q1 := hZ.out.bv.cell
                    have q2 := hZ.out.cd.cell
                    have q3 := hZ.out.rm.cell
                    obtain ⟨q4, t4, r4⟩ := hZ.out.po.cells
                    have q5 := hZ.out.er.cell
                    have t1 := hZ.out.bv.frozen
                    have t2 := hZ.out.cd.frozen
                    have t3 := hZ.out.rm.frozen
                    have t5 := hZ.out.er.frozen
                    have r40 := r4 0
                    have r41 := r4 1
                    clear r4 w5
                    refine Rr.start_round (n := 10) (S := (fun w' => w'.cell? ⟨ad.block, ad.off + 4, none⟩ = some (.int .i64 L) ∧ w'.cell? ⟨ad.block, ad.off + 5, none⟩ = some (.int .i64 C) ∧ w'.cell? ⟨b5, 0, none⟩ = some (.int .i64 112))) (ds := []) #[false, false, false, false, false, false, false, false, false, false] (by kernel_rfl) rfl rfl (by kernel_rfl) (by rintro ⟨_, _, h⟩; exact h) ⟨y1, y2, q5⟩ (fun hHeld => ?_)
                    refine pure_ (i := 0) (N := some 36) (v := ?_) (a' := ?_) #[true, false, false, false, false, false, false, false, false, false] rfl rfl (by kernel_rfl) (fun _ _ _ h => h) (Or.inl ⟨by rfl, ?_⟩) ?_ ?_
                    rotate_left
                    · intro w'
                      go_simp
                      with_reducible rfl
                    rotate_left
                    · simp only [Act.put, List.setIfInBounds_toArray, List.set_cons_zero, List.set_cons_succ, i64_w, i32_w]
                      rfl
                    refine pure_ (i := 1) (N := some 37) (v := ?_) (a' := ?_) #[true, true, false, false, false, false, false, false, false, false] rfl rfl (by kernel_rfl) (fun _ _ _ h => h) (Or.inl ⟨by rfl, ?_⟩) ?_ ?_
                    rotate_left
                    · intro w'
                      go_simp
                      with_reducible rfl
                    rotate_left
                    · simp only [Act.put, List.setIfInBounds_toArray, List.set_cons_zero, List.set_cons_succ, i64_w, i32_w]
                      rfl
                    as_aux_lemma =>
                      refine pure_ (i := 2) (N := some 38) (v := ?_) (a' := ?_) #[true, true, true, false, false, false, false, false, false, false] rfl rfl (by kernel_rfl) (fun _ _ _ h => h) (Or.inl ⟨by rfl, ?_⟩) ?_ ?_
                      rotate_left
                      · intro w'
                        go_simp
                        with_reducible rfl
                      rotate_left
                      · simp only [Act.put, List.setIfInBounds_toArray, List.set_cons_zero, List.set_cons_succ, i64_w, i32_w]
                        rfl
                      refine take_ (i := 3) (N := some 39) (v := ?_) (a' := ?_) #[true, true, true, true, false, false, false, false, false, false] rfl rfl (by kernel_rfl) (fun _ _ _ h => h) (Or.inl ⟨by rfl, ?_⟩) hHeld ?_ ?_
                      rotate_left
                      · rintro w' ⟨g0, g1, g2⟩
                        go_simp
                        with_reducible rfl
                      rotate_left
                      · simp only [Act.put, List.setIfInBounds_toArray, List.set_cons_zero, List.set_cons_succ, i64_w, i32_w]
                        rfl
                      refine take_ (i := 4) (N := some 40) (v := ?_) (a' := ?_) #[true, true, true, true, true, false, false, false, false, false] rfl rfl (by kernel_rfl) (fun _ _ _ h => h) (Or.inl ⟨by rfl, ?_⟩) hHeld ?_ ?_
                      rotate_left
                      · rintro w' ⟨g0, g1, g2⟩
                        go_simp
                        with_reducible rfl
                      rotate_left
                      · simp only [Act.put, List.setIfInBounds_toArray, List.set_cons_zero, List.set_cons_succ, i64_w, i32_w]
                        rfl
                      as_aux_lemma =>
                        refine one_ (i := 5) (N := none) #[true, true, true, true, true, true, false, false, false, false] rfl rfl (by kernel_rfl) (by decide) (fun K hK => ?_)
                        refine skip_ (w1 := wz.drew.setCell ⟨b1, 0, none⟩ (.slice none 0 0)) (by rfl) rfl (by go_simp) ?_
                        refine hK.out _ _ ⟨(hX0.out.set1 hD0.out e1.out (.slice none 0 0)).df.l.trans (by rw [hL2.out]), (hX0.out.set1 hD0.out e1.out (.slice none 0 0)).df.c.trans (by rw [hC2.out]), (hX0.out.set1 hD0.out e1.out (.slice none 0 0)).er.cell⟩ (fun hHeld2 => ?_)
                        clear hK
                        have hX1 := Aside0.mk (hX0.out.set1 hD0.out e1.out (.slice none 0 0))
                        generalize wz.drew.setCell ⟨b1, 0, none⟩ (.slice none 0 0) = V1 at *
                        clear q1 q2 q3 q4 q5 t1 t2 t3 t4 t5 r40 r41
                        have q1 := hX1.out.bv.cell
                        have q2 := hX1.out.cd.cell
                        have q3 := hX1.out.rm.cell
                        obtain ⟨q4, t4, r4⟩ := hX1.out.po.cells
                        have q5 := hX1.out.er.cell
                        have t1 := hX1.out.bv.frozen
                        have t2 := hX1.out.cd.frozen
                        have t3 := hX1.out.rm.frozen
                        have t5 := hX1.out.er.frozen
                        have r40 := r4 0
                        have r41 := r4 1
                        clear r4
                        refine one_ (i := 6) (N := none) #[true, true, true, true, true, true, true, false, false, false] rfl rfl (by kernel_rfl) (by decide) (fun K hK => ?_)
                        refine skip_ (w1 := V1.setCell ⟨b2, 0, none⟩ (.int .i64 0)) (by rfl) rfl (by go_simp) ?_
                        refine hK.out _ _ ⟨(hX1.out.set2 hD0.out e1.out 0).df.l.trans (by rw [hL2.out]), (hX1.out.set2 hD0.out e1.out 0).df.c.trans (by rw [hC2.out]), (hX1.out.set2 hD0.out e1.out 0).er.cell⟩ (fun hHeld3 => ?_)
                        clear hK
                        have hX2 := Aside0.mk (hX1.out.set2 hD0.out e1.out 0)
                        generalize V1.setCell ⟨b2, 0, none⟩ (.int .i64 0) = V2 at *
                        clear q1 q2 q3 q4 q5 t1 t2 t3 t4 t5 r40 r41
                        have q1 := hX2.out.bv.cell
                        have q2 := hX2.out.cd.cell
                        have q3 := hX2.out.rm.cell
                        obtain ⟨q4, t4, r4⟩ := hX2.out.po.cells
                        have q5 := hX2.out.er.cell
                        have t1 := hX2.out.bv.frozen
                        have t2 := hX2.out.cd.frozen
                        have t3 := hX2.out.rm.frozen
                        have t5 := hX2.out.er.frozen
                        have r40 := r4 0
                        have r41 := r4 1
                        clear r4
                        refine one_ (i := 7) (N := none) #[true, true, true, true, true, true, true, true, false, false] rfl rfl (by kernel_rfl) (by decide) (fun K hK => ?_)
                        refine skip_ (w1 := V2.setCell ⟨b3, 0, none⟩ (.int .i64 0)) (by rfl) rfl (by go_simp) ?_
                        refine hK.out _ _ ⟨(hX2.out.set3 hD0.out e1.out 0).df.l.trans (by rw [hL2.out]), (hX2.out.set3 hD0.out e1.out 0).df.c.trans (by rw [hC2.out]), (hX2.out.set3 hD0.out e1.out 0).er.cell⟩ (fun hHeld4 => ?_)
                        clear hK
                        have hX3 := Aside0.mk (hX2.out.set3 hD0.out e1.out 0)
                        generalize V2.setCell ⟨b3, 0, none⟩ (.int .i64 0) = V3 at *
                        clear q1 q2 q3 q4 q5 t1 t2 t3 t4 t5 r40 r41
                        have q1 := hX3.out.bv.cell
                        have q2 := hX3.out.cd.cell
                        have q3 := hX3.out.rm.cell
                        obtain ⟨q4, t4, r4⟩ := hX3.out.po.cells
                        have q5 := hX3.out.er.cell
                        have t1 := hX3.out.bv.frozen
                        have t2 := hX3.out.cd.frozen
                        have t3 := hX3.out.rm.frozen
                        have t5 := hX3.out.er.frozen
                        have r40 := r4 0
                        have r41 := r4 1
                        clear r4
                        as_aux_lemma =>
                          refine one_ (i := 8) (N := none) #[true, true, true, true, true, true, true, true, true, false] rfl rfl (by kernel_rfl) (by decide) (fun K hK => ?_)
                          refine skip_ (w1 := (V3.setCell ⟨b4, 0, none⟩ (.int .i64 L)).setCell ⟨b4, 1, none⟩ (.int .i64 C)) (by rfl) rfl (by go_simp) ?_
                          refine hK.out _ _ ⟨(hX3.out.set4 hD0.out e1.out L C).df.l.trans (by rw [hL2.out]), (hX3.out.set4 hD0.out e1.out L C).df.c.trans (by rw [hC2.out]), (hX3.out.set4 hD0.out e1.out L C).er.cell⟩ (fun hHeld5 => ?_)
                          clear hK
                          have hX4 := Aside0.mk (hX3.out.set4 hD0.out e1.out L C)
                          generalize (V3.setCell ⟨b4, 0, none⟩ (.int .i64 L)).setCell ⟨b4, 1, none⟩ (.int .i64 C) = V4 at *
                          clear q1 q2 q3 q4 q5 t1 t2 t3 t4 t5 r40 r41
                          have q1 := hX4.out.bv.cell
                          have q2 := hX4.out.cd.cell
                          have q3 := hX4.out.rm.cell
                          obtain ⟨q4, t4, r4⟩ := hX4.out.po.cells
                          have q5 := hX4.out.er.cell
                          have t1 := hX4.out.bv.frozen
                          have t2 := hX4.out.cd.frozen
                          have t3 := hX4.out.rm.frozen
                          have t5 := hX4.out.er.frozen
                          have r40 := r4 0
                          have r41 := r4 1
                          clear r4
                          refine one_ (i := 9) (N := none) #[true, true, true, true, true, true, true, true, true, true] rfl rfl (by kernel_rfl) (by decide) (fun K hK => ?_)
                          refine skip_ (w1 := V4.setCell ⟨b5, 0, none⟩ (.int .i64 112)) (by rfl) rfl (by go_simp) ?_
                          refine hK.out _ _ ⟨(hX4.out.set5 hD0.out e1.out 112).df.l.trans (by rw [hL2.out]), (hX4.out.set5 hD0.out e1.out 112).df.c.trans (by rw [hC2.out]), (hX4.out.set5 hD0.out e1.out 112).er.cell⟩ (fun hHeld6 => ?_)
                          clear hK
                          have hX5 := Aside0.mk (hX4.out.set5 hD0.out e1.out 112)
                          generalize V4.setCell ⟨b5, 0, none⟩ (.int .i64 112) = V5 at *
                          clear q1 q2 q3 q4 q5 t1 t2 t3 t4 t5 r40 r41
                          have q1 := hX5.out.bv.cell
                          have q2 := hX5.out.cd.cell
                          have q3 := hX5.out.rm.cell
                          obtain ⟨q4, t4, r4⟩ := hX5.out.po.cells
                          have q5 := hX5.out.er.cell
                          have t1 := hX5.out.bv.frozen
                          have t2 := hX5.out.cd.frozen
                          have t3 := hX5.out.rm.frozen
                          have t5 := hX5.out.er.frozen
                          have r40 := r4 0
                          have r41 := r4 1
                          clear r4
                          refine done_ (by kernel_rfl) ?_
                          gi_wp2
                          refine ⟨by rw [hz7]; exact hX5.out.kf, rfl, ⟨pre, ⟨i, hil⟩, rfl, hIok.out, by rw [hplA.out]; show errN ds pl i ≠ 0; rw [hE.out]; decide, ?_, ?_⟩, ?_, ?_, ?_, hX5.out.bl⟩
                          · rw [← e1.out.2.2.2.1, hL2.out, hC2.out]; exact hX5.out.po
                          · rw [← e1.out.2.2.2.2.1, hplA.out]; show Boxed _ _ _ (.int .i64 (errN ds pl i)); rw [hE.out]; exact hX5.out.er
                          · rw [← e1.out.1]; exact hX5.out.bv
                          · rw [← e1.out.2.1]; exact hX5.out.cd
                          · rw [← e1.out.2.2.1]; exact hX5.out.rm
                · have d3 : decide ((qN : Int) > 16384) = false := decide_eq_false (by omega)
                  have hE := Aside0.mk (show errN ds pl i = 0 by rw [hEN.out, if_neg c1, if_neg c2, if_neg c3])
                  clear c2 c3
                  as_aux_lemma =>
                    gi_upto_region 14 with (fail)
                    obtain ⟨nm, hnm⟩ : ∃ x, (dfA ds i).f1 = x := ⟨_, rfl⟩
                    have hnm2 := Aside0.mk hnm
                    have y1 := hM.out.df.nm
                    rw [hnm] at y1
                    have hs := hM.out.sp
                    rw [haNA.out, hSzA.out] at hs
                    obtain ⟨x0, x1, x2, x3⟩ := hs.cells
                    clear hs hnm
                    refine Rr.start_round (n := 12) (S := (fun w' => w'.cell? ⟨ad.block, ad.off + 1, none⟩ = some (.string nm) ∧ w'.cell? ⟨b, 0, none⟩ = some (.int .i64 (aN : Int)) ∧ w'.cell? ⟨b, 1, none⟩ = some (.int .i64 (S : Int)))) (ds := []) #[false, false, false, false, false, false, false, false, false, false, false, false] (by kernel_rfl) rfl rfl (by kernel_rfl) (by rintro ⟨_, _, h⟩; exact h) ⟨y1, x0, x1⟩ (fun hHeld => ?_)
                    refine pure_ (i := 0) (N := some 41) (v := ?_) (a' := ?_) #[true, false, false, false, false, false, false, false, false, false, false, false] rfl rfl (by kernel_rfl) (fun _ _ _ h => h) (Or.inl ⟨by rfl, ?_⟩) ?_ ?_
                    rotate_left
                    · intro w'
                      go_simp
                      with_reducible rfl
                    rotate_left
                    · simp only [Act.put, List.setIfInBounds_toArray, List.set_cons_zero, List.set_cons_succ, i64_w, i32_w]
                      rfl
                    refine pure_ (i := 1) (N := some 42) (v := ?_) (a' := ?_) #[true, true, false, false, false, false, false, false, false, false, false, false] rfl rfl (by kernel_rfl) (fun _ _ _ h => h) (Or.inl ⟨by rfl, ?_⟩) ?_ ?_
                    rotate_left
                    · intro w'
                      go_simp
                      with_reducible rfl
                    rotate_left
                    · simp only [Act.put, List.setIfInBounds_toArray, List.set_cons_zero, List.set_cons_succ, i64_w, i32_w]
                      rfl
                    as_aux_lemma =>
                      refine pure_ (i := 2) (N := some 43) (v := ?_) (a' := ?_) #[true, true, true, false, false, false, false, false, false, false, false, false] rfl rfl (by kernel_rfl) (fun _ _ _ h => h) (Or.inl ⟨by rfl, ?_⟩) ?_ ?_
                      rotate_left
                      · intro w'
                        go_simp
                        with_reducible rfl
                      rotate_left
                      · simp only [Act.put, List.setIfInBounds_toArray, List.set_cons_zero, List.set_cons_succ, i64_w, i32_w]
                        rfl
                      refine take_ (i := 3) (N := some 44) (v := ?_) (a' := ?_) #[true, true, true, true, false, false, false, false, false, false, false, false] rfl rfl (by kernel_rfl) (fun _ _ _ h => h) (Or.inl ⟨by rfl, ?_⟩) hHeld ?_ ?_
                      rotate_left
                      · rintro w' ⟨g0, g1, g2⟩
                        go_simp
                        with_reducible rfl
                      rotate_left
                      · simp only [Act.put, List.setIfInBounds_toArray, List.set_cons_zero, List.set_cons_succ, i64_w, i32_w]
                        rfl
                      refine pure_ (i := 4) (N := some 45) (v := ?_) (a' := ?_) #[true, true, true, true, true, false, false, false, false, false, false, false] rfl rfl (by kernel_rfl) (fun _ _ _ h => h) (Or.inl ⟨by rfl, ?_⟩) ?_ ?_
                      rotate_left
                      · intro w'
                        go_simp
                        with_reducible rfl
                      rotate_left
                      · simp only [Act.put, List.setIfInBounds_toArray, List.set_cons_zero, List.set_cons_succ, i64_w, i32_w]
                        rfl
                      as_aux_lemma =>
                        refine take_ (i := 5) (N := some 46) (v := ?_) (a' := ?_) #[true, true, true, true, true, true, false, false, false, false, false, false] rfl rfl (by kernel_rfl) (fun _ _ _ h => h) (Or.inl ⟨by rfl, ?_⟩) hHeld ?_ ?_
                        rotate_left
                        · rintro w' ⟨g0, g1, g2⟩
                          go_simp
                          with_reducible rfl
                        rotate_left
                        · simp only [Act.put, List.setIfInBounds_toArray, List.set_cons_zero, List.set_cons_succ, i64_w, i32_w]
                          rfl
                        refine pure_ (i := 6) (N := some 47) (v := ?_) (a' := ?_) #[true, true, true, true, true, true, true, false, false, false, false, false] rfl rfl (by kernel_rfl) (fun _ _ _ h => h) (Or.inl ⟨by rfl, ?_⟩) ?_ ?_
                        rotate_left
                        · intro w'
                          go_simp
                          with_reducible rfl
                        rotate_left
                        · simp only [Act.put, List.setIfInBounds_toArray, List.set_cons_zero, List.set_cons_succ, i64_w, i32_w]
                          rfl
                        refine pure_ (i := 7) (N := some 48) (v := ?_) (a' := ?_) #[true, true, true, true, true, true, true, true, false, false, false, false] rfl rfl (by kernel_rfl) (fun _ _ _ h => h) (Or.inl ⟨by rfl, ?_⟩) ?_ ?_
                        rotate_left
                        · intro w'
                          go_simp
                          with_reducible rfl
                        rotate_left
                        · simp only [Act.put, List.setIfInBounds_toArray, List.set_cons_zero, List.set_cons_succ, i64_w, i32_w]
                          rfl
                        as_aux_lemma =>
                          refine take_ (i := 8) (N := some 49) (v := ?_) (a' := ?_) #[true, true, true, true, true, true, true, true, true, false, false, false] rfl rfl (by kernel_rfl) (fun _ _ _ h => h) (Or.inl ⟨by rfl, ?_⟩) hHeld ?_ ?_
                          rotate_left
                          · rintro w' ⟨g0, g1, g2⟩
                            go_simp
                            with_reducible rfl
                          rotate_left
                          · simp only [Act.put, List.setIfInBounds_toArray, List.set_cons_zero, List.set_cons_succ, i64_w, i32_w]
                            rfl
                          refine pure_ (i := 9) (N := some 50) (v := ?_) (a' := ?_) #[true, true, true, true, true, true, true, true, true, true, false, false] rfl rfl (by kernel_rfl) (fun _ _ _ h => h) (Or.inl ⟨by rfl, ?_⟩) ?_ ?_
                          rotate_left
                          · intro w'
                            go_simp
                            with_reducible rfl
                          rotate_left
                          · simp only [Act.put, List.setIfInBounds_toArray, List.set_cons_zero, List.set_cons_succ, i64_w, i32_w]
                            rfl
                          refine one_ (i := 10) (N := some 9) #[true, true, true, true, true, true, true, true, true, true, true, false] rfl rfl (by kernel_rfl) (by decide) (fun K hK => ?_)
                          refine value_ (v := .pointer (some ⟨wy.heap.size, 0, none⟩)) (w1 := wy.drew.alloc (Obj.cells #[.string ⟨#[]⟩, .int .u16 0, .int .i64 0, .int .u16 0] 50)) (by rfl) rfl (by go_simp) ?_
                          refine hK.out _ _ ⟨cell_al y1 _, cell_al x0 _, cell_al x1 _⟩ (fun hHeld2 => ?_)
                          clear hK
                          refine norm_ (a' := ?_) ?_ ?_
                          rotate_left
                          · show Act.put _ (some 9) _ = _
                            simp only [Act.put, List.setIfInBounds_toArray, List.set_cons_zero, List.set_cons_succ, i64_w, i32_w]
                            rfl
                          as_aux_lemma =>
                            refine one_ (i := 11) (N := none) #[true, true, true, true, true, true, true, true, true, true, true, true] rfl rfl (by kernel_rfl) (by decide) (fun K hK => ?_)
                            refine skip_ (w1 := ?_) (by rfl) rfl ?_ ?_
                            rotate_left
                            · go_simp
                              with_reducible rfl
                            rotate_left
                            refine hK.out _ _ ⟨cell_al y1 _, cell_al x0 _, cell_al x1 _⟩ (fun hHeld3 => ?_)
                            clear hK
                            refine done_ (by kernel_rfl) ?_
                            have hM2 := Aside0.mk (hM.out.made hD0.out nm (IntKind.u16.wrap (aN : Int)) S 0)
                            obtain ⟨X, hX⟩ : ∃ x, wy.heap.size = x := ⟨_, rfl⟩
                            rw [hX] at hM2 ⊢
                            generalize (wy.alloc (Obj.cells #[.string nm, .int .u16 (IntKind.u16.wrap (aN : Int)), .int .i64 (S : Int), .int .u16 0] 50)).drew = wx at hM2 ⊢
                            clear hHeld hHeld2 hHeld3 y1 x0 x1 x2 x3 k1 k2 k3 k5 z5 hX
                            obtain ⟨hMx, hPx, hne⟩ := hM2.out
                            have hMxA := Aside0.mk hMx
                            have hPxA := Aside0.mk hPx
                            obtain ⟨p0, p1, p2, p3, pz⟩ := hPx.cells
                            have k0 := hMx.df.k
                            have hs := hMx.sp
                            rw [hrNA.out] at hs
                            obtain ⟨_, _, x2, _⟩ := hs.cells
                            have k1 := hMx.bv.cell
                            have pz3 := pz 3
                            have hneA := Aside0.mk hne
                            have hbr2 : rN ≤ 70000000000000 := by rw [← hrNA.out]; exact ramN_bd hokk.out i
                            clear hs hMx hPx pz hne
                            obtain ⟨kd, hkd⟩ : ∃ x, (dfA ds i).f0 = x := ⟨_, rfl⟩
                            rw [hkd] at k0
                            have hkdA := Aside0.mk hkd
                            clear hkd
                            by_cases c4 : kd = 3
                            · subst c4
                              gi_upto_region 17 with (fail)
                              have hF := Aside0.mk (hMxA.out.setX hD0.out hPxA.out hneA.out (IntKind.u16.wrap (32768 + (rN : Int))))
                              generalize wx.setCell ⟨X, 3, none⟩ (.int .u16 (IntKind.u16.wrap (32768 + (rN : Int)))) = wz at hF ⊢
                              have hplc : Aside0 (plc ds i = ⟨nm, IntKind.u16.wrap (aN : Int), S, IntKind.u16.wrap (32768 + (rN : Int))⟩) := ⟨by unfold plc; rw [hnm2.out, haNA.out, hSzA.out, hkdA.out, hrNA.out, if_pos rfl, IntKind.wrap_u16, IntKind.wrap_u16]⟩
                              clear p0 p1 p2 p3 pz3 k0 k1 x2
                              obtain ⟨p0, p1, p2, p3, _⟩ := hF.out.2.cells
                              have k1 := hF.out.1.bv.cell
                              have z1 := hF.out.1.bv.frozen
                              have hpm : Aside0 ((pre.map fun x => plc ds x.val).length = pl) := ⟨by rw [List.length_map]; exact hplA.out⟩
                              have hpb : Aside0 (pl ≤ 1000000000) := ⟨hpl63⟩
                              have hbs : Aside0 (w.heap.size ≤ wz.heap.size) := ⟨hF.out.1.bl.size⟩
                              gi_wp2_with (gi_at_builtin; refine app1In (d := kP) (e := 50) (base := w.heap.size) (v := .slice Av pl cv) (xs := pre.map fun x => plc ds x.val) (plc ds i) _ (t := 23) (.agg #[.string ⟨#[]⟩, .int .u16 0, .int .i64 0, .int .u16 0]) 40 rfl _ _ rfl rfl rfl Try.underlying23 infoPl rfl (by decide) (fun w base ok => by rw [hplc.out]; exact k50_mkM w base ok _) (Kd.R_mono hF.out.1.R (fun _ _ => trivial)) hbs.out (by have := hpm.out; have := hpb.out; unfold maxLen; omega) (by have := hpm.out; have := hpb.out; omega) ?_; intro v1 w1 hR1 hg1 hat1; have hfin := Aside0.mk (hF.out.1.fin e1.out hsp9.out hil hIok.out (by rw [hplA.out]; exact hE.out) hR1 hg1); obtain ⟨Ax, cx, ev1⟩ := Kd.R_slice hR1; obtain ⟨nx, hnx⟩ : ∃ n, ((pre.map fun x => plc ds x.val) ++ [plc ds i]).length = n := ⟨_, rfl⟩; rw [hnx] at ev1; clear hnx; subst ev1; have kb := hfin.out.1.cell; have zb := hfin.out.1.frozen; clear hR1 hg1 hat1)
                              rw [hz7]
                              exact ⟨hfin.out.2.1, hfin.out.2.2.1, hfin.out.2.2.2⟩
                            · have d4 : (kd == 3) = false := beq_eq_false_iff_ne.2 c4
                              have hplc : Aside0 (plc ds i = ⟨nm, IntKind.u16.wrap (aN : Int), S, 0⟩) := ⟨by unfold plc; rw [hnm2.out, haNA.out, hSzA.out, hkdA.out, if_neg c4, IntKind.wrap_u16]⟩
                              gi_upto_region 17 with (fail)
                              have hF : Aside0 (Mid w ds pre i W wx b1 b2 b3 b4 b5 b (.slice Av pl cv) ad A3 c3 ∧ PlB wx X nm (IntKind.u16.wrap (aN : Int)) S 0) := ⟨hMxA.out, hPxA.out⟩
                              obtain ⟨wz, hwz⟩ : ∃ x, x = wx := ⟨_, rfl⟩
                              rw [← hwz] at hF ⊢
                              clear hwz
                              clear p0 p1 p2 p3 pz3 k0 k1 x2
                              obtain ⟨p0, p1, p2, p3, _⟩ := hF.out.2.cells
                              have k1 := hF.out.1.bv.cell
                              have z1 := hF.out.1.bv.frozen
                              have hpm : Aside0 ((pre.map fun x => plc ds x.val).length = pl) := ⟨by rw [List.length_map]; exact hplA.out⟩
                              have hpb : Aside0 (pl ≤ 1000000000) := ⟨hpl63⟩
                              have hbs : Aside0 (w.heap.size ≤ wz.heap.size) := ⟨hF.out.1.bl.size⟩
                              gi_wp2_with (gi_at_builtin; refine app1In (d := kP) (e := 50) (base := w.heap.size) (v := .slice Av pl cv) (xs := pre.map fun x => plc ds x.val) (plc ds i) _ (t := 23) (.agg #[.string ⟨#[]⟩, .int .u16 0, .int .i64 0, .int .u16 0]) 40 rfl _ _ rfl rfl rfl Try.underlying23 infoPl rfl (by decide) (fun w base ok => by rw [hplc.out]; exact k50_mkM w base ok _) (Kd.R_mono hF.out.1.R (fun _ _ => trivial)) hbs.out (by have := hpm.out; have := hpb.out; unfold maxLen; omega) (by have := hpm.out; have := hpb.out; omega) ?_; intro v1 w1 hR1 hg1 hat1; have hfin := Aside0.mk (hF.out.1.fin e1.out hsp9.out hil hIok.out (by rw [hplA.out]; exact hE.out) hR1 hg1); obtain ⟨Ax, cx, ev1⟩ := Kd.R_slice hR1; obtain ⟨nx, hnx⟩ : ∃ n, ((pre.map fun x => plc ds x.val) ++ [plc ds i]).length = n := ⟨_, rfl⟩; rw [hnx] at ev1; clear hnx; subst ev1; have kb := hfin.out.1.cell; have zb := hfin.out.1.frozen; clear hR1 hg1 hat1)
                              rw [hz7]
                              exact ⟨hfin.out.2.1, hfin.out.2.2.1, hfin.out.2.2.2⟩
  case done =>
    rintro Dd xs W hD hS hI hK
    obtain ⟨v, hbv, hR⟩ := hI.ex
    obtain ⟨Av, nv, cv, ev⟩ : ∃ A n c, v = .slice A n c := by obtain ⟨A, c, e⟩ := Kd.R_slice hR; exact ⟨A, _, c, e⟩
    subst ev
    obtain ⟨cd, hcd⟩ : ∃ x, codeOf ds xs = x := ⟨_, rfl⟩
    obtain ⟨rm, hrm⟩ : ∃ x, ramOf ds xs = x := ⟨_, rfl⟩
    have hX0 : Aside0 (By w W.drew b1 b2 b3 b4 b5 (.slice Av nv cv) cd rm 0 0 0) := ⟨By.drew ⟨by rw [e1.out.1]; exact hbv, by rw [e1.out.2.1, ← hcd]; exact hI.cd, by rw [e1.out.2.2.1, ← hrm]; exact hI.rm, by rw [e1.out.2.2.2.1]; exact hI.po, by rw [e1.out.2.2.2.2.1]; exact hI.er, hI.b⟩⟩
    have hcdA := Aside0.mk hcd
    have hrmA := Aside0.mk hrm
    have hRA := Aside0.mk hR
    have hIA := Aside0.mk hI
    have hSA := Aside0.mk hS
    have hKA := Aside0.mk hK
    have hDA := Aside0.mk hD
    clear hcd hrm hbv hR hI hS hK hD hP7 hP8 hH7
    have q1 := hX0.out.bv.cell
    have q2 := hX0.out.cd.cell
    have q3 := hX0.out.rm.cell
    obtain ⟨q4, q4b, r4⟩ := hX0.out.po.cells
    have q5 := hX0.out.er.cell
    have t1 := hX0.out.bv.frozen
    have t2 := hX0.out.cd.frozen
    have t3 := hX0.out.rm.frozen
    have t5 := hX0.out.er.frozen
    have r40 := r4 0
    have r41 := r4 1
    clear r4
    gi_wp2
    refine Rr.start_plainD (n := 9) (S := (fun w' => w'.cell? ⟨b1, 0, none⟩ = some (.slice Av nv cv) ∧ w'.cell? ⟨b2, 0, none⟩ = some (.int .i64 cd) ∧ w'.cell? ⟨b3, 0, none⟩ = some (.int .i64 rm))) (ds := []) #[false, false, false, false, false, false, false, false, false] (by kernel_rfl) rfl rfl ⟨q1, q2, q3⟩ (fun hHeld => ?_)
    refine take_ (i := 0) (N := some 65) (v := ?_) (a' := ?_) #[true, false, false, false, false, false, false, false, false] rfl rfl (by kernel_rfl) (fun _ _ _ h => h) (Or.inl ⟨by rfl, ?_⟩) hHeld ?_ ?_
    rotate_left
    · rintro w' ⟨g0, g1, g2⟩
      go_simp
      with_reducible rfl
    rotate_left
    · simp only [Act.put, List.setIfInBounds_toArray, List.set_cons_zero, List.set_cons_succ, i64_w, i32_w]
      rfl
    refine take_ (i := 1) (N := some 66) (v := ?_) (a' := ?_) #[true, true, false, false, false, false, false, false, false] rfl rfl (by kernel_rfl) (fun _ _ _ h => h) (Or.inl ⟨by rfl, ?_⟩) hHeld ?_ ?_
    rotate_left
    · rintro w' ⟨g0, g1, g2⟩
      go_simp
      with_reducible rfl
    rotate_left
    · simp only [Act.put, List.setIfInBounds_toArray, List.set_cons_zero, List.set_cons_succ, i64_w, i32_w]
      rfl
    as_aux_lemma =>
      refine take_ (i := 2) (N := some 67) (v := ?_) (a' := ?_) #[true, true, true, false, false, false, false, false, false] rfl rfl (by kernel_rfl) (fun _ _ _ h => h) (Or.inl ⟨by rfl, ?_⟩) hHeld ?_ ?_
      rotate_left
      · rintro w' ⟨g0, g1, g2⟩
        go_simp
        with_reducible rfl
      rotate_left
      · simp only [Act.put, List.setIfInBounds_toArray, List.set_cons_zero, List.set_cons_succ, i64_w, i32_w]
        rfl
      refine pure_ (i := 3) (N := some 68) (v := ?_) (a' := ?_) #[true, true, true, true, false, false, false, false, false] rfl rfl (by kernel_rfl) (fun _ _ _ h => h) (Or.inl ⟨by rfl, ?_⟩) ?_ ?_
      rotate_left
      · intro w'
        go_simp
        with_reducible rfl
      rotate_left
      · simp only [Act.put, List.setIfInBounds_toArray, List.set_cons_zero, List.set_cons_succ, i64_w, i32_w]
        rfl
      refine one_ (i := 4) (N := none) #[true, true, true, true, true, false, false, false, false] rfl rfl (by kernel_rfl) (by decide) (fun K hK => ?_)
      refine skip_ (w1 := W.drew.setCell ⟨b1, 0, none⟩ (.slice Av nv cv)) (by rfl) rfl (by go_simp) ?_
      refine hK.out _ _ ⟨(hX0.out.set1 e1.out (.slice Av nv cv)).bv.cell, (hX0.out.set1 e1.out (.slice Av nv cv)).cd.cell, (hX0.out.set1 e1.out (.slice Av nv cv)).rm.cell⟩ (fun hHeld2 => ?_)
      clear hK
      have hX1 := Aside0.mk (hX0.out.set1 e1.out (.slice Av nv cv))
      generalize hV1 : W.drew.setCell ⟨b1, 0, none⟩ (.slice Av nv cv) = V1 at *
      have hVV1 := Aside0.mk hV1
      clear hV1
      clear q1 q2 q3 q4 q5 t1 t2 t3 t5 r40 r41 q4b
      have q1 := hX1.out.bv.cell
      have q2 := hX1.out.cd.cell
      have q3 := hX1.out.rm.cell
      obtain ⟨q4, q4b, r4⟩ := hX1.out.po.cells
      have q5 := hX1.out.er.cell
      have t1 := hX1.out.bv.frozen
      have t2 := hX1.out.cd.frozen
      have t3 := hX1.out.rm.frozen
      have t5 := hX1.out.er.frozen
      have r40 := r4 0
      have r41 := r4 1
      clear r4
      as_aux_lemma =>
        refine one_ (i := 5) (N := none) #[true, true, true, true, true, true, false, false, false] rfl rfl (by kernel_rfl) (by decide) (fun K hK => ?_)
        refine skip_ (w1 := V1.setCell ⟨b2, 0, none⟩ (.int .i64 cd)) (by rfl) rfl (by go_simp) ?_
        refine hK.out _ _ ⟨(hX1.out.set2 e1.out cd).bv.cell, (hX1.out.set2 e1.out cd).cd.cell, (hX1.out.set2 e1.out cd).rm.cell⟩ (fun hHeld3 => ?_)
        clear hK
        have hX2 := Aside0.mk (hX1.out.set2 e1.out cd)
        generalize hV2 : V1.setCell ⟨b2, 0, none⟩ (.int .i64 cd) = V2 at *
        have hVV2 := Aside0.mk hV2
        clear hV2
        clear q1 q2 q3 q4 q5 t1 t2 t3 t5 r40 r41 q4b
        have q1 := hX2.out.bv.cell
        have q2 := hX2.out.cd.cell
        have q3 := hX2.out.rm.cell
        obtain ⟨q4, q4b, r4⟩ := hX2.out.po.cells
        have q5 := hX2.out.er.cell
        have t1 := hX2.out.bv.frozen
        have t2 := hX2.out.cd.frozen
        have t3 := hX2.out.rm.frozen
        have t5 := hX2.out.er.frozen
        have r40 := r4 0
        have r41 := r4 1
        clear r4
        refine one_ (i := 6) (N := none) #[true, true, true, true, true, true, true, false, false] rfl rfl (by kernel_rfl) (by decide) (fun K hK => ?_)
        refine skip_ (w1 := V2.setCell ⟨b3, 0, none⟩ (.int .i64 rm)) (by rfl) rfl (by go_simp) ?_
        refine hK.out _ _ ⟨(hX2.out.set3 e1.out rm).bv.cell, (hX2.out.set3 e1.out rm).cd.cell, (hX2.out.set3 e1.out rm).rm.cell⟩ (fun hHeld4 => ?_)
        clear hK
        have hX3 := Aside0.mk (hX2.out.set3 e1.out rm)
        generalize hV3 : V2.setCell ⟨b3, 0, none⟩ (.int .i64 rm) = V3 at *
        have hVV3 := Aside0.mk hV3
        clear hV3
        clear q1 q2 q3 q4 q5 t1 t2 t3 t5 r40 r41 q4b
        have q1 := hX3.out.bv.cell
        have q2 := hX3.out.cd.cell
        have q3 := hX3.out.rm.cell
        obtain ⟨q4, q4b, r4⟩ := hX3.out.po.cells
        have q5 := hX3.out.er.cell
        have t1 := hX3.out.bv.frozen
        have t2 := hX3.out.cd.frozen
        have t3 := hX3.out.rm.frozen
        have t5 := hX3.out.er.frozen
        have r40 := r4 0
        have r41 := r4 1
        clear r4
        refine one_ (i := 7) (N := none) #[true, true, true, true, true, true, true, true, false] rfl rfl (by kernel_rfl) (by decide) (fun K hK => ?_)
        refine skip_ (w1 := (V3.setCell ⟨b4, 0, none⟩ (.int .i64 0)).setCell ⟨b4, 1, none⟩ (.int .i64 0)) (by rfl) rfl (by go_simp) ?_
        refine hK.out _ _ ⟨(hX3.out.set4 e1.out 0 0).bv.cell, (hX3.out.set4 e1.out 0 0).cd.cell, (hX3.out.set4 e1.out 0 0).rm.cell⟩ (fun hHeld5 => ?_)
        clear hK
        have hX4 := Aside0.mk (hX3.out.set4 e1.out 0 0)
        generalize hV4 : (V3.setCell ⟨b4, 0, none⟩ (.int .i64 0)).setCell ⟨b4, 1, none⟩ (.int .i64 0) = V4 at *
        have hVV4 := Aside0.mk hV4
        clear hV4
        clear q1 q2 q3 q4 q5 t1 t2 t3 t5 r40 r41 q4b
        have q1 := hX4.out.bv.cell
        have q2 := hX4.out.cd.cell
        have q3 := hX4.out.rm.cell
        obtain ⟨q4, q4b, r4⟩ := hX4.out.po.cells
        have q5 := hX4.out.er.cell
        have t1 := hX4.out.bv.frozen
        have t2 := hX4.out.cd.frozen
        have t3 := hX4.out.rm.frozen
        have t5 := hX4.out.er.frozen
        have r40 := r4 0
        have r41 := r4 1
        clear r4
        as_aux_lemma =>
          refine one_ (i := 8) (N := none) #[true, true, true, true, true, true, true, true, true] rfl rfl (by kernel_rfl) (by decide) (fun K hK => ?_)
          refine skip_ (w1 := V4.setCell ⟨b5, 0, none⟩ (.int .i64 0)) (by rfl) rfl (by go_simp) ?_
          refine hK.out _ _ ⟨(hX4.out.set5 e1.out 0).bv.cell, (hX4.out.set5 e1.out 0).cd.cell, (hX4.out.set5 e1.out 0).rm.cell⟩ (fun hHeld6 => ?_)
          clear hK
          have hX5 := Aside0.mk (hX4.out.set5 e1.out 0)
          generalize hV5 : V4.setCell ⟨b5, 0, none⟩ (.int .i64 0) = V5 at *
          have hVV5 := Aside0.mk hV5
          clear hV5
          clear q1 q2 q3 q4 q5 t1 t2 t3 t5 r40 r41 q4b
          have q1 := hX5.out.bv.cell
          have q2 := hX5.out.cd.cell
          have q3 := hX5.out.rm.cell
          obtain ⟨q4, q4b, r4⟩ := hX5.out.po.cells
          have q5 := hX5.out.er.cell
          have t1 := hX5.out.bv.frozen
          have t2 := hX5.out.cd.frozen
          have t3 := hX5.out.rm.frozen
          have t5 := hX5.out.er.frozen
          have r40 := r4 0
          have r41 := r4 1
          clear r4
          refine done_ (by kernel_rfl) ?_
          refine Rr.noPanic_normal ?_
          gi_wp2
          have hoth : Aside0 (∀ q, q ≠ b1 → q ≠ b2 → q ≠ b3 → q ≠ b4 → q ≠ b5 → V5.heap[q]? = W.heap[q]?) := ⟨fun q n1 n2 n3 n4 n5 => by
            rw [← hVV5.out, Below.heap_setCell _ ⟨b5, 0, none⟩ _ q n5, ← hVV4.out, Below.heap_setCell _ ⟨b4, 1, none⟩ _ q n4, Below.heap_setCell _ ⟨b4, 0, none⟩ _ q n4, ← hVV3.out, Below.heap_setCell _ ⟨b3, 0, none⟩ _ q n3, ← hVV2.out, Below.heap_setCell _ ⟨b2, 0, none⟩ _ q n2, ← hVV1.out, Below.heap_setCell _ ⟨b1, 0, none⟩ _ q n1]; rfl⟩
          have hK5 : V5.heap[Dd]? = some (.deferred (some [])) := by
            have := e1.out
            have := hDA.out
            rw [hoth.out Dd (by omega) (by omega) (by omega) (by omega) (by omega)]; exact hKA.out
          refine ⟨by simp, .inl ⟨_, _, rfl, run_takeDeferred hK5, ?_⟩⟩
          have hY := Aside0.mk (hX5.out.put (o' := .deferred none) (by have := hDA.out; omega) hK5 rfl)
          have hR5 : Aside0 (kP.R 50 (V5.putObj Dd (.deferred none)) w.heap.size (fun _ => True) (.slice Av nv cv) (xs.map fun x => plc ds x.val)) := ⟨by
            have hI := hIA.out
            have ne : ∀ (q : Nat) (cs : Array Value) (fr : Nat × Nat), W.heap[q]? = some (Obj.cells cs 50 fr) → (V5.putObj Dd (.deferred none)).heap[q]? = W.heap[q]? := fun q cs fr hq => by
              have nb : ∀ {B : Nat} {t : TypeId} {u : Value}, t ≠ 50 → Boxed W B t u → q ≠ B := fun ht hx e => by subst e; unfold Boxed at hx; rw [hx] at hq; injection hq with h1; injection h1 with _ h2 _; exact ht h2
              have e := e1.out
              have h4 : q ≠ b4 := fun e' => by have hp := hI.po; rw [← e.2.2.2.1, ← e'] at hp; rw [hp] at hq; injection hq with h1; injection h1 with _ h2 _; cases h2
              obtain ⟨_, hv1, _⟩ := hI.ex
              rw [World.putObj_heap_other (fun e' => by subst e'; rw [hKA.out] at hq; cases hq)]
              exact hoth.out q (by rw [e.1]; exact nb (by decide) hv1) (by rw [e.2.1]; exact nb (by decide) hI.cd) (by rw [e.2.2.1]; exact nb (by decide) hI.rm) h4 (by rw [e.2.2.2.2.1]; exact nb (by decide) hI.er)
            exact R_keepC rfl (Kd.R_mono hRA.out (fun _ _ => trivial)) (fun q _ cs fr hq => ne q cs fr hq)⟩
          have hO := Aside0.mk (head_done hIA.out hSA.out)
          rw [hcdA.out, hrmA.out] at hO
          clear q1 q2 q3 q4 q4b q5 t1 t2 t3 t5 r40 r41 hX5 hK5
          generalize V5.putObj Dd (.deferred none) = wf at hY hR5 ⊢
          have q1 := hY.out.bv.cell
          have q2 := hY.out.cd.cell
          have q3 := hY.out.rm.cell
          obtain ⟨q4, q4b, _⟩ := hY.out.po.cells
          have q5 := hY.out.er.cell
          refine ⟨.tuple #[.slice Av nv cv, .int .i64 cd, .int .i64 rm, .agg #[.int .i64 0, .int .i64 0], .int .i64 0], ?_, .slice Av nv cv, ?_, ?_, hY.out.bl⟩
          · simp [results, Try.results14, go_sem, q1, q2, q3, q4, q4b, q5]
          · rw [hO.out]
          · rw [hO.out]; exact hR5.out
  case stop =>
    rintro Dd cc pre W hD hSp hL hK
    obtain ⟨lp, kp, E, hO, hpo, her⟩ := left_stop hL hSp
    obtain rfl := hL.c
    have hDA := Aside0.mk hD
    have hOA := Aside0.mk hO
    have hX5 : By w W b1 b2 b3 b4 b5 (.slice none 0 0) 0 0 lp kp E := ⟨by rw [e1.out.1]; exact hL.v, by rw [e1.out.2.1]; exact hL.cd, by rw [e1.out.2.2.1]; exact hL.rm, by rw [e1.out.2.2.2.1]; exact hpo, by rw [e1.out.2.2.2.2.1]; exact her, hL.b⟩
    have hY := Aside0.mk (hX5.put (o' := .deferred none) (by omega) hK rfl)
    have hKA := Aside0.mk hK
    clear hD hO hX5 hL hSp hpo her hK hP7 hP8 hH7
    gi_wp2
    refine ⟨by simp, .inl ⟨_, _, rfl, run_takeDeferred hKA.out, ?_⟩⟩
    generalize W.putObj Dd (.deferred none) = wf at hY ⊢
    have q1 := hY.out.bv.cell
    have q2 := hY.out.cd.cell
    have q3 := hY.out.rm.cell
    obtain ⟨q4, q4b, _⟩ := hY.out.po.cells
    have q5 := hY.out.er.cell
    refine ⟨.tuple #[.slice none 0 0, .int .i64 0, .int .i64 0, .agg #[.int .i64 lp, .int .i64 kp], .int .i64 E], ?_, .slice none 0 0, ?_, ?_, hY.out.bl⟩
    · simp [results, Try.results14, go_sem, q1, q2, q3, q4, q4b, q5]
    · rw [hOA.out]
    · rw [hOA.out]; exact Kd.R_nil _ _ _ _ _
theorem Of_at {w : World} {A A2 : Option Addr} {n c n2 c2 : Nat} {ds : List Df} (hC : k36.C w A n ds) (hn : n = ds.length) (hok : OkD ds) :
    Calls Try.prog 14 #[.agg #[.slice A n c, .slice A2 n2 c2]] w fun e W' => ∃ v, e = .returned (.tuple #[v, .int .i64 (ofA ds).2.1, .int .i64 (ofA ds).2.2.1, .agg #[.int .i64 (ofA ds).2.2.2.1, .int .i64 (ofA ds).2.2.2.2.1], .int .i64 (ofA ds).2.2.2.2.2]) ∧ kP.R 50 W' w.heap.size (fun _ => True) v (ofA ds).1 ∧ Below w.heap.size w W' := by
  subst hn
  exact callsIn_wide.1 (Of_in hC hok)
end Go.Proofs.Ytjphhnhloeanlaa.P
