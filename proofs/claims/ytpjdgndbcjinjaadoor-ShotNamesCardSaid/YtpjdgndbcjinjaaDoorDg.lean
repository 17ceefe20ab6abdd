/- shot.Digest: the walk. -/
import Derived.Test.YtpjdgndbcjinjaaDoorSm
import Derived.Test.YtpjdgndbcjinjaaDoorCs
namespace Go.Proofs.YtpjdgndbcjinjaaDoor.Pk
open Go.RowKit Go.Proofs.YtpjdgndbcjinjaaDoorW.PrintWords Go.Proofs.YtpjdgndbcjinjaaDoorW.PrintLast Go.Proofs.YtpjdgndbcjinjaaDoorW.PrintMore Go.Proofs.YtpjdgndbcjinjaaDoor.Mem
set_option linter.unusedVariables false
set_option linter.unusedSimpArgs false
theorem cellH {w : World} {g o t : Nat} {cs : Array Value} {fr : Nat × Nat} (h : w.heap[g]? = some (.cells cs t fr)) : w.cell? ⟨g, o, none⟩ = cs[o]? := by simp [World.cell?, h]
abbrev ToneT := Int × Int × Int
def kT : Kd ToneT := Kd.pair (Kd.int .i64) (Kd.pair (Kd.int .u16) (Kd.int .u8))
/-- an out -/
structure OutP where
  st : Int
  fl : Int
  steps : Int
  spent : Int
  idle : Int
  scr : List Int
  ts : List ToneT
/-- a word's four bytes, of a number's lowest 32 bits -/
def w4 (x : Int) : List Int := [x % 65536 % 256, x % 65536 / 256, x / 65536 % 256, x / 65536 / 256]
def wN (n : Int) : List Int := w4 (n % 4294967296)
def tB (t : ToneT) : List Int := wN t.1 ++ [t.2.1 % 256, t.2.1 / 256] ++ [t.2.2]
def six (o : OutP) : List Int := [o.st, o.fl, o.steps, o.spent, o.idle, (o.scr.length : Int)]
def hdB (o : OutP) : List Int := (six o).flatMap wN
def digB (o : OutP) : List Int := (hdB o ++ o.scr ++ wN (o.ts.length : Int)) ++ o.ts.flatMap tB
theorem wN_len (n : Int) : (wN n).length = 4 := rfl
theorem tB_len (t : ToneT) : (tB t).length = 7 := rfl
theorem flat_len {α : Type} (f : α → List Int) (k : Nat) : ∀ l : List α, (∀ x ∈ l, (f x).length = k) → (l.flatMap f).length = k * l.length
  | [], _ => by simp
  | x :: l, h => by
    rw [List.flatMap_cons, List.length_append, h x List.mem_cons_self, flat_len f k l (fun y hy => h y (List.mem_cons_of_mem _ hy)), List.length_cons, Nat.mul_succ]
    omega
theorem flat_snoc {α : Type} (f : α → List Int) (l : List α) (i : Nat) (z : α) (h : i < l.length) : (l.take (i + 1)).flatMap f = (l.take i).flatMap f ++ f (l.getD i z) := by
  rw [List.take_succ_eq_append_getElem h, List.flatMap_append, List.getD_eq_getElem?_getD, List.getElem?_eq_getElem h]
  simp
/-- what Digest keeps: the writer (block behind the out's box), the out's box, the list of numbers; block q is none of the writer's rows -/
structure DgS (w X : World) (q : Nat) (vals : Array Value) (l6 xs : List Int) : Prop where
  W : IsW X w.heap.size (fun k => w.heap.size + 3 ≤ k ∧ k ≠ q) (w.heap.size + 1) xs
  bel : Below w.heap.size w X
  bx : X.heap[w.heap.size]? = some (.cells vals 27 (0, 0))
  lit : Kd.C (Kd.int .i64) X (some ⟨w.heap.size + 2, 0, none⟩) l6.length l6
  sz : w.heap.size + 3 ≤ X.heap.size
  qs : q < X.heap.size
namespace DgS
variable {w X X' : World} {q : Nat} {vals : Array Value} {l6 xs ys : List Int}
theorem step (h : DgS w X q vals l6 xs) (hW : IsW X' w.heap.size (fun k => (w.heap.size + 3 ≤ k ∧ k ≠ q) ∨ X.heap.size ≤ k) (w.heap.size + 1) ys) (hF : Fr X X' (fun k => k = w.heap.size + 1 ∨ (w.heap.size + 3 ≤ k ∧ k ≠ q))) : DgS w X' q vals l6 ys := by
  have hsz := h.sz
  have hqs := h.qs
  refine ⟨hW.mono (fun k hk _ _ => by rcases hk with hk | hk; exact hk; exact ⟨by omega, by omega⟩), h.bel.trans (hF.below h.bel.size (fun k hk e => by omega)), hF.heap h.bx (fun e => by omega), C_move h.lit (fun a ha _ => ?_), by have := hF.size; omega, by have := hF.size; omega⟩
  cases ha
  exact hF.block _ (by show w.heap.size + 2 < _; omega) (fun e => by rcases e with e | e; exact absurd (show w.heap.size + 2 = w.heap.size + 1 from e) (by omega); exact absurd (show w.heap.size + 3 ≤ w.heap.size + 2 from e.1) (by omega))
theorem below (h : DgS w X q vals l6 xs) (hb : Below X.heap.size X X') : DgS w X' q vals l6 xs :=
  ⟨h.W.below hb, h.bel.trans (hb.mono h.bel.size), (hb.block _ (heap_lt h.bx)).trans h.bx, Kd.C_below h.lit hb, by have := hb.size; have := h.sz; omega, by have := hb.size; have := h.qs; omega⟩
theorem fresh (h : DgS w X q vals l6 xs) (o : Obj) : DgS w (X.alloc o) X.heap.size vals l6 xs := by
  have hb := below_alloc (Below.refl X.heap.size X) o
  have h2 := h.below hb
  exact ⟨(h.W.mono (ok' := fun k => w.heap.size + 3 ≤ k ∧ k ≠ X.heap.size) (fun k hk _ hl => ⟨hk.1, by omega⟩)).below hb, h2.bel, h2.bx, h2.lit, h2.sz, by rw [World.size_alloc]; omega⟩
theorem zero (h : DgS w X q vals l6 xs) : DgS w X 0 vals l6 xs :=
  ⟨h.W.mono (fun k hk _ _ => ⟨hk.1, by omega⟩), h.bel, h.bx, h.lit, h.sz, by have := h.sz; omega⟩
end DgS
theorem DgS.start (w : World) (vals : Array Value) (l6 : List Int) (t : TypeId) (hl : l6.length ≤ 1000) : DgS w (((w.alloc (.cells vals 27)).alloc (.cells #[.slice none 0 0] 56)).alloc (.cells (l6.map (Value.int .i64)).toArray t)) 0 vals l6 [] := by
  have s1 : (w.alloc (.cells vals 27)).heap.size = w.heap.size + 1 := by rw [World.size_alloc]
  have b1 := below_alloc (Below.refl w.heap.size w) (.cells vals 27)
  have b2 := below_alloc (Below.refl (w.alloc (.cells vals 27)).heap.size (w.alloc (.cells vals 27))) (.cells #[.slice none 0 0] 56)
  have hx := World.alloc_heap_new w (.cells vals 27)
  have hW := IsW.new (w.alloc (.cells vals 27)) w.heap.size (by rw [s1]; omega)
  have s2 : ((w.alloc (.cells vals 27)).alloc (.cells #[.slice none 0 0] 56)).heap.size = w.heap.size + 2 := by rw [World.size_alloc, World.size_alloc]
  rw [s1] at hW
  have hx2 := (b2.block _ (heap_lt hx)).trans hx
  have b12 := b1.trans (b2.mono b1.size)
  generalize (w.alloc (.cells vals 27)).alloc (.cells #[.slice none 0 0] 56) = Y at *
  have b3 := below_alloc (Below.refl Y.heap.size Y) (.cells (l6.map (Value.int .i64)).toArray t)
  refine ⟨(hW.below b3).mono (fun k hk _ _ => hk.elim), b12.trans (b3.mono b12.size), (b3.block _ (heap_lt hx2)).trans hx2, ?_, by rw [World.size_alloc, s2]; omega, by rw [World.size_alloc]; omega⟩
  refine Kd.C_of_reads (d := (0 : Int)) (h1 := fun _ => rfl) ⟨rfl, by omega, fun hn => ⟨_, rfl, fun j hj => ?_⟩⟩
  rw [add_plain, ← s2]
  have hh := World.alloc_heap_new Y (.cells (l6.map (Value.int .i64)).toArray t)
  simp only [World.cell?, hh]
  simp [hj, List.getD_eq_getElem?_getD]
theorem add_step (a : Addr) (k : Nat) : a.add (k + 1) = ⟨(a.add k).block, (a.add k).off + 1, none⟩ := by
  unfold Addr.add
  rw [if_neg (by omega)]
  split
  · rename_i h; subst h; simp
  · simp [Nat.add_assoc]
theorem atT {w : World} {A : Option Addr} {n : Nat} {ts : List ToneT} (h : kT.C w A n ts) (i : Nat) (hi : i < n) : ∃ ad, A = some ad ∧ w.cell? (ad.add (i * 3)) = some (.int .i64 (ts.getD i (0, 0, 0)).1) ∧ w.cell? ⟨(ad.add (i * 3)).block, (ad.add (i * 3)).off + 1, none⟩ = some (.int .u16 (ts.getD i (0, 0, 0)).2.1) ∧ w.cell? ⟨(ad.add (i * 3)).block, (ad.add (i * 3)).off + 2, none⟩ = some (.int .u8 (ts.getD i (0, 0, 0)).2.2) := by
  obtain ⟨ad, cs, e, hl, hK, hcc⟩ := Kd.C_get h (0, 0, 0) (i : Int) (by omega) (by omega)
  rw [Int.toNat_natCast] at hK hcc
  obtain ⟨x0, x1, rfl, h0, x2, x3, rfl, h2, h3⟩ := hK
  have h0' : x0 = [.int .i64 (ts.getD i (0, 0, 0)).1] := h0
  have h2' : x2 = [.int .u16 (ts.getD i (0, 0, 0)).2.1] := h2
  have h3' : x3 = [.int .u8 (ts.getD i (0, 0, 0)).2.2] := h3
  subst h0' h2' h3'
  have e0 := hcc 0 _ rfl
  have e1 := hcc 1 _ rfl
  have e2 := hcc 2 _ rfl
  rw [show kT.sz = 3 from rfl] at e0 e1 e2
  rw [Nat.add_zero] at e0
  rw [add_step] at e1 e2
  rw [add_step] at e2
  exact ⟨ad, e, e0, e1, e2⟩
/-- an out in memory -/
structure OutV (w : World) (A5 : Option Addr) (c5 : Nat) (A6 : Option Addr) (c6 : Nat) (o : OutP) : Prop where
  l5 : o.scr.length ≤ c5
  l6 : o.ts.length ≤ c6
  s : Kd.C (Kd.int .u8) w A5 o.scr.length o.scr
  t : kT.C w A6 o.ts.length o.ts
  u : ∀ t ∈ o.ts, 0 ≤ t.2.1 ∧ t.2.1 ≤ 65535
theorem OutV.below {w w' : World} {A5 A6 : Option Addr} {c5 c6 : Nat} {o : OutP} (h : OutV w A5 c5 A6 c6 o) (hb : Below w.heap.size w w') : OutV w' A5 c5 A6 c6 o := ⟨h.l5, h.l6, Kd.C_below h.s hb, Kd.C_below h.t hb, h.u⟩
def outA (A5 : Option Addr) (c5 : Nat) (A6 : Option Addr) (c6 : Nat) (o : OutP) : Value := .agg #[.int .i64 o.st, .int .i64 o.fl, .int .i64 o.steps, .int .i64 o.spent, .int .i64 o.idle, .slice A5 o.scr.length c5, .slice A6 o.ts.length c6]
theorem C_one {w : World} {A : Option Addr} {n c : Nat} {xs : List Int} (t : TypeId) (hn : n = xs.length) (hl : n ≤ c) (hC : Kd.C (Kd.int .u8) w A n xs) : Kd.C (Kd.slice 5 (Kd.int .u8)) (w.alloc (.cells #[.slice A n c] t)) (some ⟨w.heap.size, 0, none⟩) 1 [xs] := by
  subst hn
  refine ⟨rfl, by decide, fun _ => ⟨_, rfl, fun j p hj => ?_⟩⟩
  match j, hj with
  | 0, hj =>
    obtain rfl : p = xs := by simpa using hj.symm
    refine ⟨[.slice A p.length c], rfl, ⟨A, c, rfl, hl, Kd.C_below hC (below_alloc (Below.refl _ _) _)⟩, fun i u hu => ?_⟩
    match i, hu with
    | 0, hu =>
      have hu' : Value.slice A p.length c = u := by simpa using hu
      subst hu'
      rw [add_plain]
      exact (cellH (World.alloc_heap_new w _)).trans rfl
theorem BytesN {w : World} {B g c n : Nat} {ok : Nat → Prop} {xs ys : List Int} {A : Option Addr} (hn : ys.length = n) (hW : IsW w B ok g xs) (hB : B ≤ w.heap.size) (hC : Kd.C (Kd.int .u8) w A n ys) (hl : xs.length + n ≤ 140737488355328) :
    Calls Tryd.prog 20 #[.pointer (some ⟨g, 0, none⟩), .slice A n c] w fun e w' => e = .returned (.tuple #[]) ∧ IsW w' B (fun k => ok k ∨ w.heap.size ≤ k) g (xs ++ ys) ∧ Fr w w' (fun k => k = g ∨ ok k) := by
  subst hn
  exact Bytes hW hB hC hl
set_option maxRecDepth 100000 in
set_option maxHeartbeats 4000000 in
theorem Digest {w : World} {A5 A6 : Option Addr} {c5 c6 : Nat} {o : OutP} (hT : Tab w) (h : OutV w A5 c5 A6 c6 o) (b5 : o.scr.length ≤ 100000000) (b6 : o.ts.length ≤ 100000000) :
    Calls Tryd.prog 6 #[outA A5 c5 A6 c6 o] w fun e w' => e = .returned (.int .u32 (sumI [digB o])) ∧ Below w.heap.size w w' := by
  have hS0 := Aside0.mk (DgS.start w #[.int .i64 o.st, .int .i64 o.fl, .int .i64 o.steps, .int .i64 o.spent, .int .i64 o.idle, .slice A5 o.scr.length c5, .slice A6 o.ts.length c6] (six o) 3 (by simp [six]))
  have hTT := Aside0.mk hT
  have hC5 : Aside0 (∀ W, Below w.heap.size w W → Kd.C (Kd.int .u8) W A5 o.scr.length o.scr) := ⟨fun W hb => Kd.C_below h.s hb⟩
  have hC6 : Aside0 (∀ W (i : Nat), Below w.heap.size w W → i < o.ts.length → ∃ ad, A6 = some ad ∧ W.cell? (ad.add (i * 3)) = some (.int .i64 (o.ts.getD i (0, 0, 0)).1) ∧ W.cell? ⟨(ad.add (i * 3)).block, (ad.add (i * 3)).off + 1, none⟩ = some (.int .u16 (o.ts.getD i (0, 0, 0)).2.1) ∧ W.cell? ⟨(ad.add (i * 3)).block, (ad.add (i * 3)).off + 2, none⟩ = some (.int .u8 (o.ts.getD i (0, 0, 0)).2.2) ∧ 0 ≤ (o.ts.getD i (0, 0, 0)).2.1 ∧ (o.ts.getD i (0, 0, 0)).2.1 ≤ 65535) := ⟨fun W i hb hi => by
    obtain ⟨ad, e, h0, h1, h2⟩ := atT (Kd.C_below h.t hb) i hi
    have hu := h.u (o.ts.getD i (0, 0, 0)) (by rw [List.getD_eq_getElem?_getD, List.getElem?_eq_getElem hi]; exact List.getElem_mem hi)
    exact ⟨ad, e, h0, h1, h2, hu.1, hu.2⟩⟩
  obtain ⟨P6, hP6⟩ : ∃ f : Nat → List Int, f = fun i => ((six o).take i).flatMap wN := ⟨_, rfl⟩
  have hP0 : Aside0 (P6 0 = [] ∧ P6 6 = hdB o) := ⟨by rw [hP6]; exact ⟨by simp, by rw [hdB]; rfl⟩⟩
  have hPs : Aside0 (∀ i : Nat, i < 6 → P6 (i + 1) = P6 i ++ w4 (rd (six o) (i : Int) % 4294967296)) := ⟨fun i hi => by
    rw [hP6]
    show ((six o).take (i + 1)).flatMap wN = ((six o).take i).flatMap wN ++ _
    rw [flat_snoc wN (six o) i 0 hi]
    simp [wN, rd]⟩
  have hPl : Aside0 (∀ i : Nat, i ≤ 6 → (P6 i).length = 4 * i) := ⟨fun i hi => by
    rw [hP6]
    show (((six o).take i).flatMap wN).length = 4 * i
    rw [flat_len wN 4 _ (fun x _ => rfl), List.length_take]
    have : (six o).length = 6 := rfl
    omega⟩
  obtain ⟨Q, hQ⟩ : ∃ f : Nat → List Int, f = fun i => (hdB o ++ o.scr ++ wN (o.ts.length : Int)) ++ (o.ts.take i).flatMap tB := ⟨_, rfl⟩
  have hQ0 : Aside0 (Q 0 = P6 6 ++ o.scr ++ w4 ((o.ts.length : Int) % 4294967296) ∧ Q o.ts.length = digB o) := ⟨by rw [hQ, hP0.out.2]; exact ⟨by simp [wN], by simp only [List.take_length]; rfl⟩⟩
  have hQs : Aside0 (∀ i : Nat, i < o.ts.length → Q (i + 1) = (Q i ++ w4 ((o.ts.getD i (0, 0, 0)).1 % 4294967296) ++ [(o.ts.getD i (0, 0, 0)).2.1 % 256, (o.ts.getD i (0, 0, 0)).2.1 / 256]) ++ [(o.ts.getD i (0, 0, 0)).2.2]) := ⟨fun i hi => by
    rw [hQ]
    show (hdB o ++ o.scr ++ wN (o.ts.length : Int)) ++ (o.ts.take (i + 1)).flatMap tB = ((((hdB o ++ o.scr ++ wN (o.ts.length : Int)) ++ (o.ts.take i).flatMap tB) ++ _) ++ _) ++ _
    rw [flat_snoc tB o.ts i (0, 0, 0) hi]
    simp [tB, wN]⟩
  have hQl : Aside0 (∀ i : Nat, i ≤ o.ts.length → (Q i).length ≤ 1000000000) := ⟨fun i hi => by
    rw [hQ]
    show ((hdB o ++ o.scr ++ wN (o.ts.length : Int)) ++ (o.ts.take i).flatMap tB).length ≤ _
    have e1 : (hdB o).length = 24 := by rw [hdB, flat_len wN 4 _ (fun x _ => rfl)]; rfl
    rw [List.length_append, List.length_append, List.length_append, flat_len tB 7 _ (fun x _ => rfl), List.length_take, e1, wN_len]
    omega⟩
  obtain ⟨scr, hscr⟩ : ∃ s, o.scr = s := ⟨_, rfl⟩
  obtain ⟨tt, htt⟩ : ∃ f : Nat → ToneT, f = fun i => o.ts.getD i (0, 0, 0) := ⟨_, rfl⟩
  replace hC6 : Aside0 (∀ W (i : Nat), Below w.heap.size w W → i < o.ts.length → ∃ ad, A6 = some ad ∧ W.cell? (ad.add (i * 3)) = some (.int .i64 (tt i).1) ∧ W.cell? ⟨(ad.add (i * 3)).block, (ad.add (i * 3)).off + 1, none⟩ = some (.int .u16 (tt i).2.1) ∧ W.cell? ⟨(ad.add (i * 3)).block, (ad.add (i * 3)).off + 2, none⟩ = some (.int .u8 (tt i).2.2) ∧ 0 ≤ (tt i).2.1 ∧ (tt i).2.1 ≤ 65535) := ⟨by rw [htt]; exact hC6.out⟩
  replace hQs : Aside0 (∀ i : Nat, i < o.ts.length → Q (i + 1) = (Q i ++ w4 ((tt i).1 % 4294967296) ++ [(tt i).2.1 % 256, (tt i).2.1 / 256]) ++ [(tt i).2.2]) := ⟨by rw [htt]; exact hQs.out⟩
  unfold outA
  obtain ⟨l6, hl6⟩ : ∃ l, six o = l := ⟨_, rfl⟩
  have hl66 : Aside0 (l6.length = 6) := ⟨by rw [← hl6]; rfl⟩
  have hlm : Aside0 ((l6.map (Value.int .i64)).toArray = #[.int .i64 o.st, .int .i64 o.fl, .int .i64 o.steps, .int .i64 o.spent, .int .i64 o.idle, .int .i64 (o.scr.length : Int)]) := ⟨by rw [← hl6]; rfl⟩
  rw [hl6] at hS0 hPs
  rw [hscr] at hC5 hQ0 hS0 b5 hlm ⊢
  clear h hT hP6 hQ htt hl6 hscr
  obtain ⟨n5, hn5⟩ : ∃ n, scr.length = n := ⟨_, rfl⟩
  obtain ⟨n6, hn6⟩ : ∃ n, o.ts.length = n := ⟨_, rfl⟩
  obtain ⟨D, hD⟩ : ∃ D, digB o = D := ⟨_, rfl⟩
  rw [hn5] at hC5 hS0 b5 hlm ⊢
  rw [hn6] at hC6 hQ0 hQs hQl hS0 b6 ⊢
  rw [hD] at hQ0 ⊢
  rw [hlm.out] at hS0
  have hn55 := Aside0.mk hn5
  clear hn5 hn6 hD hlm
  generalize o.st = v0 at *
  generalize o.fl = v1 at *
  generalize o.steps = v2 at *
  generalize o.spent = v3 at *
  generalize o.idle = v4 at *
  go_enter Tryd.func6, Tryd.ntmps6
  go_wp2
  obtain ⟨X0, hX0⟩ : ∃ X0, X0 = ((w.alloc (.cells #[.int .i64 v0, .int .i64 v1, .int .i64 v2, .int .i64 v3, .int .i64 v4, .slice A5 n5 c5, .slice A6 n6 c6] 27)).alloc (.cells #[.slice none 0 0] 56)).alloc (.cells #[.int .i64 v0, .int .i64 v1, .int .i64 v2, .int .i64 v3, .int .i64 v4, .int .i64 (n5 : Int)] 3) := ⟨_, rfl⟩
  rw [← hX0] at hS0 ⊢
  clear hX0
  go_loopg [23] 6 (fun gk v23 wr => ∃ (i : Nat), v23 = .int .i64 (i : Int) ∧ i + gk = 6 ∧ Aside0 (DgS w wr 0 #[.int .i64 v0, .int .i64 v1, .int .i64 v2, .int .i64 v3, .int .i64 v4, .slice A5 n5 c5, .slice A6 n6 c6] l6 (P6 i)))
  case atStart => exact ⟨0, rfl, by omega, ⟨by rw [hP0.out.1]; exact hS0.out⟩⟩
  case round =>
    clear hS0
    obtain ⟨i, rfl, hi, hS⟩ := hrel
    cases gk with
    | succ k1 =>
      have hd : decide ((i : Int) < 6) = true := decide_eq_true (by omega)
      obtain ⟨a1, e1, hxb⟩ := Kd.at_int hS.out.lit (i : Int) (by omega) (by have := hl66.out; omega)
      cases e1
      rw [Int.toNat_natCast] at hxb
      have hPi := Aside0.mk (hPs.out i (by omega))
      have hPm := Aside0.mk (hPl.out i (by omega))
      generalize rd l6 (i : Int) = x at hxb hPi
      obtain ⟨N, hN⟩ : ∃ N, x % 4294967296 = N := ⟨_, rfl⟩
      have hN0 : 0 ≤ N := by omega
      have hN1 : N ≤ 4294967295 := by omega
      have hwx : IntKind.u32.wrap x = N := by rw [IntKind.wrap_u32]; exact hN
      rw [hN] at hPi
      rw [add_plain] at hxb
      clear hN
      go_wp2_with (go_at_call 19; ((with_reducible refine (Word N (by omega) (by omega) hS.out.W (by have := hS.out.sz; omega) (by have := hPm.out; omega)).mono ?_); rintro e X1 ⟨rfl, hW_, hF_⟩; have n0_ := Aside0.mk (hS.out.step hW_ hF_); clear hS; have hS := n0_; clear n0_ hW_ hF_))
      go_roundg k1
      case measure => omega
      case rel => exact ⟨i + 1, rfl, by omega, ⟨by rw [hPi.out]; exact hS.out⟩⟩
    | zero =>
      have hd : decide ((i : Int) < 6) = false := decide_eq_false (by omega)
      obtain rfl : i = 6 := by omega
      have y5 := cellH (o := 5) hS.out.bx
      have y6 := cellH (o := 6) hS.out.bx
      have hP6l := Aside0.mk (hPl.out 6 (by omega))
      have hwx : IntKind.u32.wrap (n6 : Int) = (n6 : Int) := by rw [IntKind.wrap_u32]; omega
      have hQ00 : Aside0 (Q 0 = P6 6 ++ scr ++ w4 (n6 : Int)) := ⟨by have := hQ0.out.1; rw [show (n6 : Int) % 4294967296 = n6 by omega] at this; exact this⟩
      have k5 := Aside0.mk (hC5.out _ hS.out.bel)
      go_wp2_with (first | (go_at_call 20; ((with_reducible refine (BytesN hn55.out hS.out.W (by have := hS.out.sz; omega) k5.out (by have := hP6l.out; omega)).mono ?_); rintro e X1 ⟨rfl, hW_, hF_⟩; have n0_ := Aside0.mk (hS.out.step hW_ hF_); clear hS; have hS := n0_; clear n0_ hW_ hF_; have y6 := cellH (o := 6) hS.out.bx)) | (go_at_call 19; ((with_reducible refine (Word (n6 : Int) (by omega) (by omega) hS.out.W (by have := hS.out.sz; omega) (by have := hP6l.out; have := hn55.out; rw [List.length_append]; omega)).mono ?_); rintro e X1 ⟨rfl, hW_, hF_⟩; have n0_ := Aside0.mk (hS.out.step hW_ hF_); clear hS; have hS := n0_; clear n0_ hW_ hF_; have y6 := cellH (o := 6) hS.out.bx)))
      clear y5 y6
      have hd5 := hwx
      clear hd hwx hi hd5
      have hSQ : Aside0 (DgS w X1 0 #[.int .i64 v0, .int .i64 v1, .int .i64 v2, .int .i64 v3, .int .i64 v4, .slice A5 n5 c5, .slice A6 n6 c6] l6 (Q 0)) := ⟨by rw [hQ00.out]; exact hS.out⟩
      clear hS k5 hQ00 hP6l
      go_loopg [42] n6 (fun gk v42 wr => ∃ (i : Nat), v42 = .int .i64 (i : Int) ∧ i + gk = n6 ∧ Aside0 (DgS w wr 0 #[.int .i64 v0, .int .i64 v1, .int .i64 v2, .int .i64 v3, .int .i64 v4, .slice A5 n5 c5, .slice A6 n6 c6] l6 (Q i)))
      case atStart => exact ⟨0, rfl, by omega, hSQ⟩
      case round =>
        clear hSQ
        obtain ⟨i, rfl, hi, hS⟩ := hrel
        cases gk with
        | succ k1 =>
          have hd : decide ((i : Int) < (n6 : Int)) = true := decide_eq_true (by omega)
          have hd' : decide (i < n6) = true := decide_eq_true (by omega)
          have hin : i < n6 := by omega
          obtain ⟨ad, e1, x0, x1, x2, hu0, hu1⟩ := hC6.out _ i hS.out.bel hin
          subst e1
          have hQi := Aside0.mk (hQs.out i hin)
          have hQm := Aside0.mk (hQl.out i (by omega))
          generalize tt i = t at x0 x1 x2 hu0 hu1 hQi
          obtain ⟨t0, t1, t2⟩ := t
          dsimp only at x0 x1 x2 hu0 hu1 hQi
          obtain ⟨N, hN⟩ : ∃ N, t0 % 4294967296 = N := ⟨_, rfl⟩
          have hN0 : 0 ≤ N := by omega
          have hN1 : N ≤ 4294967295 := by omega
          have hwx : IntKind.u32.wrap t0 = N := by rw [IntKind.wrap_u32]; exact hN
          rw [hN] at hQi
          clear hN
          obtain ⟨q, hq⟩ : ∃ q, wr.heap.size = q := ⟨_, rfl⟩
          have hbx := Aside0.mk (World.alloc_heap_new wr (.cells #[.int .i64 t0, .int .u16 t1, .int .u8 t2] 35))
          have hqw := Aside0.mk hS.out.sz
          have n0_ := Aside0.mk (hS.out.fresh (.cells #[.int .i64 t0, .int .u16 t1, .int .u8 t2] 35))
          clear hS
          have hS := n0_
          clear n0_
          go_upto_region 12 with (fail)
          obtain ⟨Y, hY⟩ : ∃ Y, Y = wr.alloc (.cells #[.int .i64 t0, .int .u16 t1, .int .u8 t2] 35) := ⟨_, rfl⟩
          rw [← hY] at hbx hS ⊢
          (try rw [hq] at hbx hS hqw)
          clear hY x0 x1 x2
          have z0 := cellH (o := 0) hbx.out
          go_wp2_with (first | (go_at_call 19; ((with_reducible refine (Word N (by omega) (by omega) hS.out.W (by have := hS.out.sz; omega) (by have := hQm.out; omega)).mono ?_); rintro e X1 ⟨rfl, hW_, hF_⟩; have n1_ := Aside0.mk (hF_.heap hbx.out (fun e => by have := hqw.out; omega)); clear hbx; have hbx := n1_; clear n1_; have n0_ := Aside0.mk (hS.out.step hW_ hF_); clear hS; have hS := n0_; clear n0_ hW_ hF_; have z1 := cellH (o := 1) hbx.out)) | (go_at_call 21; ((with_reducible refine (Cell t1 (by omega) (by omega) hS.out.W (by have := hS.out.sz; omega) (by have := hQm.out; simp only [List.length_append, List.length_cons, List.length_nil]; omega)).mono ?_); rintro e X1 ⟨rfl, hW_, hF_⟩; have n1_ := Aside0.mk (hF_.heap hbx.out (fun e => by have := hqw.out; omega)); clear hbx; have hbx := n1_; clear n1_; have n0_ := Aside0.mk (hS.out.step hW_ hF_); clear hS; have hS := n0_; clear n0_ hW_ hF_; have z2 := cellH (o := 2) hbx.out)) | (go_at_call 22; ((with_reducible refine (Byte t2 hS.out.W (by have := hS.out.sz; omega) (by have := hQm.out; simp only [List.length_append, List.length_cons, List.length_nil]; omega)).mono ?_); rintro e X1 ⟨rfl, hW_, hF_⟩; have n1_ := Aside0.mk (hF_.heap hbx.out (fun e => by have := hqw.out; omega)); clear hbx; have hbx := n1_; clear n1_; have n0_ := Aside0.mk (hS.out.step hW_ hF_); clear hS; have hS := n0_; clear n0_ hW_ hF_)))
          go_roundg k1
          case measure => omega
          case rel => exact ⟨i + 1, by first | rfl | (unfold wrap64; congr 1; omega), by omega, ⟨by rw [hQi.out]; exact hS.out.zero⟩⟩
        | zero =>
          have hd : decide ((i : Int) < (n6 : Int)) = false := decide_eq_false (by omega)
          have hd' : decide (i < n6) = false := decide_eq_false (by omega)
          obtain rfl : i = n6 := by omega
          have hQm := Aside0.mk (hQl.out i (Nat.le_refl _))
          have hDe := Aside0.mk hQ0.out.2
          go_wp2_with (first | (go_at_call 24; ((with_reducible refine (Done hS.out.W (by have := hQm.out; omega)).mono ?_); rintro e X1 ⟨v, rfl, hR_, hb_⟩; obtain ⟨A9, c9, e9, hl9_, hC9_⟩ := Kd.R_reads hR_; subst e9; have hC9 := Aside0.mk hC9_; have hl9 := Aside0.mk hl9_; have hT9 := Aside0.mk ((hTT.out.below hS.out.bel).below hb_); have hB9 := Aside0.mk (hS.out.bel.trans (hb_.mono hS.out.bel.size)); have hz9 := Aside0.mk hb_.size; have kS : Aside0 (Calls Tryd.prog 23 #[.slice (some ⟨X1.heap.size, 0, none⟩) 1 1] (X1.alloc (.cells #[.slice A9 (Q i).length c9] 24)) fun e w' => e = .returned (.int .u32 (sumI [Q i])) ∧ X1.alloc (.cells #[.slice A9 (Q i).length c9] 24) = w') := ⟨Sum (c := 1) (hT9.out.below (below_alloc (Below.refl _ _) _)) (C_one 24 rfl hl9.out hC9.out)⟩; clear hR_ hb_ hC9_ hl9_)) | (go_at_call 23; ((with_reducible refine (kS.out).mono ?_); rintro e X2 ⟨rfl, rfl⟩)))
          go_ret
          refine ⟨by rw [hDe.out]; rfl, hB9.out.trans ((below_alloc (Below.refl _ _) _).mono hB9.out.size)⟩
end Go.Proofs.YtpjdgndbcjinjaaDoor.Pk
