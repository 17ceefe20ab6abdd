/- Apart, plainly: rows of which each lies in a block of its own, written over, then each appended to further: what holds of them. -/
import Derived.Test.YtpjdgndbcjinjaaDoorMem
import Derived.Test.YtpjdgndbcjinjaaDoorProg
import Derived.Deep.Onto
namespace Go.Proofs.YtpjdgndbcjinjaaDoor.Ap
open Go.RowKit Go.Proofs.YtpjdgndbcjinjaaDoorW.PrintWords Go.Proofs.YtpjdgndbcjinjaaDoorW.PrintLast Go.Proofs.YtpjdgndbcjinjaaDoorW.PrintMore Go.Proofs.YtpjdgndbcjinjaaDoor.Mem
set_option linter.unusedVariables false
set_option linter.unusedSimpArgs false
theorem infoB : (Tryd.prog.info? 5).map (fun i => (i.zero, i.size, i.bytes)) = some (some (.int .u8 0), 1, 1) := by kernel_rfl
theorem grown_trans {w w1 w2 : World} {r : Option Nat} (h : w.grownBy w1 r) (k : w1.grownBy w2 r) : w.grownBy w2 r :=
  ⟨k.os.trans h.os, k.tape.trans h.tape, k.output.trans h.output, Nat.le_trans h.size k.size, fun i hi hr => (k.block i (Nat.lt_of_lt_of_le hi h.size) hr).trans (h.block i hi hr)⟩
theorem below_grown {w w1 : World} {r : Option Nat} (h : w.grownBy w1 r) (hr : ∀ k, r = some k → w.heap.size ≤ k) : Below w.heap.size w w1 :=
  ⟨h.os, h.tape, h.output, h.size, fun k hk => h.block k hk (fun e => by have := hr k e.symm; omega)⟩
abbrev RB (W : World) (base : Nat) (v : Value) (xs : List Int) : Prop := Kd.R (Kd.int .u8) 5 W base (fun _ => True) v xs
abbrev CB (W : World) (A : Option Addr) (n : Nat) (xs : List Int) : Prop := Kd.C (Kd.int .u8) W A n xs
theorem C_zero (W : World) (A : Option Addr) : CB W A 0 [] := ⟨rfl, by omega, fun h => by omega⟩
/-- one byte more: either in the row's own block, or all in a new one, and then nothing that was there is written -/
theorem run_app1 {W : World} {base : Nat} {v : Value} {xs : List Int} (y : Int) (ty : TypeId) (HR : RB W base v xs) (hbase : base ≤ W.heap.size) (hl : xs.length + 1 ≤ 140737488355328) :
    ∃ v1 w1, (Builtin.append_ #[24, 24] ty #[v, .slice (some ⟨W.heap.size, 0, none⟩) 1 1]).run Tryd.prog (W.alloc (.cells #[.int .u8 y] 5)) = .ok v1 w1 ∧ RB w1 base v1 (xs ++ [y]) ∧ W.grownBy w1 v.ownBlock ∧
      (v1.ownBlock = v.ownBlock ∨ (Below W.heap.size W w1 ∧ ∃ b, v1.ownBlock = some b ∧ W.heap.size ≤ b)) := by
  obtain ⟨i0, hi, hz0, hz1, hz2⟩ := info_parts infoB
  have hown := Kd.own_of_R HR
  have hown1 := hown.alloc (.cells #[.int .u8 y] 5)
  have hga := World.grownBy_alloc W (.cells #[.int .u8 y] 5) v.ownBlock
  have hnew : ∀ j u, [Value.int .u8 y][j]? = some u → (W.alloc (.cells #[.int .u8 y] 5)).cell? ((⟨W.heap.size, 0, none⟩ : Addr).add j) = some u := by
    intro j u hj
    have hj0 : j = 0 := by
      have := (List.getElem?_eq_some_iff.1 hj).1
      simpa using this
    subst hj0
    simp at hj
    subst hj
    rw [add_plain]
    have hh := World.alloc_heap_new W (.cells #[.int .u8 y] 5)
    simp only [World.cell?, hh]
    simp
  have h1 : ∀ u ∈ [Value.int .u8 y], u.oneCell' = true := fun u hu => by rw [List.mem_singleton.1 hu]; rfl
  have hml : xs.length + 1 ≤ maxLen := by unfold maxLen; omega
  have hsz : W.heap.size ≤ (W.alloc (.cells #[.int .u8 y] 5)).heap.size := by rw [World.size_alloc]; omega
  rcases hown.2 with ⟨rfl, hn⟩ | ⟨g, cap, cur, rfl, hbg, hg, hnc, hcm, hcs, htake⟩
  · have hx : xs = [] := List.eq_nil_of_length_eq_zero hn
    subst hx
    obtain ⟨v1, w1, hr, h2, h3, h4⟩ := run_append_own (P := Tryd.prog) (W.alloc (.cells #[.int .u8 y] 5)) W.heap.size 24 ty 5 i0 (.int .u8 0) 1 1 Tryd.underlying24 hi hz0 hz1 hz2 rfl (by decide) (.slice none 0 0) 0 [] (World.ownsRow_nil _ _ _ _) ⟨W.heap.size, 0, none⟩ 1 1 [.int .u8 y] rfl hnew h1 hml (by simp) hsz
    have hg2 := grown_trans hga h3
    refine ⟨v1, w1, hr, ?_, hg2, .inr ⟨below_grown hg2 (by simp [Value.ownBlock]), ?_⟩⟩
    · exact Kd.R_lower (Kd.R_of_own (h1 := fun _ => rfl) (ok := fun _ => True) (xs := [y]) (by simpa [encs] using h2) (fun _ _ => trivial)) hbase
    · rcases h2.2 with ⟨_, h0⟩ | ⟨g, cap, cur, rfl, hbg, _⟩
      · omega
      · exact ⟨g, rfl, hbg⟩
  · obtain ⟨v1, w1, hr, h2, h3, h4⟩ := run_append_own (P := Tryd.prog) (W.alloc (.cells #[.int .u8 y] 5)) base 24 ty 5 i0 (.int .u8 0) 1 1 Tryd.underlying24 hi hz0 hz1 hz2 rfl (by decide) _ xs.length _ hown1 ⟨W.heap.size, 0, none⟩ 1 1 [.int .u8 y] rfl hnew h1 hml (by simpa using hl) (Nat.le_trans hbase hsz)
    have hg2 := grown_trans hga h3
    have hRR : RB w1 base v1 (xs ++ [y]) := Kd.R_of_own (h1 := fun _ => rfl) (ok := fun _ => True) (xs := xs ++ [y]) (by simpa [encs] using h2) (fun _ _ => trivial)
    refine ⟨v1, w1, hr, hRR, hg2, ?_⟩
    by_cases hroom : xs.length + 1 ≤ cap
    · have hg1 : (W.alloc (.cells #[.int .u8 y] 5)).heap[g]? = some (.cells cur 5 (0, 0)) := (Below.heap_alloc W _ g (Array.getElem?_eq_some_iff.1 hg).1).trans hg
      have hr2 := run_append_room (P := Tryd.prog) (W.alloc (.cells #[.int .u8 y] 5)) 24 ty 5 i0 Tryd.underlying24 hi g xs.length cap cur hg1 ⟨W.heap.size, 0, none⟩ 1 1 [.int .u8 y] (by rw [hz1]; rfl) hnew h1 hroom (by rw [hz1, hcs]; simp; omega)
      rw [hr] at hr2
      injection hr2 with e1 e2
      exact .inl (by rw [e1]; rfl)
    · have holds : ∀ j u, (encs (Value.int .u8) xs)[j]? = some u → (W.alloc (.cells #[.int .u8 y] 5)).cell? ((⟨g, 0, none⟩ : Addr).add j) = some u := hown1.cells (g := g) rfl
      have hr2 := run_append_grow (P := Tryd.prog) (W.alloc (.cells #[.int .u8 y] 5)) 24 ty 5 i0 (.int .u8 0) Tryd.underlying24 hi hz0 ⟨g, 0, none⟩ xs.length cap (encs (Value.int .u8) xs) (by rw [hz1]; simp [encs]) holds ⟨W.heap.size, 0, none⟩ 1 1 [.int .u8 y] (by rw [hz1]; rfl) hnew (by omega) (by omega) (growslice_fits (by omega) (by rw [hz2]; simpa using hl))
      rw [hr] at hr2
      injection hr2 with e1 e2
      refine .inr ⟨?_, _, by rw [e1]; rfl, hsz⟩
      rw [e2]
      exact below_alloc (below_drew (below_alloc (Below.refl _ _) _)) _
/-- one byte more, in a walk -/
theorem app1 {ops : Array Oper} {Q : Exit → Act → World → Prop} {o : Oper} {rest : List Oper} {a : Act} {W : World} {base : Nat} {v : Value} {xs : List Int} (y : Int) (hgd : o.guard = none) (s x : Operand)
    (ho : o.op = .call { callee := .builtin .append, args := #[s, x], argTypes := #[24, 24] }) (hs : a.eval s = v) (hx : a.eval x = .slice (some ⟨W.heap.size, 0, none⟩) 1 1)
    (HR : RB W base v xs) (hbase : base ≤ W.heap.size) (hl : xs.length + 1 ≤ 140737488355328)
    (h : ∀ v1 w1, RB w1 base v1 (xs ++ [y]) → W.grownBy w1 v.ownBlock → (v1.ownBlock = v.ownBlock ∨ (Below W.heap.size W w1 ∧ ∃ b, v1.ownBlock = some b ∧ W.heap.size ≤ b)) → wpList Tryd.prog ops Q rest (a.put o.dst v1) w1) :
    wpList Tryd.prog ops Q (o :: rest) a (W.alloc (.cells #[.int .u8 y] 5)) := by
  refine wpList_plain hgd fun _ hK => ?_
  obtain ⟨v1, w1, hr, h2, h3, h4⟩ := run_app1 y o.type HR hbase hl
  unfold Oper.wp execOp
  simp only [ho, resolve, invoke, builtin, Sem.run_bind, Sem.run_pure, Result.andThen_ok, List.map_toArray, List.map_cons, List.map_nil, hs, hx, hr]
  exact hK _ _ (h v1 w1 h2 h3 h4)
/-- row u (n marks m) has been appended to k times: v -/
structure Grow (wi W : World) (base : Nat) (u : Value) (n : Nat) (m : Int) (k : Nat) (v : Value) : Prop where
  R : RB W base v (List.replicate (n + k) m)
  F : Fr wi W (fun q => u.ownBlock = some q)
  spot : v.ownBlock = u.ownBlock ∨ ∃ b, v.ownBlock = some b ∧ wi.heap.size ≤ b
  lt : ∀ q, u.ownBlock = some q → q < wi.heap.size
  form : ∃ A c, u = .slice A n c ∧ n ≤ c ∧ CB W A n (List.replicate n m)
  addr : 0 < n → ∃ g c, u = .slice (some ⟨g, 0, none⟩) n c
theorem Grow.start {wi : World} {base : Nat} {u : Value} {n : Nat} {m : Int} (h : RB wi base u (List.replicate n m)) : Grow wi wi base u n m 0 u := by
  obtain ⟨A, c, rfl, hc, hC⟩ := Kd.R_reads h
  refine ⟨h, Fr.refl _ _, .inl rfl, Kd.R_lt h, ?_, fun hn => ?_⟩
  · simp only [List.length_replicate] at hc hC ⊢
    exact ⟨A, c, rfl, hc, hC⟩
  · obtain ⟨g, c', e, _⟩ := Kd.R_form h (by simpa using hn)
    simp only [List.length_replicate] at e ⊢
    exact ⟨g, c', e⟩
theorem Grow.step {wi W w1 : World} {base : Nat} {u v v1 : Value} {n : Nat} {m : Int} {k : Nat} (h : Grow wi W base u n m k v) (hR : RB w1 base v1 (List.replicate (n + k) m ++ [m])) (hg : W.grownBy w1 v.ownBlock)
    (hat : v1.ownBlock = v.ownBlock ∨ (Below W.heap.size W w1 ∧ ∃ b, v1.ownBlock = some b ∧ W.heap.size ≤ b)) : Grow wi w1 base u n m (k + 1) v1 := by
  have hR' : RB w1 base v1 (List.replicate (n + (k + 1)) m) := by
    rw [show n + (k + 1) = (n + k) + 1 by omega, List.replicate_succ']
    exact hR
  have hrow : ∀ q, v.ownBlock = some q → q < wi.heap.size → u.ownBlock = some q := by
    intro q hq hlt
    rcases h.spot with e | ⟨b, e, hb⟩
    · rw [← e]; exact hq
    · rw [e] at hq; cases hq; omega
  have hF : Fr wi w1 (fun q => u.ownBlock = some q) := h.F.trans (Fr.of_grown hg (S := fun q => v.ownBlock = some q) (fun q e _ => e)) (fun q hq e => hrow q e hq)
  refine ⟨hR', hF, ?_, h.lt, ?_, h.addr⟩
  · rcases hat with e | ⟨_, b, e, hb⟩
    · rw [e]; exact h.spot
    · exact .inr ⟨b, e, Nat.le_trans h.F.size hb⟩
  · obtain ⟨A, c, rfl, hc, hC⟩ := h.form
    refine ⟨A, c, rfl, hc, ?_⟩
    by_cases hn : n = 0
    · subst hn; exact C_zero _ _
    · obtain ⟨g, c', e⟩ := h.addr (by omega)
      injection e with e1 _ e3
      subst e1
      have hglt := h.lt g rfl
      rcases hat with e | ⟨hb, _⟩
      · rcases h.spot with e2 | ⟨b, e2, hb⟩
        · obtain ⟨g1, c1, ev, _⟩ := Kd.R_form hR' (by rw [List.length_replicate]; omega)
          subst ev
          rw [e2] at e
          simp only [Value.ownBlock, Option.some.injEq] at e
          subst e
          have hC1 := (Kd.R_reads' hR').2.2
          have h2 := Kd.C_take (m := n) hC1 (by rw [List.length_replicate]; omega)
          rw [List.take_replicate, Nat.min_eq_left (by omega), List.length_replicate] at h2
          exact h2
        · refine C_move hC (fun a ha _ => ?_)
          cases ha
          exact hg.block g (Nat.lt_of_lt_of_le hglt h.F.size) (fun e' => by rw [e2] at e'; cases e'; omega)
      · exact Kd.C_below hC hb
/-- slices as such -/
def dsc : Kd (Option Addr × Nat × Nat) := Kd.scalar (fun p => Value.slice p.1 p.2.1 p.2.2) (fun _ => rfl)
abbrev RL (W : World) (base : Nat) (v : Value) (D : List (Option Addr × Nat × Nat)) : Prop := Kd.R dsc 24 W base (fun _ => True) v D
/-- rows each in a block of its own -/
structure Rows (W : World) (base n : Nat) (V : Nat → Value) (L : Nat → Nat) (X : Nat → List Int) : Prop where
  R : ∀ j, j < n → RB W base (V j) (X j)
  len : ∀ j, j < n → (X j).length = L j
  apart : ∀ i j, i < n → j < n → i ≠ j → ∀ q, (V i).ownBlock = some q → (V j).ownBlock ≠ some q
/-- the first i rows, and the first k bytes of row i, have been written over -/
structure Over (w0 W : World) (base n : Nat) (V : Nat → Value) (L : Nat → Nat) (M : Nat → Int) (i k : Nat) : Prop where
  F : Fr w0 W (fun q => ∃ j, j < n ∧ (V j).ownBlock = some q)
  rows : ∃ X, Rows W base n V L X ∧ (∀ j, j < i → j < n → X j = List.replicate (L j) (M j)) ∧ (i < n → ∀ q, q < k → (X i)[q]? = some (M i))
theorem Over.start {w0 : World} {base n : Nat} {V : Nat → Value} {L : Nat → Nat} {M : Nat → Int} {X : Nat → List Int} (h : Rows w0 base n V L X) : Over w0 w0 base n V L M 0 0 :=
  ⟨Fr.refl _ _, X, h, fun j hj _ => by omega, fun _ q hq => by omega⟩
theorem Over.shape {w0 W : World} {base n : Nat} {V : Nat → Value} {L : Nat → Nat} {M : Nat → Int} {i k j : Nat} (h : Over w0 W base n V L M i k) (hj : j < n) : ∃ A c, V j = .slice A (L j) c ∧ L j ≤ c := by
  obtain ⟨X, hX, _⟩ := h.rows
  obtain ⟨A, c, e, hc, _⟩ := Kd.R_reads (hX.R j hj)
  rw [hX.len j hj] at e hc
  exact ⟨A, c, e, hc⟩
theorem Over.addr {w0 W : World} {base n : Nat} {V : Nat → Value} {L : Nat → Nat} {M : Nat → Int} {i k j : Nat} (h : Over w0 W base n V L M i k) (hj : j < n) (hp : 0 < L j) : ∃ g c, V j = .slice (some ⟨g, 0, none⟩) (L j) c := by
  obtain ⟨X, hX, _⟩ := h.rows
  obtain ⟨g, c, e, _⟩ := Kd.R_form (hX.R j hj) (by rw [hX.len j hj]; exact hp)
  rw [hX.len j hj] at e
  exact ⟨g, c, e⟩
/-- the cell that is written -/
theorem Over.cell {w0 W : World} {base n : Nat} {V : Nat → Value} {L : Nat → Nat} {M : Nat → Int} {i k g c : Nat} (h : Over w0 W base n V L M i k) (hi : i < n) (hk : k < L i) (hv : V i = .slice (some ⟨g, 0, none⟩) (L i) c) :
    (∃ u, W.cell? ⟨g, k, none⟩ = some u) ∧ W.frozen? ⟨g, k, none⟩ = false := by
  obtain ⟨X, hX, _⟩ := h.rows
  have hR := hX.R i hi
  rw [hv] at hR
  obtain ⟨h1, h2⟩ := Kd.R_celln (0 : Int) hR (k : Int) (by omega) (by omega)
  rw [Int.toNat_natCast] at h1 h2
  exact ⟨⟨_, h1⟩, h2⟩
theorem Over.write {w0 W : World} {base n : Nat} {V : Nat → Value} {L : Nat → Nat} {M : Nat → Int} {i k g c : Nat} (h : Over w0 W base n V L M i k) (hi : i < n) (hk : k < L i) (hv : V i = .slice (some ⟨g, 0, none⟩) (L i) c) :
    Over w0 (W.setCell ⟨g, k, none⟩ (.int .u8 (M i))) base n V L M i (k + 1) := by
  obtain ⟨X, hX, hd, hp⟩ := h.rows
  have hR := hX.R i hi
  rw [hv] at hR
  obtain ⟨h1, h2⟩ := Kd.R_putg hR (k : Int) (M i)
  rw [Int.toNat_natCast] at h1 h2
  refine ⟨h.F.trans (Fr.of_grown h2 (S := fun q => q = g) (fun q e _ => by cases e; rfl)) (fun q _ e => ⟨i, hi, by rw [hv, e]; rfl⟩), fun j => if j = i then (X i).set k (M i) else X j, ⟨fun j hj => ?_, fun j hj => ?_, hX.apart⟩, fun j hj hjn => ?_, fun hin q hq => ?_⟩
  · by_cases e : j = i
    · subst e; simp only [if_true]; rw [hv]; exact h1
    · simp only [if_neg e]
      exact Kd.R_grown (Kd.R_mono (Kd.R_tight rfl (hX.R j hj)) (ok' := fun q => some q = (V j).ownBlock) (fun q hq => hq)) h2 (fun q hq e' => by
        cases e'
        exact hX.apart i j hi hj (fun e2 => e e2.symm) g (by rw [hv]; rfl) hq.symm) |> fun h3 => Kd.R_mono h3 (fun _ _ => trivial)
  · by_cases e : j = i
    · subst e; simp only [if_true]; rw [List.length_set]; exact hX.len j hj
    · simp only [if_neg e]; exact hX.len j hj
  · have e : j ≠ i := by omega
    simp only [if_neg e]; exact hd j hj hjn
  · simp only [if_true]
    rw [List.getElem?_set]
    have := hX.len i hi
    by_cases e : k = q
    · subst e; rw [if_pos rfl, if_pos (by omega)]
    · rw [if_neg e]; exact hp hin q (by omega)
theorem Over.next {w0 W : World} {base n : Nat} {V : Nat → Value} {L : Nat → Nat} {M : Nat → Int} {i : Nat} (h : Over w0 W base n V L M i (L i)) (hi : i < n) : Over w0 W base n V L M (i + 1) 0 := by
  obtain ⟨X, hX, hd, hp⟩ := h.rows
  refine ⟨h.F, X, hX, fun j hj hjn => ?_, fun _ q hq => by omega⟩
  by_cases e : j = i
  · subst e
    refine List.ext_getElem? fun q => ?_
    by_cases hq : q < L j
    · rw [hp hi q hq, List.getElem?_replicate, if_pos hq]
    · rw [List.getElem?_eq_none (by rw [hX.len j hjn]; omega), List.getElem?_replicate, if_neg hq]
  · exact hd j (by omega) hjn
theorem Over.done {w0 W : World} {base n k : Nat} {V : Nat → Value} {L : Nat → Nat} {M : Nat → Int} (h : Over w0 W base n V L M n k) : Rows W base n V L (fun j => List.replicate (L j) (M j)) := by
  obtain ⟨X, hX, hd, hp⟩ := h.rows
  exact ⟨fun j hj => by have := hX.R j hj; rwa [hd j hj hj] at this, fun j hj => by simp, hX.apart⟩
/-- the first i rows have been appended to, and lie in 'longer' -/
structure Long (w1 W : World) (n : Nat) (V : Nat → Value) (L : Nat → Nat) (M : Nat → Int) (i : Nat) (v : Value) (D : List (Option Addr × Nat × Nat)) : Prop where
  F : Fr w1 W (fun q => ∃ j, j < i ∧ (V j).ownBlock = some q)
  R : RL W w1.heap.size v D
  len : D.length = i
  old : ∀ j, j < i → ∃ A c, V j = .slice A (L j) c ∧ L j ≤ c ∧ CB W A (L j) (List.replicate (L j) (M j))
  new : ∀ j, j < i → ∃ g c, D[j]? = some (some ⟨g, 0, none⟩, L j + 80, c) ∧ L j + 80 ≤ c ∧ CB W (some ⟨g, 0, none⟩) (L j + 80) (List.replicate (L j + 80) (M j)) ∧ some g ≠ v.ownBlock ∧ ((V j).ownBlock = some g ∨ w1.heap.size ≤ g) ∧ g < W.heap.size
theorem Long.start (w1 : World) (n : Nat) (V : Nat → Value) (L : Nat → Nat) (M : Nat → Int) : Long w1 w1 n V L M 0 (.slice none 0 0) [] :=
  ⟨Fr.refl _ _, Kd.R_nil _ _ _ _ _, rfl, fun j hj => by omega, fun j hj => by omega⟩
section
variable {w1 wr W w2 : World} {base n : Nat} {V : Nat → Value} {L : Nat → Nat} {M : Nat → Int} {i : Nat} {v v2 x : Value} {D : List (Option Addr × Nat × Nat)}
/-- row i, not appended to yet -/
theorem Long.row (h : Long w1 wr n V L M i v D) (hX : Rows w1 base n V L (fun j => List.replicate (L j) (M j))) (hi : i < n) : RB wr base (V i) (List.replicate (L i) (M i)) :=
  Kd.R_mono (h.F.row (Kd.R_tight rfl (hX.R i hi)) (fun q hq hlt hS => by
    obtain ⟨j, hj, e⟩ := hS
    exact hX.apart j i (by omega) hi (by omega) q e hq.symm)) (fun _ _ => trivial)
/-- 'longer' behind the rounds of row i -/
theorem Long.keep (h : Long w1 wr n V L M i v D) (hX : Rows w1 base n V L (fun j => List.replicate (L j) (M j))) (hi : i < n) (hG : Grow wr W base (V i) (L i) (M i) 80 x) : RL W w1.heap.size v D :=
  Kd.R_mono (Kd.R_step (Kd.R_bound h.R) (fun q hq hlt => hG.F.block q hlt (fun e => by have := Kd.R_lt (hX.R i hi) q e; have := hq.2.1; omega))) (fun _ _ => trivial)
theorem Long.step (h : Long w1 wr n V L M i v D) (hX : Rows w1 base n V L (fun j => List.replicate (L j) (M j))) (hi : i < n) {g c : Nat} (hG : Grow wr W base (V i) (L i) (M i) 80 (.slice (some ⟨g, 0, none⟩) (L i + 80) c))
    (hR : RL w2 w1.heap.size v2 (D ++ [(some ⟨g, 0, none⟩, L i + 80, c)])) (hg : W.grownBy w2 v.ownBlock) (hat : v2.ownBlock = v.ownBlock ∨ ∃ b, v2.ownBlock = some b ∧ W.heap.size ≤ b) :
    Long w1 w2 n V L M (i + 1) v2 (D ++ [(some ⟨g, 0, none⟩, L i + 80, c)]) := by
  have hs1 := h.F.size
  have hs2 := hG.F.size
  have hs3 := hg.size
  have vlt : ∀ q, v.ownBlock = some q → w1.heap.size ≤ q ∧ q < wr.heap.size := fun q hq => ⟨Kd.R_base h.R q hq, Kd.R_lt h.R q hq⟩
  have Vlt : ∀ j, j < n → ∀ q, (V j).ownBlock = some q → q < w1.heap.size := fun j hj => Kd.R_lt (hX.R j hj)
  have v2ne : ∀ q, some q ≠ v.ownBlock → q < W.heap.size → some q ≠ v2.ownBlock := by
    intro q hq hlt e
    rcases hat with e2 | ⟨b, e2, hb⟩
    · rw [e2] at e; exact hq e
    · rw [e2] at e; cases e; omega
  have hgx : g < W.heap.size := Kd.R_lt hG.R g rfl
  have hgspot : (V i).ownBlock = some g ∨ wr.heap.size ≤ g := by
    rcases hG.spot with e | ⟨b, e, hb⟩
    · exact .inl e.symm
    · simp only [Value.ownBlock, Option.some.injEq] at e; subst e; exact .inr hb
  have hgv : some g ≠ v.ownBlock := fun e => by
    have h1 := vlt g e.symm
    rcases hgspot with e2 | e2
    · have := Vlt i hi g e2; omega
    · omega
  -- what lies in an older block, other than row i's and longer's, stands
  have stand : ∀ q, q < wr.heap.size → (V i).ownBlock ≠ some q → some q ≠ v.ownBlock → w2.heap[q]? = wr.heap[q]? := fun q hq h1 h2 =>
    (hg.block q (Nat.lt_of_lt_of_le hq hs2) h2).trans (hG.F.block q hq h1)
  refine ⟨?_, hR, by rw [List.length_append, h.len]; rfl, fun j hj => ?_, fun j hj => ?_⟩
  · refine (h.F.mono (T := fun q => ∃ j, j < i + 1 ∧ (V j).ownBlock = some q) (fun q _ ⟨j, hj, e⟩ => ⟨j, by omega, e⟩)).trans (w2 := w2) (T := fun q => (V i).ownBlock = some q ∨ some q = v.ownBlock) ?_ ?_
    · exact (hG.F.mono (T := fun q => (V i).ownBlock = some q ∨ some q = v.ownBlock) (fun q _ e => .inl e)).trans (Fr.of_grown hg (S := fun q => some q = v.ownBlock) (fun q e _ => e.symm)) (fun q _ e => .inr e)
    · intro q hq e
      rcases e with e | e
      · exact ⟨i, by omega, e⟩
      · have := (vlt q e.symm).1; omega
  · by_cases e : j = i
    · subst e
      obtain ⟨A, c', e1, hc, hC⟩ := hG.form
      refine ⟨A, c', e1, hc, C_move hC (fun a ha hn => ?_)⟩
      subst ha
      have hlt := Vlt j hi a.block (by rw [e1]; rfl)
      exact hg.block a.block (by omega) (fun e2 => by have := (vlt _ e2.symm).1; omega)
    · obtain ⟨A, c', e1, hc, hC⟩ := h.old j (by omega)
      refine ⟨A, c', e1, hc, C_move hC (fun a ha hn => ?_)⟩
      subst ha
      have hlt := Vlt j (by omega) a.block (by rw [e1]; rfl)
      refine stand a.block (by omega) (fun e2 => ?_) (fun e2 => by have := (vlt _ e2.symm).1; omega)
      exact hX.apart j i (by omega) hi e a.block (by rw [e1]; rfl) e2
  · by_cases e : j = i
    · subst e
      refine ⟨g, c, ?_, ?_, ?_, v2ne g hgv hgx, ?_, by omega⟩
      · rw [List.getElem?_append_right (by rw [h.len]; exact Nat.le_refl _), h.len, Nat.sub_self]; rfl
      · have := (Kd.R_reads' hG.R).2.1; exact this
      · have hC := (Kd.R_reads' hG.R).2.2
        rw [List.length_replicate] at hC
        exact C_move hC (fun a ha hn => by cases ha; exact hg.block g hgx hgv)
      · exact hgspot.imp id (fun h => by omega)
    · obtain ⟨g', c', e1, hc, hC, hne, hsp, hlt⟩ := h.new j (by omega)
      refine ⟨g', c', ?_, hc, ?_, v2ne g' hne (by omega), hsp, by omega⟩
      · rw [List.getElem?_append_left (by rw [h.len]; omega)]; exact e1
      · refine C_move hC (fun a ha hn => ?_)
        cases ha
        refine stand g' hlt (fun e2 => ?_) hne
        rcases hsp with e3 | e3
        · exact hX.apart j i (by omega) hi e g' e3 e2
        · have := Vlt i hi g' e2; omega
end
end Go.Proofs.YtpjdgndbcjinjaaDoor.Ap
