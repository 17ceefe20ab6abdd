/- wisplaw07.CartTables: the walk. -/
import Derived.Test.YtembdahclmffjaaDoorKw
import Derived.Test.YtembdahclmffjaaDoorRh
import Derived.Test.YtembdahclmffjaaDoorCr
import Derived.Lib.Hide
namespace Go.Proofs.YtembdahclmffjaaDoor.Pk
open Go.RowKit Go.Proofs.YtembdahclmffjaaDoorW.PrintWords Go.Proofs.YtembdahclmffjaaDoorW.PrintLast Go.Proofs.YtembdahclmffjaaDoorW.PrintMore Go.Proofs.YtembdahclmffjaaDoor.Mem
set_option linter.unusedVariables false
set_option linter.unusedSimpArgs false
abbrev PcT := Int × Int × Int × Int
def kPc : Kd PcT := Kd.pair (Kd.int .u8) (Kd.pair (Kd.int .u8) (Kd.pair (Kd.int .u32) (Kd.int .u32)))
def okPc (x : PcT) : Prop := isB x.1 ∧ isB x.2.1 ∧ (0 ≤ x.2.2.1 ∧ x.2.2.1 ≤ 4294967295) ∧ (0 ≤ x.2.2.2 ∧ x.2.2.2 ≤ 4294967295)
theorem atPc {w : World} {A : Option Addr} {n : Nat} {l : List PcT} (h : kPc.C w A n l) (i : Nat) (hi : i < n) : ∃ ad, A = some ad ∧ w.cell? (ad.add (i * 4)) = some (.int .u8 (l.getD i (0, 0, 0, 0)).1) ∧ w.cell? ⟨(ad.add (i * 4)).block, (ad.add (i * 4)).off + 1, none⟩ = some (.int .u8 (l.getD i (0, 0, 0, 0)).2.1) ∧ w.cell? ⟨(ad.add (i * 4)).block, (ad.add (i * 4)).off + 2, none⟩ = some (.int .u32 (l.getD i (0, 0, 0, 0)).2.2.1) ∧ w.cell? ⟨(ad.add (i * 4)).block, (ad.add (i * 4)).off + 3, none⟩ = some (.int .u32 (l.getD i (0, 0, 0, 0)).2.2.2) := by
  obtain ⟨a0, cc, e0, _, hK, hx⟩ := Kd.C_get h (0, 0, 0, 0) (i : Int) (by omega) (by omega)
  rw [Int.toNat_natCast] at hK hx
  subst e0
  obtain ⟨_, _, rfl, k1, _, _, rfl, k2, _, _, rfl, k3, k4⟩ := hK
  change _ = [Value.int .u8 _] at k1
  change _ = [Value.int .u8 _] at k2
  change _ = [Value.int .u32 _] at k3
  change _ = [Value.int .u32 _] at k4
  subst k1 k2 k3 k4
  have e : kPc.sz = 4 := rfl
  rw [e] at hx
  exact ⟨a0, rfl, hx 0 _ rfl, by rw [← add_field _ _ 1 (by omega)]; exact hx 1 _ rfl, by rw [← add_field _ _ 2 (by omega)]; exact hx 2 _ rfl, by rw [← add_field _ _ 3 (by omega)]; exact hx 3 _ rfl⟩
/-- the law's writer -/
structure Wq (w W : World) (xs : List Int) : Prop where
  isw : IsW W w.heap.size (fun k => w.heap.size < k) w.heap.size xs
  bel : Below w.heap.size w W
  bb : allB xs
namespace Wq
variable {w W w1 : World} {xs zs : List Int}
theorem le (h : Wq w W xs) : w.heap.size ≤ W.heap.size := h.bel.size
theorem step (h : Wq w W xs) (hW : IsW w1 w.heap.size (fun k => w.heap.size < k ∨ W.heap.size ≤ k) w.heap.size zs) (hF : Fr W w1 (fun k => k = w.heap.size ∨ w.heap.size < k)) (hz : allB zs) : Wq w w1 zs :=
  ⟨hW.mono (fun k hk _ _ => by have := h.isw.lt; omega), h.bel.trans (hF.below h.le (fun k hk hs => by omega)), hz⟩
theorem below (h : Wq w W xs) (hb : Below W.heap.size W w1) : Wq w w1 xs := ⟨h.isw.below hb, h.bel.trans (hb.mono h.le), h.bb⟩
end Wq
theorem allB_app {xs ys : List Int} (h : allB xs) (k : allB ys) : allB (xs ++ ys) := fun z hz => by
  rcases List.mem_append.1 hz with h1 | h1
  · exact h z h1
  · exact k z h1
theorem allB_one {x : Int} (h : isB x) : allB [x] := fun z hz => by rw [List.mem_singleton.1 hz]; exact h
theorem allB_two {x : Int} (h0 : 0 ≤ x) (h1 : x ≤ 65535) : allB [x % 256, x / 256] := fun z hz => by
  simp only [List.mem_cons, List.not_mem_nil, or_false] at hz
  rcases hz with rfl | rfl <;> unfold isB <;> omega
theorem allB_four {x : Int} (h0 : 0 ≤ x) (h1 : x ≤ 4294967295) : allB [x % 65536 % 256, x % 65536 / 256, x / 65536 % 256, x / 65536 / 256] := fun z hz => by
  simp only [List.mem_cons, List.not_mem_nil, or_false] at hz
  rcases hz with rfl | rfl | rfl | rfl <;> unfold isB <;> omega
/-- cart.Decode of any bytes -/
theorem kDecA {w : World} {A : Option Addr} {n k : Nat} {b : List Int} {c : CartP} {er : Int} (hn : n = b.length) (hk : n ≤ k) (hT : Tab w) (hC : Kd.C (Kd.int .u8) w A n b) (hB : allB b) (hl : n ≤ 140737488355328) (hD : decB b = (c, er)) :
    Calls Tryd.prog 9 #[.slice A n k] w fun e w' => ∃ B0 n0 k0 y B2 n2 k2 B3 n3 k3, e = .returned (.tuple #[.agg #[.slice B0 n0 k0, .int .u16 y, .slice B2 n2 k2, .slice B3 n3 k3], .int .i64 er]) ∧ CtV w' (.agg #[.slice B0 n0 k0, .int .u16 y, .slice B2 n2 k2, .slice B3 n3 k3]) c ∧ Below w.heap.size w w' := by
  by_cases h0 : er = 0
  · subst h0
    exact kDec hn hk hT hC hB hl hD
  · have hc : c = z0 := by
      rcases dec_two b with ⟨c', h⟩ | ⟨er', _, _, _, h⟩
      · rw [h] at hD
        injection hD with _ h2
        exact absurd h2.symm h0
      · rw [hD] at h
        exact h
    subst hc
    refine (kDecE hn hk hT hC hB hl (by rw [hD]) h0).mono ?_
    rintro e w' ⟨rfl, hb⟩
    exact ⟨none, 0, 0, 0, none, 0, 0, none, 0, 0, rfl, Ct0 w', hb⟩
/-- the document's Decode -/
theorem kRefF {w : World} {A : Option Addr} {n k : Nat} {b : List Int} {c : CartP} {er : Int} (hn : n = b.length) (hk : n ≤ k) (hC : Kd.C (Kd.int .u8) w A n b) (hB : allB b) (hl : n ≤ 140737488355328) (hD : decB b = (c, er)) :
    Calls Tryd.prog 10 #[.slice A n k] w fun e w' => ∃ B0 n0 k0 y B2 n2 k2 B3 n3 k3, e = .returned (.tuple #[.agg #[.slice B0 n0 k0, .int .u16 y, .slice B2 n2 k2, .slice B3 n3 k3], .int .i64 er]) ∧ CtF w.heap.size w' (.agg #[.slice B0 n0 k0, .int .u16 y, .slice B2 n2 k2, .slice B3 n3 k3]) c ∧ Below w.heap.size w w' := by
  refine (RefDec hC hn hk hB hl).mono ?_
  rintro e w' ⟨v, rfl, ht, hb⟩
  rw [hD] at ht ⊢
  obtain ⟨A0, c0, A2, c2, A3, c3, e, hI⟩ := ht.ct
  subst e
  exact ⟨_, _, _, _, _, _, _, _, _, _, rfl, ht, hb⟩
theorem kRef {w : World} {A : Option Addr} {n k : Nat} {b : List Int} {c : CartP} {er : Int} (hn : n = b.length) (hk : n ≤ k) (hC : Kd.C (Kd.int .u8) w A n b) (hB : allB b) (hl : n ≤ 140737488355328) (hD : decB b = (c, er)) :
    Calls Tryd.prog 10 #[.slice A n k] w fun e w' => ∃ B0 n0 k0 y B2 n2 k2 B3 n3 k3, e = .returned (.tuple #[.agg #[.slice B0 n0 k0, .int .u16 y, .slice B2 n2 k2, .slice B3 n3 k3], .int .i64 er]) ∧ CtV w' (.agg #[.slice B0 n0 k0, .int .u16 y, .slice B2 n2 k2, .slice B3 n3 k3]) c ∧ Below w.heap.size w w' := by
  refine (kRefF hn hk hC hB hl hD).mono ?_
  rintro e w' ⟨B0, n0, k0, y, B2, n2, k2, B3, n3, k3, rfl, ht, hb⟩
  exact ⟨_, _, _, _, _, _, _, _, _, _, rfl, ht.ct, hb⟩
theorem dec_lens' {b : List Int} {c : CartP} {er : Int} (hB : allB b) (hD : decB b = (c, er)) : c.efs.length < 4611686018427387904 ∧ c.bks.length < 4611686018427387904 := by
  by_cases h0 : er = 0
  · subst h0
    have := (back hB hD).2
    have h1 := this.el
    have h2 := bk_len this.bs
    omega
  · have hc : c = z0 := by
      rcases dec_two b with ⟨c', h⟩ | ⟨er', _, _, _, h⟩
      · rw [h] at hD
        injection hD with _ h2
        exact absurd h2.symm h0
      · rw [hD] at h
        exact h
    subst hc
    exact ⟨by decide, by decide⟩
/-- what the law's last part keeps -/
structure Qs (w X : World) (A : Option Addr) (n : Nat) (b : List Int) : Prop where
  bel : Below w.heap.size w X
  tab : Tab X
  C : Kd.C (Kd.int .u8) X A n b
theorem Qs.step {w X X' : World} {A : Option Addr} {n : Nat} {b : List Int} (h : Qs w X A n b) (hb : Below X.heap.size X X') : Qs w X' A n b := ⟨h.bel.trans (hb.mono h.bel.size), h.tab.below hb, Kd.C_below h.C hb⟩
/-- a cartridge in a box -/
structure Bxc (X : World) (g : Nat) (x0 x1 x2 x3 : Value) (c : CartP) : Prop where
  box : X.heap[g]? = some (.cells #[x0, x1, x2, x3] 28 (0, 0))
  t : CtV X (.agg #[x0, x1, x2, x3]) c
theorem Bxc.step {X X' : World} {g : Nat} {x0 x1 x2 x3 : Value} {c : CartP} (h : Bxc X g x0 x1 x2 x3 c) (hb : Below X.heap.size X X') : Bxc X' g x0 x1 x2 x3 c := ⟨(hb.block _ (heap_lt h.box)).trans h.box, h.t.below hb⟩
theorem Bxc.S {X : World} {g : Nat} {x0 x1 x2 x3 : Value} {c : CartP} (h : Bxc X g x0 x1 x2 x3 c) : X.cell? ⟨g, 0, none⟩ = some x0 ∧ X.cell? ⟨g, 1, none⟩ = some x1 ∧ X.cell? ⟨g, 2, none⟩ = some x2 ∧ X.cell? ⟨g, 3, none⟩ = some x3 := ⟨(cellH h.box).trans rfl, (cellH h.box).trans rfl, (cellH h.box).trans rfl, (cellH h.box).trans rfl⟩
theorem Bxc.new (X : World) {x0 x1 x2 x3 : Value} {c : CartP} (h : CtV X (.agg #[x0, x1, x2, x3]) c) : Bxc (X.alloc (.cells #[x0, x1, x2, x3] 28)) X.heap.size x0 x1 x2 x3 c := ⟨World.alloc_heap_new X _, h.below (below_alloc (Below.refl _ _) _)⟩
set_option maxRecDepth 100000 in
set_option maxHeartbeats 8000000 in
theorem Tables {w : World} {entry count : Int} {Ap Ar : Option Addr} {np cp nr cr : Nat} {ps : List PcT} {rest : List Int} (hT : Tab w) (he0 : 0 ≤ entry) (he1 : entry ≤ 65535) (hc : isB count) (hP : Kd.C kPc w Ap np ps) (hnp : np = ps.length) (hwf : ∀ x ∈ ps, okPc x) (hR : Kd.C (Kd.int .u8) w Ar nr rest) (hnr : nr = rest.length) (hcr : nr ≤ cr) (hRB : allB rest) (hl : nr ≤ 140737488351232) :
    Calls Tryd.prog 6 #[.int .u16 entry, .int .u8 count, .slice Ap np cp, .slice Ar nr cr] w fun e w' => e = .returned (.bool true) ∧ Below w.heap.size w w' := by
  have hTT := Aside0.mk hT
  have hPP := Aside0.mk hP
  have hwff := Aside0.mk hwf
  have hRR := Aside0.mk hR
  have hRn := Aside0.mk hnr
  have hRBB := Aside0.mk hRB
  have hcc := Aside0.mk hc
  have hll := Aside0.mk hl
  have hcrr := Aside0.mk hcr
  have hnpp := Aside0.mk hnp
  have hnp63 : np ≤ 9223372036854775807 := hP.2.1
  have hnr63 : nr ≤ 9223372036854775807 := by omega
  have hS := Aside0.mk (show Wq w (w.alloc (.cells #[.slice none 0 0] 51)) [] from ⟨(IsW.new w w.heap.size (Nat.le_refl _)).mono (fun k hk _ _ => hk.elim), below_alloc (Below.refl _ _) _, fun x hx => by simp at hx⟩)
  have kc := Go.Lib.run_convert_bytes_const (P := Tryd.prog) (w.alloc (.cells #[.slice none 0 0] 51)) 22 5 #[.int .u8 87, .int .u8 73, .int .u8 83, .int .u8 80, .int .u8 1] 5 5 Tryd.underlying22 Tryd.underlying5
  rw [World.size_alloc] at kc
  have hL0 := C_lit (fr := (5, 6)) (w.alloc (.cells #[.slice none 0 0] 51)) [87, 73, 83, 80, 1] 5 (by simp)
  have kB0 := Bytes (c := 5) (ys := [87, 73, 83, 80, 1]) (hS.out.isw.lit (.cells #[.int .u8 87, .int .u8 73, .int .u8 83, .int .u8 80, .int .u8 1] 5 (5, 6))) (by have := hS.out.le; simp; omega) hL0 (by simp)
  rw [World.size_alloc] at kB0
  have kB := Aside0.mk kB0
  clear hT hP hwf hR hnr hRB hc hl hcr hL0 kB0 hnp
  go_enter Tryd.func6, Tryd.ntmps6
  go_wp2_with (first | (go_at_call 19; ((refine kB.out.mono ?_); rintro e W2 ⟨rfl, hW, hF⟩; have hS2 := Aside0.mk (show Wq w W2 ([] ++ [87, 73, 83, 80, 1]) from ⟨hW.mono (fun k hk _ _ => by rcases hk with hk | hk; exact hk; simp at hk; omega), hS.out.bel.trans ((below_alloc (Below.refl _ _) _ : Below (w.alloc (.cells #[.slice none 0 0] 51)).heap.size _ _).mono (by simp) |>.trans (hF.below (by simp; omega) (fun k hk hs => by omega))), by unfold allB isB; decide⟩); clear hW hF kB)) | (go_at_call 20; ((with_reducible refine (Byte count hS2.out.isw hS2.out.le (by simp)).mono ?_); rintro e W3 ⟨rfl, hW, hF⟩; have hS3 := Aside0.mk (hS2.out.step hW hF (allB_app hS2.out.bb (allB_one hcc.out))); clear hW hF)) | (go_at_call 21; ((with_reducible refine (Cell entry he0 he1 hS3.out.isw hS3.out.le (by simp)).mono ?_); rintro e W4 ⟨rfl, hW, hF⟩; have hS4 := Aside0.mk (hS3.out.step hW hF (allB_app hS3.out.bb (allB_two he0 he1))); clear hW hF)))
  clear hS hS2 hS3 kc
  obtain ⟨M, hM⟩ : ∃ M, M = min np 20 := ⟨_, rfl⟩
  have hMM := Aside0.mk hM
  have hS5 := Aside0.mk (show ((([] ++ [87, 73, 83, 80, 1] ++ [count]) ++ [entry % 256, entry / 256] : List Int)).length ≤ 8 + 10 * 0 by simp)
  generalize ((([] ++ [87, 73, 83, 80, 1] ++ [count]) ++ [entry % 256, entry / 256] : List Int)) = xs0 at hS4 hS5
  clear hM
  go_loopg [10] M (fun gk v10 wr => ∃ (i : Nat) (xs : List Int), v10 = .int .i64 (i : Int) ∧ i + gk = M ∧ Aside0 (Wq w wr xs) ∧ Aside0 (xs.length ≤ 8 + 10 * i))
  case atStart => exact ⟨0, xs0, rfl, by omega, hS4, hS5⟩
  case round =>
    clear hS4 hS5
    obtain ⟨i, xs, rfl, hi, hS, hxl⟩ := hrel
    cases gk with
    | succ k1 =>
      have hd1 : decide ((i : Int) < (np : Int)) = true := decide_eq_true (by have := hMM.out; omega)
      have hd1' : decide (i < np) = true := decide_eq_true (by have := hMM.out; omega)
      have hd2 : decide ((i : Int) < 20) = true := decide_eq_true (by have := hMM.out; omega)
      have hi20 : Aside0 (i < 20) := ⟨by have := hMM.out; omega⟩
      have hinp : i < np := by have := hMM.out; omega
      obtain ⟨ad, eA, hx0, hx1, hx2, hx3⟩ := atPc hPP.out i hinp
      subst eA
      have hok_ := hwff.out (ps.getD i (0, 0, 0, 0)) (by
        have hlt : i < ps.length := by have := hnpp.out; omega
        rw [List.getD_eq_getElem?_getD, List.getElem?_eq_getElem hlt]
        exact List.getElem_mem hlt)
      generalize ps.getD i (0, 0, 0, 0) = x at hx0 hx1 hx2 hx3 hok_
      obtain ⟨p0, p1, p2, p3⟩ := x
      dsimp only at hx0 hx1 hx2 hx3 hok_
      unfold okPc at hok_
      have hok := Aside0.mk hok_
      have hx : Aside0 (∀ W, Below w.heap.size w W → W.cell? (ad.add (i * 4)) = some (.int .u8 p0) ∧ W.cell? ⟨(ad.add (i * 4)).block, (ad.add (i * 4)).off + 1, none⟩ = some (.int .u8 p1) ∧ W.cell? ⟨(ad.add (i * 4)).block, (ad.add (i * 4)).off + 2, none⟩ = some (.int .u32 p2) ∧ W.cell? ⟨(ad.add (i * 4)).block, (ad.add (i * 4)).off + 3, none⟩ = some (.int .u32 p3)) := ⟨fun W hb => ⟨(hb.cell (World.block_lt_of_cell? _ _ hx0)).trans hx0, (hb.cell (World.block_lt_of_cell? _ _ hx1)).trans hx1, (hb.cell (World.block_lt_of_cell? _ _ hx2)).trans hx2, (hb.cell (World.block_lt_of_cell? _ _ hx3)).trans hx3⟩⟩
      clear hx0 hx1 hx2 hx3 hok_
      obtain ⟨x0, x1, x2, x3⟩ := hx.out _ hS.out.bel
      go_wp2_with (first | (go_at_call 20; ((with_reducible refine (Byte p0 hS.out.isw hS.out.le (by have := hxl.out; have := hi20.out; omega)).mono ?_); rintro e Y1 ⟨rfl, hW, hF⟩; have hS1 := Aside0.mk (hS.out.step hW hF (allB_app hS.out.bb (allB_one hok.out.1))); obtain ⟨x0, x1, x2, x3⟩ := hx.out _ hS1.out.bel; clear hW hF)) | (go_at_call 20; ((with_reducible refine (Byte p1 hS1.out.isw hS1.out.le (by have := hxl.out; have := hi20.out; simp; omega)).mono ?_); rintro e Y2 ⟨rfl, hW, hF⟩; have hS2 := Aside0.mk (hS1.out.step hW hF (allB_app hS1.out.bb (allB_one hok.out.2.1))); obtain ⟨x0, x1, x2, x3⟩ := hx.out _ hS2.out.bel; clear hW hF)) | (go_at_call 22; ((with_reducible refine (Word p2 hok.out.2.2.1.1 hok.out.2.2.1.2 hS2.out.isw hS2.out.le (by have := hxl.out; have := hi20.out; simp; omega)).mono ?_); rintro e Y3 ⟨rfl, hW, hF⟩; have hS3 := Aside0.mk (hS2.out.step hW hF (allB_app hS2.out.bb (allB_four hok.out.2.2.1.1 hok.out.2.2.1.2))); obtain ⟨x0, x1, x2, x3⟩ := hx.out _ hS3.out.bel; clear hW hF)) | (go_at_call 22; ((with_reducible refine (Word p3 hok.out.2.2.2.1 hok.out.2.2.2.2 hS3.out.isw hS3.out.le (by have := hxl.out; have := hi20.out; simp; omega)).mono ?_); rintro e Y4 ⟨rfl, hW, hF⟩; have hS4 := Aside0.mk (hS3.out.step hW hF (allB_app hS3.out.bb (allB_four hok.out.2.2.2.1 hok.out.2.2.2.2))); clear hW hF)))
      go_roundg k1
      case measure => omega
      case rel => exact ⟨i + 1, _, rfl, by omega, hS4, ⟨by have := hxl.out; simp; omega⟩⟩
    | zero =>
      have hiM : i = M := by omega
      have hxl2 : Aside0 (xs.length ≤ 208) := ⟨by have := hxl.out; have := hMM.out; omega⟩
      have kR : Aside0 (Calls Tryd.prog 19 #[.pointer (some ⟨w.heap.size, 0, none⟩), .slice Ar nr cr] wr fun e w' => e = .returned (.tuple #[]) ∧ IsW w' w.heap.size (fun k => w.heap.size < k ∨ wr.heap.size ≤ k) w.heap.size (xs ++ rest) ∧ Fr wr w' (fun k => k = w.heap.size ∨ w.heap.size < k)) := ⟨by
        have hn := hRn.out
        have h1 := Kd.C_below hRR.out hS.out.bel
        rw [hn] at h1 ⊢
        exact Bytes (c := cr) hS.out.isw hS.out.le h1 (by have := hxl2.out; have := hll.out; omega)⟩
      have hXl : Aside0 ((xs ++ rest).length ≤ 140737488351440) := ⟨by have := hxl2.out; have := hll.out; have := hRn.out; rw [List.length_append]; omega⟩
      have hXB := Aside0.mk (allB_app hS.out.bb hRBB.out)
      generalize xs ++ rest = X at kR hXl hXB
      obtain ⟨q1, e1⟩ : ∃ q, decide ((i : Int) < (np : Int)) = q := ⟨_, rfl⟩
      have e1' : decide (i < np) = q1 := by rw [← e1]; congr 1; exact propext (by omega)
      have hfin : Aside0 (q1 = false ∨ 20 ≤ i) := ⟨by
        have := hMM.out
        by_cases h : i < np
        · exact .inr (by omega)
        · exact .inl (by rw [← e1']; exact decide_eq_false h)⟩
      cases q1
      case' true => have hd2 : decide ((i : Int) < 20) = false := decide_eq_false (by rcases hfin.out with h | h; cases h; omega)
      all_goals
        clear hiM
        go_wp2_with (first | (go_at_call 19; ((with_reducible refine kR.out.mono ?_); rintro e W2 ⟨rfl, hW, hF⟩; have hS2 := Aside0.mk (hS.out.step hW hF hXB.out); clear hW hF)) | (go_at_call 23; ((with_reducible refine (DoneX hS2.out.isw (by have := hXl.out; omega)).mono ?_); rintro e W3 ⟨v, rfl, hR, hb⟩; obtain ⟨A3, c3, rfl, hc3, hC3⟩ := Kd.R_reads hR; have hS3 := Aside0.mk (hS2.out.below hb); have kSu := Aside0.mk (Sum (c := 1) (hTT.out.below (hS3.out.below (below_alloc (Below.refl _ _) (.cells #[.slice A3 X.length c3] 22))).bel) (C_oneH (t := 22) (fr := (0, 0)) (World.alloc_heap_new W3 (.cells #[.slice A3 X.length c3] 22)) hc3 (Kd.C_below hC3 (below_alloc (Below.refl _ _) _)))); clear hR hb hc3 hC3; refine Hid.out ?_)))
        refine Lib.hid ?_
        have hsb := sum_bd [X]
        have hsb0 := hsb.1
        have hsb1 : sumI [X] ≤ 4294967295 := by have := hsb.2; omega
        clear hsb
        obtain ⟨n3, hn3⟩ : ∃ n3, n3 = X.length := ⟨_, rfl⟩
        rw [← hn3] at kSu ⊢
        have hS4 := Aside0.mk (hS3.out.below (below_alloc (Below.refl _ _) (.cells #[.slice A3 n3 c3] 22)))
        have hn33 := Aside0.mk hn3
        generalize sumI [X] = sm at kSu hsb0 hsb1
        clear hn3
        go_upto_region 15 with (first | (go_at_call 18; ((refine kSu.out.mono ?_); rintro e W4 ⟨rfl, hw4⟩; subst hw4)) | (go_at_call 22; ((with_reducible refine (Word sm hsb0 hsb1 hS4.out.isw hS4.out.le (by have := hXl.out; omega)).mono ?_); rintro e W5 ⟨rfl, hW, hF⟩; have hS5 := Aside0.mk (hS4.out.step hW hF (allB_app hS4.out.bb (allB_four hsb0 hsb1))); have hXl5 : Aside0 ((X ++ [sm % 65536 % 256, sm % 65536 / 256, sm / 65536 % 256, sm / 65536 / 256]).length ≤ 140737488351444) := ⟨by have := hXl.out; simp; omega⟩; clear hW hF)) | (go_at_call 23; ((with_reducible refine (DoneX hS5.out.isw (by have := hXl5.out; omega)).mono ?_); rintro e W6 ⟨v, rfl, hR, hb⟩; obtain ⟨A6, k6, rfl, hk6, hC6⟩ := Kd.R_reads hR; obtain ⟨n6, hn6⟩ : ∃ n6, n6 = (X ++ [sm % 65536 % 256, sm % 65536 / 256, sm / 65536 % 256, sm / 65536 / 256]).length := ⟨_, rfl⟩; rw [← hn6] at hC6 hk6 ⊢; have hn66 := Aside0.mk hn6; clear hn6; have hS6 := Aside0.mk (hS5.out.below hb); have hCC6 := Aside0.mk hC6; have hkk6 := Aside0.mk hk6; clear hR hb hk6 hC6)))
        have hbb6 := Aside0.mk hS6.out.bb
        have hbe6 := Aside0.mk hS6.out.bel
        generalize X ++ [sm % 65536 % 256, sm % 65536 / 256, sm / 65536 % 256, sm / 65536 / 256] = b at hXl5 hCC6 hn66 hbb6
        rw [← hn66.out] at hXl5
        obtain ⟨cc, er, hD⟩ : ∃ c er, decB b = (c, er) := ⟨_, _, rfl⟩
        have hln := Aside0.mk (dec_lens' hbb6.out hD)
        have hQ : Aside0 (Qs w W6 A6 n6 b) := ⟨⟨hbe6.out, hTT.out.below hbe6.out, hCC6.out⟩⟩
        have kD1 : Aside0 (∀ W, Qs w W A6 n6 b → Calls Tryd.prog 9 #[.slice A6 n6 k6] W fun e w' => ∃ B0 n0 k0 y B2 n2 k2 B3 n3 k3, e = .returned (.tuple #[.agg #[.slice B0 n0 k0, .int .u16 y, .slice B2 n2 k2, .slice B3 n3 k3], .int .i64 er]) ∧ CtV w' (.agg #[.slice B0 n0 k0, .int .u16 y, .slice B2 n2 k2, .slice B3 n3 k3]) cc ∧ Below W.heap.size W w') := ⟨fun W hQ => kDecA hn66.out hkk6.out hQ.tab hQ.C hbb6.out (by have := hXl5.out; omega) hD⟩
        have kD2 : Aside0 (∀ W, Qs w W A6 n6 b → Calls Tryd.prog 10 #[.slice A6 n6 k6] W fun e w' => ∃ B0 n0 k0 y B2 n2 k2 B3 n3 k3, e = .returned (.tuple #[.agg #[.slice B0 n0 k0, .int .u16 y, .slice B2 n2 k2, .slice B3 n3 k3], .int .i64 er]) ∧ CtV w' (.agg #[.slice B0 n0 k0, .int .u16 y, .slice B2 n2 k2, .slice B3 n3 k3]) cc ∧ Below W.heap.size W w') := ⟨fun W hQ => kRef hn66.out hkk6.out hQ.C hbb6.out (by have := hXl5.out; omega) hD⟩
        clear hS2 hS3 hS4 hS5 hS6 hS kSu hXB hXl hCC6 hD hbe6
        go_wp2_with (first | (go_at_call 9; ((with_reducible refine (kD1.out _ hQ.out).mono ?_); rintro e W1 ⟨B0, m0, j0, z, B2, m2, j2, B3, m3, j3, rfl, ht_, hb_⟩; have hQ := Aside0.mk (hQ.out.step hb_); clear hb_; have hb_ := below_alloc (Below.refl W1.heap.size W1) (.cells #[.slice B0 m0 j0, .int .u16 z, .slice B2 m2 j2, .slice B3 m3 j3] 28); (try (have n1_ := Aside0.mk (ha.out.step hb_); clear ha; have ha := n1_; clear n1_; obtain ⟨a0_, a1_, a2_, a3_⟩ := ha.out.S)); have hQ := Aside0.mk (hQ.out.step hb_); have ha := Aside0.mk (Bxc.new W1 ht_); obtain ⟨a0_, a1_, a2_, a3_⟩ := ha.out.S; clear hb_ ht_)) | (go_at_call 10; ((with_reducible refine (kD2.out _ hQ.out).mono ?_); rintro e W1 ⟨D0, l0, i0, zz, D2, l2, i2, D3, l3, i3, rfl, ht_, hb_⟩; have hQ := Aside0.mk (hQ.out.step hb_); have n1_ := Aside0.mk (ha.out.step hb_); clear ha; have ha := n1_; clear n1_ hb_; have hb_ := below_alloc (Below.refl W1.heap.size W1) (.cells #[.slice D0 l0 i0, .int .u16 zz, .slice D2 l2 i2, .slice D3 l3 i3] 28); (try (have n1_ := Aside0.mk (ha.out.step hb_); clear ha; have ha := n1_; clear n1_; obtain ⟨a0_, a1_, a2_, a3_⟩ := ha.out.S)); have hQ := Aside0.mk (hQ.out.step hb_); have hd := Aside0.mk (Bxc.new W1 ht_); obtain ⟨d0_, d1_, d2_, d3_⟩ := hd.out.S; clear hb_ ht_)) | (go_at_call 11; ((with_reducible refine (kNum _ _).mono ?_); rintro e W1 ⟨rfl, hb_⟩; have hQ := Aside0.mk (hQ.out.step hb_); (try (have n1_ := Aside0.mk (ha.out.step hb_); clear ha; have ha := n1_; clear n1_; obtain ⟨a0_, a1_, a2_, a3_⟩ := ha.out.S)); (try (have n1_ := Aside0.mk (hd.out.step hb_); clear hd; have hd := n1_; clear n1_; obtain ⟨d0_, d1_, d2_, d3_⟩ := hd.out.S)); clear hb_)) | (go_at_call 12; ((with_reducible refine (kSame ha.out.t hd.out.t hln.out.1 hln.out.2).mono ?_); rintro e W1 ⟨rfl, hb_⟩; have hQ := Aside0.mk (hQ.out.step hb_); (try (have n1_ := Aside0.mk (ha.out.step hb_); clear ha; have ha := n1_; clear n1_; obtain ⟨a0_, a1_, a2_, a3_⟩ := ha.out.S)); (try (have n1_ := Aside0.mk (hd.out.step hb_); clear hd; have hd := n1_; clear n1_; obtain ⟨d0_, d1_, d2_, d3_⟩ := hd.out.S)); clear hb_)) | (go_at_call 15; ((with_reducible refine (Known hQ.out.tab).mono ?_); rintro e W1 ⟨rfl, hb_⟩; have hQ := Aside0.mk (hQ.out.step hb_); clear hb_)))
        go_ret
        exact ⟨rfl, hQ.out.bel⟩
end Go.Proofs.YtembdahclmffjaaDoor.Pk
