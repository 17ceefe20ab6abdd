/- cart.body: the walk. -/
import Derived.Test.YtembdahclmffjaaDoorSe
import Derived.Lib.Hide
import Derived.Lib.SlBytesConst
namespace Go.Proofs.YtembdahclmffjaaDoor.Pk
open Go.RowKit Go.Proofs.YtembdahclmffjaaDoorW.PrintWords Go.Proofs.YtembdahclmffjaaDoorW.PrintLast Go.Proofs.YtembdahclmffjaaDoorW.PrintMore Go.Proofs.YtembdahclmffjaaDoor.Mem
set_option linter.unusedVariables false
set_option linter.unusedSimpArgs false
theorem atS {w : World} {A : Option Addr} {n : Nat} {l : List ScT} (h : kS.C w A n l) (i : Nat) (hi : i < n) : ∃ ad A2 c2, A = some ad ∧ w.cell? (ad.add (i * 3)) = some (.int .u8 (l.getD i (0, 0, [])).1) ∧ w.cell? ⟨(ad.add (i * 3)).block, (ad.add (i * 3)).off + 1, none⟩ = some (.int .u8 (l.getD i (0, 0, [])).2.1) ∧ w.cell? ⟨(ad.add (i * 3)).block, (ad.add (i * 3)).off + 2, none⟩ = some (.slice A2 (l.getD i (0, 0, [])).2.2.length c2) ∧ (l.getD i (0, 0, [])).2.2.length ≤ c2 ∧ Kd.C (Kd.int .u8) w A2 (l.getD i (0, 0, [])).2.2.length (l.getD i (0, 0, [])).2.2 := by
  obtain ⟨a0, cc, e0, _, hK, hx⟩ := Kd.C_get h (0, 0, []) (i : Int) (by omega) (by omega)
  rw [Int.toNat_natCast] at hK hx
  subst e0
  generalize l.getD i (0, 0, []) = x at hK ⊢
  obtain ⟨k, num, d⟩ := x
  obtain ⟨_, _, rfl, rfl, ⟨_, _, rfl, rfl, ⟨A1, c1, rfl, l1, g1⟩⟩⟩ := hK
  have h0 := hx 0 _ rfl
  have h1 := hx 1 _ rfl
  have h2 := hx 2 _ rfl
  rw [szS] at h0 h1 h2
  refine ⟨a0, A1, c1, rfl, h0, ?_, ?_, l1, g1⟩
  · rw [← h1]; congr 1
    unfold Addr.add
    split <;> simp_all <;> omega
  · rw [← h2]; congr 1
    unfold Addr.add
    split <;> simp_all <;> omega
theorem word_eq (x : Int) (h0 : 0 ≤ x) (h1 : x ≤ 4294967295) : ([x % 65536 % 256, x % 65536 / 256, x / 65536 % 256, x / 65536 / 256] : List Int) = wordB x := by
  simp only [wordB, lowI, List.cons.injEq, and_true]
  omega
theorem tab_step (l : List ScT) (i : Nat) (a : Int) (h : i < l.length) : tabB a (l.drop i) = (l.getD i (0, 0, [])).1 :: (l.getD i (0, 0, [])).2.1 :: (wordB a ++ (wordB (l.getD i (0, 0, [])).2.2.length ++ tabB (a + (l.getD i (0, 0, [])).2.2.length) (l.drop (i + 1)))) := by
  rw [List.drop_eq_getElem_cons h, getD_at _ _ h]
  rfl
theorem dat_step (l : List ScT) (i : Nat) (h : i < l.length) : datB (l.drop i) = (l.getD i (0, 0, [])).2.2 ++ datB (l.drop (i + 1)) := by
  rw [List.drop_eq_getElem_cons h, getD_at _ _ h, dat_cons]
theorem secs_len18 {c : CartP} (h : OkC c) : (secs c).length ≤ 18 := by have := bk_len h.bs; rw [secs_len]; omega
set_option maxRecDepth 100000 in
set_option maxHeartbeats 8000000 in
theorem Body {w : World} {A0 A2 A3 : Option Addr} {c0 c2 c3 : Nat} {c : CartP} (h : IsC w A0 c0 A2 c2 A3 c3 c) (hok : OkC c) (hwf : WfC c) :
    Calls Tryd.prog 39 #[crt A0 c0 A2 c2 A3 c3 c] w fun e w' => ∃ v, e = .returned v ∧ Kd.R (Kd.int .u8) 5 w' w.heap.size (fun _ => True) v (bodyB c.entry (secs c)) ∧ Below w.heap.size w w' := by
  have hl18 := secs_len18 hok
  have hdl := secs_dat hok
  have he0 := hwf.e0
  have he1 : c.entry ≤ 65535 := by have := hwf.e1; omega
  have hbody := body_len c.entry (secs c)
  have hBe : Aside0 (bodyB c.entry (secs c) = ([87, 73, 83, 80, 1, ((secs c).length : Int), c.entry % 256, c.entry / 256] : List Int) ++ (tabB (8 + 10 * (secs c).length) (secs c) ++ datB (secs c))) := ⟨rfl⟩
  have hKS := Aside0.mk (fun (W : World) (hb : Below w.heap.size w W) => Sections (h.below hb) hok hwf)
  clear h hok hwf
  unfold crt at hKS ⊢
  generalize c.code.length = n0 at *
  generalize c.efs.length = n2 at *
  generalize c.bks.length = n3 at *
  generalize c.entry = ent at *
  generalize secs c = l at *
  clear c
  obtain ⟨n, hn⟩ : ∃ n, n = l.length := ⟨_, rfl⟩
  obtain ⟨T, hT⟩ : ∃ T, T = bodyB ent l := ⟨_, rfl⟩
  rw [← hT] at hBe hbody ⊢
  rw [← hn] at hl18 hbody hBe hKS
  have hTl : Aside0 (T.length ≤ 400000) := ⟨by omega⟩
  have hDl : Aside0 ((datB l).length ≤ 400000) := ⟨by omega⟩
  have hnn := Aside0.mk hn
  clear hT hn hbody hdl
  have hB0 := Aside0.mk (below_alloc (Below.refl w.heap.size w) (.cells #[.slice A0 n0 c0, .int .u16 ent, .slice A2 n2 c2, .slice A3 n3 c3] 28))
  have hX0 := World.alloc_heap_new w (.cells #[.slice A0 n0 c0, .int .u16 ent, .slice A2 n2 c2, .slice A3 n3 c3] 28)
  have hX := Aside0.mk hX0
  clear hX0
  go_enter Tryd.func39, Tryd.ntmps39
  go_wp2_with (go_at_call 49; go_must (with_reducible refine (hKS.out _ hB0.out).mono ?_); rintro e w1 ⟨A, cl, rfl, hlc, hC1, hb1⟩; refine Hid.out ?_)
  refine Lib.hid ?_
  have hlt1 : w.heap.size < w1.heap.size := by have := hb1.size; simp at this; omega
  have hx1 : w1.heap[w.heap.size]? = some (.cells #[.slice A0 n0 c0, .int .u16 ent, .slice A2 n2 c2, .slice A3 n3 c3] 28 (0, 0)) := (hb1.block _ (by simp)).trans hX.out
  have hbw1 := Aside0.mk (hB0.out.trans (hb1.mono (by simp)))
  have hS := Aside0.mk (show Wst w1 (w1.alloc (.cells #[.slice none 0 0] 51)) w1.heap.size w.heap.size (.cells #[.slice A0 n0 c0, .int .u16 ent, .slice A2 n2 c2, .slice A3 n3 c3] 28 (0, 0)) [] from ⟨(IsW.new w1 w1.heap.size (Nat.le_refl _)).mono (fun k hk _ _ => hk.elim), below_alloc (Below.refl _ _) _, (by rw [← hx1]; exact (below_alloc (Below.refl _ _) _ : Below w1.heap.size w1 _).block _ hlt1), by omega⟩)
  have hCC := Aside0.mk hC1
  have hSl := Aside0.mk (fun (W : World) (xs : List Int) (o : Obj) (hS : Wst w1 W w1.heap.size w.heap.size (.cells #[.slice A0 n0 c0, .int .u16 ent, .slice A2 n2 c2, .slice A3 n3 c3] 28 (0, 0)) xs) => hS)
  clear hC1 hb1 hKS hX hx1 hlc
  have kc := Go.Lib.run_convert_bytes_const (P := Tryd.prog) (w1.alloc (.cells #[.slice none 0 0] 51)) 22 5 #[.int .u8 87, .int .u8 73, .int .u8 83, .int .u8 80] 4 4 Tryd.underlying22 Tryd.underlying5
  rw [World.size_alloc] at kc
  have hL0 := C_lit (fr := (4, 5)) (w1.alloc (.cells #[.slice none 0 0] 51)) [87, 73, 83, 80] 5 (by simp)
  have kB0 := Bytes (c := 4) (ys := [87, 73, 83, 80]) (hS.out.isw.lit (.cells #[.int .u8 87, .int .u8 73, .int .u8 83, .int .u8 80] 5 (4, 5))) (by have := hS.out.le; simp; omega) hL0 (by simp)
  rw [World.size_alloc] at kB0
  have kB := Aside0.mk kB0
  clear hL0 kB0
  have hn256 : ((n : Int) % 256) = (n : Int) := by omega
  have hn25 := Aside0.mk hn256
  clear hn256
  go_wp2_with (first | (go_at_call 19; ((refine kB.out.mono ?_); rintro e w2 ⟨rfl, hW, hF⟩; have hS2 := Aside0.mk (hS.out.step (up hW) (upF hF)); clear hW hF kB)) | (go_at_call 20; ((with_reducible refine (Byte 1 hS2.out.isw hS2.out.le (by simp)).mono ?_); rintro e w3 ⟨rfl, hW, hF⟩; have hS3 := Aside0.mk (hS2.out.step hW hF); clear hW hF)) | (go_at_call 20; ((with_reducible refine (Byte _ hS3.out.isw hS3.out.le (by simp)).mono ?_); rintro e w4 ⟨rfl, hW, hF⟩; have hS4 := Aside0.mk (hS3.out.step hW hF); have q1 := hS4.out.cell rfl 1 rfl; clear hW hF)) | (go_at_call 21; ((with_reducible refine (Cell ent he0 he1 hS4.out.isw hS4.out.le (by simp)).mono ?_); rintro e w5 ⟨rfl, hW, hF⟩; have hS5 := Aside0.mk (hS4.out.step hW hF); clear hW hF)))
  have hT8 : Aside0 ((((([] ++ [87, 73, 83, 80]) ++ [1]) ++ [(n : Int)]) ++ [ent % 256, ent / 256]) ++ (tabB (8 + 10 * (n : Int)) (l.drop 0) ++ datB l) = T) := ⟨by rw [hBe.out]; rfl⟩
  have hI5 := Aside0.mk (hS5.out.isw.mono (ok' := fun k => w1.heap.size < k) (fun k hk _ _ => hk.1))
  have hB5 := Aside0.mk hS5.out.bel
  generalize (((([] ++ [87, 73, 83, 80]) ++ [1]) ++ [(n : Int)]) ++ [ent % 256, ent / 256] : List Int) = xs0 at hT8 hI5
  clear hS hS2 hS3 hS4 hS5 hSl q1 hB0 kc
  go_loopg [5, 35] n (fun gk v5 v35 wr => ∃ (i : Nat) (a : Int) (xs : List Int), v35 = .int .i64 (i : Int) ∧ v5 = .int .i64 a ∧ 0 ≤ a ∧ Aside0 (a + (datB (l.drop i)).length ≤ 800000) ∧ i + gk = n ∧ Aside0 (xs ++ (tabB a (l.drop i) ++ datB l) = T) ∧ Aside0 (IsW wr w1.heap.size (fun k => w1.heap.size < k) w1.heap.size xs) ∧ Aside0 (Below w1.heap.size w1 wr))
  case atStart => exact ⟨0, 8 + 10 * (n : Int), xs0, rfl, rfl, by omega, ⟨by have := hDl.out; rw [List.drop_zero]; omega⟩, by omega, hT8, hI5, hB5⟩
  case round =>
    obtain ⟨i, a, xs, rfl, rfl, ha0, ha1, hi, hT, hW, hB⟩ := hrel
    cases gk with
    | succ k1 =>
      have hd : decide ((i : Int) < (n : Int)) = true := decide_eq_true (by omega)
      have hd' : decide (i < n) = true := decide_eq_true (by omega)
      have hilt : i < l.length := by have := hnn.out; omega
      have hts := tab_step l i a hilt
      have hds := dat_step l i hilt
      have hT0 := hT.out
      have ha2 := ha1.out
      have hlen0 := congrArg List.length hT0
      rw [List.length_append] at hlen0
      have hxl := Aside0.mk (show xs.length ≤ 400000 by have := hTl.out; omega)
      obtain ⟨ad, A1, c1, eA, hx0, hx1, hx2, _, _⟩ := atS hCC.out i (by have := hnn.out; omega)
      subst eA
      generalize l.getD i (0, 0, []) = x at hx0 hx1 hx2 hts hds
      obtain ⟨k, num, d⟩ := x
      dsimp only at hx0 hx1 hx2 hts hds
      rw [hds, List.length_append] at ha2
      rw [hts] at hT0
      obtain ⟨nd, hnd⟩ : ∃ m, m = d.length := ⟨_, rfl⟩
      rw [← hnd] at hx2 hT0 ha2
      have hnd8 : (nd : Int) ≤ 800000 := by omega
      have ha8 : a ≤ 800000 := by omega
      have hT1 := Aside0.mk hT0
      have ha3 := Aside0.mk ha2
      replace hx0 := (hB.out.cell (World.block_lt_of_cell? _ _ hx0)).trans hx0
      replace hx1 := (hB.out.cell (World.block_lt_of_cell? _ _ hx1)).trans hx1
      replace hx2 := (hB.out.cell (World.block_lt_of_cell? _ _ hx2)).trans hx2
      clear hts hds hT hT0 ha1 ha2 hlen0 hnd hilt
      have hS := Aside0.mk (Wst.of (.cells #[.int .u8 k, .int .u8 num, .slice A1 nd c1] 100) hW.out (fun k hk => hk) hB.out)
      go_wp2_with (first | (go_at_call 20; ((with_reducible refine (Byte k hS.out.isw hS.out.le (by have := hxl.out; omega)).mono ?_); rintro e w2 ⟨rfl, hW1, hF1⟩; have hS1 := Aside0.mk (hS.out.step hW1 hF1); have y1 := hS1.out.cell rfl 1 rfl; have y2 := hS1.out.cell rfl 2 rfl; clear hW1 hF1)) | (go_at_call 20; ((with_reducible refine (Byte num hS1.out.isw hS1.out.le (by have := hxl.out; simp; omega)).mono ?_); rintro e w3 ⟨rfl, hW1, hF1⟩; have hS2 := Aside0.mk (hS1.out.step hW1 hF1); have z2 := hS2.out.cell rfl 2 rfl; clear hW1 hF1)) | (go_at_call 22; ((with_reducible refine (Word a ha0 (by omega) hS2.out.isw hS2.out.le (by have := hxl.out; simp; omega)).mono ?_); rintro e w4 ⟨rfl, hW1, hF1⟩; have hS3 := Aside0.mk (hS2.out.step hW1 hF1); have u2 := hS3.out.cell rfl 2 rfl; clear hW1 hF1)) | (go_at_call 22; ((with_reducible refine (Word (nd : Int) (by omega) (by omega) hS3.out.isw hS3.out.le (by have := hxl.out; simp; omega)).mono ?_); rintro e w5 ⟨rfl, hW1, hF1⟩; have hS4 := Aside0.mk (hS3.out.step hW1 hF1); have t2 := hS4.out.cell rfl 2 rfl; clear hW1 hF1)))
      go_roundg k1
      case measure => omega
      case rel =>
        refine ⟨i + 1, a + nd, _, rfl, rfl, by omega, ⟨by have := ha3.out; omega⟩, by omega, ⟨?_⟩, ⟨hS4.out.isw.mono (fun k hk _ _ => hk.1)⟩, ⟨hS4.out.bel⟩⟩
        rw [← hT1.out, word_eq a ha0 (by omega), word_eq (nd : Int) (by omega) (by omega)]
        simp only [List.append_assoc, List.cons_append, List.nil_append]
    | zero =>
      have hd : decide ((i : Int) < (n : Int)) = false := decide_eq_false (by omega)
      have hd' : decide (i < n) = false := decide_eq_false (by omega)
      have hall : l.drop i = [] := List.drop_of_length_le (by have := hnn.out; omega)
      have hT0 := hT.out
      rw [hall] at hT0
      have hT1 : Aside0 (xs ++ datB (l.drop 0) = T) := ⟨hT0⟩
      clear hall hT0 hT ha1
      go_wp2
      clear hi hd hd'
      go_loopg [65] n (fun gk v65 wr => ∃ (i : Nat) (xs : List Int), v65 = .int .i64 (i : Int) ∧ i + gk = n ∧ Aside0 (xs ++ datB (l.drop i) = T) ∧ Aside0 (IsW wr w1.heap.size (fun k => w1.heap.size < k) w1.heap.size xs) ∧ Aside0 (Below w1.heap.size w1 wr))
      case atStart => exact ⟨0, xs, rfl, by omega, hT1, hW, hB⟩
      case round =>
        clear hW hB hT1
        obtain ⟨i, xs, rfl, hi, hT, hW, hB⟩ := hrel
        cases gk with
        | succ k1 =>
          have hd : decide ((i : Int) < (n : Int)) = true := decide_eq_true (by omega)
          have hd' : decide (i < n) = true := decide_eq_true (by omega)
          have hilt : i < l.length := by have := hnn.out; omega
          have hds := dat_step l i hilt
          have hT0 := hT.out
          have hlen0 := congrArg List.length hT0
          rw [List.length_append] at hlen0
          have hxl0 : xs.length ≤ 400000 := by have := hTl.out; omega
          obtain ⟨ad, A1, c1, eA, hx0, hx1, hx2, hx3, hx4⟩ := atS hCC.out i (by have := hnn.out; omega)
          subst eA
          generalize l.getD i (0, 0, []) = x at hx0 hx1 hx2 hx3 hx4 hds
          obtain ⟨k, num, d⟩ := x
          dsimp only at hx0 hx1 hx2 hx3 hx4 hds
          rw [hds] at hT0 hlen0
          rw [List.length_append] at hlen0
          have hdl0 : d.length ≤ 400000 := by have := hTl.out; omega
          have hT1 := Aside0.mk hT0
          replace hx0 := (hB.out.cell (World.block_lt_of_cell? _ _ hx0)).trans hx0
          replace hx1 := (hB.out.cell (World.block_lt_of_cell? _ _ hx1)).trans hx1
          replace hx2 := (hB.out.cell (World.block_lt_of_cell? _ _ hx2)).trans hx2
          have hS := Aside0.mk (Wst.of (.cells #[.int .u8 k, .int .u8 num, .slice A1 d.length c1] 100) hW.out (fun k hk => hk) hB.out)
          have kB := Aside0.mk (Bytes (c := c1) hS.out.isw hS.out.le (Kd.C_below hx4 (hB.out.alloc (Nat.le_of_lt hW.out.lt) (.cells #[.int .u8 k, .int .u8 num, .slice A1 d.length c1] 100))) (by omega))
          obtain ⟨nd, hnd⟩ : ∃ m, m = d.length := ⟨_, rfl⟩
          rw [← hnd] at hx2 kB hS
          clear hds hT hT0 hlen0 hnd hilt hx3 hx4
          go_wp2_with (go_at_call 19; ((with_reducible refine kB.out.mono ?_); rintro e w2 ⟨rfl, hW1, hF1⟩; have hS1 := Aside0.mk (hS.out.step hW1 hF1); clear hW1 hF1))
          go_roundg k1
          case measure => omega
          case rel => exact ⟨i + 1, _, rfl, by omega, ⟨by rw [← hT1.out, List.append_assoc]⟩, ⟨hS1.out.isw.mono (fun k hk _ _ => hk.1)⟩, ⟨hS1.out.bel⟩⟩
        | zero =>
          have hd : decide ((i : Int) < (n : Int)) = false := decide_eq_false (by omega)
          have hd' : decide (i < n) = false := decide_eq_false (by omega)
          have hall : l.drop i = [] := List.drop_of_length_le (by have := hnn.out; omega)
          have hT0 := hT.out
          rw [hall] at hT0
          have hT1 : Aside0 (xs = T) := ⟨by rw [← hT0]; simp [datB]⟩
          clear hall hT0 hT hd hd'
          have kD := Aside0.mk (Done hW.out (by rw [hT1.out]; have := hTl.out; omega))
          go_wp2_with (go_at_call 23; ((with_reducible refine kD.out.mono ?_); rintro e w2 ⟨v, rfl, hR, hb⟩))
          go_ret
          have e := hT1.out
          subst e
          refine ⟨v, rfl, Kd.R_lower hR (by have := hB.out.size; have := hbw1.out.size; omega), ?_⟩
          exact (hbw1.out.trans (hB.out.mono hbw1.out.size)).trans (hb.mono (by have := hB.out.size; have := hbw1.out.size; omega))
end Go.Proofs.YtembdahclmffjaaDoor.Pk
