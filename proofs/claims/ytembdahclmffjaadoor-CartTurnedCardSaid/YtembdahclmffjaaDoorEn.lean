/- cart.Encode, cart.Sum: the walks. -/
import Derived.Test.YtembdahclmffjaaDoorBo
import Derived.Test.YtembdahclmffjaaDoorZa
namespace Go.Proofs.YtembdahclmffjaaDoor.Pk
open Go.RowKit Go.Proofs.YtembdahclmffjaaDoorW.PrintWords Go.Proofs.YtembdahclmffjaaDoorW.PrintLast Go.Proofs.YtembdahclmffjaaDoorW.PrintMore Go.Proofs.YtembdahclmffjaaDoor.Mem
set_option linter.unusedVariables false
set_option linter.unusedSimpArgs false
/-- the sum of one row -/
theorem sum_one_call {w : World} {A : Option Addr} {c : Nat} {xs : List Int} (hT : Tab w) (hl : xs.length ≤ c) (hC : Kd.C (Kd.int .u8) w A xs.length xs) :
    Calls Tryd.prog 18 #[.slice (some ⟨w.heap.size, 0, none⟩) 1 1] (w.alloc (.cells #[.slice A xs.length c] 22)) fun e w' => e = .returned (.int .u32 (sumI [xs])) ∧ w.alloc (.cells #[.slice A xs.length c] 22) = w' :=
  Sum (c := 1) (hT.below (below_alloc (Below.refl _ _) _)) (C_one (c := c) 22 hl hC)
theorem chk_ok {c : CartP} (h : OkC c) : chk c = 0 := if_pos h
theorem chk_bad {c : CartP} (h : ¬ OkC c) : chk c = 74 := if_neg h
set_option maxRecDepth 100000 in
set_option maxHeartbeats 4000000 in
theorem Encode_bad {w : World} {A0 A2 A3 : Option Addr} {c0 c2 c3 : Nat} {c : CartP} (h : IsC w A0 c0 A2 c2 A3 c3 c) (hok : ¬ OkC c) (he : c.efs.length < 4611686018427387904) (hb : c.bks.length < 4611686018427387904) :
    Calls Tryd.prog 16 #[crt A0 c0 A2 c2 A3 c3 c] w fun e w' => e = .returned (.tuple #[.slice none 0 0, .int .i64 74]) ∧ Below w.heap.size w w' := by
  have hK := Aside0.mk (fun (W : World) (hb1 : Below w.heap.size w W) => Check (h.below hb1) he hb)
  have hc := chk_bad hok
  rw [hc] at hK
  clear h hok he hb hc
  unfold crt at hK ⊢
  have hB0 := Aside0.mk (below_alloc (Below.refl w.heap.size w) (.cells #[.slice A0 c.code.length c0, .int .u16 c.entry, .slice A2 c.efs.length c2, .slice A3 c.bks.length c3] 28))
  generalize c.code.length = n0 at *
  generalize c.efs.length = n2 at *
  generalize c.bks.length = n3 at *
  generalize c.entry = ent at *
  go_enter Tryd.func16, Tryd.ntmps16
  go_wp2_with (go_at_call 17; go_must (with_reducible refine (hK.out _ hB0.out).mono ?_); rintro e w1 ⟨rfl, hb1⟩)
  go_ret2
  exact ⟨rfl, hB0.out.trans (hb1.mono (by simp))⟩
set_option maxRecDepth 100000 in
set_option maxHeartbeats 4000000 in
theorem CSum_bad {w : World} {A0 A2 A3 : Option Addr} {c0 c2 c3 : Nat} {c : CartP} (h : IsC w A0 c0 A2 c2 A3 c3 c) (hok : ¬ OkC c) (he : c.efs.length < 4611686018427387904) (hb : c.bks.length < 4611686018427387904) :
    Calls Tryd.prog 26 #[crt A0 c0 A2 c2 A3 c3 c] w fun e w' => e = .returned (.tuple #[.int .u32 0, .int .i64 74]) ∧ Below w.heap.size w w' := by
  have hK := Aside0.mk (fun (W : World) (hb1 : Below w.heap.size w W) => Check (h.below hb1) he hb)
  have hc := chk_bad hok
  rw [hc] at hK
  clear h hok he hb hc
  unfold crt at hK ⊢
  have hB0 := Aside0.mk (below_alloc (Below.refl w.heap.size w) (.cells #[.slice A0 c.code.length c0, .int .u16 c.entry, .slice A2 c.efs.length c2, .slice A3 c.bks.length c3] 28))
  generalize c.code.length = n0 at *
  generalize c.efs.length = n2 at *
  generalize c.bks.length = n3 at *
  generalize c.entry = ent at *
  go_enter Tryd.func26, Tryd.ntmps26
  go_wp2_with (go_at_call 17; go_must (with_reducible refine (hK.out _ hB0.out).mono ?_); rintro e w1 ⟨rfl, hb1⟩)
  go_ret2
  exact ⟨rfl, hB0.out.trans (hb1.mono (by simp))⟩
set_option maxRecDepth 100000 in
set_option maxHeartbeats 4000000 in
theorem CSum_ok {w : World} {A0 A2 A3 : Option Addr} {c0 c2 c3 : Nat} {c : CartP} (hT : Tab w) (h : IsC w A0 c0 A2 c2 A3 c3 c) (hok : OkC c) (hwf : WfC c) :
    Calls Tryd.prog 26 #[crt A0 c0 A2 c2 A3 c3 c] w fun e w' => e = .returned (.tuple #[.int .u32 (sumI [bodyB c.entry (secs c)]), .int .i64 0]) ∧ Below w.heap.size w w' := by
  have hK := Aside0.mk (fun (W : World) (hb1 : Below w.heap.size w W) => Check (h.below hb1) (by have := hok.el; omega) (by have := bk_len hok.bs; omega))
  have hKB := Aside0.mk (fun (W : World) (hb1 : Below w.heap.size w W) => Body (h.below hb1) hok hwf)
  have hc := chk_ok hok
  rw [hc] at hK
  have hTT := Aside0.mk hT
  clear h hok hwf hc hT
  unfold crt at hK hKB ⊢
  have hB0 := Aside0.mk (below_alloc (Below.refl w.heap.size w) (.cells #[.slice A0 c.code.length c0, .int .u16 c.entry, .slice A2 c.efs.length c2, .slice A3 c.bks.length c3] 28))
  have hX := Aside0.mk (World.alloc_heap_new w (.cells #[.slice A0 c.code.length c0, .int .u16 c.entry, .slice A2 c.efs.length c2, .slice A3 c.bks.length c3] 28))
  obtain ⟨T, hTe⟩ : ∃ T, T = bodyB c.entry (secs c) := ⟨_, rfl⟩
  rw [← hTe] at hKB ⊢
  clear hTe
  generalize c.code.length = n0 at *
  generalize c.efs.length = n2 at *
  generalize c.bks.length = n3 at *
  generalize c.entry = ent at *
  go_enter Tryd.func26, Tryd.ntmps26
  go_wp2_with (first | (go_at_call 17; ((with_reducible refine (hK.out _ hB0.out).mono ?_); rintro e w1 ⟨rfl, hb1⟩; have hx1 := (hb1.block _ (by simp)).trans hX.out; have q0 : w1.cell? ⟨w.heap.size, 0, none⟩ = some (.slice A0 n0 c0) := (by simp [World.cell?, hx1]); have q1 : w1.cell? ⟨w.heap.size, 1, none⟩ = some (.int .u16 ent) := (by simp [World.cell?, hx1]); have q2 : w1.cell? ⟨w.heap.size, 2, none⟩ = some (.slice A2 n2 c2) := (by simp [World.cell?, hx1]); have q3 : w1.cell? ⟨w.heap.size, 3, none⟩ = some (.slice A3 n3 c3) := (by simp [World.cell?, hx1]); have hB1 := Aside0.mk (hB0.out.trans (hb1.mono (by simp))); clear hb1 hx1)) | (go_at_call 39; ((with_reducible refine (hKB.out _ hB1.out).mono ?_); rintro e w2 ⟨v, rfl, hR, hb2⟩; have hB2 := Aside0.mk (hB1.out.trans (hb2.mono hB1.out.size)); obtain ⟨A9, c9, rfl, hl9, hC9⟩ := Kd.R_reads hR; have kS := Aside0.mk (sum_one_call (hTT.out.below hB2.out) hl9 hC9); clear hR hb2 hl9 hC9)) | (go_at_call 18; ((with_reducible refine kS.out.mono ?_); rintro e w3 ⟨rfl, rfl⟩)))
  go_ret2
  exact ⟨rfl, below_alloc hB2.out _⟩
set_option maxRecDepth 100000 in
set_option maxHeartbeats 4000000 in
theorem Encode_ok {w : World} {A0 A2 A3 : Option Addr} {c0 c2 c3 : Nat} {c : CartP} (hT : Tab w) (h : IsC w A0 c0 A2 c2 A3 c3 c) (hok : OkC c) (hwf : WfC c) :
    Calls Tryd.prog 16 #[crt A0 c0 A2 c2 A3 c3 c] w fun e w' => ∃ v, e = .returned (.tuple #[v, .int .i64 0]) ∧ Kd.R (Kd.int .u8) 5 w' w.heap.size (fun _ => True) v (encB c) ∧ Below w.heap.size w w' := by
  have hK := Aside0.mk (fun (W : World) (hb1 : Below w.heap.size w W) => Check (h.below hb1) (by have := hok.el; omega) (by have := bk_len hok.bs; omega))
  have hKB := Aside0.mk (fun (W : World) (hb1 : Below w.heap.size w W) => Body (h.below hb1) hok hwf)
  have hc := chk_ok hok
  rw [hc] at hK
  have hTT := Aside0.mk hT
  have hbl := body_len c.entry (secs c)
  have hsl := secs_len18 hok
  have hsd := secs_dat hok
  clear h hok hwf hc hT
  unfold crt at hK hKB ⊢
  have hB0 := Aside0.mk (below_alloc (Below.refl w.heap.size w) (.cells #[.slice A0 c.code.length c0, .int .u16 c.entry, .slice A2 c.efs.length c2, .slice A3 c.bks.length c3] 28))
  have hX := Aside0.mk (World.alloc_heap_new w (.cells #[.slice A0 c.code.length c0, .int .u16 c.entry, .slice A2 c.efs.length c2, .slice A3 c.bks.length c3] 28))
  obtain ⟨T, hTe⟩ : ∃ T, T = bodyB c.entry (secs c) := ⟨_, rfl⟩
  have hE : Aside0 (encB c = T ++ wordB (sumI [T])) := ⟨by rw [hTe]; rfl⟩
  rw [← hTe] at hKB hbl
  have hTl : Aside0 (T.length ≤ 400000) := ⟨by omega⟩
  have hSb := sum_bd [T]
  obtain ⟨S, hS⟩ : ∃ S, S = sumI [T] := ⟨_, rfl⟩
  rw [← hS] at hE hSb
  have hSS := Aside0.mk hS
  have s0 := hSb.1
  have s1 : S ≤ 4294967295 := by have := hSb.2; omega
  obtain ⟨E, hEE⟩ : ∃ E, E = encB c := ⟨_, rfl⟩
  rw [← hEE] at hE ⊢
  clear hTe hbl hsl hsd hSb hS hEE
  generalize c.code.length = n0 at *
  generalize c.efs.length = n2 at *
  generalize c.bks.length = n3 at *
  generalize c.entry = ent at *
  go_enter Tryd.func16, Tryd.ntmps16
  go_wp2_with (first | (go_at_call 17; ((with_reducible refine (hK.out _ hB0.out).mono ?_); rintro e w1 ⟨rfl, hb1⟩; have hx1 := (hb1.block _ (by simp)).trans hX.out; have q0 : w1.cell? ⟨w.heap.size, 0, none⟩ = some (.slice A0 n0 c0) := (by simp [World.cell?, hx1]); have q1 : w1.cell? ⟨w.heap.size, 1, none⟩ = some (.int .u16 ent) := (by simp [World.cell?, hx1]); have q2 : w1.cell? ⟨w.heap.size, 2, none⟩ = some (.slice A2 n2 c2) := (by simp [World.cell?, hx1]); have q3 : w1.cell? ⟨w.heap.size, 3, none⟩ = some (.slice A3 n3 c3) := (by simp [World.cell?, hx1]); have hB1 := Aside0.mk (hB0.out.trans (hb1.mono (by simp))); have hlt1 : w.heap.size < w1.heap.size := (by have := hb1.size; simp at this; omega); have hBw := Aside0.mk (below_alloc hB1.out (.cells #[.slice none 0 0] 51)); have hI := Aside0.mk (IsW.new w1 w1.heap.size (Nat.le_refl _)); clear hb1 hx1)) | (go_at_call 39; ((with_reducible refine (hKB.out _ hBw.out).mono ?_); rintro e w2 ⟨v, rfl, hR, hb2⟩; have hB2 := Aside0.mk (hBw.out.trans (hb2.mono hBw.out.size)); have hI2 := Aside0.mk (hI.out.below hb2); obtain ⟨A9, c9, rfl, hl9, hC9⟩ := Kd.R_reads hR; have kY := Aside0.mk (Bytes (c := c9) hI2.out (Nat.le_of_lt hI2.out.lt) hC9 (by have := hTl.out; simp; omega)); have hR2 := Aside0.mk (Kd.R_mono (ok' := fun k => w1.heap.size + 1 ≤ k) (Kd.R_bound hR) (fun k hk => by have := hk.2.1; simp at this; exact this)); have hgs := (by have := hb2.size; simp at this; exact this : w1.heap.size + 1 ≤ w2.heap.size); clear hR hb2 hC9)) | (go_at_call 19; ((with_reducible refine kY.out.mono ?_); rintro e w3 ⟨rfl, hW, hF⟩; have hR3 := Kd.R_reads' (hF.row hR2.out (fun k hk _ hs => by rcases hs with e | e; omega; exact e)); have hB3 := Aside0.mk (hB2.out.trans (hF.below (B := w.heap.size) (by omega) (fun k hk hs => by rcases hs with e | e; omega; exact e))); have kS := Aside0.mk (sum_one_call (hTT.out.below hB3.out) hR3.2.1 hR3.2.2); rw [← hSS.out] at kS; have hI3 := Aside0.mk (hW.lit (.cells #[.slice A9 T.length c9] 22)); have hs3 := hF.size; clear hW hF hR3)) | (go_at_call 18; ((with_reducible refine kS.out.mono ?_); rintro e w4 ⟨rfl, rfl⟩)) | (go_at_call 22; ((with_reducible refine (Word S s0 s1 hI3.out (Nat.le_of_lt hI3.out.lt) (by have := hTl.out; simp; omega)).mono ?_); rintro e w5 ⟨rfl, hW, hF⟩; have hB5 := Aside0.mk ((below_alloc hB3.out _).trans (hF.below (B := w.heap.size) (by simp; omega) (fun k hk hs => by rcases hs with e | e | e; omega; exact e; omega))); have kD := Aside0.mk (Done hW (by have := hTl.out; simp; omega)); clear hW hF)) | (go_at_call 23; ((with_reducible refine kD.out.mono ?_); rintro e w6 ⟨v6, rfl, hR, hb6⟩)))
  go_ret2
  refine ⟨v6, rfl, ?_, hB5.out.trans (hb6.mono hB5.out.size)⟩
  have h9 := Kd.R_lower hR hB5.out.size
  rw [hE.out, ← word_eq S s0 s1]
  simpa using h9
end Go.Proofs.YtembdahclmffjaaDoor.Pk
