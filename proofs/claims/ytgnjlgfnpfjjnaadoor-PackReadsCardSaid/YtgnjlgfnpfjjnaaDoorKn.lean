/- wisplaw03.known: the calls whose answers the document fixes come to true. -/
import Derived.Test.YtgnjlgfnpfjjnaaDoorSm
import Derived.Lib.SlBytesConst
namespace Go.Proofs.YtgnjlgfnpfjjnaaDoor.Pk
open Go.RowKit Go.Proofs.YtgnjlgfnpfjjnaaDoorW.PrintWords Go.Proofs.YtgnjlgfnpfjjnaaDoorW.PrintLast Go.Proofs.YtgnjlgfnpfjjnaaDoorW.PrintMore Go.Proofs.YtgnjlgfnpfjjnaaDoor.Mem
set_option linter.unusedVariables false
set_option linter.unusedSimpArgs false
/-- one part alone -/
theorem C_one {w : World} {A : Option Addr} {c : Nat} {xs : List Int} (t : TypeId) (hl : xs.length ≤ c) (hC : Kd.C (Kd.int .u8) w A xs.length xs) : Kd.C (Kd.slice 5 (Kd.int .u8)) (w.alloc (.cells #[.slice A xs.length c] t)) (some ⟨w.heap.size, 0, none⟩) [xs].length [xs] := by
  refine ⟨rfl, by simp, fun hn => ⟨_, rfl, fun j p hj => ?_⟩⟩
  have hj0 : j = 0 := by
    have := (List.getElem?_eq_some_iff.1 hj).1
    simpa using this
  subst hj0
  simp at hj
  subst hj
  refine ⟨[.slice A xs.length c], rfl, ⟨A, c, rfl, hl, Kd.C_below hC (below_alloc (Below.refl _ _) _)⟩, fun i u hu => ?_⟩
  have hi0 : i = 0 := by
    have := (List.getElem?_eq_some_iff.1 hu).1
    simpa using this
  subst hi0
  simp at hu
  subst hu
  have hh := World.alloc_heap_new w (.cells #[.slice A xs.length c] t)
  rw [add_plain]
  simp only [World.cell?, hh]
  simp
theorem num300 : numOf 300 = [172, 2] := by decide +kernel
theorem read300 : numF [172, 2] 0 = (300, 0, 2) := by decide +kernel
theorem sum9 : sumI [[49, 50, 51, 52, 53, 54, 55, 56, 57]] = 3421780262 := by decide +kernel
/-- the world behind the worked example's literals -/
abbrev w9 (w : World) : World := (w.alloc (.cells #[.int .u8 49, .int .u8 50, .int .u8 51, .int .u8 52, .int .u8 53, .int .u8 54, .int .u8 55, .int .u8 56, .int .u8 57] 5 (9, 10))).alloc (.cells #[.slice (some ⟨w.heap.size, 0, none⟩) 9 9] 23)
theorem sum9_calls {w : World} (hT : Tab w) : Calls Tryd.prog 10 #[.slice (some ⟨w.heap.size + 1, 0, none⟩) 1 1] (w9 w) fun e w' => e = .returned (.int .u32 3421780262) ∧ w9 w = w' := by
  have hC : Kd.C (Kd.int .u8) (w.alloc (.cells #[.int .u8 49, .int .u8 50, .int .u8 51, .int .u8 52, .int .u8 53, .int .u8 54, .int .u8 55, .int .u8 56, .int .u8 57] 5 (9, 10))) (some ⟨w.heap.size, 0, none⟩) [49, 50, 51, 52, 53, 54, 55, 56, 57].length [49, 50, 51, 52, 53, 54, 55, 56, 57] := C_lit w [49, 50, 51, 52, 53, 54, 55, 56, 57] 5 (by simp)
  have h1 := C_one (c := 9) 23 (by simp) hC
  rw [World.size_alloc] at h1
  have h2 := Sum (c := 1) (hT.below (below_alloc (below_alloc (Below.refl _ _) _) _)) h1
  rw [sum9] at h2
  exact h2
set_option maxHeartbeats 1000000 in
theorem num (x : Int) (w : World) : Calls Tryd.prog 22 #[.int .i64 x] w fun e w' => e = .returned (.int .i64 x) ∧ w = w' := by
  go_enter Tryd.func22, Tryd.ntmps22
  go_wp2
  go_ret
  exact ⟨rfl, rfl⟩
theorem str2 : (strOfNums [172, 2]).toList = ([172, 2] : List UInt8) := by decide +kernel
set_option maxRecDepth 100000 in
set_option maxHeartbeats 4000000 in
theorem known {w : World} (hT : Tab w) : Calls Tryd.prog 13 #[] w fun e w' => e = .returned (.bool true) ∧ Below w.heap.size w w' := by
  have hTT := Aside0.mk hT
  have hW0 := Aside0.mk (IsW.new w w.heap.size (Nat.le_refl _))
  have h0 := hT.1
  clear hT
  have kc := fun (w : World) (C : Array Value) (n c : Nat) => Go.Lib.run_convert_bytes_const (P := Tryd.prog) w 23 5 C n c Tryd.underlying23 Tryd.underlying5
  go_enter Tryd.func13, Tryd.ntmps13
  go_wp2_with (go_at_call 18; go_must (with_reducible refine (Number 300 hW0.out (by simp) (by simp)).mono ?_); rintro e w1 ⟨rfl, hW, hF⟩; have hW1 := Aside0.mk (hW.mono (ok' := fun k => k < w1.heap.size) (fun k _ _ h => h)); have hs1 := hF.size; have hB1 := Aside0.mk (below_alloc (Below.refl w.heap.size w) (.cells #[.slice none 0 0] 36) |>.trans (hF.below (B := w.heap.size) (by simp) (by simp; omega))); clear hW hF hW0)
  rw [World.size_alloc] at hs1
  go_wp2_with (go_at_call 20; go_must (refine (NewReader (c := 2) (C_lit w1 [172, 2] 5 (by simp)) (by simp)).mono ?_); rintro e w2 ⟨gr, rfl, hR, hb⟩; have hR2 := Aside0.mk hR; have hb2 := Aside0.mk hb; have hgr := hR.base; clear hR hb)
  rw [World.size_alloc] at hgr
  go_wp2_with (go_at_call 27; go_must (with_reducible refine (RNumber hR2.out).mono ?_); rintro e w3 ⟨rfl, hR, hF⟩; have hR3 := Aside0.mk hR; have hF3 := Aside0.mk hF; clear hR hF; rw [read300])
  have hbL : Below w1.heap.size w1 w2 := (below_alloc (Below.refl w1.heap.size w1) _).trans (hb2.out.mono (by simp))
  have hW3 := Aside0.mk ((hW1.out.below hbL).fr hF3.out (by omega) (fun k hk _ => by omega))
  have hB3 := Aside0.mk ((hB1.out.trans (hbL.mono (by omega))).trans (hF3.out.below (B := w.heap.size) (by have := hbL.size; omega) (by omega)))
  have hs3 := Nat.le_trans hbL.size hF3.out.size
  have hT3 := Aside0.mk (hTT.out.below hB3.out)
  clear hbL hW1 hB1 hb2 hF3 hTT hR2
  rw [num300] at hW3
  have hd1 : ((3421780262 : Int) == 3421780262) = true := rfl
  go_wp2_with (go_at_call 10; go_must (with_reducible refine (sum9_calls hT3.out).mono ?_); rintro e w4 ⟨rfl, rfl⟩)
  have hs2 : ((strOfNums [172, 2]).toList == ([172, 2] : List UInt8)) = true := by rw [str2]; rfl
  go_wp2_with (go_at_call 15; go_must (with_reducible refine (Done ((hW3.out.lit _).lit _) (by simp)).mono ?_); rintro e w4 ⟨v, rfl, hR, hb⟩; obtain ⟨A1, c1, rfl⟩ := Kd.R_slice hR; have hcv := Kd.C_string (P := Tryd.prog) (A := A1) (n := 2) (c := c1) (xs := [172, 2]) Tryd.underlying23 Tryd.underlying5 Tryd.underlying9 (Kd.R_reads' hR).2.2; have hb4 := Aside0.mk hb; clear hR hb)
  have hb9 : Below w3.heap.size w3 w4 := (below_alloc (below_alloc (Below.refl _ _) _) _ : Below w3.heap.size w3 (w9 w3)).trans (hb4.out.mono (by simp; omega))
  have hR4 := Aside0.mk (hR3.out.below hb9)
  have hB4 := Aside0.mk (hB3.out.trans (hb9.mono (by omega)))
  clear hb9 hb4
  rw [read300] at hR4
  go_wp2_with (first | (go_at_call 23; go_must (with_reducible refine (RErr hR4.out).mono ?_); rintro e w5 ⟨rfl, rfl⟩) | (go_at_call 22; go_must (with_reducible refine (num _ _).mono ?_); rintro e w5 ⟨rfl, rfl⟩))
  go_ret
  exact ⟨rfl, hB4.out⟩
end Go.Proofs.YtgnjlgfnpfjjnaaDoor.Pk
