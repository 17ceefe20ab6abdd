/- Cartridges as values: the contracts as the laws' walks use them; the empty cartridge. -/
import Derived.Test.YtembdahclmffjaaDoorDn
import Derived.Test.YtembdahclmffjaaDoorSa
import Derived.Test.YtembdahclmffjaaDoorPx4
namespace Go.Proofs.YtembdahclmffjaaDoor.Pk
open Go.RowKit Go.Proofs.YtembdahclmffjaaDoorW.PrintWords Go.Proofs.YtembdahclmffjaaDoorW.PrintLast Go.Proofs.YtembdahclmffjaaDoorW.PrintMore Go.Proofs.YtembdahclmffjaaDoor.Mem
set_option linter.unusedVariables false
set_option linter.unusedSimpArgs false
theorem C_non {α : Type} (d : Kd α) (w : World) : d.C w none 0 [] := ⟨rfl, by decide, fun h => absurd h (by omega)⟩
theorem IsC0 (w : World) : IsC w none 0 none 0 none 0 z0 := ⟨C_non _ w, C_non _ w, C_non _ w, Nat.le_refl _, Nat.le_refl _, Nat.le_refl _⟩
theorem ok0 : OkC z0 := ⟨rfl, by decide, by decide, fun i h => absurd h (by simp [z0]), fun i h => absurd h (by simp [z0])⟩
theorem wf0 : WfC z0 := ⟨fun x h => by simp [z0] at h, by decide, by decide, fun x h => by simp [z0] at h, fun x h => by simp [z0] at h⟩
set_option maxRecDepth 100000 in
theorem tiny0 : P.wisplaw07_tiny.f 400 = some (encB z0) := by decide +kernel
/-- a cartridge in memory -/
def CtV (w : World) (v : Value) (c : CartP) : Prop := ∃ A0 c0 A2 c2 A3 c3, v = crt A0 c0 A2 c2 A3 c3 c ∧ IsC w A0 c0 A2 c2 A3 c3 c
theorem CtV.below {w w' : World} {v : Value} {c : CartP} (h : CtV w v c) (hb : Below w.heap.size w w') : CtV w' v c := by
  obtain ⟨A0, c0, A2, c2, A3, c3, e, hI⟩ := h
  exact ⟨A0, c0, A2, c2, A3, c3, e, hI.below hb⟩
theorem CtV.agg {w : World} {v : Value} {c : CartP} (h : CtV w v c) : ∃ x0 x1 x2 x3, v = .agg #[x0, x1, x2, x3] := by
  obtain ⟨A0, c0, A2, c2, A3, c3, e, hI⟩ := h
  exact ⟨_, _, _, _, e⟩
theorem Ct0 (w : World) : CtV w (.agg #[.slice none 0 0, .int .u16 0, .slice none 0 0, .slice none 0 0]) z0 := ⟨_, _, _, _, _, _, rfl, IsC0 w⟩
theorem kSame {w : World} {u v : Value} {c : CartP} (h1 : CtV w u c) (h2 : CtV w v c) (he : c.efs.length < 4611686018427387904) (hb : c.bks.length < 4611686018427387904) :
    Calls Tryd.prog 12 #[u, v] w fun e w' => e = .returned (.bool true) ∧ Below w.heap.size w w' := by
  obtain ⟨A0, c0, A2, c2, A3, c3, rfl, h1⟩ := h1
  obtain ⟨B0, d0, B2, d2, B3, d3, rfl, h2⟩ := h2
  exact Same_true h1 h2 he hb
theorem kChk {w : World} {u : Value} {c : CartP} (h1 : CtV w u c) (he : c.efs.length < 4611686018427387904) (hb : c.bks.length < 4611686018427387904) :
    Calls Tryd.prog 17 #[u] w fun e w' => e = .returned (.int .i64 (chk c)) ∧ Below w.heap.size w w' := by
  obtain ⟨A0, c0, A2, c2, A3, c3, rfl, h1⟩ := h1
  exact Check h1 he hb
theorem kEnc {w : World} {u : Value} {c : CartP} (hT : Tab w) (h1 : CtV w u c) (hok : OkC c) (hwf : WfC c) :
    Calls Tryd.prog 16 #[u] w fun e w' => ∃ A n k, e = .returned (.tuple #[.slice A n k, .int .i64 0]) ∧ n = (encB c).length ∧ n ≤ k ∧ Kd.R (Kd.int .u8) 5 w' w.heap.size (fun _ => True) (.slice A n k) (encB c) ∧ Kd.C (Kd.int .u8) w' A n (encB c) ∧ Below w.heap.size w w' := by
  obtain ⟨A0, c0, A2, c2, A3, c3, rfl, h1⟩ := h1
  refine (Encode_ok hT h1 hok hwf).mono ?_
  rintro e w' ⟨v, rfl, hR, hb⟩
  obtain ⟨A, k, rfl, hk, hC⟩ := Kd.R_reads hR
  exact ⟨A, _, k, rfl, rfl, hk, hR, hC, hb⟩
theorem kEncB {w : World} {u : Value} {c : CartP} (h1 : CtV w u c) (hok : ¬ OkC c) (he : c.efs.length < 4611686018427387904) (hb : c.bks.length < 4611686018427387904) :
    Calls Tryd.prog 16 #[u] w fun e w' => e = .returned (.tuple #[.slice none 0 0, .int .i64 74]) ∧ Below w.heap.size w w' := by
  obtain ⟨A0, c0, A2, c2, A3, c3, rfl, h1⟩ := h1
  exact Encode_bad h1 hok he hb
theorem kTiny (w : World) :
    Calls Tryd.prog 38 #[] w fun e w' => ∃ A n k, e = .returned (.slice A n k) ∧ n = (encB z0).length ∧ n ≤ k ∧ Kd.C (Kd.int .u8) w' A n (encB z0) ∧ Below w.heap.size w w' := by
  refine (P.wisplaw07_tiny.calls 400 (encB z0) w tiny0).mono ?_
  rintro e w' ⟨v, rfl, hR, hb⟩
  obtain ⟨A, k, rfl, hk, hC⟩ := Kd.R_reads hR
  exact ⟨A, _, k, rfl, rfl, hk, hC, hb⟩
theorem kDec {w : World} {A : Option Addr} {n k : Nat} {b : List Int} {c : CartP} (hn : n = b.length) (hk : n ≤ k) (hT : Tab w) (hC : Kd.C (Kd.int .u8) w A n b) (hB : allB b) (hl : n ≤ 140737488355328) (hD : decB b = (c, 0)) :
    Calls Tryd.prog 9 #[.slice A n k] w fun e w' => ∃ B0 n0 k0 y B2 n2 k2 B3 n3 k3, e = .returned (.tuple #[.agg #[.slice B0 n0 k0, .int .u16 y, .slice B2 n2 k2, .slice B3 n3 k3], .int .i64 0]) ∧ CtV w' (.agg #[.slice B0 n0 k0, .int .u16 y, .slice B2 n2 k2, .slice B3 n3 k3]) c ∧ Below w.heap.size w w' := by
  subst hn
  refine (Decode hT hC hk hB hl).mono ?_
  rintro e w' ⟨hb, v, rfl, h1, h2⟩
  rw [hD] at h1 ⊢
  obtain ⟨A0, c0, A2, c2, A3, c3, g3, V, base, _, rfl, hI, _⟩ := (h1 rfl).ex
  exact ⟨_, _, _, _, _, _, _, _, _, _, rfl, ⟨_, _, _, _, _, _, rfl, hI⟩, hb⟩
theorem kDecE {w : World} {A : Option Addr} {n k : Nat} {b : List Int} {er : Int} (hn : n = b.length) (hk : n ≤ k) (hT : Tab w) (hC : Kd.C (Kd.int .u8) w A n b) (hB : allB b) (hl : n ≤ 140737488355328) (hD : (decB b).2 = er) (hne : er ≠ 0) :
    Calls Tryd.prog 9 #[.slice A n k] w fun e w' => e = .returned (.tuple #[.agg #[.slice none 0 0, .int .u16 0, .slice none 0 0, .slice none 0 0], .int .i64 er]) ∧ Below w.heap.size w w' := by
  subst hn
  refine (Decode hT hC hk hB hl).mono ?_
  rintro e w' ⟨hb, v, rfl, h1, h2⟩
  rw [hD] at h2
  rw [h2 hne, hD]
  exact ⟨rfl, hb⟩
theorem kNum (w : World) (x : Int) : Calls Tryd.prog 11 #[.int .i64 x] w fun e w' => e = .returned (.int .i64 x) ∧ Below w.heap.size w w' := by
  go_enter Tryd.func11, Tryd.ntmps11
  go_wp2
  go_ret
  exact ⟨rfl, Below.refl _ _⟩
theorem boxed (X : World) (x0 x1 x2 x3 : Value) : Below X.heap.size X (((((X.alloc (.cells #[.slice none 0 0, .int .u16 0, .slice none 0 0, .slice none 0 0] 28)).setCell ⟨X.heap.size, 0, none⟩ x0).setCell ⟨X.heap.size, 1, none⟩ x1).setCell ⟨X.heap.size, 2, none⟩ x2).setCell ⟨X.heap.size, 3, none⟩ x3) ∧ (((((X.alloc (.cells #[.slice none 0 0, .int .u16 0, .slice none 0 0, .slice none 0 0] 28)).setCell ⟨X.heap.size, 0, none⟩ x0).setCell ⟨X.heap.size, 1, none⟩ x1).setCell ⟨X.heap.size, 2, none⟩ x2).setCell ⟨X.heap.size, 3, none⟩ x3).heap[X.heap.size]? = some (.cells #[x0, x1, x2, x3] 28 (0, 0)) := by
  have h1 := below_alloc (Below.refl X.heap.size X) (.cells #[.slice none 0 0, .int .u16 0, .slice none 0 0, .slice none 0 0] 28)
  exact ⟨h1.trans ((put4F _ X.heap.size x0 x1 x2 x3).below h1.size (fun k hk e => by omega)), put4 (World.alloc_heap_new X _) x0 x1 x2 x3⟩
end Go.Proofs.YtembdahclmffjaaDoor.Pk
