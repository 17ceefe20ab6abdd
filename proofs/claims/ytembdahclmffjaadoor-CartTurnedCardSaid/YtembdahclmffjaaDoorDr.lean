/- A reader that stands within its bytes; cart.want. -/
import Derived.Test.YtembdahclmffjaaDoorEn
import Derived.WalkLawsBesides
namespace Go.Proofs.YtembdahclmffjaaDoor.Pk
open Go.RowKit Go.Proofs.YtembdahclmffjaaDoorW.PrintWords Go.Proofs.YtembdahclmffjaaDoorW.PrintLast Go.Proofs.YtembdahclmffjaaDoorW.PrintMore Go.Proofs.YtembdahclmffjaaDoor.Mem
set_option linter.unusedVariables false
set_option linter.unusedSimpArgs false
theorem take_in {xs : List Int} {n : Nat} (h : n ≤ xs.length) : takeL xs 0 (n : Int) = xs.take n ∧ leftL xs 0 (n : Int) = xs.drop n ∧ errL xs 0 (n : Int) = 0 := by
  have hc : (0 : Int) = 0 ∧ 0 ≤ (n : Int) ∧ (n : Int) ≤ xs.length := ⟨rfl, by omega, by omega⟩
  refine ⟨(if_pos hc).trans (by rw [Int.toNat_natCast]), (if_pos hc).trans (by rw [Int.toNat_natCast]), if_neg (fun h => h.2 hc.2)⟩
theorem allB_drop {b : List Int} (h : allB b) (p : Nat) : allB (b.drop p) := fun x hx => h x (List.mem_of_mem_drop hx)
theorem allB_take {b : List Int} (h : allB b) (p : Nat) : allB (b.take p) := fun x hx => h x (List.mem_of_mem_take hx)
theorem val1 {b : List Int} {p : Nat} (h : p + 1 ≤ b.length) : valI ((b.drop p).take 1) = b.getD p 0 := by
  rw [drop_getD (show p < b.length by omega)]
  simp [valI]
theorem val2 {b : List Int} {p : Nat} (h : p + 2 ≤ b.length) : valI ((b.drop p).take 2) = low2 b p := by
  rw [drop_getD (show p < b.length by omega), drop_getD (show p + 1 < b.length by omega)]
  simp [valI, low2]
theorem val4 {b : List Int} {p : Nat} (h : p + 4 ≤ b.length) : valI ((b.drop p).take 4) = low4 b p := by
  rw [drop_getD (show p < b.length by omega), drop_getD (show p + 1 < b.length by omega), drop_getD (show p + 1 + 1 < b.length by omega), drop_getD (show p + 1 + 1 + 1 < b.length by omega)]
  simp only [List.take_succ_cons, List.take_zero, valI, low4, Nat.add_assoc, Nat.reduceAdd]
  omega
/-- the reader at g has taken up p bytes of b -/
structure At (W : World) (B : Nat) (ok : Nat → Prop) (g : Nat) (b : List Int) (p : Nat) : Prop where
  r : IsR W B ok g (b.drop p) 0
  bb : allB b
  le : p ≤ b.length
section
variable {w : World} {B g p : Nat} {ok : Nat → Prop} {b : List Int}
theorem At.fr {W' : World} {S : Nat → Prop} (h : At w B ok g b p) (hf : Fr w W' S) (hg : ¬ S g) (hk : ∀ k, ok k → k < w.heap.size → ¬ S k) : At W' B ok g b p := ⟨h.r.fr hf hg hk, h.bb, h.le⟩
theorem At.below {W' : World} (h : At w B ok g b p) (hb : Below w.heap.size w W') : At W' B ok g b p := ⟨h.r.below hb, h.bb, h.le⟩
theorem At.byte (h : At w B ok g b p) (hp : p + 1 ≤ b.length) :
    Calls Tryd.prog 47 #[.pointer (some ⟨g, 0, none⟩)] w fun e w' => e = .returned (.int .u8 (b.getD p 0)) ∧ At w' B ok g b (p + 1) ∧ Fr w w' (fun k => k = g) := by
  obtain ⟨t1, t2, t3⟩ := take_in (xs := b.drop p) (n := 1) (by rw [List.length_drop]; omega)
  refine (RByte h.r).mono fun e w' ⟨he, hR, hF⟩ => ?_
  rw [show ((1 : Nat) : Int) = 1 from rfl] at t1 t2 t3
  rw [t2, t3, List.drop_drop] at hR
  have hB := allB_take (allB_drop h.bb p) 1
  have h9 := getB h.bb p
  unfold isB at h9
  rw [t1, or_val hB (by rw [List.length_take]; omega), val1 hp, Int.emod_eq_of_lt h9.1 h9.2] at he
  exact ⟨he, ⟨hR, h.bb, hp⟩, hF⟩
theorem At.cell (h : At w B ok g b p) (hp : p + 2 ≤ b.length) :
    Calls Tryd.prog 48 #[.pointer (some ⟨g, 0, none⟩)] w fun e w' => e = .returned (.int .u16 (low2 b p)) ∧ At w' B ok g b (p + 2) ∧ Fr w w' (fun k => k = g) := by
  obtain ⟨t1, t2, t3⟩ := take_in (xs := b.drop p) (n := 2) (by rw [List.length_drop]; omega)
  refine (RCell h.r).mono fun e w' ⟨he, hR, hF⟩ => ?_
  rw [show ((2 : Nat) : Int) = 2 from rfl] at t1 t2 t3
  rw [t2, t3, List.drop_drop] at hR
  have hB := allB_take (allB_drop h.bb p) 2
  have h9 := low2_bd h.bb p
  rw [t1, or_val hB (by rw [List.length_take]; omega), val2 hp, IntKind.wrap_u16, Int.emod_eq_of_lt h9.1 h9.2] at he
  exact ⟨he, ⟨hR, h.bb, hp⟩, hF⟩
theorem At.word (h : At w B ok g b p) (hp : p + 4 ≤ b.length) :
    Calls Tryd.prog 33 #[.pointer (some ⟨g, 0, none⟩)] w fun e w' => e = .returned (.int .u32 (low4 b p)) ∧ At w' B ok g b (p + 4) ∧ Fr w w' (fun k => k = g) := by
  obtain ⟨t1, t2, t3⟩ := take_in (xs := b.drop p) (n := 4) (by rw [List.length_drop]; omega)
  refine (RWord h.r).mono fun e w' ⟨he, hR, hF⟩ => ?_
  rw [show ((4 : Nat) : Int) = 4 from rfl] at t1 t2 t3
  rw [t2, t3, List.drop_drop] at hR
  have hB := allB_take (allB_drop h.bb p) 4
  rw [t1, or_val hB (by rw [List.length_take]; omega), val4 hp] at he
  exact ⟨he, ⟨hR, h.bb, hp⟩, hF⟩
theorem At.bytes (h : At w B ok g b p) (x : Int) (n : Nat) (hx : x = (n : Int)) (hp : p + n ≤ b.length) (hl : b.length ≤ 140737488351232) :
    Calls Tryd.prog 46 #[.pointer (some ⟨g, 0, none⟩), .int .i64 x] w fun e w' => ∃ v, e = .returned v ∧ Kd.R (Kd.int .u8) 5 w' w.heap.size (fun _ => True) v ((b.drop p).take n) ∧ At w' B ok g b (p + n) ∧ Fr w w' (fun k => k = g) := by
  subst hx
  obtain ⟨t1, t2, t3⟩ := take_in (xs := b.drop p) (n := n) (by rw [List.length_drop]; omega)
  refine (RBytes (n : Int) h.r (by rw [List.length_drop]; omega)).mono fun e w' ⟨v, he, hV, hR, hF⟩ => ?_
  rw [t2, t3, List.drop_drop] at hR
  rw [t1] at hV
  exact ⟨v, he, hV, ⟨hR, h.bb, hp⟩, hF⟩
end
set_option maxHeartbeats 1000000 in
theorem want_yes (er : Int) (w : World) : Calls Tryd.prog 31 #[.bool true, .int .i64 er] w fun e w' => e = .returned (.tuple #[]) ∧ w = w' := by
  go_enter Tryd.func31, Tryd.ntmps31
  go_wp2
  go_end0
  exact ⟨rfl, rfl⟩
/-- the panic of an error -/
def pnc (er : Int) : List PanicEntry := [{ v := .iface 29 (.int .i64 er), recovered := false }]
set_option maxHeartbeats 1000000 in
theorem want_no (er : Int) (w : World) : Calls Tryd.prog 31 #[.bool false, .int .i64 er] w fun e w' => e = .panicked (pnc er) ∧ w = w' := by
  go_enter Tryd.func31, Tryd.ntmps31
  go_wp2
  exact ⟨rfl, rfl, rfl⟩
end Go.Proofs.YtembdahclmffjaaDoor.Pk
