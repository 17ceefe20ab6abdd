/- The calls of a writer that came in (Put), read. -/
import Derived.Test.YtgnjlgfnpfjjnaaDoorLa
namespace Go.Proofs.YtgnjlgfnpfjjnaaDoor.Pk
open Go.RowKit Go.Proofs.YtgnjlgfnpfjjnaaDoorW.PrintWords Go.Proofs.YtgnjlgfnpfjjnaaDoorW.PrintLast Go.Proofs.YtgnjlgfnpfjjnaaDoorW.PrintMore Go.Proofs.YtgnjlgfnpfjjnaaDoor.Mem
set_option linter.unusedVariables false
set_option linter.unusedSimpArgs false
theorem cell_below {w w' : World} {a : Addr} {v : Value} (hb : Below w.heap.size w w') (h : w.cell? a = some v) : w'.cell? a = some v := (World.cell?_of_block (hb.block _ (World.block_lt_of_cell? _ _ h))).trans h
abbrev PutT := Int × Int × List Int
def kPut : Kd PutT := Kd.pair (Kd.int .i64) (Kd.pair (Kd.int .i64) (Kd.slice 5 (Kd.int .u8)))
theorem at_Put {w : World} {A : Option Addr} {n : Nat} {xs : List PutT} (h : Kd.C kPut w A n xs) (i : Nat) (h1 : i < xs.length) (hn : n = xs.length) :
    ∃ ad A2 c2, A = some ad ∧ w.cell? (ad.add (i * 3)) = some (.int .i64 xs[i].1) ∧ w.cell? ⟨(ad.add (i * 3)).block, (ad.add (i * 3)).off + 1, none⟩ = some (.int .i64 xs[i].2.1) ∧ w.cell? ⟨(ad.add (i * 3)).block, (ad.add (i * 3)).off + 2, none⟩ = some (.slice A2 xs[i].2.2.length c2) ∧ xs[i].2.2.length ≤ c2 ∧ (Kd.int .u8).C w A2 xs[i].2.2.length xs[i].2.2 := by
  obtain ⟨ad, c, e, _, hK, hc0⟩ := Kd.C_get h (0, 0, []) (i : Int) (by omega) (by omega)
  rw [Int.toNat_natCast] at hK hc0
  have hp : xs.getD i (0, 0, []) = xs[i] := by rw [List.getD_eq_getElem?_getD, List.getElem?_eq_getElem h1]; rfl
  rw [hp] at hK
  have hc : ∀ j u, c[j]? = some u → w.cell? (ad.add (i * 3 + j)) = some u := hc0
  obtain ⟨_, _, rfl, rfl, ⟨_, _, rfl, rfl, ⟨A2, c2, rfl, l2, g2⟩⟩⟩ := hK
  exact ⟨ad, A2, c2, e, hc 0 _ rfl, by rw [← add_field _ _ 1 (by omega)]; exact hc 1 _ rfl, by rw [← add_field _ _ 2 (by omega)]; exact hc 2 _ rfl, l2, g2⟩
/-- what the first calls lay down -/
def laysI (ss : List PutT) : List Int := (ss.map fun p => putI p.1 p.2.1 p.2.2).flatten
theorem laysI_take {ss : List PutT} {i : Nat} (h : i < ss.length) : laysI (ss.take (i + 1)) = laysI (ss.take i) ++ putI ss[i].1 ss[i].2.1 ss[i].2.2 := by
  unfold laysI
  rw [List.take_succ_eq_append_getElem h, List.map_append, List.flatten_append]
  simp
theorem putI_len (k n : Int) (bs : List Int) : (putI k n bs).length ≤ bs.length + 5 := by
  unfold putI
  split
  · rw [lowI_len]; omega
  · split
    · rw [lowI_len]; omega
    · split
      · rw [lowI_len]; omega
      · split
        · omega
        · split
          · have : (numOf n).length ≤ 4 + 1 := vl_len 4 _
            omega
          · simp
theorem laysI_len : ∀ (ss : List PutT), (laysI ss).length ≤ (ss.map fun p => p.2.2.length + 5).sum
  | [] => by simp [laysI]
  | p :: ss => by
    have h1 := laysI_len ss
    have h2 := putI_len p.1 p.2.1 p.2.2
    simp only [laysI, List.map_cons, List.flatten_cons, List.length_append, List.sum_cons] at h1 ⊢
    omega
theorem tot_le {ss : List PutT} {i : Nat} (h : i < ss.length) : (laysI (ss.take i)).length + ss[i].2.2.length ≤ (ss.map fun p => p.2.2.length + 5).sum := by
  have h1 := laysI_len (ss.take i)
  have h2 : (ss.map fun p => p.2.2.length + 5).sum = ((ss.take i).map fun p => p.2.2.length + 5).sum + ((ss.drop i).map fun p => p.2.2.length + 5).sum := by
    rw [← List.sum_append, ← List.map_append, List.take_append_drop]
  rw [List.drop_eq_getElem_cons h, List.map_cons, List.sum_cons] at h2
  omega
theorem laysI_drop {ss : List PutT} {N j : Nat} (h : j < ss.length) (hN : j < N) : laysI ((ss.take N).drop j) = putI ss[j].1 ss[j].2.1 ss[j].2.2 ++ laysI ((ss.take N).drop (j + 1)) := by
  have hl : j < (ss.take N).length := by rw [List.length_take]; omega
  rw [List.drop_eq_getElem_cons hl]
  simp [laysI]
end Go.Proofs.YtgnjlgfnpfjjnaaDoor.Pk
