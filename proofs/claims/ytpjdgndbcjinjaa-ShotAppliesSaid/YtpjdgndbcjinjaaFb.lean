/- Rows that were made one behind the other: Apart of a literal of them. -/
import Derived.Test.YtpjdgndbcjinjaaApV
namespace Go.Proofs.Ytpjdgndbcjinjaa.Ap
open Go.RowKit Go.Proofs.YtpjdgndbcjinjaaW.PrintWords Go.Proofs.YtpjdgndbcjinjaaW.PrintLast Go.Proofs.YtpjdgndbcjinjaaW.PrintMore Go.Proofs.Ytpjdgndbcjinjaa.Mem
set_option linter.unusedVariables false
/-- a row, and between which blocks it lies -/
abbrev Born := (Value × List Int) × Nat × Nat
theorem Fresh.of {W : World} {L : List Born} (h : ∀ p ∈ L, RB W p.2.1 p.1.1 p.1.2 ∧ ∀ k, p.1.1.ownBlock = some k → k < p.2.2) (hp : L.Pairwise fun p q => p.2.2 ≤ q.2.1 ∨ q.2.2 ≤ p.2.1) : Fresh W (L.map (·.1)) := by
  refine ⟨fun p hp => ?_, ?_⟩
  · obtain ⟨q, hq, rfl⟩ := List.mem_map.1 hp
    exact Kd.R_lower (h q hq).1 (Nat.zero_le _)
  · rw [List.pairwise_map]
    refine List.Pairwise.imp_of_mem (fun {p q} hp' hq' hpq k hk e => ?_) hp
    have h1 := Kd.R_base (h p hp').1 k hk
    have h2 := (h p hp').2 k hk
    have h3 := Kd.R_base (h q hq').1 k e
    have h4 := (h q hq').2 k e
    omega
theorem ApartB {W : World} {L : List Born} (h : ∀ p ∈ L, RB W p.2.1 p.1.1 p.1.2 ∧ ∀ k, p.1.1.ownBlock = some k → k < p.2.2) (hp : L.Pairwise fun p q => p.2.2 ≤ q.2.1 ∨ q.2.2 ≤ p.2.1) (hn : L.length ≤ 100) (hl : ∀ p ∈ L, p.1.2.length ≤ 140737488351232) {B : Nat} (hB : ∀ p ∈ L, B ≤ p.2.1) :
    Calls Try.prog 19 #[.slice (some ⟨W.heap.size, 0, none⟩) (L.map (·.1)).length (L.map (·.1)).length] (W.alloc (.cells ((L.map (·.1)).map (·.1)).toArray 22)) fun e w' => e = .returned (.bool true) ∧ Fr W w' (fun q => B ≤ q) := by
  refine Calls.mono (ApartL (Fresh.of h hp) (by simpa using hn) (fun p hp => ?_)) (fun e w' ⟨he, hF⟩ => ⟨he, hF.mono (fun q _ ⟨p, hp, e⟩ => ?_)⟩)
  · obtain ⟨q, hq, rfl⟩ := List.mem_map.1 hp
    exact hl q hq
  · obtain ⟨q', hq, rfl⟩ := List.mem_map.1 hp
    have h1 := Kd.R_base (h q' hq).1 q e
    have := hB q' hq
    omega
theorem RB_fr {W W' : World} {B : Nat} {S : Nat → Prop} {v : Value} {xs : List Int} (h : RB W B v xs) (hF : Fr W W' S) (hS : ∀ k, S k → k < B) : RB W' B v xs :=
  Kd.R_mono (hF.row (Kd.R_bound h) (fun q hq _ e => by have := hq.2.1; have := hS q e; omega)) (fun _ _ => trivial)
end Go.Proofs.Ytpjdgndbcjinjaa.Ap
