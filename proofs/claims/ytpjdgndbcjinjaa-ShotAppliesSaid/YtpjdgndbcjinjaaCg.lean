/- wisplaw20.changes: the changes, and a mark in the room behind them: the walk. -/
import Derived.Test.YtpjdgndbcjinjaaRy
import Derived.Test.YtpjdgndbcjinjaaGpS
import Derived.Test.YtpjdgndbcjinjaaRv
import Derived.StillTailTactics
namespace Go.Proofs.Ytpjdgndbcjinjaa.Sh
open Go.RowKit Go.Proofs.YtpjdgndbcjinjaaW.PrintWords Go.Proofs.YtpjdgndbcjinjaaW.PrintLast Go.Proofs.YtpjdgndbcjinjaaW.PrintMore Go.Proofs.Ytpjdgndbcjinjaa.Mem Go.Proofs.Ytpjdgndbcjinjaa.P
open Go.Proofs.Ytpjdgndbcjinjaa.Ap (RB CB IsM cut_cap)
set_option linter.unusedVariables false
set_option linter.unusedSimpArgs false
abbrev Q42 (W : World) (B : Nat) (v : Value) (l : List S42) : Prop := k42.R 42 W B (fun _ => True) v l
def mkC : S42 := ⟨777, 0, 0, 0⟩
/-- block g holds the changes, and the mark behind them -/
def IsC (W : World) (B g cap : Nat) (l : List S42) : Prop := Q42 W B (.slice (some ⟨g, 0, none⟩) (l.length + 1) cap) (l ++ [mkC])
set_option maxRecDepth 100000 in
set_option maxHeartbeats 4000000 in
theorem changes {w : World} {A : Option Addr} {c : Nat} {l : List S42} (hC : k43.C w A l.length (l.map to43)) (hl : (l.length + 1) * 24 ≤ 140737488355328) :
    Calls Try.prog 16 #[.slice A l.length c] w fun e w' => ∃ g cap, e = .returned (.slice (some ⟨g, 0, none⟩) l.length cap) ∧ IsC w' w.heap.size g cap l ∧ Below w.heap.size w w' := by
  obtain ⟨i0, hi, hz0, hz1, hz2⟩ := info_parts info42
  obtain ⟨n, hn⟩ : ∃ n, n = l.length := ⟨_, rfl⟩
  rw [← hn] at hC hl ⊢
  have hCC := Aside0.mk hC
  have hnn := Aside0.mk hn
  have hn63 : n ≤ 5864062014805 := by omega
  have hll := Aside0.mk hl
  clear hC hn hl
  go_enter Try.func16, Try.ntmps16
  go_wp2
  go_loopg [3, 4] n (fun gk v3 v4 wr => ∃ (i : Nat) (v : Value), v3 = v ∧ v4 = .int .i64 (i : Int) ∧ i + gk = n ∧ Aside0 (Q42 wr w.heap.size v (l.take i)) ∧ Aside0 (Below w.heap.size w wr))
  case atStart => exact ⟨0, _, rfl, rfl, by omega, ⟨Kd.R_nil _ _ _ _ _⟩, ⟨Below.refl _ _⟩⟩
  case round =>
    obtain ⟨i, v, hv, rfl, hi2, hR, hb⟩ := hrel
    replace hv := hv.symm
    subst hv
    cases gk with
    | succ k1 =>
      have hd : decide (i < n) = true := decide_eq_true (by omega)
      have hilt : i < l.length := by have := hnn.out; omega
      obtain ⟨ad, e0, hx0, hx1, hx2, hx3⟩ := at_T43 (Kd.C_below hCC.out hb.out) (i : Int) (by omega) (by omega)
      subst e0
      rw [rd42] at hx0 hx1 hx2 hx3
      rw [Int.toNat_natCast] at hx0 hx1 hx2 hx3
      have htk : l.take (i + 1) = l.take i ++ [rd_T42 l (i : Int)] := by
        rw [List.take_succ_eq_append_getElem hilt]
        congr 2
        unfold rd_T42
        rw [Int.toNat_natCast, List.getD_eq_getElem?_getD, List.getElem?_eq_getElem hilt]; rfl
      obtain ⟨p, hp⟩ : ∃ p, rd_T42 l (i : Int) = p := ⟨_, rfl⟩
      rw [hp] at hx0 hx1 hx2 hx3 htk
      have hpp := Aside0.mk hp
      clear hp
      simp only [to43] at hx0 hx1 hx2 hx3
      have htt := Aside0.mk htk
      have hlen : Aside0 ((l.take i).length + 1 ≤ maxLen) := ⟨by rw [List.length_take]; unfold maxLen; omega⟩
      have hlen2 : Aside0 (((l.take i).length + 1) * 24 ≤ 140737488355328) := ⟨by rw [List.length_take]; omega⟩
      have hs := hb.out.size
      clear htk hilt
      have hI0 : (0 : Int) ≤ (i : Int) := Int.natCast_nonneg i
      have hI1 : (i : Int) < (n : Int) := by omega
      have hI2 : i < n := by omega
      have hkeep2 : Aside0 (∀ w', Below w.heap.size w w' → (fun w' => w'.cell? (ad.add (i * 4)) = some (.int .i64 p.f0) ∧ w'.cell? ⟨(ad.add (i * 4)).block, (ad.add (i * 4)).off + 1, none⟩ = some (.int .i64 p.f1) ∧ w'.cell? ⟨(ad.add (i * 4)).block, (ad.add (i * 4)).off + 2, none⟩ = some (.int .u8 p.f2) ∧ w'.cell? ⟨(ad.add (i * 4)).block, (ad.add (i * 4)).off + 3, none⟩ = some (.int .u8 p.f3)) w') := ⟨fun w' hb' => by
        obtain ⟨ad', e0', h0, h1, h2, h3⟩ := at_T43 (Kd.C_below hCC.out hb') (i : Int) (by omega) (by omega)
        cases e0'
        rw [rd42, hpp.out, Int.toNat_natCast] at h0 h1 h2 h3
        exact ⟨h0, h1, h2, h3⟩⟩
      have hbD := Aside0.mk (below_drew hb.out)
      have hkeep : Aside0 (∀ w', Below wr.drew.heap.size wr.drew w' → (fun w' => w'.cell? (ad.add (i * 4)) = some (.int .i64 p.f0) ∧ w'.cell? ⟨(ad.add (i * 4)).block, (ad.add (i * 4)).off + 1, none⟩ = some (.int .i64 p.f1) ∧ w'.cell? ⟨(ad.add (i * 4)).block, (ad.add (i * 4)).off + 2, none⟩ = some (.int .u8 p.f2) ∧ w'.cell? ⟨(ad.add (i * 4)).block, (ad.add (i * 4)).off + 3, none⟩ = some (.int .u8 p.f3)) w') := ⟨fun w' hb' => hkeep2.out w' (hbD.out.trans (hb'.mono hbD.out.size))⟩
      have hRD := Aside0.mk (Kd.R_below hR.out (below_drew (Below.refl _ _)))
      have hsD : w.heap.size ≤ wr.drew.heap.size := hs
      have hS0 := hkeep.out _ (Below.refl _ _)
      clear hb hR hs
      go_wp2
      refine start_ (n := 25) (S := (fun w' => w'.cell? (ad.add (i * 4)) = some (.int .i64 p.f0) ∧ w'.cell? ⟨(ad.add (i * 4)).block, (ad.add (i * 4)).off + 1, none⟩ = some (.int .i64 p.f1) ∧ w'.cell? ⟨(ad.add (i * 4)).block, (ad.add (i * 4)).off + 2, none⟩ = some (.int .u8 p.f2) ∧ w'.cell? ⟨(ad.add (i * 4)).block, (ad.add (i * 4)).off + 3, none⟩ = some (.int .u8 p.f3))) (ds := []) #[false, false, false, false, false, false, false, false, false, false, false, false, false, false, false, false, false, false, false, false, false, false, false, false, false] (by kernel_rfl) rfl rfl hS0 (fun hHeld => ?_)
      generalize wr.drew = wd at hbD hRD hsD hkeep hHeld ⊢
      refine pure_ (i := 0) (N := some 11) (v := ?_) (a' := ?_) #[true, false, false, false, false, false, false, false, false, false, false, false, false, false, false, false, false, false, false, false, false, false, false, false, false] rfl rfl (by kernel_rfl) (fun _ _ _ h => h) (Or.inl ⟨by rfl, ?_⟩) ?_ ?_
      rotate_left
      · intro w'
        go_simp
        with_reducible rfl
      rotate_left
      · simp only [Act.put, List.setIfInBounds_toArray, List.set_cons_zero, List.set_cons_succ, i64_w, i32_w]
        rfl
      refine pure_ (i := 1) (N := some 12) (v := ?_) (a' := ?_) #[true, true, false, false, false, false, false, false, false, false, false, false, false, false, false, false, false, false, false, false, false, false, false, false, false] rfl rfl (by kernel_rfl) (fun _ _ _ h => h) (Or.inl ⟨by rfl, ?_⟩) ?_ ?_
      rotate_left
      · intro w'
        go_simp
        with_reducible rfl
      rotate_left
      · simp only [Act.put, List.setIfInBounds_toArray, List.set_cons_zero, List.set_cons_succ, i64_w, i32_w]
        rfl
      refine pure_ (i := 2) (N := some 13) (v := ?_) (a' := ?_) #[true, true, true, false, false, false, false, false, false, false, false, false, false, false, false, false, false, false, false, false, false, false, false, false, false] rfl rfl (by kernel_rfl) (fun _ _ _ h => h) (Or.inl ⟨by rfl, ?_⟩) ?_ ?_
      rotate_left
      · intro w'
        go_simp
        with_reducible rfl
      rotate_left
      · simp only [Act.put, List.setIfInBounds_toArray, List.set_cons_zero, List.set_cons_succ, i64_w, i32_w]
        rfl
      refine pure_ (i := 3) (N := some 14) (v := ?_) (a' := ?_) #[true, true, true, true, false, false, false, false, false, false, false, false, false, false, false, false, false, false, false, false, false, false, false, false, false] rfl rfl (by kernel_rfl) (fun _ _ _ h => h) (Or.inl ⟨by rfl, ?_⟩) ?_ ?_
      rotate_left
      · intro w'
        go_simp
        with_reducible rfl
      rotate_left
      · simp only [Act.put, List.setIfInBounds_toArray, List.set_cons_zero, List.set_cons_succ, i64_w, i32_w]
        rfl
      refine pure_ (i := 4) (N := some 15) (v := ?_) (a' := ?_) #[true, true, true, true, true, false, false, false, false, false, false, false, false, false, false, false, false, false, false, false, false, false, false, false, false] rfl rfl (by kernel_rfl) (fun _ _ _ h => h) (Or.inl ⟨by rfl, ?_⟩) ?_ ?_
      rotate_left
      · intro w'
        go_simp
        with_reducible rfl
      rotate_left
      · simp only [Act.put, List.setIfInBounds_toArray, List.set_cons_zero, List.set_cons_succ, i64_w, i32_w]
        rfl
      refine take_ (i := 5) (N := some 16) (v := ?_) (a' := ?_) #[true, true, true, true, true, true, false, false, false, false, false, false, false, false, false, false, false, false, false, false, false, false, false, false, false] rfl rfl (by kernel_rfl) (fun _ _ _ h => h) (Or.inl ⟨by rfl, ?_⟩) hHeld ?_ ?_
      rotate_left
      · rintro w' ⟨s0, s1, s2, s3⟩
        go_simp
        with_reducible rfl
      rotate_left
      · simp only [Act.put, List.setIfInBounds_toArray, List.set_cons_zero, List.set_cons_succ, i64_w, i32_w]
        rfl
      refine pure_ (i := 6) (N := some 17) (v := ?_) (a' := ?_) #[true, true, true, true, true, true, true, false, false, false, false, false, false, false, false, false, false, false, false, false, false, false, false, false, false] rfl rfl (by kernel_rfl) (fun _ _ _ h => h) (Or.inl ⟨by rfl, ?_⟩) ?_ ?_
      rotate_left
      · intro w'
        go_simp
        with_reducible rfl
      rotate_left
      · simp only [Act.put, List.setIfInBounds_toArray, List.set_cons_zero, List.set_cons_succ, i64_w, i32_w]
        rfl
      refine pure_ (i := 7) (N := some 18) (v := ?_) (a' := ?_) #[true, true, true, true, true, true, true, true, false, false, false, false, false, false, false, false, false, false, false, false, false, false, false, false, false] rfl rfl (by kernel_rfl) (fun _ _ _ h => h) (Or.inl ⟨by rfl, ?_⟩) ?_ ?_
      rotate_left
      · intro w'
        go_simp
        with_reducible rfl
      rotate_left
      · simp only [Act.put, List.setIfInBounds_toArray, List.set_cons_zero, List.set_cons_succ, i64_w, i32_w]
        rfl
      refine pure_ (i := 8) (N := some 19) (v := ?_) (a' := ?_) #[true, true, true, true, true, true, true, true, true, false, false, false, false, false, false, false, false, false, false, false, false, false, false, false, false] rfl rfl (by kernel_rfl) (fun _ _ _ h => h) (Or.inl ⟨by rfl, ?_⟩) ?_ ?_
      rotate_left
      · intro w'
        go_simp
        with_reducible rfl
      rotate_left
      · simp only [Act.put, List.setIfInBounds_toArray, List.set_cons_zero, List.set_cons_succ, i64_w, i32_w]
        rfl
      refine pure_ (i := 9) (N := some 20) (v := ?_) (a' := ?_) #[true, true, true, true, true, true, true, true, true, true, false, false, false, false, false, false, false, false, false, false, false, false, false, false, false] rfl rfl (by kernel_rfl) (fun _ _ _ h => h) (Or.inl ⟨by rfl, ?_⟩) ?_ ?_
      rotate_left
      · intro w'
        go_simp
        with_reducible rfl
      rotate_left
      · simp only [Act.put, List.setIfInBounds_toArray, List.set_cons_zero, List.set_cons_succ, i64_w, i32_w]
        rfl
      refine take_ (i := 10) (N := some 21) (v := ?_) (a' := ?_) #[true, true, true, true, true, true, true, true, true, true, true, false, false, false, false, false, false, false, false, false, false, false, false, false, false] rfl rfl (by kernel_rfl) (fun _ _ _ h => h) (Or.inl ⟨by rfl, ?_⟩) hHeld ?_ ?_
      rotate_left
      · rintro w' ⟨s0, s1, s2, s3⟩
        go_simp
        with_reducible rfl
      rotate_left
      · simp only [Act.put, List.setIfInBounds_toArray, List.set_cons_zero, List.set_cons_succ, i64_w, i32_w]
        rfl
      refine pure_ (i := 11) (N := some 22) (v := ?_) (a' := ?_) #[true, true, true, true, true, true, true, true, true, true, true, true, false, false, false, false, false, false, false, false, false, false, false, false, false] rfl rfl (by kernel_rfl) (fun _ _ _ h => h) (Or.inl ⟨by rfl, ?_⟩) ?_ ?_
      rotate_left
      · intro w'
        go_simp
        with_reducible rfl
      rotate_left
      · simp only [Act.put, List.setIfInBounds_toArray, List.set_cons_zero, List.set_cons_succ, i64_w, i32_w]
        rfl
      refine pure_ (i := 12) (N := some 23) (v := ?_) (a' := ?_) #[true, true, true, true, true, true, true, true, true, true, true, true, true, false, false, false, false, false, false, false, false, false, false, false, false] rfl rfl (by kernel_rfl) (fun _ _ _ h => h) (Or.inl ⟨by rfl, ?_⟩) ?_ ?_
      rotate_left
      · intro w'
        go_simp
        with_reducible rfl
      rotate_left
      · simp only [Act.put, List.setIfInBounds_toArray, List.set_cons_zero, List.set_cons_succ, i64_w, i32_w]
        rfl
      refine pure_ (i := 13) (N := some 24) (v := ?_) (a' := ?_) #[true, true, true, true, true, true, true, true, true, true, true, true, true, true, false, false, false, false, false, false, false, false, false, false, false] rfl rfl (by kernel_rfl) (fun _ _ _ h => h) (Or.inl ⟨by rfl, ?_⟩) ?_ ?_
      rotate_left
      · intro w'
        go_simp
        with_reducible rfl
      rotate_left
      · simp only [Act.put, List.setIfInBounds_toArray, List.set_cons_zero, List.set_cons_succ, i64_w, i32_w]
        rfl
      refine pure_ (i := 14) (N := some 25) (v := ?_) (a' := ?_) #[true, true, true, true, true, true, true, true, true, true, true, true, true, true, true, false, false, false, false, false, false, false, false, false, false] rfl rfl (by kernel_rfl) (fun _ _ _ h => h) (Or.inl ⟨by rfl, ?_⟩) ?_ ?_
      rotate_left
      · intro w'
        go_simp
        with_reducible rfl
      rotate_left
      · simp only [Act.put, List.setIfInBounds_toArray, List.set_cons_zero, List.set_cons_succ, i64_w, i32_w]
        rfl
      refine take_ (i := 15) (N := some 26) (v := ?_) (a' := ?_) #[true, true, true, true, true, true, true, true, true, true, true, true, true, true, true, true, false, false, false, false, false, false, false, false, false] rfl rfl (by kernel_rfl) (fun _ _ _ h => h) (Or.inl ⟨by rfl, ?_⟩) hHeld ?_ ?_
      rotate_left
      · rintro w' ⟨s0, s1, s2, s3⟩
        go_simp
        with_reducible rfl
      rotate_left
      · simp only [Act.put, List.setIfInBounds_toArray, List.set_cons_zero, List.set_cons_succ, i64_w, i32_w]
        rfl
      refine pure_ (i := 16) (N := some 27) (v := ?_) (a' := ?_) #[true, true, true, true, true, true, true, true, true, true, true, true, true, true, true, true, true, false, false, false, false, false, false, false, false] rfl rfl (by kernel_rfl) (fun _ _ _ h => h) (Or.inl ⟨by rfl, ?_⟩) ?_ ?_
      rotate_left
      · intro w'
        go_simp
        with_reducible rfl
      rotate_left
      · simp only [Act.put, List.setIfInBounds_toArray, List.set_cons_zero, List.set_cons_succ, i64_w, i32_w]
        rfl
      refine pure_ (i := 17) (N := some 28) (v := ?_) (a' := ?_) #[true, true, true, true, true, true, true, true, true, true, true, true, true, true, true, true, true, true, false, false, false, false, false, false, false] rfl rfl (by kernel_rfl) (fun _ _ _ h => h) (Or.inl ⟨by rfl, ?_⟩) ?_ ?_
      rotate_left
      · intro w'
        go_simp
        with_reducible rfl
      rotate_left
      · simp only [Act.put, List.setIfInBounds_toArray, List.set_cons_zero, List.set_cons_succ, i64_w, i32_w]
        rfl
      refine pure_ (i := 18) (N := some 29) (v := ?_) (a' := ?_) #[true, true, true, true, true, true, true, true, true, true, true, true, true, true, true, true, true, true, true, false, false, false, false, false, false] rfl rfl (by kernel_rfl) (fun _ _ _ h => h) (Or.inl ⟨by rfl, ?_⟩) ?_ ?_
      rotate_left
      · intro w'
        go_simp
        with_reducible rfl
      rotate_left
      · simp only [Act.put, List.setIfInBounds_toArray, List.set_cons_zero, List.set_cons_succ, i64_w, i32_w]
        rfl
      refine pure_ (i := 19) (N := some 30) (v := ?_) (a' := ?_) #[true, true, true, true, true, true, true, true, true, true, true, true, true, true, true, true, true, true, true, true, false, false, false, false, false] rfl rfl (by kernel_rfl) (fun _ _ _ h => h) (Or.inl ⟨by rfl, ?_⟩) ?_ ?_
      rotate_left
      · intro w'
        go_simp
        with_reducible rfl
      rotate_left
      · simp only [Act.put, List.setIfInBounds_toArray, List.set_cons_zero, List.set_cons_succ, i64_w, i32_w]
        rfl
      refine take_ (i := 20) (N := some 31) (v := ?_) (a' := ?_) #[true, true, true, true, true, true, true, true, true, true, true, true, true, true, true, true, true, true, true, true, true, false, false, false, false] rfl rfl (by kernel_rfl) (fun _ _ _ h => h) (Or.inl ⟨by rfl, ?_⟩) hHeld ?_ ?_
      rotate_left
      · rintro w' ⟨s0, s1, s2, s3⟩
        go_simp
        with_reducible rfl
      rotate_left
      · simp only [Act.put, List.setIfInBounds_toArray, List.set_cons_zero, List.set_cons_succ, i64_w, i32_w]
        rfl
      refine pure_ (i := 21) (N := some 32) (v := ?_) (a' := ?_) #[true, true, true, true, true, true, true, true, true, true, true, true, true, true, true, true, true, true, true, true, true, true, false, false, false] rfl rfl (by kernel_rfl) (fun _ _ _ h => h) (Or.inl ⟨by rfl, ?_⟩) ?_ ?_
      rotate_left
      · intro w'
        go_simp
        with_reducible rfl
      rotate_left
      · simp only [Act.put, List.setIfInBounds_toArray, List.set_cons_zero, List.set_cons_succ, i64_w, i32_w]
        rfl
      refine one_ (i := 22) (N := some 33) #[true, true, true, true, true, true, true, true, true, true, true, true, true, true, true, true, true, true, true, true, true, true, true, false, false] rfl rfl (by kernel_rfl) (by decide) (fun K hK => ?_)
      refine value_ (v := .slice (some ⟨wd.heap.size, 0, none⟩) 1 1) (w1 := wd.alloc (.cells #[.int .i64 p.f0, .int .i64 p.f1, .int .u8 p.f2, .int .u8 p.f3] 42)) (by rfl) rfl (by go_simp) ?_
      have hSA := hkeep.out _ (below_alloc (Below.refl _ _) (.cells #[.int .i64 p.f0, .int .i64 p.f1, .int .u8 p.f2, .int .u8 p.f3] 42))
      refine hK.out _ _ hSA (fun hHeld2 => ?_)
      clear hK
      refine norm_ (a' := ?_) ?_ ?_
      rotate_left
      · show Act.put _ (some 33) _ = _
        simp only [Act.put, List.setIfInBounds_toArray, List.set_cons_zero, List.set_cons_succ, i64_w, i32_w]
        rfl
      refine one_ (i := 23) (N := some 34) #[true, true, true, true, true, true, true, true, true, true, true, true, true, true, true, true, true, true, true, true, true, true, true, true, false] rfl rfl (by kernel_rfl) (by decide) (fun K hK => ?_)
      refine Kd.R_append_step k42 (w0 := w) w.heap.size (by rfl) (.tmp 11) (.tmp 33) 25 42 (.agg #[(.int .i64 0), (.int .i64 0), (.int .u8 0), (.int .u8 0)]) 24 rfl Try.underlying25 info42 rfl (by decide) (by decide) v (l.take i) p [.int .i64 p.f0, .int .i64 p.f1, .int .u8 p.f2, .int .u8 p.f3] (fun _ => True) (fun _ => False) rfl rfl (k42_mkM _ _ _ p) (fun k hk => hk.elim) (fun _ _ => trivial) hRD.out hbD.out hsD hlen2.out ?_
      intro v1 w1 hR1 hb1 hg hat
      have hR2 := Aside0.mk hR1
      have hb2 := Aside0.mk hb1
      have hSB : (fun w' => w'.cell? (ad.add (i * 4)) = some (.int .i64 p.f0) ∧ w'.cell? ⟨(ad.add (i * 4)).block, (ad.add (i * 4)).off + 1, none⟩ = some (.int .i64 p.f1) ∧ w'.cell? ⟨(ad.add (i * 4)).block, (ad.add (i * 4)).off + 2, none⟩ = some (.int .u8 p.f2) ∧ w'.cell? ⟨(ad.add (i * 4)).block, (ad.add (i * 4)).off + 3, none⟩ = some (.int .u8 p.f3)) w1 := hkeep2.out _ hb1
      clear hR1 hb1 hg hat
      refine hK.out _ _ hSB (fun hHeld3 => ?_)
      clear hK
      refine norm_ (a' := ?_) ?_ ?_
      rotate_left
      · show Act.put _ (some 34) _ = _
        simp only [Act.put, List.setIfInBounds_toArray, List.set_cons_zero, List.set_cons_succ, i64_w, i32_w]
        rfl
      refine pure_ (i := 24) (N := some 3) (v := ?_) (a' := ?_) #[true, true, true, true, true, true, true, true, true, true, true, true, true, true, true, true, true, true, true, true, true, true, true, true, true] rfl rfl (by kernel_rfl) (fun _ _ _ h => h) (Or.inl ⟨by rfl, ?_⟩) ?_ ?_
      rotate_left
      · intro w'
        go_simp
        with_reducible rfl
      rotate_left
      · simp only [Act.put, List.setIfInBounds_toArray, List.set_cons_zero, List.set_cons_succ, i64_w, i32_w]
        rfl
      refine done_ (by kernel_rfl) ?_
      go_wp2
      go_roundg k1
      case measure => omega
      case rel => exact ⟨i + 1, v1, rfl, rfl, by omega, ⟨by rw [htt.out]; exact hR2.out⟩, hb2⟩
    | zero =>
      have hin : i = n := by omega
      subst hin
      have hd : decide (i < i) = false := decide_eq_false (by omega)
      have hR0 := hR.out
      rw [List.take_of_length_le (by have := hnn.out; omega)] at hR0
      have hRR := Aside0.mk hR0
      have hs := hb.out.size
      have hlen : Aside0 (l.length + 1 ≤ maxLen) := ⟨by have := hnn.out; unfold maxLen; omega⟩
      have hlen2 : Aside0 ((l.length + 1) * 24 ≤ 140737488355328) := ⟨by rw [← hnn.out]; exact hll.out⟩
      clear hR0 hR
      go_wp2_with (at_builtin; go_must (refine Gp.app1 (P := Try.prog) (d := k42) (e := 42) mkC [.int .i64 777, .int .i64 0, .int .u8 0, .int .u8 0] (t := 25) (.agg #[(.int .i64 0), (.int .i64 0), (.int .u8 0), (.int .u8 0)]) 24 rfl _ _ rfl rfl rfl Try.underlying25 info42 rfl (by decide) (fun w b ok => k42_mkM w b ok mkC) hRR.out hs hlen.out hlen2.out ?_); intro v1 w1 hR1 hg hat; have hb2 := Aside0.mk (hb.out.trans (⟨hg.os, hg.tape, hg.output, hg.size, fun k hk => hg.block k (by omega) (fun e => by have := Kd.R_base hRR.out k e.symm; omega)⟩ : Below w.heap.size _ w1)); obtain ⟨g, cap, rfl, _, _, _⟩ := Kd.R_form hR1 (by simp); have hcap := (Kd.R_reads' hR1).2.1; have hR2 := Aside0.mk hR1; clear hR1 hg hat; have hic : i ≤ cap := (by have := hnn.out; simp at hcap; omega); have qs := cut_cap (P := Try.prog) 25 42 .i64 Try.underlying25 hi (some ⟨g, 0, none⟩) (l.length + 1) cap i (by omega) (by omega); rw [Int.toNat_natCast] at qs)
      go_ret
      refine ⟨g, cap, rfl, ?_, hb2.out⟩
      have h3 := hR2.out
      rw [show (l ++ [mkC]).length = l.length + 1 by simp] at h3
      exact h3
end Go.Proofs.Ytpjdgndbcjinjaa.Sh
