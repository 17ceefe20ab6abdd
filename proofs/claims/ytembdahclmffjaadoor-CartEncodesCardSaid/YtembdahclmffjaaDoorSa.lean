/- wispref07.Same of two cartridges that are read as one. (Printed by gen_sa.py.) -/
import Derived.Test.YtembdahclmffjaaDoorZb
import Derived.Test.YtembdahclmffjaaDoorPx1
namespace Go.Proofs.YtembdahclmffjaaDoor.Pk
open Go.RowKit Go.Proofs.YtembdahclmffjaaDoorW.PrintWords Go.Proofs.YtembdahclmffjaaDoorW.PrintLast Go.Proofs.YtembdahclmffjaaDoorW.PrintMore Go.Proofs.YtembdahclmffjaaDoor.Mem
set_option linter.unusedVariables false
set_option linter.unusedSimpArgs false
attribute [local go_sem high] P.eqA80
set_option maxRecDepth 100000 in
set_option maxHeartbeats 4000000 in
theorem Same_true {w : World} {A0 A2 A3 B0 B2 B3 : Option Addr} {c0 c2 c3 d0 d2 d3 : Nat} {c : CartP} (h1 : IsC w A0 c0 A2 c2 A3 c3 c) (h2 : IsC w B0 d0 B2 d2 B3 d3 c) (he : c.efs.length < 4611686018427387904) (hb : c.bks.length < 4611686018427387904) :
    Calls Tryd.prog 12 #[crt A0 c0 A2 c2 A3 c3 c, crt B0 d0 B2 d2 B3 d3 c] w fun e w' => e = .returned (.bool true) ∧ Below w.heap.size w w' := by
  have hA2 := Aside0.mk h1.efs
  have hA3 := Aside0.mk h1.bks
  have hB2 := Aside0.mk h2.efs
  have hB3 := Aside0.mk h2.bks
  unfold crt
  have hcA := Kd.C_string (P := Tryd.prog) (c := c0) Tryd.underlying22 Tryd.underlying5 Tryd.underlying9 (Kd.C_below h1.code (below_alloc (below_alloc (Below.refl w.heap.size w) (.cells #[.slice A0 c.code.length c0, .int .u16 c.entry, .slice A2 c.efs.length c2, .slice A3 c.bks.length c3] 28)) (.cells #[.slice B0 c.code.length d0, .int .u16 c.entry, .slice B2 c.efs.length d2, .slice B3 c.bks.length d3] 28)))
  have hcB := Kd.C_string (P := Tryd.prog) (c := d0) Tryd.underlying22 Tryd.underlying5 Tryd.underlying9 (Kd.C_below h2.code (below_alloc (below_alloc (Below.refl w.heap.size w) (.cells #[.slice A0 c.code.length c0, .int .u16 c.entry, .slice A2 c.efs.length c2, .slice A3 c.bks.length c3] 28)) (.cells #[.slice B0 c.code.length d0, .int .u16 c.entry, .slice B2 c.efs.length d2, .slice B3 c.bks.length d3] 28)))
  clear h1 h2
  obtain ⟨n2, hn2⟩ : ∃ n, n = c.efs.length := ⟨_, rfl⟩
  obtain ⟨n3, hn3⟩ : ∃ n, n = c.bks.length := ⟨_, rfl⟩
  obtain ⟨n0, hn0⟩ : ∃ n, n = c.code.length := ⟨_, rfl⟩
  obtain ⟨ent, hent⟩ : ∃ x, x = c.entry := ⟨_, rfl⟩
  rw [← hn0, ← hn2, ← hn3, ← hent] at hcA hcB
  rw [← hn2] at he
  rw [← hn3] at hb
  rw [← hn0, ← hn2, ← hn3, ← hent]
  generalize strOfNums c.code = str0 at hcA hcB
  have hX1 : Aside0 (((w.alloc (.cells #[.slice A0 n0 c0, .int .u16 ent, .slice A2 n2 c2, .slice A3 n3 c3] 28)).alloc (.cells #[.slice B0 n0 d0, .int .u16 ent, .slice B2 n2 d2, .slice B3 n3 d3] 28)).heap[w.heap.size]? = some (.cells #[.slice A0 n0 c0, .int .u16 ent, .slice A2 n2 c2, .slice A3 n3 c3] 28 (0, 0))) := ⟨((below_alloc (Below.refl _ _) _).block _ (by rw [World.size_alloc]; omega)).trans (World.alloc_heap_new w _)⟩
  have hX2 : Aside0 (((w.alloc (.cells #[.slice A0 n0 c0, .int .u16 ent, .slice A2 n2 c2, .slice A3 n3 c3] 28)).alloc (.cells #[.slice B0 n0 d0, .int .u16 ent, .slice B2 n2 d2, .slice B3 n3 d3] 28)).heap[w.heap.size + 1]? = some (.cells #[.slice B0 n0 d0, .int .u16 ent, .slice B2 n2 d2, .slice B3 n3 d3] 28 (0, 0))) := ⟨by have := World.alloc_heap_new (w.alloc (.cells #[.slice A0 n0 c0, .int .u16 ent, .slice A2 n2 c2, .slice A3 n3 c3] 28)) (.cells #[.slice B0 n0 d0, .int .u16 ent, .slice B2 n2 d2, .slice B3 n3 d3] 28); rw [World.size_alloc] at this; exact this⟩
  have hX3 : Aside0 (Below w.heap.size w ((w.alloc (.cells #[.slice A0 n0 c0, .int .u16 ent, .slice A2 n2 c2, .slice A3 n3 c3] 28)).alloc (.cells #[.slice B0 n0 d0, .int .u16 ent, .slice B2 n2 d2, .slice B3 n3 d3] 28))) := ⟨below_alloc (below_alloc (Below.refl _ _) _) _⟩
  have hnn2 := Aside0.mk hn2
  have hnn3 := Aside0.mk hn3
  clear hn2 hn3 hn0 hent
  go_enter Tryd.func12, Tryd.ntmps12
  go_wp2
  go_loopg [5] n2 (fun gk v5 wr => ∃ i : Nat, v5 = .int .i64 (i : Int) ∧ i + gk = n2 ∧ Aside0 (wr.heap[w.heap.size]? = some (.cells #[.slice A0 n0 c0, .int .u16 ent, .slice A2 n2 c2, .slice A3 n3 c3] 28 (0, 0))) ∧ Aside0 (wr.heap[w.heap.size + 1]? = some (.cells #[.slice B0 n0 d0, .int .u16 ent, .slice B2 n2 d2, .slice B3 n3 d3] 28 (0, 0))) ∧ Aside0 (Below w.heap.size w wr))
  case atStart => exact ⟨0, rfl, by omega, hX1, hX2, hX3⟩
  case round =>
    clear hX1 hX2 hX3 hcA hcB
    obtain ⟨i, rfl, hi, hX1, hX2, hX3⟩ := hrel
    have q2 : wr.cell? ⟨w.heap.size, 2, none⟩ = some (.slice A2 n2 c2) := by simp [World.cell?, hX1.out]
    have q3 : wr.cell? ⟨w.heap.size, 3, none⟩ = some (.slice A3 n3 c3) := by simp [World.cell?, hX1.out]
    have r2 : wr.cell? ⟨w.heap.size + 1, 2, none⟩ = some (.slice B2 n2 d2) := by simp [World.cell?, hX2.out]
    cases gk with
    | succ k1 =>
      have hd : decide ((i : Int) < (n2 : Int)) = true := decide_eq_true (by omega)
      have hd' : decide (i < n2) = true := decide_eq_true (by omega)
      have hlt : (i < n2) = True := eq_true (by omega)
      obtain ⟨ad, eA, hx0, hx1, hx2⟩ := atE (Kd.C_below hA2.out hX3.out) i (by have := hnn2.out; omega)
      obtain ⟨bd, eB, hy0, hy1, hy2⟩ := atE (Kd.C_below hB2.out hX3.out) i (by have := hnn2.out; omega)
      subst eA
      subst eB
      generalize c.efs.getD i (0, 0, 0) = x at hx0 hx1 hx2 hy0 hy1 hy2
      obtain ⟨xa, xi, xo⟩ := x
      dsimp only at hx0 hx1 hx2 hy0 hy1 hy2
      have hS : (fun w' => w'.cell? ⟨w.heap.size, 2, none⟩ = some (.slice (some ad) n2 c2) ∧ w'.cell? ⟨w.heap.size + 1, 2, none⟩ = some (.slice (some bd) n2 d2) ∧ w'.cell? (ad.add (i * 3)) = some (.int .u16 xa) ∧ w'.cell? ⟨(ad.add (i * 3)).block, (ad.add (i * 3)).off + 1, none⟩ = some (.int .i64 xi) ∧ w'.cell? ⟨(ad.add (i * 3)).block, (ad.add (i * 3)).off + 2, none⟩ = some (.int .i64 xo) ∧ w'.cell? (bd.add (i * 3)) = some (.int .u16 xa) ∧ w'.cell? ⟨(bd.add (i * 3)).block, (bd.add (i * 3)).off + 1, none⟩ = some (.int .i64 xi) ∧ w'.cell? ⟨(bd.add (i * 3)).block, (bd.add (i * 3)).off + 2, none⟩ = some (.int .i64 xo)) wr.drew := ⟨q2, r2, hx0, hx1, hx2, hy0, hy1, hy2⟩
      go_wp2
      refine start_ (n := 11) (S := (fun w' => w'.cell? ⟨w.heap.size, 2, none⟩ = some (.slice (some ad) n2 c2) ∧ w'.cell? ⟨w.heap.size + 1, 2, none⟩ = some (.slice (some bd) n2 d2) ∧ w'.cell? (ad.add (i * 3)) = some (.int .u16 xa) ∧ w'.cell? ⟨(ad.add (i * 3)).block, (ad.add (i * 3)).off + 1, none⟩ = some (.int .i64 xi) ∧ w'.cell? ⟨(ad.add (i * 3)).block, (ad.add (i * 3)).off + 2, none⟩ = some (.int .i64 xo) ∧ w'.cell? (bd.add (i * 3)) = some (.int .u16 xa) ∧ w'.cell? ⟨(bd.add (i * 3)).block, (bd.add (i * 3)).off + 1, none⟩ = some (.int .i64 xi) ∧ w'.cell? ⟨(bd.add (i * 3)).block, (bd.add (i * 3)).off + 2, none⟩ = some (.int .i64 xo))) (ds := []) #[false, false, false, false, false, false, false, false, false, false, false] (by kernel_rfl) rfl rfl hS (fun hHeld => ?_)
      refine pure_ (i := 0) (N := some 46) (v := ?_) (a' := ?_) #[true, false, false, false, false, false, false, false, false, false, false] rfl rfl (by kernel_rfl) (fun _ _ _ h => h) (Or.inl ⟨by rfl, ?_⟩) ?_ ?_
      rotate_left
      · intro w'
        go_simp
        with_reducible rfl
      rotate_left
      · simp only [Act.put, List.setIfInBounds_toArray, List.set_cons_zero, List.set_cons_succ, i64_w, i32_w]
        rfl
      refine take_ (i := 1) (N := some 47) (v := ?_) (a' := ?_) #[true, true, false, false, false, false, false, false, false, false, false] rfl rfl (by kernel_rfl) (fun _ _ _ h => h) (Or.inl ⟨by rfl, ?_⟩) hHeld ?_ ?_
      rotate_left
      · rintro w' ⟨y1, y2, y3, y4, y5, y6, y7, y8⟩
        go_simp
        with_reducible rfl
      rotate_left
      · simp only [Act.put, List.setIfInBounds_toArray, List.set_cons_zero, List.set_cons_succ, i64_w, i32_w]
        rfl
      refine pure_ (i := 2) (N := some 48) (v := ?_) (a' := ?_) #[true, true, true, false, false, false, false, false, false, false, false] rfl rfl (by kernel_rfl) (fun _ _ _ h => h) (Or.inl ⟨by rfl, ?_⟩) ?_ ?_
      rotate_left
      · intro w'
        go_simp
        with_reducible rfl
      rotate_left
      · simp only [Act.put, List.setIfInBounds_toArray, List.set_cons_zero, List.set_cons_succ, i64_w, i32_w]
        rfl
      refine pure_ (i := 3) (N := some 49) (v := ?_) (a' := ?_) #[true, true, true, true, false, false, false, false, false, false, false] rfl rfl (by kernel_rfl) (fun _ _ _ h => h) (Or.inl ⟨by rfl, ?_⟩) ?_ ?_
      rotate_left
      · intro w'
        go_simp
        with_reducible rfl
      rotate_left
      · simp only [Act.put, List.setIfInBounds_toArray, List.set_cons_zero, List.set_cons_succ, i64_w, i32_w]
        rfl
      refine take_ (i := 4) (N := some 50) (v := ?_) (a' := ?_) #[true, true, true, true, true, false, false, false, false, false, false] rfl rfl (by kernel_rfl) (fun _ _ _ h => h) (Or.inl ⟨by rfl, ?_⟩) hHeld ?_ ?_
      rotate_left
      · rintro w' ⟨y1, y2, y3, y4, y5, y6, y7, y8⟩
        go_simp
        with_reducible rfl
      rotate_left
      · simp only [Act.put, List.setIfInBounds_toArray, List.set_cons_zero, List.set_cons_succ, i64_w, i32_w]
        rfl
      refine pure_ (i := 5) (N := some 51) (v := ?_) (a' := ?_) #[true, true, true, true, true, true, false, false, false, false, false] rfl rfl (by kernel_rfl) (fun _ _ _ h => h) (Or.inl ⟨by rfl, ?_⟩) ?_ ?_
      rotate_left
      · intro w'
        go_simp
        with_reducible rfl
      rotate_left
      · simp only [Act.put, List.setIfInBounds_toArray, List.set_cons_zero, List.set_cons_succ, i64_w, i32_w]
        rfl
      refine take_ (i := 6) (N := some 52) (v := ?_) (a' := ?_) #[true, true, true, true, true, true, true, false, false, false, false] rfl rfl (by kernel_rfl) (fun _ _ _ h => h) (Or.inl ⟨by rfl, ?_⟩) hHeld ?_ ?_
      rotate_left
      · rintro w' ⟨y1, y2, y3, y4, y5, y6, y7, y8⟩
        go_simp
        with_reducible rfl
      rotate_left
      · simp only [Act.put, List.setIfInBounds_toArray, List.set_cons_zero, List.set_cons_succ, i64_w, i32_w]
        rfl
      refine pure_ (i := 7) (N := some 53) (v := ?_) (a' := ?_) #[true, true, true, true, true, true, true, true, false, false, false] rfl rfl (by kernel_rfl) (fun _ _ _ h => h) (Or.inl ⟨by rfl, ?_⟩) ?_ ?_
      rotate_left
      · intro w'
        go_simp
        with_reducible rfl
      rotate_left
      · simp only [Act.put, List.setIfInBounds_toArray, List.set_cons_zero, List.set_cons_succ, i64_w, i32_w]
        rfl
      refine pure_ (i := 8) (N := some 54) (v := ?_) (a' := ?_) #[true, true, true, true, true, true, true, true, true, false, false] rfl rfl (by kernel_rfl) (fun _ _ _ h => h) (Or.inl ⟨by rfl, ?_⟩) ?_ ?_
      rotate_left
      · intro w'
        go_simp
        with_reducible rfl
      rotate_left
      · simp only [Act.put, List.setIfInBounds_toArray, List.set_cons_zero, List.set_cons_succ, i64_w, i32_w]
        rfl
      refine take_ (i := 9) (N := some 55) (v := ?_) (a' := ?_) #[true, true, true, true, true, true, true, true, true, true, false] rfl rfl (by kernel_rfl) (fun _ _ _ h => h) (Or.inl ⟨by rfl, ?_⟩) hHeld ?_ ?_
      rotate_left
      · rintro w' ⟨y1, y2, y3, y4, y5, y6, y7, y8⟩
        go_simp
        with_reducible rfl
      rotate_left
      · simp only [Act.put, List.setIfInBounds_toArray, List.set_cons_zero, List.set_cons_succ, i64_w, i32_w]
        rfl
      refine pure_ (i := 10) (N := some 56) (v := ?_) (a' := ?_) #[true, true, true, true, true, true, true, true, true, true, true] rfl rfl (by kernel_rfl) (fun _ _ _ h => h) (Or.inl ⟨by rfl, ?_⟩) ?_ ?_
      rotate_left
      · intro w'
        go_simp
        with_reducible rfl
      rotate_left
      · simp only [Act.put, List.setIfInBounds_toArray, List.set_cons_zero, List.set_cons_succ, i64_w, i32_w]
        rfl
      refine done_ (by kernel_rfl) ?_
      go_wp2
      go_roundg k1
      case measure => omega
      case rel => exact ⟨i + 1, rfl, by omega, hX1, hX2, ⟨below_drew hX3.out⟩⟩
    | zero =>
      have hd : decide ((i : Int) < (n2 : Int)) = false := decide_eq_false (by omega)
      have hd' : decide (i < n2) = false := decide_eq_false (by omega)
      clear hi
      go_wp2
      go_loopg [6] n3 (fun gk v6 wr => ∃ i : Nat, v6 = .int .i64 (i : Int) ∧ i + gk = n3 ∧ Aside0 (wr.heap[w.heap.size]? = some (.cells #[.slice A0 n0 c0, .int .u16 ent, .slice A2 n2 c2, .slice A3 n3 c3] 28 (0, 0))) ∧ Aside0 (wr.heap[w.heap.size + 1]? = some (.cells #[.slice B0 n0 d0, .int .u16 ent, .slice B2 n2 d2, .slice B3 n3 d3] 28 (0, 0))) ∧ Aside0 (Below w.heap.size w wr))
      case atStart => exact ⟨0, rfl, by omega, hX1, hX2, hX3⟩
      case round =>
        clear hX1 hX2 hX3 hd hd' q2 q3 r2
        obtain ⟨i, rfl, hi, hX1, hX2, hX3⟩ := hrel
        have q3 : wr.cell? ⟨w.heap.size, 3, none⟩ = some (.slice A3 n3 c3) := by simp [World.cell?, hX1.out]
        have r3 : wr.cell? ⟨w.heap.size + 1, 3, none⟩ = some (.slice B3 n3 d3) := by simp [World.cell?, hX2.out]
        cases gk with
        | succ k1' =>
          have hd : decide ((i : Int) < (n3 : Int)) = true := decide_eq_true (by omega)
          have hd' : decide (i < n3) = true := decide_eq_true (by omega)
          have hlt : (i < n3) = True := eq_true (by omega)
          obtain ⟨ad, A1, k1, eA, hx0, hx1, hx2, hx3⟩ := atB (Kd.C_below hA3.out hX3.out) i (by have := hnn3.out; omega)
          obtain ⟨bd, B1, k2, eB, hy0, hy1, hy2, hy3⟩ := atB (Kd.C_below hB3.out hX3.out) i (by have := hnn3.out; omega)
          subst eA
          subst eB
          generalize c.bks.getD i (0, []) = x at hx0 hx1 hx2 hx3 hy0 hy1 hy2 hy3
          obtain ⟨xn, xd⟩ := x
          dsimp only at hx0 hx1 hx2 hx3 hy0 hy1 hy2 hy3
          have kA := Kd.C_string (P := Tryd.prog) (c := k1) Tryd.underlying22 Tryd.underlying5 Tryd.underlying9 (Kd.C_below hx3 (below_drew (Below.refl wr.heap.size wr)))
          have kB := Kd.C_string (P := Tryd.prog) (c := k2) Tryd.underlying22 Tryd.underlying5 Tryd.underlying9 (Kd.C_below hy3 (below_drew (Below.refl wr.heap.size wr)))
          generalize strOfNums xd = str at kA kB
          generalize xd.length = nd at kA kB hx1 hy1
          have hS : (fun w' => w'.cell? ⟨w.heap.size, 3, none⟩ = some (.slice (some ad) n3 c3) ∧ w'.cell? ⟨w.heap.size + 1, 3, none⟩ = some (.slice (some bd) n3 d3) ∧ w'.cell? (ad.add (i * 2)) = some (.int .i64 xn) ∧ w'.cell? ⟨(ad.add (i * 2)).block, (ad.add (i * 2)).off + 1, none⟩ = some (.slice A1 nd k1) ∧ w'.cell? (bd.add (i * 2)) = some (.int .i64 xn) ∧ w'.cell? ⟨(bd.add (i * 2)).block, (bd.add (i * 2)).off + 1, none⟩ = some (.slice B1 nd k2) ∧ (convert 22 9 (.slice A1 nd k1)).run Tryd.prog w' = .ok (.string str) w' ∧ (convert 22 9 (.slice B1 nd k2)).run Tryd.prog w' = .ok (.string str) w') wr.drew := ⟨q3, r3, hx0, hx1, hy0, hy1, kA, kB⟩
          clear kA kB hx2 hx3 hy2 hy3
          go_wp2
          refine start_ (n := 30) (S := (fun w' => w'.cell? ⟨w.heap.size, 3, none⟩ = some (.slice (some ad) n3 c3) ∧ w'.cell? ⟨w.heap.size + 1, 3, none⟩ = some (.slice (some bd) n3 d3) ∧ w'.cell? (ad.add (i * 2)) = some (.int .i64 xn) ∧ w'.cell? ⟨(ad.add (i * 2)).block, (ad.add (i * 2)).off + 1, none⟩ = some (.slice A1 nd k1) ∧ w'.cell? (bd.add (i * 2)) = some (.int .i64 xn) ∧ w'.cell? ⟨(bd.add (i * 2)).block, (bd.add (i * 2)).off + 1, none⟩ = some (.slice B1 nd k2) ∧ (convert 22 9 (.slice A1 nd k1)).run Tryd.prog w' = .ok (.string str) w' ∧ (convert 22 9 (.slice B1 nd k2)).run Tryd.prog w' = .ok (.string str) w')) (ds := []) #[false, false, false, false, false, false, false, false, false, false, false, false, false, false, false, false, false, false, false, false, false, false, false, false, false, false, false, false, false, false] (by kernel_rfl) rfl rfl hS (fun hHeld => ?_)
          refine pure_ (i := 0) (N := some 64) (v := ?_) (a' := ?_) #[true, false, false, false, false, false, false, false, false, false, false, false, false, false, false, false, false, false, false, false, false, false, false, false, false, false, false, false, false, false] rfl rfl (by kernel_rfl) (fun _ _ _ h => h) (Or.inl ⟨by rfl, ?_⟩) ?_ ?_
          rotate_left
          · intro w'
            go_simp
            with_reducible rfl
          rotate_left
          · simp only [Act.put, List.setIfInBounds_toArray, List.set_cons_zero, List.set_cons_succ, i64_w, i32_w]
            rfl
          refine take_ (i := 1) (N := some 65) (v := ?_) (a' := ?_) #[true, true, false, false, false, false, false, false, false, false, false, false, false, false, false, false, false, false, false, false, false, false, false, false, false, false, false, false, false, false] rfl rfl (by kernel_rfl) (fun _ _ _ h => h) (Or.inl ⟨by rfl, ?_⟩) hHeld ?_ ?_
          rotate_left
          · rintro w' ⟨y1, y2, y3, y4, y5, y6, y7, y8⟩
            go_simp
            with_reducible rfl
          rotate_left
          · simp only [Act.put, List.setIfInBounds_toArray, List.set_cons_zero, List.set_cons_succ, i64_w, i32_w]
            rfl
          refine pure_ (i := 2) (N := some 66) (v := ?_) (a' := ?_) #[true, true, true, false, false, false, false, false, false, false, false, false, false, false, false, false, false, false, false, false, false, false, false, false, false, false, false, false, false, false] rfl rfl (by kernel_rfl) (fun _ _ _ h => h) (Or.inl ⟨by rfl, ?_⟩) ?_ ?_
          rotate_left
          · intro w'
            go_simp
            with_reducible rfl
          rotate_left
          · simp only [Act.put, List.setIfInBounds_toArray, List.set_cons_zero, List.set_cons_succ, i64_w, i32_w]
            rfl
          refine pure_ (i := 3) (N := some 67) (v := ?_) (a' := ?_) #[true, true, true, true, false, false, false, false, false, false, false, false, false, false, false, false, false, false, false, false, false, false, false, false, false, false, false, false, false, false] rfl rfl (by kernel_rfl) (fun _ _ _ h => h) (Or.inl ⟨by rfl, ?_⟩) ?_ ?_
          rotate_left
          · intro w'
            go_simp
            with_reducible rfl
          rotate_left
          · simp only [Act.put, List.setIfInBounds_toArray, List.set_cons_zero, List.set_cons_succ, i64_w, i32_w]
            rfl
          refine pure_ (i := 4) (N := some 68) (v := ?_) (a' := ?_) #[true, true, true, true, true, false, false, false, false, false, false, false, false, false, false, false, false, false, false, false, false, false, false, false, false, false, false, false, false, false] rfl rfl (by kernel_rfl) (fun _ _ _ h => h) (Or.inl ⟨by rfl, ?_⟩) ?_ ?_
          rotate_left
          · intro w'
            go_simp
            with_reducible rfl
          rotate_left
          · simp only [Act.put, List.setIfInBounds_toArray, List.set_cons_zero, List.set_cons_succ, i64_w, i32_w]
            rfl
          refine take_ (i := 5) (N := some 69) (v := ?_) (a' := ?_) #[true, true, true, true, true, true, false, false, false, false, false, false, false, false, false, false, false, false, false, false, false, false, false, false, false, false, false, false, false, false] rfl rfl (by kernel_rfl) (fun _ _ _ h => h) (Or.inl ⟨by rfl, ?_⟩) hHeld ?_ ?_
          rotate_left
          · rintro w' ⟨y1, y2, y3, y4, y5, y6, y7, y8⟩
            go_simp
            with_reducible rfl
          rotate_left
          · simp only [Act.put, List.setIfInBounds_toArray, List.set_cons_zero, List.set_cons_succ, i64_w, i32_w]
            rfl
          refine pure_ (i := 6) (N := some 70) (v := ?_) (a' := ?_) #[true, true, true, true, true, true, true, false, false, false, false, false, false, false, false, false, false, false, false, false, false, false, false, false, false, false, false, false, false, false] rfl rfl (by kernel_rfl) (fun _ _ _ h => h) (Or.inl ⟨by rfl, ?_⟩) ?_ ?_
          rotate_left
          · intro w'
            go_simp
            with_reducible rfl
          rotate_left
          · simp only [Act.put, List.setIfInBounds_toArray, List.set_cons_zero, List.set_cons_succ, i64_w, i32_w]
            rfl
          refine take_ (i := 7) (N := some 71) (v := ?_) (a' := ?_) #[true, true, true, true, true, true, true, true, false, false, false, false, false, false, false, false, false, false, false, false, false, false, false, false, false, false, false, false, false, false] rfl rfl (by kernel_rfl) (fun _ _ _ h => h) (Or.inl ⟨by rfl, ?_⟩) hHeld ?_ ?_
          rotate_left
          · rintro w' ⟨y1, y2, y3, y4, y5, y6, y7, y8⟩
            go_simp
            with_reducible rfl
          rotate_left
          · simp only [Act.put, List.setIfInBounds_toArray, List.set_cons_zero, List.set_cons_succ, i64_w, i32_w]
            rfl
          refine pure_ (i := 8) (N := some 72) (v := ?_) (a' := ?_) #[true, true, true, true, true, true, true, true, true, false, false, false, false, false, false, false, false, false, false, false, false, false, false, false, false, false, false, false, false, false] rfl rfl (by kernel_rfl) (fun _ _ _ h => h) (Or.inl ⟨by rfl, ?_⟩) ?_ ?_
          rotate_left
          · intro w'
            go_simp
            with_reducible rfl
          rotate_left
          · simp only [Act.put, List.setIfInBounds_toArray, List.set_cons_zero, List.set_cons_succ, i64_w, i32_w]
            rfl
          refine pure_ (i := 9) (N := some 73) (v := ?_) (a' := ?_) #[true, true, true, true, true, true, true, true, true, true, false, false, false, false, false, false, false, false, false, false, false, false, false, false, false, false, false, false, false, false] rfl rfl (by kernel_rfl) (fun _ _ _ h => h) (Or.inl ⟨by rfl, ?_⟩) ?_ ?_
          rotate_left
          · intro w'
            go_simp
            with_reducible rfl
          rotate_left
          · simp only [Act.put, List.setIfInBounds_toArray, List.set_cons_zero, List.set_cons_succ, i64_w, i32_w]
            rfl
          refine pure_ (i := 10) (N := some 74) (v := ?_) (a' := ?_) #[true, true, true, true, true, true, true, true, true, true, true, false, false, false, false, false, false, false, false, false, false, false, false, false, false, false, false, false, false, false] rfl rfl (by kernel_rfl) (fun _ _ _ h => h) (Or.inl ⟨by rfl, ?_⟩) ?_ ?_
          rotate_left
          · intro w'
            go_simp
            with_reducible rfl
          rotate_left
          · simp only [Act.put, List.setIfInBounds_toArray, List.set_cons_zero, List.set_cons_succ, i64_w, i32_w]
            rfl
          refine take_ (i := 11) (N := some 75) (v := ?_) (a' := ?_) #[true, true, true, true, true, true, true, true, true, true, true, true, false, false, false, false, false, false, false, false, false, false, false, false, false, false, false, false, false, false] rfl rfl (by kernel_rfl) (fun _ _ _ h => h) (Or.inl ⟨by rfl, ?_⟩) hHeld ?_ ?_
          rotate_left
          · rintro w' ⟨y1, y2, y3, y4, y5, y6, y7, y8⟩
            go_simp
            with_reducible rfl
          rotate_left
          · simp only [Act.put, List.setIfInBounds_toArray, List.set_cons_zero, List.set_cons_succ, i64_w, i32_w]
            rfl
          refine pure_ (i := 12) (N := some 76) (v := ?_) (a' := ?_) #[true, true, true, true, true, true, true, true, true, true, true, true, true, false, false, false, false, false, false, false, false, false, false, false, false, false, false, false, false, false] rfl rfl (by kernel_rfl) (fun _ _ _ h => h) (Or.inl ⟨by rfl, ?_⟩) ?_ ?_
          rotate_left
          · intro w'
            go_simp
            with_reducible rfl
          rotate_left
          · simp only [Act.put, List.setIfInBounds_toArray, List.set_cons_zero, List.set_cons_succ, i64_w, i32_w]
            rfl
          refine pure_ (i := 13) (N := some 77) (v := ?_) (a' := ?_) #[true, true, true, true, true, true, true, true, true, true, true, true, true, true, false, false, false, false, false, false, false, false, false, false, false, false, false, false, false, false] rfl rfl (by kernel_rfl) (fun _ _ _ h => h) (Or.inl ⟨by rfl, ?_⟩) ?_ ?_
          rotate_left
          · intro w'
            go_simp
            with_reducible rfl
          rotate_left
          · simp only [Act.put, List.setIfInBounds_toArray, List.set_cons_zero, List.set_cons_succ, i64_w, i32_w]
            rfl
          refine pure_ (i := 14) (N := some 78) (v := ?_) (a' := ?_) #[true, true, true, true, true, true, true, true, true, true, true, true, true, true, true, false, false, false, false, false, false, false, false, false, false, false, false, false, false, false] rfl rfl (by kernel_rfl) (fun _ _ _ h => h) (Or.inl ⟨by rfl, ?_⟩) ?_ ?_
          rotate_left
          · intro w'
            go_simp
            with_reducible rfl
          rotate_left
          · simp only [Act.put, List.setIfInBounds_toArray, List.set_cons_zero, List.set_cons_succ, i64_w, i32_w]
            rfl
          refine take_ (i := 15) (N := some 79) (v := ?_) (a' := ?_) #[true, true, true, true, true, true, true, true, true, true, true, true, true, true, true, true, false, false, false, false, false, false, false, false, false, false, false, false, false, false] rfl rfl (by kernel_rfl) (fun _ _ _ h => h) (Or.inl ⟨by rfl, ?_⟩) hHeld ?_ ?_
          rotate_left
          · rintro w' ⟨y1, y2, y3, y4, y5, y6, y7, y8⟩
            go_simp
            with_reducible rfl
          rotate_left
          · simp only [Act.put, List.setIfInBounds_toArray, List.set_cons_zero, List.set_cons_succ, i64_w, i32_w]
            rfl
          refine pure_ (i := 16) (N := some 80) (v := ?_) (a' := ?_) #[true, true, true, true, true, true, true, true, true, true, true, true, true, true, true, true, true, false, false, false, false, false, false, false, false, false, false, false, false, false] rfl rfl (by kernel_rfl) (fun _ _ _ h => h) (Or.inl ⟨by rfl, ?_⟩) ?_ ?_
          rotate_left
          · intro w'
            go_simp
            with_reducible rfl
          rotate_left
          · simp only [Act.put, List.setIfInBounds_toArray, List.set_cons_zero, List.set_cons_succ, i64_w, i32_w]
            rfl
          refine pure_ (i := 17) (N := some 81) (v := ?_) (a' := ?_) #[true, true, true, true, true, true, true, true, true, true, true, true, true, true, true, true, true, true, false, false, false, false, false, false, false, false, false, false, false, false] rfl rfl (by kernel_rfl) (fun _ _ _ h => h) (Or.inl ⟨by rfl, ?_⟩) ?_ ?_
          rotate_left
          · intro w'
            go_simp
            with_reducible rfl
          rotate_left
          · simp only [Act.put, List.setIfInBounds_toArray, List.set_cons_zero, List.set_cons_succ, i64_w, i32_w]
            rfl
          refine pure_ (i := 18) (N := some 82) (v := ?_) (a' := ?_) #[true, true, true, true, true, true, true, true, true, true, true, true, true, true, true, true, true, true, true, false, false, false, false, false, false, false, false, false, false, false] rfl rfl (by kernel_rfl) (fun _ _ _ h => h) (Or.inl ⟨by rfl, ?_⟩) ?_ ?_
          rotate_left
          · intro w'
            go_simp
            with_reducible rfl
          rotate_left
          · simp only [Act.put, List.setIfInBounds_toArray, List.set_cons_zero, List.set_cons_succ, i64_w, i32_w]
            rfl
          refine take_ (i := 19) (N := some 83) (v := ?_) (a' := ?_) #[true, true, true, true, true, true, true, true, true, true, true, true, true, true, true, true, true, true, true, true, false, false, false, false, false, false, false, false, false, false] rfl rfl (by kernel_rfl) (fun _ _ _ h => h) (Or.inl ⟨by rfl, ?_⟩) hHeld ?_ ?_
          rotate_left
          · rintro w' ⟨y1, y2, y3, y4, y5, y6, y7, y8⟩
            go_simp
            with_reducible rfl
          rotate_left
          · simp only [Act.put, List.setIfInBounds_toArray, List.set_cons_zero, List.set_cons_succ, i64_w, i32_w]
            rfl
          refine take_ (i := 20) (N := some 84) (v := ?_) (a' := ?_) #[true, true, true, true, true, true, true, true, true, true, true, true, true, true, true, true, true, true, true, true, true, false, false, false, false, false, false, false, false, false] rfl rfl (by kernel_rfl) (fun _ _ _ h => h) (Or.inl ⟨by rfl, ?_⟩) hHeld ?_ ?_
          rotate_left
          · rintro w' ⟨y1, y2, y3, y4, y5, y6, y7, y8⟩
            go_simp
            with_reducible rfl
          rotate_left
          · simp only [Act.put, List.setIfInBounds_toArray, List.set_cons_zero, List.set_cons_succ, i64_w, i32_w]
            rfl
          refine pure_ (i := 21) (N := some 85) (v := ?_) (a' := ?_) #[true, true, true, true, true, true, true, true, true, true, true, true, true, true, true, true, true, true, true, true, true, true, false, false, false, false, false, false, false, false] rfl rfl (by kernel_rfl) (fun _ _ _ h => h) (Or.inl ⟨by rfl, ?_⟩) ?_ ?_
          rotate_left
          · intro w'
            go_simp
            with_reducible rfl
          rotate_left
          · simp only [Act.put, List.setIfInBounds_toArray, List.set_cons_zero, List.set_cons_succ, i64_w, i32_w]
            rfl
          refine take_ (i := 22) (N := some 86) (v := ?_) (a' := ?_) #[true, true, true, true, true, true, true, true, true, true, true, true, true, true, true, true, true, true, true, true, true, true, true, false, false, false, false, false, false, false] rfl rfl (by kernel_rfl) (fun _ _ _ h => h) (Or.inl ⟨by rfl, ?_⟩) hHeld ?_ ?_
          rotate_left
          · rintro w' ⟨y1, y2, y3, y4, y5, y6, y7, y8⟩
            go_simp
            with_reducible rfl
          rotate_left
          · simp only [Act.put, List.setIfInBounds_toArray, List.set_cons_zero, List.set_cons_succ, i64_w, i32_w]
            rfl
          refine pure_ (i := 23) (N := some 87) (v := ?_) (a' := ?_) #[true, true, true, true, true, true, true, true, true, true, true, true, true, true, true, true, true, true, true, true, true, true, true, true, false, false, false, false, false, false] rfl rfl (by kernel_rfl) (fun _ _ _ h => h) (Or.inl ⟨by rfl, ?_⟩) ?_ ?_
          rotate_left
          · intro w'
            go_simp
            with_reducible rfl
          rotate_left
          · simp only [Act.put, List.setIfInBounds_toArray, List.set_cons_zero, List.set_cons_succ, i64_w, i32_w]
            rfl
          refine pure_ (i := 24) (N := some 88) (v := ?_) (a' := ?_) #[true, true, true, true, true, true, true, true, true, true, true, true, true, true, true, true, true, true, true, true, true, true, true, true, true, false, false, false, false, false] rfl rfl (by kernel_rfl) (fun _ _ _ h => h) (Or.inl ⟨by rfl, ?_⟩) ?_ ?_
          rotate_left
          · intro w'
            go_simp
            with_reducible rfl
          rotate_left
          · simp only [Act.put, List.setIfInBounds_toArray, List.set_cons_zero, List.set_cons_succ, i64_w, i32_w]
            rfl
          refine pure_ (i := 25) (N := some 89) (v := ?_) (a' := ?_) #[true, true, true, true, true, true, true, true, true, true, true, true, true, true, true, true, true, true, true, true, true, true, true, true, true, true, false, false, false, false] rfl rfl (by kernel_rfl) (fun _ _ _ h => h) (Or.inl ⟨by rfl, ?_⟩) ?_ ?_
          rotate_left
          · intro w'
            go_simp
            with_reducible rfl
          rotate_left
          · simp only [Act.put, List.setIfInBounds_toArray, List.set_cons_zero, List.set_cons_succ, i64_w, i32_w]
            rfl
          refine take_ (i := 26) (N := some 90) (v := ?_) (a' := ?_) #[true, true, true, true, true, true, true, true, true, true, true, true, true, true, true, true, true, true, true, true, true, true, true, true, true, true, true, false, false, false] rfl rfl (by kernel_rfl) (fun _ _ _ h => h) (Or.inl ⟨by rfl, ?_⟩) hHeld ?_ ?_
          rotate_left
          · rintro w' ⟨y1, y2, y3, y4, y5, y6, y7, y8⟩
            go_simp
            with_reducible rfl
          rotate_left
          · simp only [Act.put, List.setIfInBounds_toArray, List.set_cons_zero, List.set_cons_succ, i64_w, i32_w]
            rfl
          refine take_ (i := 27) (N := some 91) (v := ?_) (a' := ?_) #[true, true, true, true, true, true, true, true, true, true, true, true, true, true, true, true, true, true, true, true, true, true, true, true, true, true, true, true, false, false] rfl rfl (by kernel_rfl) (fun _ _ _ h => h) (Or.inl ⟨by rfl, ?_⟩) hHeld ?_ ?_
          rotate_left
          · rintro w' ⟨y1, y2, y3, y4, y5, y6, y7, y8⟩
            go_simp
            with_reducible rfl
          rotate_left
          · simp only [Act.put, List.setIfInBounds_toArray, List.set_cons_zero, List.set_cons_succ, i64_w, i32_w]
            rfl
          refine pure_ (i := 28) (N := some 92) (v := ?_) (a' := ?_) #[true, true, true, true, true, true, true, true, true, true, true, true, true, true, true, true, true, true, true, true, true, true, true, true, true, true, true, true, true, false] rfl rfl (by kernel_rfl) (fun _ _ _ h => h) (Or.inl ⟨by rfl, ?_⟩) ?_ ?_
          rotate_left
          · intro w'
            go_simp
            with_reducible rfl
          rotate_left
          · simp only [Act.put, List.setIfInBounds_toArray, List.set_cons_zero, List.set_cons_succ, i64_w, i32_w]
            rfl
          refine pure_ (i := 29) (N := some 93) (v := ?_) (a' := ?_) #[true, true, true, true, true, true, true, true, true, true, true, true, true, true, true, true, true, true, true, true, true, true, true, true, true, true, true, true, true, true] rfl rfl (by kernel_rfl) (fun _ _ _ h => h) (Or.inl ⟨by rfl, ?_⟩) ?_ ?_
          rotate_left
          · intro w'
            go_simp
            with_reducible rfl
          rotate_left
          · simp only [Act.put, List.setIfInBounds_toArray, List.set_cons_zero, List.set_cons_succ, i64_w, i32_w]
            rfl
          refine done_ (by kernel_rfl) ?_
          go_wp2
          go_roundg k1'
          case measure => omega
          case rel => exact ⟨i + 1, rfl, by omega, hX1, hX2, ⟨below_drew hX3.out⟩⟩
        | zero =>
          have hd : decide ((i : Int) < (n3 : Int)) = false := decide_eq_false (by omega)
          have hd' : decide (i < n3) = false := decide_eq_false (by omega)
          clear hi
          go_wp2
          go_ret
          exact ⟨rfl, hX3.out⟩
end Go.Proofs.YtembdahclmffjaaDoor.Pk
