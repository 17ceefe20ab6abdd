/- cart.Decode: the walk where the head is right. (Printed by gen_dm.py.) -/
import Derived.Test.YtembdahclmffjaaDoorDk
import Derived.Lib.Hide
namespace Go.Proofs.YtembdahclmffjaaDoor.Pk
open Go.RowKit Go.Proofs.YtembdahclmffjaaDoorW.PrintWords Go.Proofs.YtembdahclmffjaaDoorW.PrintLast Go.Proofs.YtembdahclmffjaaDoorW.PrintMore Go.Proofs.YtembdahclmffjaaDoor.Mem
set_option linter.unusedVariables false
set_option linter.unusedSimpArgs false
/-- the deferred calls look at the result variables alone -/
theorem leaves_congr {P : Program} {fn : Func} {t1 t2 : Array Value} {R : Ending → World → Prop} (h : results fn t1 = results fn t2) : ∀ (ds : List Deferred) (u : FrameMode) (w : World), Leaves P fn t1 R ds u w → Leaves P fn t2 R ds u w
  | [], .returning, w => fun ⟨v, hr, hR⟩ => ⟨v, by rw [← h]; exact hr, hR⟩
  | [], .panicking chain, w => fun hR => hR
  | [], .run, w => fun hF => hF
  | d :: ds, u, w => fun ⟨hu, fv, cap, f, args, ht, hi, hc⟩ => ⟨hu, fv, cap, f, args, ht, hi, hc.mono fun e u' w' hh => by
      cases e with
      | returned v => exact leaves_congr h ds _ _ hh
      | panicked chain => exact leaves_congr h ds _ _ hh
      | outgrown => exact hh⟩
theorem keepQ {K : Act → World → Prop} {R : Ending → World → Prop} {c : List PanicEntry} {a : Act} {W : World} {N : Nat} {v : Value} (h2 : N ≠ 2) (h3 : N ≠ 3) (h : Exit.then K (bodyPostD Tryd.prog Tryd.f9 R) (.panic c) (a.put (some N) v) W) : Exit.then K (bodyPostD Tryd.prog Tryd.f9 R) (.panic c) a W := by
  refine leaves_congr ?_ a.defers _ W h
  unfold results
  simp only [Tryd.results9]
  simp [Act.put, Array.getElem?_setIfInBounds, h2, h3]
/-- what the walk wants, behind the head -/
structure Hd (w : World) (ad : Addr) (c N E : Nat) (b : List Int) : Prop where
  hC : Kd.C (Kd.int .u8) w (some ad) b.length b
  cl : b.length ≤ c
  bb : allB b
  mg : b.take 5 = magic
  lo : 12 ≤ b.length
  hi : b.length ≤ 524288
  n : N = b.length
  e : E + 4 = N
section
variable {w : World} {ad : Addr} {c N E : Nat} {b : List Int}
theorem Hd.conv (h : Hd w ad c N E b) : (convert 22 9 (.slice (some ad) 4 c)).run Tryd.prog ((w.alloc (.cells #[.slice none 0 0, .int .u16 0, .slice none 0 0, .slice none 0 0] 28)).alloc (.cells #[.int .i64 0] 29)) = .ok (.string ⟨#[87, 73, 83, 80]⟩) ((w.alloc (.cells #[.slice none 0 0, .int .u16 0, .slice none 0 0, .slice none 0 0] 28)).alloc (.cells #[.int .i64 0] 29)) := by
  have hconv := Kd.C_string (P := Tryd.prog) (c := c) Tryd.underlying22 Tryd.underlying5 Tryd.underlying9 (Kd.C_take (Kd.C_below h.hC (Vars.new w).bel) (m := 4) (by have := h.lo; omega))
  have h4 : b.take 4 = [87, 73, 83, 80] := by
    have := congrArg (List.take 4) h.mg
    rw [List.take_take] at this
    simpa [magic] using this
  rw [show (b.take 4).length = 4 by rw [List.length_take]; have := h.lo; omega, h4] at hconv
  exact hconv
theorem Hd.x4 (h : Hd w ad c N E b) : w.cell? ⟨ad.block, ad.off + 4, none⟩ = some (.int .u8 1) ∧ ad.block < w.heap.size := by
  obtain ⟨a5, e5, hx⟩ := Kd.at_int h.hC 4 (by omega) (by have := h.lo; omega)
  injection e5 with e5
  subst e5
  have hX : rd b 4 = 1 := by
    have := congrArg (fun l => l.getD 4 0) h.mg
    simp only [List.getD_eq_getElem?_getD, List.getElem?_take] at this
    rw [if_pos (by omega)] at this
    show b.getD 4 0 = 1
    rw [List.getD_eq_getElem?_getD, this]; rfl
  rw [show ((4 : Int)).toNat = 4 from rfl, hX, show ad.add 4 = ⟨ad.block, ad.off + 4, none⟩ by simp [Addr.add]] at hx
  exact ⟨hx, World.block_lt_of_cell? w ⟨ad.block, ad.off + 4, none⟩ hx⟩
theorem Hd.cuts (h : Hd w ad c N E b) : (∀ W : World, (Instr.slice 22 (.slice (some ad) N c) none (some (.int .i64 4)) none).run Tryd.prog W = .ok (.slice (some ad) 4 c) W) ∧ (∀ W : World, (Instr.slice 22 (.slice (some ad) N c) none (some (.int .i64 ((N : Int) - 4))) none).run Tryd.prog W = .ok (.slice (some ad) E c) W) ∧ (∀ W : World, (Instr.slice 22 (.slice (some ad) N c) (some (.int .i64 ((N : Int) - 4))) none none).run Tryd.prog W = .ok (.slice (some (ad.add E)) 4 (c - E)) W) := by
  obtain ⟨i0, hi, _, hz1, _⟩ := info_parts infoB
  have h1 := h.n
  have h2 := h.e
  have h3 := h.lo
  have h4 := h.cl
  have e1 : ((N : Int) - 4).toNat = E := by omega
  refine ⟨fun W => cut_to (P := Tryd.prog) 22 5 .i64 Tryd.underlying22 hi (some ad) N c 4 (by omega) (by omega) (by omega) W, fun W => ?_, fun W => ?_⟩
  · have := cut_to (P := Tryd.prog) 22 5 .i64 Tryd.underlying22 hi (some ad) N c ((N : Int) - 4) (by omega) (by omega) (by omega) W
    rw [e1] at this
    exact this
  · have := cut_from (P := Tryd.prog) 22 5 .i64 Tryd.underlying22 hi 1 hz1 (some ad) N c ((N : Int) - 4) (by omega) (by omega) W
    rw [e1, if_neg (by omega), Nat.mul_one, show N - E = 4 by omega] at this
    exact this
theorem Hd.reader (h : Hd w ad c N E b) (W : World) (hb : Below w.heap.size w W) : Calls Tryd.prog 32 #[.slice (some (ad.add E)) 4 (c - E)] W fun e w' => ∃ g, e = .returned (.pointer (some ⟨g, 0, none⟩)) ∧ IsR w' W.heap.size (fun k => W.heap.size ≤ k) g (b.drop E) 0 ∧ Below W.heap.size W w' := by
  have h1 := h.n
  have h2 := h.e
  have h3 := h.lo
  have h4 := h.cl
  have h5 := h.hi
  have hd := Kd.C_drop (Kd.C_below h.hC hb) (show E ≤ b.length by omega) h.cl
  simp only [show (Kd.int .u8).sz = 1 from rfl, Nat.mul_one] at hd
  rw [if_neg (show ¬ (c = E) by omega)] at hd
  have k := NewReader (c := c - E) hd (by rw [List.length_drop]; omega)
  rw [show (b.drop E).length = 4 by rw [List.length_drop]; omega] at k
  exact k
theorem Hd.sum (h : Hd w ad c N E b) (hT : Tab w) (W : World) (L : Nat) (hb : Below w.heap.size w W) (hL : W.heap[L]? = some (.cells #[.slice (some ad) E c] 22 (0, 0))) : Calls Tryd.prog 18 #[.slice (some ⟨L, 0, none⟩) 1 1] W fun e w' => e = .returned (.int .u32 (sumI [b.take E])) ∧ W = w' := by
  have h1 := h.n
  have h2 := h.e
  have h4 := h.cl
  have hl : (b.take E).length = E := by rw [List.length_take]; omega
  have hC := Kd.C_take (Kd.C_below h.hC hb) (m := E) (by omega)
  have k := C_oneH (t := 22) (fr := (0, 0)) (c := c) (xs := b.take E) (by rw [hl]; exact hL) (by omega) hC
  exact Sum (c := 1) (hT.below hb) k
theorem Hd.dec (h : Hd w ad c N E b) : decB b = if low4 b E = sumI [b.take E] then decR (b.take E) else (z0, 71) := by
  have h1 := h.n
  have h2 := h.e
  have h3 := h.lo
  unfold decB
  rw [if_neg (fun hn => hn ⟨by omega, h.mg⟩), show b.length - 4 = E by omega]
  by_cases hs : low4 b E = sumI [b.take E]
  · rw [if_pos hs, if_neg (fun hn => hn ⟨h.lo, h.hi, hs⟩)]
  · rw [if_neg hs, if_pos (fun hn => hs hn.2.2)]
theorem Hd.read_bad (h : Hd w ad c N E b) {er : Int} (hd : decR (b.take E) = (z0, er)) (hne : er ≠ 0) (W : World) (hb : Below w.heap.size w W) : Calls Tryd.prog 34 #[.slice (some ad) E c] W fun e w' => e = .panicked (pnc er) ∧ Below W.heap.size W w' := by
  have h1 := h.n
  have h2 := h.e
  have h3 := h.lo
  have h5 := h.hi
  have hl : (b.take E).length = E := by rw [List.length_take]; omega
  have hC := Kd.C_take (Kd.C_below h.hC hb) (m := E) (by omega)
  have k := Read (c := c) hC (allB_take h.bb E) (by omega) (by omega)
  rw [hl] at k
  refine k.mono fun e w' ⟨hbl, hh⟩ => ?_
  rcases hh with ⟨er', hd', _, rfl⟩ | ⟨c', v, hd', _⟩
  · rw [hd] at hd'
    simp only [Prod.mk.injEq, true_and] at hd'
    rw [hd']
    exact ⟨rfl, hbl⟩
  · rw [hd] at hd'
    simp only [Prod.mk.injEq] at hd'
    exact absurd hd'.2 hne
theorem Hd.read_ok (h : Hd w ad c N E b) {cc : CartP} (hd : decR (b.take E) = (cc, 0)) (W : World) (hb : Below w.heap.size w W) : Calls Tryd.prog 34 #[.slice (some ad) E c] W fun e w' => ∃ v, e = .returned v ∧ Own w' W.heap.size v cc ∧ Below W.heap.size W w' := by
  have h1 := h.n
  have h2 := h.e
  have h3 := h.lo
  have h5 := h.hi
  have hl : (b.take E).length = E := by rw [List.length_take]; omega
  have hC := Kd.C_take (Kd.C_below h.hC hb) (m := E) (by omega)
  have k := Read (c := c) hC (allB_take h.bb E) (by omega) (by omega)
  rw [hl] at k
  refine k.mono fun e w' ⟨hbl, hh⟩ => ?_
  rcases hh with ⟨er', hd', hne, _⟩ | ⟨c', v, hd', rfl, hO⟩
  · rw [hd] at hd'
    simp only [Prod.mk.injEq] at hd'
    exact absurd hd'.2.symm hne
  · rw [hd] at hd'
    simp only [Prod.mk.injEq, and_true] at hd'
    rw [hd']
    exact ⟨v, rfl, hO, hbl⟩
set_option maxHeartbeats 2000000 in
theorem door_good {X : World} {tmps : Array Value} {cc : CartP} {A0 A2 A3 : Option Addr} {c0 c2 c3 g3 base n0 n2 n3 : Nat} {en : Int} {V : Nat → Value} (hV : Vars w X) (hD : decB b = (cc, 0)) (hO : OwnR X base A0 c0 A2 c2 A3 c3 g3 V cc) (hI : IsC X A0 c0 A2 c2 A3 c3 cc) (hb : w.heap.size + 2 ≤ base) (hn : n0 = cc.code.length ∧ n2 = cc.efs.length ∧ n3 = cc.bks.length ∧ en = cc.entry) (h2 : tmps[2]? = some (.pointer (some ⟨w.heap.size, 0, none⟩))) (h3 : tmps[3]? = some (.pointer (some ⟨w.heap.size + 1, 0, none⟩))) :
    bodyPostD Tryd.prog Tryd.f9 (DecPost b w) .ret { tmps := tmps, defers := dfr w } (((((X.setCell ⟨w.heap.size, 0, none⟩ (.slice A0 n0 c0)).setCell ⟨w.heap.size, 1, none⟩ (.int .u16 en)).setCell ⟨w.heap.size, 2, none⟩ (.slice A2 n2 c2)).setCell ⟨w.heap.size, 3, none⟩ (.slice A3 n3 c3)).setCell ⟨w.heap.size + 1, 0, none⟩ (.int .i64 0)) := by
  have hp := put4 hV.c (.slice A0 n0 c0) (.int .u16 en) (.slice A2 n2 c2) (.slice A3 n3 c3)
  have hF := put4F X w.heap.size (.slice A0 n0 c0) (.int .u16 en) (.slice A2 n2 c2) (.slice A3 n3 c3)
  generalize (((X.setCell ⟨w.heap.size, 0, none⟩ (.slice A0 n0 c0)).setCell ⟨w.heap.size, 1, none⟩ (.int .u16 en)).setCell ⟨w.heap.size, 2, none⟩ (.slice A2 n2 c2)).setCell ⟨w.heap.size, 3, none⟩ (.slice A3 n3 c3) = Z at hp hF ⊢
  have hq := hF.heap hV.e (by omega)
  have hF2 : Fr Z (Z.setCell ⟨w.heap.size + 1, 0, none⟩ (.int .i64 0)) (fun k => k = w.heap.size + 1) := (Fr.refl Z (fun k => k = w.heap.size + 1)).setCell (p := ⟨w.heap.size + 1, 0, none⟩) (fun _ => rfl) _
  have hq2 := setH hq 0 (.int .i64 0)
  have hp2 := hF2.heap hp (by omega)
  have hF3 := (hF.mono (T := fun k => k < base) (fun k _ e => by omega)).trans hF2 (fun k _ e => by omega)
  generalize Z.setCell ⟨w.heap.size + 1, 0, none⟩ (.int .i64 0) = Y at hq2 hp2 hF2 hF3 ⊢
  have hO2 := hO.fr hF3 (fun _ _ e => e)
  have hb2 : Below w.heap.size w Y := hV.bel.trans ((hF.below hV.bel.size (fun k hk e => by omega)).trans (hF2.below (by have := hV.bel.size; have := hF.size; omega) (fun k hk e => by omega)))
  refine leaves_cons (f := 30) (args := #[.pointer (some ⟨w.heap.size, 0, none⟩), .pointer (some ⟨w.heap.size + 1, 0, none⟩)]) (by simp) (by simp [go_sem]) ?_
  refine (catch_no ⟨w.heap.size, 0, none⟩ ⟨w.heap.size + 1, 0, none⟩ Y).mono ?_
  rintro e u' w'' ⟨rfl, rfl, rfl⟩
  have y0 : w''.cell? ⟨w.heap.size, 0, none⟩ = some (.slice A0 n0 c0) := (cellH hp2).trans rfl
  have y1 : w''.cell? ⟨w.heap.size, 1, none⟩ = some (.int .u16 en) := (cellH hp2).trans rfl
  have y2 : w''.cell? ⟨w.heap.size, 2, none⟩ = some (.slice A2 n2 c2) := (cellH hp2).trans rfl
  have y3 : w''.cell? ⟨w.heap.size, 3, none⟩ = some (.slice A3 n3 c3) := (cellH hp2).trans rfl
  have y4 : w''.cell? ⟨w.heap.size + 1, 0, none⟩ = some (.int .i64 0) := (cellH hq2).trans rfl
  have hP : DecPost b w (.returned (.tuple #[.agg #[.slice A0 n0 c0, .int .u16 en, .slice A2 n2 c2, .slice A3 n3 c3], .int .i64 0])) w'' := by
    refine ⟨hb2, _, by rw [hD], fun _ => ?_, fun hne => absurd (by rw [hD]) hne⟩
    rw [hD]
    refine ⟨⟨A0, c0, A2, c2, A3, c3, g3, V, base, by omega, ?_, hO2.isC hI.l3 hI.bks.2.1, hO2⟩⟩
    unfold crt
    rw [hn.1, hn.2.1, hn.2.2.1, hn.2.2.2]
  simp [Leaves, settle, results, Tryd.results9, go_sem, h2, h3, y0, y1, y2, y3, y4]
  exact hP
set_option maxRecDepth 100000 in
set_option maxHeartbeats 8000000 in
theorem Dec_sum (hT : Tab w) (h : Hd w ad c N E b) (hs : low4 b E ≠ sumI [b.take E]) :
    Calls Tryd.prog 9 #[.slice (some ad) N c] w (DecPost b w) := by
  have hdd : Aside0 (decB b = (z0, 71)) := ⟨by rw [h.dec, if_neg hs]⟩
  have hmf : ∀ (fn : Fn) (first cap : Array Value) (w : World), (Instr.makeFunc fn first cap).run Tryd.prog w = .ok (.func fn first cap) w := fun _ _ _ _ => rfl
  have hconv := h.conv
  obtain ⟨hx4, hlt4⟩ := h.x4
  obtain ⟨hcut4, hcutT, hcutF⟩ := h.cuts
  have kNR := Aside0.mk h.reader
  have kS := Aside0.mk (h.sum hT)
  have hBB := Aside0.mk h.bb
  have hdl : Aside0 (0 + 4 ≤ (b.drop E).length) := ⟨by rw [List.length_drop]; have := h.n; have := h.e; omega⟩
  have hVv0 : low4 (b.drop E) 0 = low4 b E := by rw [low4_drop]; rfl
  obtain ⟨V, hV⟩ : ∃ V, low4 b E = V := ⟨_, rfl⟩
  obtain ⟨S, hS⟩ : ∃ S, sumI [b.take E] = S := ⟨_, rfl⟩
  rw [hV] at hVv0 hs
  rw [hS] at hs kS
  have hVv := Aside0.mk hVv0
  have hq : (V == S) = false := beq_eq_false_iff_ne.2 hs
  have hV0 := Aside0.mk ((Vars.new w).below (below_drew (Below.refl _ _)))
  have e1 : decide ((N : Int) ≥ 5) = true := decide_eq_true (by have := h.n; have := h.lo; omega)
  have n12 : 12 ≤ N := by have := h.n; have := h.lo; omega
  have nhi : N ≤ 524288 := by have := h.n; have := h.hi; omega
  have e3 : decide ((N : Int) ≤ 524288) = true := decide_eq_true (by omega)
  clear hT h hs hV hS hVv0
  go_enter_defers Tryd.func9, Tryd.ntmps9
  go_wp2_with (first | (go_at_call 31; ((with_reducible refine (want_yes 70 _).mono ?_); rintro e w5 ⟨rfl, rfl⟩)) | (go_at_call 31; ((with_reducible refine (want_yes 71 _).mono ?_); rintro e w5 ⟨rfl, rfl⟩)))
  generalize ((w.alloc (.cells #[.slice none 0 0, .int .u16 0, .slice none 0 0, .slice none 0 0] 28)).alloc (.cells #[.int .i64 0] 29)) = X00 at hV0 hconv ⊢
  obtain ⟨X0, hX0⟩ : ∃ X0, X0 = X00.drew := ⟨_, rfl⟩
  rw [← hX0] at hV0
  refine start_ (n := 12) (S := fun _ => True) (ds := []) #[false, false, false, false, false, false, false, false, false, false, false, false] (by kernel_rfl) rfl rfl trivial (fun _ => ?_)
  rw [← hX0]
  refine pure_ (i := 0) (N := some 34) (v := ?_) (a' := ?_) #[true, false, false, false, false, false, false, false, false, false, false, false] rfl rfl (by kernel_rfl) (fun _ _ _ h => keepQ (N := 34) (by decide) (by decide) h) (Or.inl ⟨by rfl, ?_⟩) ?_ ?_
  rotate_left
  · intro w'
    go_simp
    with_reducible rfl
  rotate_left
  · simp only [Act.put, List.setIfInBounds_toArray, List.set_cons_zero, List.set_cons_succ, i64_w, i32_w]
    rfl
  refine pure_ (i := 1) (N := some 35) (v := ?_) (a' := ?_) #[true, true, false, false, false, false, false, false, false, false, false, false] rfl rfl (by kernel_rfl) (fun _ _ _ h => keepQ (N := 35) (by decide) (by decide) h) (Or.inl ⟨by rfl, ?_⟩) ?_ ?_
  rotate_left
  · intro w'
    go_simp
    with_reducible rfl
  rotate_left
  · simp only [Act.put, List.setIfInBounds_toArray, List.set_cons_zero, List.set_cons_succ, i64_w, i32_w]
    rfl
  refine pure_ (i := 2) (N := some 36) (v := ?_) (a' := ?_) #[true, true, true, false, false, false, false, false, false, false, false, false] rfl rfl (by kernel_rfl) (fun _ _ _ h => keepQ (N := 36) (by decide) (by decide) h) (Or.inl ⟨by rfl, ?_⟩) ?_ ?_
  rotate_left
  · intro w'
    go_simp
    with_reducible rfl
  rotate_left
  · simp only [Act.put, List.setIfInBounds_toArray, List.set_cons_zero, List.set_cons_succ, i64_w, i32_w]
    rfl
  refine pure_ (i := 5) (N := some 39) (v := ?_) (a' := ?_) #[true, true, true, false, false, true, false, false, false, false, false, false] rfl rfl (by kernel_rfl) (fun _ _ _ h => keepQ (N := 39) (by decide) (by decide) h) (Or.inl ⟨by rfl, ?_⟩) ?_ ?_
  rotate_left
  · intro w'
    go_simp
    with_reducible rfl
  rotate_left
  · simp only [Act.put, List.setIfInBounds_toArray, List.set_cons_zero, List.set_cons_succ, i64_w, i32_w]
    rfl
  refine pure_ (i := 6) (N := some 40) (v := ?_) (a' := ?_) #[true, true, true, false, false, true, true, false, false, false, false, false] rfl rfl (by kernel_rfl) (fun _ _ _ h => keepQ (N := 40) (by decide) (by decide) h) (Or.inl ⟨by rfl, ?_⟩) ?_ ?_
  rotate_left
  · intro w'
    go_simp
    with_reducible rfl
  rotate_left
  · simp only [Act.put, List.setIfInBounds_toArray, List.set_cons_zero, List.set_cons_succ, i64_w, i32_w]
    rfl
  refine pure_ (i := 7) (N := some 41) (v := ?_) (a' := ?_) #[true, true, true, false, false, true, true, true, false, false, false, false] rfl rfl (by kernel_rfl) (fun _ _ _ h => keepQ (N := 41) (by decide) (by decide) h) (Or.inl ⟨by rfl, ?_⟩) ?_ ?_
  rotate_left
  · intro w'
    go_simp
    with_reducible rfl
  rotate_left
  · simp only [Act.put, List.setIfInBounds_toArray, List.set_cons_zero, List.set_cons_succ, i64_w, i32_w]
    rfl
  refine two_ (i := 3) (j := 8) (Ni := some 37) (Nj := some 42) #[true, true, true, true, false, true, true, true, false, false, false, false] #[true, true, true, false, false, true, true, true, true, false, false, false] rfl rfl rfl rfl (by kernel_rfl) (by decide) (by decide) (fun K hK => ?_) (fun K hK => ?_)
  · refine goes_ Tryd.func32 (by kernel_rfl) rfl #[.slice (some (ad.add E)) 4 (c - E)] (by rfl) rfl rfl (by first | rfl | kernel_rfl | simp [Act.eval]) ?_
    refine (kNR.out X0 hV0.out.bel).mono ?_
    rintro e X1 ⟨gr, rfl, hR, hbl⟩
    have hA1 := Aside0.mk (show At X1 X0.heap.size (fun k => X0.heap.size ≤ k ∧ k < X1.heap.size) gr (b.drop E) 0 from ⟨hR.mono (fun k hk hlt => ⟨hk, hlt⟩), allB_drop hBB.out E, Nat.zero_le _⟩)
    have hgr1 : w.heap.size + 2 ≤ gr := by have h1 := hR.base; have h2 := heap_lt hV0.out.e; omega
    have hV1 := Aside0.mk (hV0.out.below hbl)
    clear hR hbl
    refine ⟨_, rfl, hK.out _ _ trivial (fun _ => ?_)⟩
    clear hK
    refine norm_ (a' := ?_) ?_ ?_
    rotate_left
    · show Act.put _ (some 37) _ = _
      simp only [Act.put, List.setIfInBounds_toArray, List.set_cons_zero, List.set_cons_succ, i64_w, i32_w]
      rfl
    refine two_ (i := 4) (j := 8) (Ni := some 38) (Nj := some 42) #[true, true, true, true, true, true, true, true, false, false, false, false] #[true, true, true, true, false, true, true, true, true, false, false, false] rfl rfl rfl rfl (by kernel_rfl) (by decide) (by decide) (fun K hK => ?_) (fun K hK => ?_)
    · refine goes_ Tryd.func33 (by kernel_rfl) rfl #[.pointer (some ⟨gr, 0, none⟩)] (by rfl) rfl rfl (by first | rfl | kernel_rfl | simp [Act.eval]) ?_
      refine (hA1.out.word hdl.out).mono ?_
      rw [hVv.out]
      rintro e X2 ⟨rfl, _, hF⟩
      have hV2 := Aside0.mk (hV1.out.fr hF (fun k hk e => by omega))
      clear hF
      refine ⟨_, rfl, hK.out _ _ trivial (fun _ => ?_)⟩
      clear hK
      refine norm_ (a' := ?_) ?_ ?_
      rotate_left
      · show Act.put _ (some 38) _ = _
        simp only [Act.put, List.setIfInBounds_toArray, List.set_cons_zero, List.set_cons_succ, i64_w, i32_w]
        rfl
      refine one_ (i := 8) (N := some 42) #[true, true, true, true, true, true, true, true, true, false, false, false] rfl rfl (by kernel_rfl) (by decide) (fun K hK => ?_)
      obtain ⟨L, eL⟩ : ∃ L, L = X2.heap.size := ⟨_, rfl⟩
      obtain ⟨X3, eX⟩ : ∃ x, x = X2.alloc (.cells #[.slice (some ad) E c] 22) := ⟨_, rfl⟩
      have hbl : Below X2.heap.size X2 X3 := eX ▸ below_alloc (Below.refl _ _) _
      have hV3 := Aside0.mk (hV2.out.below hbl)
      have hL3 : Aside0 (X3.heap[L]? = some (.cells #[.slice (some ad) E c] 22 (0, 0))) := ⟨by rw [eX, eL]; exact World.alloc_heap_new _ _⟩
      refine value_ (v := .slice (some ⟨L, 0, none⟩) 1 1) (w1 := X3) (by rfl) rfl (by rw [eX, eL]; go_simp) ?_
      clear eX eL hbl
      refine hK.out _ _ trivial (fun _ => ?_)
      clear hK
      refine norm_ (a' := ?_) ?_ ?_
      rotate_left
      · show Act.put _ (some 42) _ = _
        simp only [Act.put, List.setIfInBounds_toArray, List.set_cons_zero, List.set_cons_succ, i64_w, i32_w]
        rfl
      refine one_ (i := 9) (N := some 43) #[true, true, true, true, true, true, true, true, true, true, false, false] rfl rfl (by kernel_rfl) (by decide) (fun K hK => ?_)
      refine goes_ Tryd.func18 (by kernel_rfl) rfl #[.slice (some ⟨L, 0, none⟩) 1 1] (by rfl) rfl rfl (by first | rfl | kernel_rfl | simp [Act.eval]) ?_
      refine (kS.out X3 L hV3.out.bel hL3.out).mono ?_
      rintro e X9 ⟨rfl, rfl⟩
      refine ⟨_, rfl, hK.out _ _ trivial (fun _ => ?_)⟩
      clear hK
      refine norm_ (a' := ?_) ?_ ?_
      rotate_left
      · show Act.put _ (some 43) _ = _
        simp only [Act.put, List.setIfInBounds_toArray, List.set_cons_zero, List.set_cons_succ, i64_w, i32_w]
        rfl
      refine pure_ (i := 10) (N := some 44) (v := ?_) (a' := ?_) #[true, true, true, true, true, true, true, true, true, true, true, false] rfl rfl (by kernel_rfl) (fun _ _ _ h => keepQ (N := 44) (by decide) (by decide) h) (Or.inl ⟨by rfl, ?_⟩) ?_ ?_
      rotate_left
      · intro w'
        go_simp
        with_reducible rfl
      rotate_left
      · simp only [Act.put, List.setIfInBounds_toArray, List.set_cons_zero, List.set_cons_succ, i64_w, i32_w]
        rfl
      refine one_ (i := 11) (N := some 45) #[true, true, true, true, true, true, true, true, true, true, true, true] rfl rfl (by kernel_rfl) (by decide) (fun K hK => ?_)
      refine goesP_ Tryd.func31 (by kernel_rfl) rfl #[.bool false, .int .i64 71] (by rfl) rfl (by first | rfl | kernel_rfl | simp [Act.eval]) ?_
      refine (want_no 71 _).mono ?_
      rintro e X10 ⟨rfl, rfl⟩
      exact ⟨_, rfl, door_bad hV3.out hdd.out (by decide) rfl rfl⟩
    · obtain ⟨L, eL⟩ : ∃ L, L = X1.heap.size := ⟨_, rfl⟩
      obtain ⟨X2, eX⟩ : ∃ x, x = X1.alloc (.cells #[.slice (some ad) E c] 22) := ⟨_, rfl⟩
      have hbl : Below X1.heap.size X1 X2 := eX ▸ below_alloc (Below.refl _ _) _
      have hV2 := Aside0.mk (hV1.out.below hbl)
      have hL2 : Aside0 (X2.heap[L]? = some (.cells #[.slice (some ad) E c] 22 (0, 0))) := ⟨by rw [eX, eL]; exact World.alloc_heap_new _ _⟩
      have hA2 := Aside0.mk (hA1.out.below hbl)
      have hgl : L ≠ gr := by have h2 := hA1.out.r.lt; omega
      refine value_ (v := .slice (some ⟨L, 0, none⟩) 1 1) (w1 := X2) (by rfl) rfl (by rw [eX, eL]; go_simp) ?_
      clear eX eL hbl
      refine hK.out _ _ trivial (fun _ => ?_)
      clear hK
      refine norm_ (a' := ?_) ?_ ?_
      rotate_left
      · show Act.put _ (some 42) _ = _
        simp only [Act.put, List.setIfInBounds_toArray, List.set_cons_zero, List.set_cons_succ, i64_w, i32_w]
        rfl
      refine one_ (i := 4) (N := some 38) #[true, true, true, true, true, true, true, true, true, false, false, false] rfl rfl (by kernel_rfl) (by decide) (fun K hK => ?_)
      refine goes_ Tryd.func33 (by kernel_rfl) rfl #[.pointer (some ⟨gr, 0, none⟩)] (by rfl) rfl rfl (by first | rfl | kernel_rfl | simp [Act.eval]) ?_
      refine (hA2.out.word hdl.out).mono ?_
      rw [hVv.out]
      rintro e X3 ⟨rfl, _, hF⟩
      have hV3 := Aside0.mk (hV2.out.fr hF (fun k hk e => by omega))
      have hL3 := Aside0.mk (hF.heap hL2.out hgl)
      clear hF
      refine ⟨_, rfl, hK.out _ _ trivial (fun _ => ?_)⟩
      clear hK
      refine norm_ (a' := ?_) ?_ ?_
      rotate_left
      · show Act.put _ (some 38) _ = _
        simp only [Act.put, List.setIfInBounds_toArray, List.set_cons_zero, List.set_cons_succ, i64_w, i32_w]
        rfl
      refine one_ (i := 9) (N := some 43) #[true, true, true, true, true, true, true, true, true, true, false, false] rfl rfl (by kernel_rfl) (by decide) (fun K hK => ?_)
      refine goes_ Tryd.func18 (by kernel_rfl) rfl #[.slice (some ⟨L, 0, none⟩) 1 1] (by rfl) rfl rfl (by first | rfl | kernel_rfl | simp [Act.eval]) ?_
      refine (kS.out X3 L hV3.out.bel hL3.out).mono ?_
      rintro e X9 ⟨rfl, rfl⟩
      refine ⟨_, rfl, hK.out _ _ trivial (fun _ => ?_)⟩
      clear hK
      refine norm_ (a' := ?_) ?_ ?_
      rotate_left
      · show Act.put _ (some 43) _ = _
        simp only [Act.put, List.setIfInBounds_toArray, List.set_cons_zero, List.set_cons_succ, i64_w, i32_w]
        rfl
      refine pure_ (i := 10) (N := some 44) (v := ?_) (a' := ?_) #[true, true, true, true, true, true, true, true, true, true, true, false] rfl rfl (by kernel_rfl) (fun _ _ _ h => keepQ (N := 44) (by decide) (by decide) h) (Or.inl ⟨by rfl, ?_⟩) ?_ ?_
      rotate_left
      · intro w'
        go_simp
        with_reducible rfl
      rotate_left
      · simp only [Act.put, List.setIfInBounds_toArray, List.set_cons_zero, List.set_cons_succ, i64_w, i32_w]
        rfl
      refine one_ (i := 11) (N := some 45) #[true, true, true, true, true, true, true, true, true, true, true, true] rfl rfl (by kernel_rfl) (by decide) (fun K hK => ?_)
      refine goesP_ Tryd.func31 (by kernel_rfl) rfl #[.bool false, .int .i64 71] (by rfl) rfl (by first | rfl | kernel_rfl | simp [Act.eval]) ?_
      refine (want_no 71 _).mono ?_
      rintro e X10 ⟨rfl, rfl⟩
      exact ⟨_, rfl, door_bad hV3.out hdd.out (by decide) rfl rfl⟩
  · obtain ⟨L, eL⟩ : ∃ L, L = X0.heap.size := ⟨_, rfl⟩
    obtain ⟨X1, eX⟩ : ∃ x, x = X0.alloc (.cells #[.slice (some ad) E c] 22) := ⟨_, rfl⟩
    have hbl : Below X0.heap.size X0 X1 := eX ▸ below_alloc (Below.refl _ _) _
    have hV1 := Aside0.mk (hV0.out.below hbl)
    have hL1 : Aside0 (X1.heap[L]? = some (.cells #[.slice (some ad) E c] 22 (0, 0))) := ⟨by rw [eX, eL]; exact World.alloc_heap_new _ _⟩
    refine value_ (v := .slice (some ⟨L, 0, none⟩) 1 1) (w1 := X1) (by rfl) rfl (by rw [eX, eL]; go_simp) ?_
    clear eX eL hbl
    refine hK.out _ _ trivial (fun _ => ?_)
    clear hK
    refine norm_ (a' := ?_) ?_ ?_
    rotate_left
    · show Act.put _ (some 42) _ = _
      simp only [Act.put, List.setIfInBounds_toArray, List.set_cons_zero, List.set_cons_succ, i64_w, i32_w]
      rfl
    refine one_ (i := 3) (N := some 37) #[true, true, true, true, false, true, true, true, true, false, false, false] rfl rfl (by kernel_rfl) (by decide) (fun K hK => ?_)
    refine goes_ Tryd.func32 (by kernel_rfl) rfl #[.slice (some (ad.add E)) 4 (c - E)] (by rfl) rfl rfl (by first | rfl | kernel_rfl | simp [Act.eval]) ?_
    refine (kNR.out X1 hV1.out.bel).mono ?_
    rintro e X2 ⟨gr, rfl, hR, hbl⟩
    have hA2 := Aside0.mk (show At X2 X1.heap.size (fun k => X1.heap.size ≤ k ∧ k < X2.heap.size) gr (b.drop E) 0 from ⟨hR.mono (fun k hk hlt => ⟨hk, hlt⟩), allB_drop hBB.out E, Nat.zero_le _⟩)
    have hgr2 : w.heap.size + 2 ≤ gr := by have h1 := hR.base; have h2 := heap_lt hV1.out.e; omega
    have hV2 := Aside0.mk (hV1.out.below hbl)
    have hL2 := Aside0.mk ((hbl.block _ (heap_lt hL1.out)).trans hL1.out)
    have hgl : L ≠ gr := by have h1 := hR.base; have h2 := heap_lt hL1.out; omega
    clear hR hbl
    refine ⟨_, rfl, hK.out _ _ trivial (fun _ => ?_)⟩
    clear hK
    refine norm_ (a' := ?_) ?_ ?_
    rotate_left
    · show Act.put _ (some 37) _ = _
      simp only [Act.put, List.setIfInBounds_toArray, List.set_cons_zero, List.set_cons_succ, i64_w, i32_w]
      rfl
    refine one_ (i := 4) (N := some 38) #[true, true, true, true, true, true, true, true, true, false, false, false] rfl rfl (by kernel_rfl) (by decide) (fun K hK => ?_)
    refine goes_ Tryd.func33 (by kernel_rfl) rfl #[.pointer (some ⟨gr, 0, none⟩)] (by rfl) rfl rfl (by first | rfl | kernel_rfl | simp [Act.eval]) ?_
    refine (hA2.out.word hdl.out).mono ?_
    rw [hVv.out]
    rintro e X3 ⟨rfl, _, hF⟩
    have hV3 := Aside0.mk (hV2.out.fr hF (fun k hk e => by omega))
    have hL3 := Aside0.mk (hF.heap hL2.out hgl)
    clear hF
    refine ⟨_, rfl, hK.out _ _ trivial (fun _ => ?_)⟩
    clear hK
    refine norm_ (a' := ?_) ?_ ?_
    rotate_left
    · show Act.put _ (some 38) _ = _
      simp only [Act.put, List.setIfInBounds_toArray, List.set_cons_zero, List.set_cons_succ, i64_w, i32_w]
      rfl
    refine one_ (i := 9) (N := some 43) #[true, true, true, true, true, true, true, true, true, true, false, false] rfl rfl (by kernel_rfl) (by decide) (fun K hK => ?_)
    refine goes_ Tryd.func18 (by kernel_rfl) rfl #[.slice (some ⟨L, 0, none⟩) 1 1] (by rfl) rfl rfl (by first | rfl | kernel_rfl | simp [Act.eval]) ?_
    refine (kS.out X3 L hV3.out.bel hL3.out).mono ?_
    rintro e X9 ⟨rfl, rfl⟩
    refine ⟨_, rfl, hK.out _ _ trivial (fun _ => ?_)⟩
    clear hK
    refine norm_ (a' := ?_) ?_ ?_
    rotate_left
    · show Act.put _ (some 43) _ = _
      simp only [Act.put, List.setIfInBounds_toArray, List.set_cons_zero, List.set_cons_succ, i64_w, i32_w]
      rfl
    refine pure_ (i := 10) (N := some 44) (v := ?_) (a' := ?_) #[true, true, true, true, true, true, true, true, true, true, true, false] rfl rfl (by kernel_rfl) (fun _ _ _ h => keepQ (N := 44) (by decide) (by decide) h) (Or.inl ⟨by rfl, ?_⟩) ?_ ?_
    rotate_left
    · intro w'
      go_simp
      with_reducible rfl
    rotate_left
    · simp only [Act.put, List.setIfInBounds_toArray, List.set_cons_zero, List.set_cons_succ, i64_w, i32_w]
      rfl
    refine one_ (i := 11) (N := some 45) #[true, true, true, true, true, true, true, true, true, true, true, true] rfl rfl (by kernel_rfl) (by decide) (fun K hK => ?_)
    refine goesP_ Tryd.func31 (by kernel_rfl) rfl #[.bool false, .int .i64 71] (by rfl) rfl (by first | rfl | kernel_rfl | simp [Act.eval]) ?_
    refine (want_no 71 _).mono ?_
    rintro e X10 ⟨rfl, rfl⟩
    exact ⟨_, rfl, door_bad hV3.out hdd.out (by decide) rfl rfl⟩
set_option maxRecDepth 100000 in
set_option maxHeartbeats 8000000 in
theorem Dec_rbad (hT : Tab w) (h : Hd w ad c N E b) (hs : low4 b E = sumI [b.take E]) {er : Int} (hd : decR (b.take E) = (z0, er)) (hne : er ≠ 0) :
    Calls Tryd.prog 9 #[.slice (some ad) N c] w (DecPost b w) := by
  have hdd : Aside0 (decB b = (z0, er)) := ⟨by rw [h.dec, if_pos hs]; exact hd⟩
  have hner := Aside0.mk hne
  have kRb := Aside0.mk (h.read_bad hd hne)
  clear hne hd
  have hmf : ∀ (fn : Fn) (first cap : Array Value) (w : World), (Instr.makeFunc fn first cap).run Tryd.prog w = .ok (.func fn first cap) w := fun _ _ _ _ => rfl
  have hconv := h.conv
  obtain ⟨hx4, hlt4⟩ := h.x4
  obtain ⟨hcut4, hcutT, hcutF⟩ := h.cuts
  have kNR := Aside0.mk h.reader
  have kS := Aside0.mk (h.sum hT)
  have hBB := Aside0.mk h.bb
  have hdl : Aside0 (0 + 4 ≤ (b.drop E).length) := ⟨by rw [List.length_drop]; have := h.n; have := h.e; omega⟩
  have hVv0 : low4 (b.drop E) 0 = low4 b E := by rw [low4_drop]; rfl
  obtain ⟨V, hV⟩ : ∃ V, low4 b E = V := ⟨_, rfl⟩
  obtain ⟨S, hS⟩ : ∃ S, sumI [b.take E] = S := ⟨_, rfl⟩
  rw [hV] at hVv0 hs
  rw [hS] at hs kS
  have hVv := Aside0.mk hVv0
  have hq : (V == S) = true := beq_iff_eq.2 hs
  have hV0 := Aside0.mk ((Vars.new w).below (below_drew (Below.refl _ _)))
  have e1 : decide ((N : Int) ≥ 5) = true := decide_eq_true (by have := h.n; have := h.lo; omega)
  have n12 : 12 ≤ N := by have := h.n; have := h.lo; omega
  have nhi : N ≤ 524288 := by have := h.n; have := h.hi; omega
  have e3 : decide ((N : Int) ≤ 524288) = true := decide_eq_true (by omega)
  clear hT h hs hV hS hVv0
  go_enter_defers Tryd.func9, Tryd.ntmps9
  go_wp2_with (first | (go_at_call 31; ((with_reducible refine (want_yes 70 _).mono ?_); rintro e w5 ⟨rfl, rfl⟩)) | (go_at_call 31; ((with_reducible refine (want_yes 71 _).mono ?_); rintro e w5 ⟨rfl, rfl⟩)))
  generalize ((w.alloc (.cells #[.slice none 0 0, .int .u16 0, .slice none 0 0, .slice none 0 0] 28)).alloc (.cells #[.int .i64 0] 29)) = X00 at hV0 hconv ⊢
  obtain ⟨X0, hX0⟩ : ∃ X0, X0 = X00.drew := ⟨_, rfl⟩
  rw [← hX0] at hV0
  refine start_ (n := 12) (S := fun _ => True) (ds := []) #[false, false, false, false, false, false, false, false, false, false, false, false] (by kernel_rfl) rfl rfl trivial (fun _ => ?_)
  rw [← hX0]
  refine pure_ (i := 0) (N := some 34) (v := ?_) (a' := ?_) #[true, false, false, false, false, false, false, false, false, false, false, false] rfl rfl (by kernel_rfl) (fun _ _ _ h => keepQ (N := 34) (by decide) (by decide) h) (Or.inl ⟨by rfl, ?_⟩) ?_ ?_
  rotate_left
  · intro w'
    go_simp
    with_reducible rfl
  rotate_left
  · simp only [Act.put, List.setIfInBounds_toArray, List.set_cons_zero, List.set_cons_succ, i64_w, i32_w]
    rfl
  refine pure_ (i := 1) (N := some 35) (v := ?_) (a' := ?_) #[true, true, false, false, false, false, false, false, false, false, false, false] rfl rfl (by kernel_rfl) (fun _ _ _ h => keepQ (N := 35) (by decide) (by decide) h) (Or.inl ⟨by rfl, ?_⟩) ?_ ?_
  rotate_left
  · intro w'
    go_simp
    with_reducible rfl
  rotate_left
  · simp only [Act.put, List.setIfInBounds_toArray, List.set_cons_zero, List.set_cons_succ, i64_w, i32_w]
    rfl
  refine pure_ (i := 2) (N := some 36) (v := ?_) (a' := ?_) #[true, true, true, false, false, false, false, false, false, false, false, false] rfl rfl (by kernel_rfl) (fun _ _ _ h => keepQ (N := 36) (by decide) (by decide) h) (Or.inl ⟨by rfl, ?_⟩) ?_ ?_
  rotate_left
  · intro w'
    go_simp
    with_reducible rfl
  rotate_left
  · simp only [Act.put, List.setIfInBounds_toArray, List.set_cons_zero, List.set_cons_succ, i64_w, i32_w]
    rfl
  refine pure_ (i := 5) (N := some 39) (v := ?_) (a' := ?_) #[true, true, true, false, false, true, false, false, false, false, false, false] rfl rfl (by kernel_rfl) (fun _ _ _ h => keepQ (N := 39) (by decide) (by decide) h) (Or.inl ⟨by rfl, ?_⟩) ?_ ?_
  rotate_left
  · intro w'
    go_simp
    with_reducible rfl
  rotate_left
  · simp only [Act.put, List.setIfInBounds_toArray, List.set_cons_zero, List.set_cons_succ, i64_w, i32_w]
    rfl
  refine pure_ (i := 6) (N := some 40) (v := ?_) (a' := ?_) #[true, true, true, false, false, true, true, false, false, false, false, false] rfl rfl (by kernel_rfl) (fun _ _ _ h => keepQ (N := 40) (by decide) (by decide) h) (Or.inl ⟨by rfl, ?_⟩) ?_ ?_
  rotate_left
  · intro w'
    go_simp
    with_reducible rfl
  rotate_left
  · simp only [Act.put, List.setIfInBounds_toArray, List.set_cons_zero, List.set_cons_succ, i64_w, i32_w]
    rfl
  refine pure_ (i := 7) (N := some 41) (v := ?_) (a' := ?_) #[true, true, true, false, false, true, true, true, false, false, false, false] rfl rfl (by kernel_rfl) (fun _ _ _ h => keepQ (N := 41) (by decide) (by decide) h) (Or.inl ⟨by rfl, ?_⟩) ?_ ?_
  rotate_left
  · intro w'
    go_simp
    with_reducible rfl
  rotate_left
  · simp only [Act.put, List.setIfInBounds_toArray, List.set_cons_zero, List.set_cons_succ, i64_w, i32_w]
    rfl
  refine two_ (i := 3) (j := 8) (Ni := some 37) (Nj := some 42) #[true, true, true, true, false, true, true, true, false, false, false, false] #[true, true, true, false, false, true, true, true, true, false, false, false] rfl rfl rfl rfl (by kernel_rfl) (by decide) (by decide) (fun K hK => ?_) (fun K hK => ?_)
  · refine goes_ Tryd.func32 (by kernel_rfl) rfl #[.slice (some (ad.add E)) 4 (c - E)] (by rfl) rfl rfl (by first | rfl | kernel_rfl | simp [Act.eval]) ?_
    refine (kNR.out X0 hV0.out.bel).mono ?_
    rintro e X1 ⟨gr, rfl, hR, hbl⟩
    have hA1 := Aside0.mk (show At X1 X0.heap.size (fun k => X0.heap.size ≤ k ∧ k < X1.heap.size) gr (b.drop E) 0 from ⟨hR.mono (fun k hk hlt => ⟨hk, hlt⟩), allB_drop hBB.out E, Nat.zero_le _⟩)
    have hgr1 : w.heap.size + 2 ≤ gr := by have h1 := hR.base; have h2 := heap_lt hV0.out.e; omega
    have hV1 := Aside0.mk (hV0.out.below hbl)
    clear hR hbl
    refine ⟨_, rfl, hK.out _ _ trivial (fun _ => ?_)⟩
    clear hK
    refine norm_ (a' := ?_) ?_ ?_
    rotate_left
    · show Act.put _ (some 37) _ = _
      simp only [Act.put, List.setIfInBounds_toArray, List.set_cons_zero, List.set_cons_succ, i64_w, i32_w]
      rfl
    refine two_ (i := 4) (j := 8) (Ni := some 38) (Nj := some 42) #[true, true, true, true, true, true, true, true, false, false, false, false] #[true, true, true, true, false, true, true, true, true, false, false, false] rfl rfl rfl rfl (by kernel_rfl) (by decide) (by decide) (fun K hK => ?_) (fun K hK => ?_)
    · refine goes_ Tryd.func33 (by kernel_rfl) rfl #[.pointer (some ⟨gr, 0, none⟩)] (by rfl) rfl rfl (by first | rfl | kernel_rfl | simp [Act.eval]) ?_
      refine (hA1.out.word hdl.out).mono ?_
      rw [hVv.out]
      rintro e X2 ⟨rfl, _, hF⟩
      have hV2 := Aside0.mk (hV1.out.fr hF (fun k hk e => by omega))
      clear hF
      refine ⟨_, rfl, hK.out _ _ trivial (fun _ => ?_)⟩
      clear hK
      refine norm_ (a' := ?_) ?_ ?_
      rotate_left
      · show Act.put _ (some 38) _ = _
        simp only [Act.put, List.setIfInBounds_toArray, List.set_cons_zero, List.set_cons_succ, i64_w, i32_w]
        rfl
      refine one_ (i := 8) (N := some 42) #[true, true, true, true, true, true, true, true, true, false, false, false] rfl rfl (by kernel_rfl) (by decide) (fun K hK => ?_)
      obtain ⟨L, eL⟩ : ∃ L, L = X2.heap.size := ⟨_, rfl⟩
      obtain ⟨X3, eX⟩ : ∃ x, x = X2.alloc (.cells #[.slice (some ad) E c] 22) := ⟨_, rfl⟩
      have hbl : Below X2.heap.size X2 X3 := eX ▸ below_alloc (Below.refl _ _) _
      have hV3 := Aside0.mk (hV2.out.below hbl)
      have hL3 : Aside0 (X3.heap[L]? = some (.cells #[.slice (some ad) E c] 22 (0, 0))) := ⟨by rw [eX, eL]; exact World.alloc_heap_new _ _⟩
      refine value_ (v := .slice (some ⟨L, 0, none⟩) 1 1) (w1 := X3) (by rfl) rfl (by rw [eX, eL]; go_simp) ?_
      clear eX eL hbl
      refine hK.out _ _ trivial (fun _ => ?_)
      clear hK
      refine norm_ (a' := ?_) ?_ ?_
      rotate_left
      · show Act.put _ (some 42) _ = _
        simp only [Act.put, List.setIfInBounds_toArray, List.set_cons_zero, List.set_cons_succ, i64_w, i32_w]
        rfl
      refine one_ (i := 9) (N := some 43) #[true, true, true, true, true, true, true, true, true, true, false, false] rfl rfl (by kernel_rfl) (by decide) (fun K hK => ?_)
      refine goes_ Tryd.func18 (by kernel_rfl) rfl #[.slice (some ⟨L, 0, none⟩) 1 1] (by rfl) rfl rfl (by first | rfl | kernel_rfl | simp [Act.eval]) ?_
      refine (kS.out X3 L hV3.out.bel hL3.out).mono ?_
      rintro e X9 ⟨rfl, rfl⟩
      refine ⟨_, rfl, hK.out _ _ trivial (fun _ => ?_)⟩
      clear hK
      refine norm_ (a' := ?_) ?_ ?_
      rotate_left
      · show Act.put _ (some 43) _ = _
        simp only [Act.put, List.setIfInBounds_toArray, List.set_cons_zero, List.set_cons_succ, i64_w, i32_w]
        rfl
      refine pure_ (i := 10) (N := some 44) (v := ?_) (a' := ?_) #[true, true, true, true, true, true, true, true, true, true, true, false] rfl rfl (by kernel_rfl) (fun _ _ _ h => keepQ (N := 44) (by decide) (by decide) h) (Or.inl ⟨by rfl, ?_⟩) ?_ ?_
      rotate_left
      · intro w'
        go_simp
        with_reducible rfl
      rotate_left
      · simp only [Act.put, List.setIfInBounds_toArray, List.set_cons_zero, List.set_cons_succ, i64_w, i32_w]
        rfl
      refine one_ (i := 11) (N := some 45) #[true, true, true, true, true, true, true, true, true, true, true, true] rfl rfl (by kernel_rfl) (by decide) (fun K hK => ?_)
      refine goes_ Tryd.func31 (by kernel_rfl) rfl #[.bool true, .int .i64 71] (by rfl) rfl rfl (by first | rfl | kernel_rfl | simp [Act.eval]) ?_
      refine (want_yes 71 _).mono ?_
      rintro e X10 ⟨rfl, rfl⟩
      refine ⟨_, rfl, hK.out _ _ trivial (fun _ => ?_)⟩
      clear hK
      refine norm_ (a' := ?_) ?_ ?_
      rotate_left
      · show Act.put _ (some 45) _ = _
        simp only [Act.put, List.setIfInBounds_toArray, List.set_cons_zero, List.set_cons_succ, i64_w, i32_w]
        rfl
      refine done_ (by kernel_rfl) ?_
      have hV := Aside0.mk hV3.out
      go_wp2_with (go_at_call 34; ((with_reducible refine (kRb.out _ hV.out.bel).mono ?_); rintro e X11 ⟨rfl, hbl⟩; have hV2 := Aside0.mk (hV.out.below hbl)))
      exact door_bad hV2.out hdd.out hner.out rfl rfl
    · obtain ⟨L, eL⟩ : ∃ L, L = X1.heap.size := ⟨_, rfl⟩
      obtain ⟨X2, eX⟩ : ∃ x, x = X1.alloc (.cells #[.slice (some ad) E c] 22) := ⟨_, rfl⟩
      have hbl : Below X1.heap.size X1 X2 := eX ▸ below_alloc (Below.refl _ _) _
      have hV2 := Aside0.mk (hV1.out.below hbl)
      have hL2 : Aside0 (X2.heap[L]? = some (.cells #[.slice (some ad) E c] 22 (0, 0))) := ⟨by rw [eX, eL]; exact World.alloc_heap_new _ _⟩
      have hA2 := Aside0.mk (hA1.out.below hbl)
      have hgl : L ≠ gr := by have h2 := hA1.out.r.lt; omega
      refine value_ (v := .slice (some ⟨L, 0, none⟩) 1 1) (w1 := X2) (by rfl) rfl (by rw [eX, eL]; go_simp) ?_
      clear eX eL hbl
      refine hK.out _ _ trivial (fun _ => ?_)
      clear hK
      refine norm_ (a' := ?_) ?_ ?_
      rotate_left
      · show Act.put _ (some 42) _ = _
        simp only [Act.put, List.setIfInBounds_toArray, List.set_cons_zero, List.set_cons_succ, i64_w, i32_w]
        rfl
      refine one_ (i := 4) (N := some 38) #[true, true, true, true, true, true, true, true, true, false, false, false] rfl rfl (by kernel_rfl) (by decide) (fun K hK => ?_)
      refine goes_ Tryd.func33 (by kernel_rfl) rfl #[.pointer (some ⟨gr, 0, none⟩)] (by rfl) rfl rfl (by first | rfl | kernel_rfl | simp [Act.eval]) ?_
      refine (hA2.out.word hdl.out).mono ?_
      rw [hVv.out]
      rintro e X3 ⟨rfl, _, hF⟩
      have hV3 := Aside0.mk (hV2.out.fr hF (fun k hk e => by omega))
      have hL3 := Aside0.mk (hF.heap hL2.out hgl)
      clear hF
      refine ⟨_, rfl, hK.out _ _ trivial (fun _ => ?_)⟩
      clear hK
      refine norm_ (a' := ?_) ?_ ?_
      rotate_left
      · show Act.put _ (some 38) _ = _
        simp only [Act.put, List.setIfInBounds_toArray, List.set_cons_zero, List.set_cons_succ, i64_w, i32_w]
        rfl
      refine one_ (i := 9) (N := some 43) #[true, true, true, true, true, true, true, true, true, true, false, false] rfl rfl (by kernel_rfl) (by decide) (fun K hK => ?_)
      refine goes_ Tryd.func18 (by kernel_rfl) rfl #[.slice (some ⟨L, 0, none⟩) 1 1] (by rfl) rfl rfl (by first | rfl | kernel_rfl | simp [Act.eval]) ?_
      refine (kS.out X3 L hV3.out.bel hL3.out).mono ?_
      rintro e X9 ⟨rfl, rfl⟩
      refine ⟨_, rfl, hK.out _ _ trivial (fun _ => ?_)⟩
      clear hK
      refine norm_ (a' := ?_) ?_ ?_
      rotate_left
      · show Act.put _ (some 43) _ = _
        simp only [Act.put, List.setIfInBounds_toArray, List.set_cons_zero, List.set_cons_succ, i64_w, i32_w]
        rfl
      refine pure_ (i := 10) (N := some 44) (v := ?_) (a' := ?_) #[true, true, true, true, true, true, true, true, true, true, true, false] rfl rfl (by kernel_rfl) (fun _ _ _ h => keepQ (N := 44) (by decide) (by decide) h) (Or.inl ⟨by rfl, ?_⟩) ?_ ?_
      rotate_left
      · intro w'
        go_simp
        with_reducible rfl
      rotate_left
      · simp only [Act.put, List.setIfInBounds_toArray, List.set_cons_zero, List.set_cons_succ, i64_w, i32_w]
        rfl
      refine one_ (i := 11) (N := some 45) #[true, true, true, true, true, true, true, true, true, true, true, true] rfl rfl (by kernel_rfl) (by decide) (fun K hK => ?_)
      refine goes_ Tryd.func31 (by kernel_rfl) rfl #[.bool true, .int .i64 71] (by rfl) rfl rfl (by first | rfl | kernel_rfl | simp [Act.eval]) ?_
      refine (want_yes 71 _).mono ?_
      rintro e X10 ⟨rfl, rfl⟩
      refine ⟨_, rfl, hK.out _ _ trivial (fun _ => ?_)⟩
      clear hK
      refine norm_ (a' := ?_) ?_ ?_
      rotate_left
      · show Act.put _ (some 45) _ = _
        simp only [Act.put, List.setIfInBounds_toArray, List.set_cons_zero, List.set_cons_succ, i64_w, i32_w]
        rfl
      refine done_ (by kernel_rfl) ?_
      have hV := Aside0.mk hV3.out
      go_wp2_with (go_at_call 34; ((with_reducible refine (kRb.out _ hV.out.bel).mono ?_); rintro e X11 ⟨rfl, hbl⟩; have hV2 := Aside0.mk (hV.out.below hbl)))
      exact door_bad hV2.out hdd.out hner.out rfl rfl
  · obtain ⟨L, eL⟩ : ∃ L, L = X0.heap.size := ⟨_, rfl⟩
    obtain ⟨X1, eX⟩ : ∃ x, x = X0.alloc (.cells #[.slice (some ad) E c] 22) := ⟨_, rfl⟩
    have hbl : Below X0.heap.size X0 X1 := eX ▸ below_alloc (Below.refl _ _) _
    have hV1 := Aside0.mk (hV0.out.below hbl)
    have hL1 : Aside0 (X1.heap[L]? = some (.cells #[.slice (some ad) E c] 22 (0, 0))) := ⟨by rw [eX, eL]; exact World.alloc_heap_new _ _⟩
    refine value_ (v := .slice (some ⟨L, 0, none⟩) 1 1) (w1 := X1) (by rfl) rfl (by rw [eX, eL]; go_simp) ?_
    clear eX eL hbl
    refine hK.out _ _ trivial (fun _ => ?_)
    clear hK
    refine norm_ (a' := ?_) ?_ ?_
    rotate_left
    · show Act.put _ (some 42) _ = _
      simp only [Act.put, List.setIfInBounds_toArray, List.set_cons_zero, List.set_cons_succ, i64_w, i32_w]
      rfl
    refine one_ (i := 3) (N := some 37) #[true, true, true, true, false, true, true, true, true, false, false, false] rfl rfl (by kernel_rfl) (by decide) (fun K hK => ?_)
    refine goes_ Tryd.func32 (by kernel_rfl) rfl #[.slice (some (ad.add E)) 4 (c - E)] (by rfl) rfl rfl (by first | rfl | kernel_rfl | simp [Act.eval]) ?_
    refine (kNR.out X1 hV1.out.bel).mono ?_
    rintro e X2 ⟨gr, rfl, hR, hbl⟩
    have hA2 := Aside0.mk (show At X2 X1.heap.size (fun k => X1.heap.size ≤ k ∧ k < X2.heap.size) gr (b.drop E) 0 from ⟨hR.mono (fun k hk hlt => ⟨hk, hlt⟩), allB_drop hBB.out E, Nat.zero_le _⟩)
    have hgr2 : w.heap.size + 2 ≤ gr := by have h1 := hR.base; have h2 := heap_lt hV1.out.e; omega
    have hV2 := Aside0.mk (hV1.out.below hbl)
    have hL2 := Aside0.mk ((hbl.block _ (heap_lt hL1.out)).trans hL1.out)
    have hgl : L ≠ gr := by have h1 := hR.base; have h2 := heap_lt hL1.out; omega
    clear hR hbl
    refine ⟨_, rfl, hK.out _ _ trivial (fun _ => ?_)⟩
    clear hK
    refine norm_ (a' := ?_) ?_ ?_
    rotate_left
    · show Act.put _ (some 37) _ = _
      simp only [Act.put, List.setIfInBounds_toArray, List.set_cons_zero, List.set_cons_succ, i64_w, i32_w]
      rfl
    refine one_ (i := 4) (N := some 38) #[true, true, true, true, true, true, true, true, true, false, false, false] rfl rfl (by kernel_rfl) (by decide) (fun K hK => ?_)
    refine goes_ Tryd.func33 (by kernel_rfl) rfl #[.pointer (some ⟨gr, 0, none⟩)] (by rfl) rfl rfl (by first | rfl | kernel_rfl | simp [Act.eval]) ?_
    refine (hA2.out.word hdl.out).mono ?_
    rw [hVv.out]
    rintro e X3 ⟨rfl, _, hF⟩
    have hV3 := Aside0.mk (hV2.out.fr hF (fun k hk e => by omega))
    have hL3 := Aside0.mk (hF.heap hL2.out hgl)
    clear hF
    refine ⟨_, rfl, hK.out _ _ trivial (fun _ => ?_)⟩
    clear hK
    refine norm_ (a' := ?_) ?_ ?_
    rotate_left
    · show Act.put _ (some 38) _ = _
      simp only [Act.put, List.setIfInBounds_toArray, List.set_cons_zero, List.set_cons_succ, i64_w, i32_w]
      rfl
    refine one_ (i := 9) (N := some 43) #[true, true, true, true, true, true, true, true, true, true, false, false] rfl rfl (by kernel_rfl) (by decide) (fun K hK => ?_)
    refine goes_ Tryd.func18 (by kernel_rfl) rfl #[.slice (some ⟨L, 0, none⟩) 1 1] (by rfl) rfl rfl (by first | rfl | kernel_rfl | simp [Act.eval]) ?_
    refine (kS.out X3 L hV3.out.bel hL3.out).mono ?_
    rintro e X9 ⟨rfl, rfl⟩
    refine ⟨_, rfl, hK.out _ _ trivial (fun _ => ?_)⟩
    clear hK
    refine norm_ (a' := ?_) ?_ ?_
    rotate_left
    · show Act.put _ (some 43) _ = _
      simp only [Act.put, List.setIfInBounds_toArray, List.set_cons_zero, List.set_cons_succ, i64_w, i32_w]
      rfl
    refine pure_ (i := 10) (N := some 44) (v := ?_) (a' := ?_) #[true, true, true, true, true, true, true, true, true, true, true, false] rfl rfl (by kernel_rfl) (fun _ _ _ h => keepQ (N := 44) (by decide) (by decide) h) (Or.inl ⟨by rfl, ?_⟩) ?_ ?_
    rotate_left
    · intro w'
      go_simp
      with_reducible rfl
    rotate_left
    · simp only [Act.put, List.setIfInBounds_toArray, List.set_cons_zero, List.set_cons_succ, i64_w, i32_w]
      rfl
    refine one_ (i := 11) (N := some 45) #[true, true, true, true, true, true, true, true, true, true, true, true] rfl rfl (by kernel_rfl) (by decide) (fun K hK => ?_)
    refine goes_ Tryd.func31 (by kernel_rfl) rfl #[.bool true, .int .i64 71] (by rfl) rfl rfl (by first | rfl | kernel_rfl | simp [Act.eval]) ?_
    refine (want_yes 71 _).mono ?_
    rintro e X10 ⟨rfl, rfl⟩
    refine ⟨_, rfl, hK.out _ _ trivial (fun _ => ?_)⟩
    clear hK
    refine norm_ (a' := ?_) ?_ ?_
    rotate_left
    · show Act.put _ (some 45) _ = _
      simp only [Act.put, List.setIfInBounds_toArray, List.set_cons_zero, List.set_cons_succ, i64_w, i32_w]
      rfl
    refine done_ (by kernel_rfl) ?_
    have hV := Aside0.mk hV3.out
    go_wp2_with (go_at_call 34; ((with_reducible refine (kRb.out _ hV.out.bel).mono ?_); rintro e X11 ⟨rfl, hbl⟩; have hV2 := Aside0.mk (hV.out.below hbl)))
    exact door_bad hV2.out hdd.out hner.out rfl rfl
set_option maxRecDepth 100000 in
set_option maxHeartbeats 8000000 in
theorem Dec_rok (hT : Tab w) (h : Hd w ad c N E b) (hs : low4 b E = sumI [b.take E]) {cc : CartP} (hd : decR (b.take E) = (cc, 0)) :
    Calls Tryd.prog 9 #[.slice (some ad) N c] w (DecPost b w) := by
  have hdd : Aside0 (decB b = (cc, 0)) := ⟨by rw [h.dec, if_pos hs]; exact hd⟩
  have kRo := Aside0.mk (h.read_ok hd)
  clear hd
  have hmf : ∀ (fn : Fn) (first cap : Array Value) (w : World), (Instr.makeFunc fn first cap).run Tryd.prog w = .ok (.func fn first cap) w := fun _ _ _ _ => rfl
  have hconv := h.conv
  obtain ⟨hx4, hlt4⟩ := h.x4
  obtain ⟨hcut4, hcutT, hcutF⟩ := h.cuts
  have kNR := Aside0.mk h.reader
  have kS := Aside0.mk (h.sum hT)
  have hBB := Aside0.mk h.bb
  have hdl : Aside0 (0 + 4 ≤ (b.drop E).length) := ⟨by rw [List.length_drop]; have := h.n; have := h.e; omega⟩
  have hVv0 : low4 (b.drop E) 0 = low4 b E := by rw [low4_drop]; rfl
  obtain ⟨V, hV⟩ : ∃ V, low4 b E = V := ⟨_, rfl⟩
  obtain ⟨S, hS⟩ : ∃ S, sumI [b.take E] = S := ⟨_, rfl⟩
  rw [hV] at hVv0 hs
  rw [hS] at hs kS
  have hVv := Aside0.mk hVv0
  have hq : (V == S) = true := beq_iff_eq.2 hs
  have hV0 := Aside0.mk ((Vars.new w).below (below_drew (Below.refl _ _)))
  have e1 : decide ((N : Int) ≥ 5) = true := decide_eq_true (by have := h.n; have := h.lo; omega)
  have n12 : 12 ≤ N := by have := h.n; have := h.lo; omega
  have nhi : N ≤ 524288 := by have := h.n; have := h.hi; omega
  have e3 : decide ((N : Int) ≤ 524288) = true := decide_eq_true (by omega)
  clear hT h hs hV hS hVv0
  go_enter_defers Tryd.func9, Tryd.ntmps9
  go_wp2_with (first | (go_at_call 31; ((with_reducible refine (want_yes 70 _).mono ?_); rintro e w5 ⟨rfl, rfl⟩)) | (go_at_call 31; ((with_reducible refine (want_yes 71 _).mono ?_); rintro e w5 ⟨rfl, rfl⟩)))
  generalize ((w.alloc (.cells #[.slice none 0 0, .int .u16 0, .slice none 0 0, .slice none 0 0] 28)).alloc (.cells #[.int .i64 0] 29)) = X00 at hV0 hconv ⊢
  obtain ⟨X0, hX0⟩ : ∃ X0, X0 = X00.drew := ⟨_, rfl⟩
  rw [← hX0] at hV0
  refine start_ (n := 12) (S := fun _ => True) (ds := []) #[false, false, false, false, false, false, false, false, false, false, false, false] (by kernel_rfl) rfl rfl trivial (fun _ => ?_)
  rw [← hX0]
  refine pure_ (i := 0) (N := some 34) (v := ?_) (a' := ?_) #[true, false, false, false, false, false, false, false, false, false, false, false] rfl rfl (by kernel_rfl) (fun _ _ _ h => keepQ (N := 34) (by decide) (by decide) h) (Or.inl ⟨by rfl, ?_⟩) ?_ ?_
  rotate_left
  · intro w'
    go_simp
    with_reducible rfl
  rotate_left
  · simp only [Act.put, List.setIfInBounds_toArray, List.set_cons_zero, List.set_cons_succ, i64_w, i32_w]
    rfl
  refine pure_ (i := 1) (N := some 35) (v := ?_) (a' := ?_) #[true, true, false, false, false, false, false, false, false, false, false, false] rfl rfl (by kernel_rfl) (fun _ _ _ h => keepQ (N := 35) (by decide) (by decide) h) (Or.inl ⟨by rfl, ?_⟩) ?_ ?_
  rotate_left
  · intro w'
    go_simp
    with_reducible rfl
  rotate_left
  · simp only [Act.put, List.setIfInBounds_toArray, List.set_cons_zero, List.set_cons_succ, i64_w, i32_w]
    rfl
  refine pure_ (i := 2) (N := some 36) (v := ?_) (a' := ?_) #[true, true, true, false, false, false, false, false, false, false, false, false] rfl rfl (by kernel_rfl) (fun _ _ _ h => keepQ (N := 36) (by decide) (by decide) h) (Or.inl ⟨by rfl, ?_⟩) ?_ ?_
  rotate_left
  · intro w'
    go_simp
    with_reducible rfl
  rotate_left
  · simp only [Act.put, List.setIfInBounds_toArray, List.set_cons_zero, List.set_cons_succ, i64_w, i32_w]
    rfl
  refine pure_ (i := 5) (N := some 39) (v := ?_) (a' := ?_) #[true, true, true, false, false, true, false, false, false, false, false, false] rfl rfl (by kernel_rfl) (fun _ _ _ h => keepQ (N := 39) (by decide) (by decide) h) (Or.inl ⟨by rfl, ?_⟩) ?_ ?_
  rotate_left
  · intro w'
    go_simp
    with_reducible rfl
  rotate_left
  · simp only [Act.put, List.setIfInBounds_toArray, List.set_cons_zero, List.set_cons_succ, i64_w, i32_w]
    rfl
  refine pure_ (i := 6) (N := some 40) (v := ?_) (a' := ?_) #[true, true, true, false, false, true, true, false, false, false, false, false] rfl rfl (by kernel_rfl) (fun _ _ _ h => keepQ (N := 40) (by decide) (by decide) h) (Or.inl ⟨by rfl, ?_⟩) ?_ ?_
  rotate_left
  · intro w'
    go_simp
    with_reducible rfl
  rotate_left
  · simp only [Act.put, List.setIfInBounds_toArray, List.set_cons_zero, List.set_cons_succ, i64_w, i32_w]
    rfl
  refine pure_ (i := 7) (N := some 41) (v := ?_) (a' := ?_) #[true, true, true, false, false, true, true, true, false, false, false, false] rfl rfl (by kernel_rfl) (fun _ _ _ h => keepQ (N := 41) (by decide) (by decide) h) (Or.inl ⟨by rfl, ?_⟩) ?_ ?_
  rotate_left
  · intro w'
    go_simp
    with_reducible rfl
  rotate_left
  · simp only [Act.put, List.setIfInBounds_toArray, List.set_cons_zero, List.set_cons_succ, i64_w, i32_w]
    rfl
  refine two_ (i := 3) (j := 8) (Ni := some 37) (Nj := some 42) #[true, true, true, true, false, true, true, true, false, false, false, false] #[true, true, true, false, false, true, true, true, true, false, false, false] rfl rfl rfl rfl (by kernel_rfl) (by decide) (by decide) (fun K hK => ?_) (fun K hK => ?_)
  · refine goes_ Tryd.func32 (by kernel_rfl) rfl #[.slice (some (ad.add E)) 4 (c - E)] (by rfl) rfl rfl (by first | rfl | kernel_rfl | simp [Act.eval]) ?_
    refine (kNR.out X0 hV0.out.bel).mono ?_
    rintro e X1 ⟨gr, rfl, hR, hbl⟩
    have hA1 := Aside0.mk (show At X1 X0.heap.size (fun k => X0.heap.size ≤ k ∧ k < X1.heap.size) gr (b.drop E) 0 from ⟨hR.mono (fun k hk hlt => ⟨hk, hlt⟩), allB_drop hBB.out E, Nat.zero_le _⟩)
    have hgr1 : w.heap.size + 2 ≤ gr := by have h1 := hR.base; have h2 := heap_lt hV0.out.e; omega
    have hV1 := Aside0.mk (hV0.out.below hbl)
    clear hR hbl
    refine ⟨_, rfl, hK.out _ _ trivial (fun _ => ?_)⟩
    clear hK
    refine norm_ (a' := ?_) ?_ ?_
    rotate_left
    · show Act.put _ (some 37) _ = _
      simp only [Act.put, List.setIfInBounds_toArray, List.set_cons_zero, List.set_cons_succ, i64_w, i32_w]
      rfl
    refine two_ (i := 4) (j := 8) (Ni := some 38) (Nj := some 42) #[true, true, true, true, true, true, true, true, false, false, false, false] #[true, true, true, true, false, true, true, true, true, false, false, false] rfl rfl rfl rfl (by kernel_rfl) (by decide) (by decide) (fun K hK => ?_) (fun K hK => ?_)
    · refine goes_ Tryd.func33 (by kernel_rfl) rfl #[.pointer (some ⟨gr, 0, none⟩)] (by rfl) rfl rfl (by first | rfl | kernel_rfl | simp [Act.eval]) ?_
      refine (hA1.out.word hdl.out).mono ?_
      rw [hVv.out]
      rintro e X2 ⟨rfl, _, hF⟩
      have hV2 := Aside0.mk (hV1.out.fr hF (fun k hk e => by omega))
      clear hF
      refine ⟨_, rfl, hK.out _ _ trivial (fun _ => ?_)⟩
      clear hK
      refine norm_ (a' := ?_) ?_ ?_
      rotate_left
      · show Act.put _ (some 38) _ = _
        simp only [Act.put, List.setIfInBounds_toArray, List.set_cons_zero, List.set_cons_succ, i64_w, i32_w]
        rfl
      refine one_ (i := 8) (N := some 42) #[true, true, true, true, true, true, true, true, true, false, false, false] rfl rfl (by kernel_rfl) (by decide) (fun K hK => ?_)
      obtain ⟨L, eL⟩ : ∃ L, L = X2.heap.size := ⟨_, rfl⟩
      obtain ⟨X3, eX⟩ : ∃ x, x = X2.alloc (.cells #[.slice (some ad) E c] 22) := ⟨_, rfl⟩
      have hbl : Below X2.heap.size X2 X3 := eX ▸ below_alloc (Below.refl _ _) _
      have hV3 := Aside0.mk (hV2.out.below hbl)
      have hL3 : Aside0 (X3.heap[L]? = some (.cells #[.slice (some ad) E c] 22 (0, 0))) := ⟨by rw [eX, eL]; exact World.alloc_heap_new _ _⟩
      refine value_ (v := .slice (some ⟨L, 0, none⟩) 1 1) (w1 := X3) (by rfl) rfl (by rw [eX, eL]; go_simp) ?_
      clear eX eL hbl
      refine hK.out _ _ trivial (fun _ => ?_)
      clear hK
      refine norm_ (a' := ?_) ?_ ?_
      rotate_left
      · show Act.put _ (some 42) _ = _
        simp only [Act.put, List.setIfInBounds_toArray, List.set_cons_zero, List.set_cons_succ, i64_w, i32_w]
        rfl
      refine one_ (i := 9) (N := some 43) #[true, true, true, true, true, true, true, true, true, true, false, false] rfl rfl (by kernel_rfl) (by decide) (fun K hK => ?_)
      refine goes_ Tryd.func18 (by kernel_rfl) rfl #[.slice (some ⟨L, 0, none⟩) 1 1] (by rfl) rfl rfl (by first | rfl | kernel_rfl | simp [Act.eval]) ?_
      refine (kS.out X3 L hV3.out.bel hL3.out).mono ?_
      rintro e X9 ⟨rfl, rfl⟩
      refine ⟨_, rfl, hK.out _ _ trivial (fun _ => ?_)⟩
      clear hK
      refine norm_ (a' := ?_) ?_ ?_
      rotate_left
      · show Act.put _ (some 43) _ = _
        simp only [Act.put, List.setIfInBounds_toArray, List.set_cons_zero, List.set_cons_succ, i64_w, i32_w]
        rfl
      refine pure_ (i := 10) (N := some 44) (v := ?_) (a' := ?_) #[true, true, true, true, true, true, true, true, true, true, true, false] rfl rfl (by kernel_rfl) (fun _ _ _ h => keepQ (N := 44) (by decide) (by decide) h) (Or.inl ⟨by rfl, ?_⟩) ?_ ?_
      rotate_left
      · intro w'
        go_simp
        with_reducible rfl
      rotate_left
      · simp only [Act.put, List.setIfInBounds_toArray, List.set_cons_zero, List.set_cons_succ, i64_w, i32_w]
        rfl
      refine one_ (i := 11) (N := some 45) #[true, true, true, true, true, true, true, true, true, true, true, true] rfl rfl (by kernel_rfl) (by decide) (fun K hK => ?_)
      refine goes_ Tryd.func31 (by kernel_rfl) rfl #[.bool true, .int .i64 71] (by rfl) rfl rfl (by first | rfl | kernel_rfl | simp [Act.eval]) ?_
      refine (want_yes 71 _).mono ?_
      rintro e X10 ⟨rfl, rfl⟩
      refine ⟨_, rfl, hK.out _ _ trivial (fun _ => ?_)⟩
      clear hK
      refine norm_ (a' := ?_) ?_ ?_
      rotate_left
      · show Act.put _ (some 45) _ = _
        simp only [Act.put, List.setIfInBounds_toArray, List.set_cons_zero, List.set_cons_succ, i64_w, i32_w]
        rfl
      refine done_ (by kernel_rfl) ?_
      have hV := Aside0.mk hV3.out
      go_wp2_with (go_at_call 34; ((with_reducible refine (kRo.out _ hV.out.bel).mono ?_); rintro e X11 ⟨v, rfl, hO, hbl⟩; refine Hid.out ?_))
      refine Lib.hid ?_
      obtain ⟨A0, c0, A2, c2, A3, c3, g3, VV, base, hbase, rfl, hI, hOR⟩ := hO.ex
      have hV2 := hV.out.below hbl
      have hbg : w.heap.size + 2 ≤ base := by have h2 := heap_lt hV.out.e; omega
      unfold crt
      have hII := Aside0.mk hI
      have hORR := Aside0.mk hOR
      obtain ⟨n0, hn0⟩ : ∃ n, n = cc.code.length := ⟨_, rfl⟩
      obtain ⟨n2, hn2⟩ : ∃ n, n = cc.efs.length := ⟨_, rfl⟩
      obtain ⟨n3, hn3⟩ : ∃ n, n = cc.bks.length := ⟨_, rfl⟩
      obtain ⟨en, hen⟩ : ∃ x, x = cc.entry := ⟨_, rfl⟩
      rw [← hn0, ← hn2, ← hn3, ← hen]
      have hnn := Aside0.mk (And.intro hn0 (And.intro hn2 (And.intro hn3 hen)))
      have hVV2 := Aside0.mk hV2
      have t0 : X11.cell? ⟨w.heap.size, 0, none⟩ = some (.slice none 0 0) := (cellH hV2.c).trans rfl
      have t1 : X11.cell? ⟨w.heap.size, 1, none⟩ = some (.int .u16 0) := (cellH hV2.c).trans rfl
      have t2 : X11.cell? ⟨w.heap.size, 2, none⟩ = some (.slice none 0 0) := (cellH hV2.c).trans rfl
      have t3 : X11.cell? ⟨w.heap.size, 3, none⟩ = some (.slice none 0 0) := (cellH hV2.c).trans rfl
      have t4 : X11.cell? ⟨w.heap.size + 1, 0, none⟩ = some (.int .i64 0) := (cellH hV2.e).trans rfl
      have f0 : X11.frozen? ⟨w.heap.size, 0, none⟩ = false := by simp [World.frozen?, hV2.c]
      have f1 : X11.frozen? ⟨w.heap.size, 1, none⟩ = false := by simp [World.frozen?, hV2.c]
      have f2 : X11.frozen? ⟨w.heap.size, 2, none⟩ = false := by simp [World.frozen?, hV2.c]
      have f3 : X11.frozen? ⟨w.heap.size, 3, none⟩ = false := by simp [World.frozen?, hV2.c]
      have f4 : X11.frozen? ⟨w.heap.size + 1, 0, none⟩ = false := by simp [World.frozen?, hV2.e]
      clear hn0 hn2 hn3 hen hI hOR hO hbase hbl hV2
      go_wp2
      exact door_good hVV2.out hdd.out hORR.out hII.out hbg hnn.out rfl rfl
    · obtain ⟨L, eL⟩ : ∃ L, L = X1.heap.size := ⟨_, rfl⟩
      obtain ⟨X2, eX⟩ : ∃ x, x = X1.alloc (.cells #[.slice (some ad) E c] 22) := ⟨_, rfl⟩
      have hbl : Below X1.heap.size X1 X2 := eX ▸ below_alloc (Below.refl _ _) _
      have hV2 := Aside0.mk (hV1.out.below hbl)
      have hL2 : Aside0 (X2.heap[L]? = some (.cells #[.slice (some ad) E c] 22 (0, 0))) := ⟨by rw [eX, eL]; exact World.alloc_heap_new _ _⟩
      have hA2 := Aside0.mk (hA1.out.below hbl)
      have hgl : L ≠ gr := by have h2 := hA1.out.r.lt; omega
      refine value_ (v := .slice (some ⟨L, 0, none⟩) 1 1) (w1 := X2) (by rfl) rfl (by rw [eX, eL]; go_simp) ?_
      clear eX eL hbl
      refine hK.out _ _ trivial (fun _ => ?_)
      clear hK
      refine norm_ (a' := ?_) ?_ ?_
      rotate_left
      · show Act.put _ (some 42) _ = _
        simp only [Act.put, List.setIfInBounds_toArray, List.set_cons_zero, List.set_cons_succ, i64_w, i32_w]
        rfl
      refine one_ (i := 4) (N := some 38) #[true, true, true, true, true, true, true, true, true, false, false, false] rfl rfl (by kernel_rfl) (by decide) (fun K hK => ?_)
      refine goes_ Tryd.func33 (by kernel_rfl) rfl #[.pointer (some ⟨gr, 0, none⟩)] (by rfl) rfl rfl (by first | rfl | kernel_rfl | simp [Act.eval]) ?_
      refine (hA2.out.word hdl.out).mono ?_
      rw [hVv.out]
      rintro e X3 ⟨rfl, _, hF⟩
      have hV3 := Aside0.mk (hV2.out.fr hF (fun k hk e => by omega))
      have hL3 := Aside0.mk (hF.heap hL2.out hgl)
      clear hF
      refine ⟨_, rfl, hK.out _ _ trivial (fun _ => ?_)⟩
      clear hK
      refine norm_ (a' := ?_) ?_ ?_
      rotate_left
      · show Act.put _ (some 38) _ = _
        simp only [Act.put, List.setIfInBounds_toArray, List.set_cons_zero, List.set_cons_succ, i64_w, i32_w]
        rfl
      refine one_ (i := 9) (N := some 43) #[true, true, true, true, true, true, true, true, true, true, false, false] rfl rfl (by kernel_rfl) (by decide) (fun K hK => ?_)
      refine goes_ Tryd.func18 (by kernel_rfl) rfl #[.slice (some ⟨L, 0, none⟩) 1 1] (by rfl) rfl rfl (by first | rfl | kernel_rfl | simp [Act.eval]) ?_
      refine (kS.out X3 L hV3.out.bel hL3.out).mono ?_
      rintro e X9 ⟨rfl, rfl⟩
      refine ⟨_, rfl, hK.out _ _ trivial (fun _ => ?_)⟩
      clear hK
      refine norm_ (a' := ?_) ?_ ?_
      rotate_left
      · show Act.put _ (some 43) _ = _
        simp only [Act.put, List.setIfInBounds_toArray, List.set_cons_zero, List.set_cons_succ, i64_w, i32_w]
        rfl
      refine pure_ (i := 10) (N := some 44) (v := ?_) (a' := ?_) #[true, true, true, true, true, true, true, true, true, true, true, false] rfl rfl (by kernel_rfl) (fun _ _ _ h => keepQ (N := 44) (by decide) (by decide) h) (Or.inl ⟨by rfl, ?_⟩) ?_ ?_
      rotate_left
      · intro w'
        go_simp
        with_reducible rfl
      rotate_left
      · simp only [Act.put, List.setIfInBounds_toArray, List.set_cons_zero, List.set_cons_succ, i64_w, i32_w]
        rfl
      refine one_ (i := 11) (N := some 45) #[true, true, true, true, true, true, true, true, true, true, true, true] rfl rfl (by kernel_rfl) (by decide) (fun K hK => ?_)
      refine goes_ Tryd.func31 (by kernel_rfl) rfl #[.bool true, .int .i64 71] (by rfl) rfl rfl (by first | rfl | kernel_rfl | simp [Act.eval]) ?_
      refine (want_yes 71 _).mono ?_
      rintro e X10 ⟨rfl, rfl⟩
      refine ⟨_, rfl, hK.out _ _ trivial (fun _ => ?_)⟩
      clear hK
      refine norm_ (a' := ?_) ?_ ?_
      rotate_left
      · show Act.put _ (some 45) _ = _
        simp only [Act.put, List.setIfInBounds_toArray, List.set_cons_zero, List.set_cons_succ, i64_w, i32_w]
        rfl
      refine done_ (by kernel_rfl) ?_
      have hV := Aside0.mk hV3.out
      go_wp2_with (go_at_call 34; ((with_reducible refine (kRo.out _ hV.out.bel).mono ?_); rintro e X11 ⟨v, rfl, hO, hbl⟩; refine Hid.out ?_))
      refine Lib.hid ?_
      obtain ⟨A0, c0, A2, c2, A3, c3, g3, VV, base, hbase, rfl, hI, hOR⟩ := hO.ex
      have hV2 := hV.out.below hbl
      have hbg : w.heap.size + 2 ≤ base := by have h2 := heap_lt hV.out.e; omega
      unfold crt
      have hII := Aside0.mk hI
      have hORR := Aside0.mk hOR
      obtain ⟨n0, hn0⟩ : ∃ n, n = cc.code.length := ⟨_, rfl⟩
      obtain ⟨n2, hn2⟩ : ∃ n, n = cc.efs.length := ⟨_, rfl⟩
      obtain ⟨n3, hn3⟩ : ∃ n, n = cc.bks.length := ⟨_, rfl⟩
      obtain ⟨en, hen⟩ : ∃ x, x = cc.entry := ⟨_, rfl⟩
      rw [← hn0, ← hn2, ← hn3, ← hen]
      have hnn := Aside0.mk (And.intro hn0 (And.intro hn2 (And.intro hn3 hen)))
      have hVV2 := Aside0.mk hV2
      have t0 : X11.cell? ⟨w.heap.size, 0, none⟩ = some (.slice none 0 0) := (cellH hV2.c).trans rfl
      have t1 : X11.cell? ⟨w.heap.size, 1, none⟩ = some (.int .u16 0) := (cellH hV2.c).trans rfl
      have t2 : X11.cell? ⟨w.heap.size, 2, none⟩ = some (.slice none 0 0) := (cellH hV2.c).trans rfl
      have t3 : X11.cell? ⟨w.heap.size, 3, none⟩ = some (.slice none 0 0) := (cellH hV2.c).trans rfl
      have t4 : X11.cell? ⟨w.heap.size + 1, 0, none⟩ = some (.int .i64 0) := (cellH hV2.e).trans rfl
      have f0 : X11.frozen? ⟨w.heap.size, 0, none⟩ = false := by simp [World.frozen?, hV2.c]
      have f1 : X11.frozen? ⟨w.heap.size, 1, none⟩ = false := by simp [World.frozen?, hV2.c]
      have f2 : X11.frozen? ⟨w.heap.size, 2, none⟩ = false := by simp [World.frozen?, hV2.c]
      have f3 : X11.frozen? ⟨w.heap.size, 3, none⟩ = false := by simp [World.frozen?, hV2.c]
      have f4 : X11.frozen? ⟨w.heap.size + 1, 0, none⟩ = false := by simp [World.frozen?, hV2.e]
      clear hn0 hn2 hn3 hen hI hOR hO hbase hbl hV2
      go_wp2
      exact door_good hVV2.out hdd.out hORR.out hII.out hbg hnn.out rfl rfl
  · obtain ⟨L, eL⟩ : ∃ L, L = X0.heap.size := ⟨_, rfl⟩
    obtain ⟨X1, eX⟩ : ∃ x, x = X0.alloc (.cells #[.slice (some ad) E c] 22) := ⟨_, rfl⟩
    have hbl : Below X0.heap.size X0 X1 := eX ▸ below_alloc (Below.refl _ _) _
    have hV1 := Aside0.mk (hV0.out.below hbl)
    have hL1 : Aside0 (X1.heap[L]? = some (.cells #[.slice (some ad) E c] 22 (0, 0))) := ⟨by rw [eX, eL]; exact World.alloc_heap_new _ _⟩
    refine value_ (v := .slice (some ⟨L, 0, none⟩) 1 1) (w1 := X1) (by rfl) rfl (by rw [eX, eL]; go_simp) ?_
    clear eX eL hbl
    refine hK.out _ _ trivial (fun _ => ?_)
    clear hK
    refine norm_ (a' := ?_) ?_ ?_
    rotate_left
    · show Act.put _ (some 42) _ = _
      simp only [Act.put, List.setIfInBounds_toArray, List.set_cons_zero, List.set_cons_succ, i64_w, i32_w]
      rfl
    refine one_ (i := 3) (N := some 37) #[true, true, true, true, false, true, true, true, true, false, false, false] rfl rfl (by kernel_rfl) (by decide) (fun K hK => ?_)
    refine goes_ Tryd.func32 (by kernel_rfl) rfl #[.slice (some (ad.add E)) 4 (c - E)] (by rfl) rfl rfl (by first | rfl | kernel_rfl | simp [Act.eval]) ?_
    refine (kNR.out X1 hV1.out.bel).mono ?_
    rintro e X2 ⟨gr, rfl, hR, hbl⟩
    have hA2 := Aside0.mk (show At X2 X1.heap.size (fun k => X1.heap.size ≤ k ∧ k < X2.heap.size) gr (b.drop E) 0 from ⟨hR.mono (fun k hk hlt => ⟨hk, hlt⟩), allB_drop hBB.out E, Nat.zero_le _⟩)
    have hgr2 : w.heap.size + 2 ≤ gr := by have h1 := hR.base; have h2 := heap_lt hV1.out.e; omega
    have hV2 := Aside0.mk (hV1.out.below hbl)
    have hL2 := Aside0.mk ((hbl.block _ (heap_lt hL1.out)).trans hL1.out)
    have hgl : L ≠ gr := by have h1 := hR.base; have h2 := heap_lt hL1.out; omega
    clear hR hbl
    refine ⟨_, rfl, hK.out _ _ trivial (fun _ => ?_)⟩
    clear hK
    refine norm_ (a' := ?_) ?_ ?_
    rotate_left
    · show Act.put _ (some 37) _ = _
      simp only [Act.put, List.setIfInBounds_toArray, List.set_cons_zero, List.set_cons_succ, i64_w, i32_w]
      rfl
    refine one_ (i := 4) (N := some 38) #[true, true, true, true, true, true, true, true, true, false, false, false] rfl rfl (by kernel_rfl) (by decide) (fun K hK => ?_)
    refine goes_ Tryd.func33 (by kernel_rfl) rfl #[.pointer (some ⟨gr, 0, none⟩)] (by rfl) rfl rfl (by first | rfl | kernel_rfl | simp [Act.eval]) ?_
    refine (hA2.out.word hdl.out).mono ?_
    rw [hVv.out]
    rintro e X3 ⟨rfl, _, hF⟩
    have hV3 := Aside0.mk (hV2.out.fr hF (fun k hk e => by omega))
    have hL3 := Aside0.mk (hF.heap hL2.out hgl)
    clear hF
    refine ⟨_, rfl, hK.out _ _ trivial (fun _ => ?_)⟩
    clear hK
    refine norm_ (a' := ?_) ?_ ?_
    rotate_left
    · show Act.put _ (some 38) _ = _
      simp only [Act.put, List.setIfInBounds_toArray, List.set_cons_zero, List.set_cons_succ, i64_w, i32_w]
      rfl
    refine one_ (i := 9) (N := some 43) #[true, true, true, true, true, true, true, true, true, true, false, false] rfl rfl (by kernel_rfl) (by decide) (fun K hK => ?_)
    refine goes_ Tryd.func18 (by kernel_rfl) rfl #[.slice (some ⟨L, 0, none⟩) 1 1] (by rfl) rfl rfl (by first | rfl | kernel_rfl | simp [Act.eval]) ?_
    refine (kS.out X3 L hV3.out.bel hL3.out).mono ?_
    rintro e X9 ⟨rfl, rfl⟩
    refine ⟨_, rfl, hK.out _ _ trivial (fun _ => ?_)⟩
    clear hK
    refine norm_ (a' := ?_) ?_ ?_
    rotate_left
    · show Act.put _ (some 43) _ = _
      simp only [Act.put, List.setIfInBounds_toArray, List.set_cons_zero, List.set_cons_succ, i64_w, i32_w]
      rfl
    refine pure_ (i := 10) (N := some 44) (v := ?_) (a' := ?_) #[true, true, true, true, true, true, true, true, true, true, true, false] rfl rfl (by kernel_rfl) (fun _ _ _ h => keepQ (N := 44) (by decide) (by decide) h) (Or.inl ⟨by rfl, ?_⟩) ?_ ?_
    rotate_left
    · intro w'
      go_simp
      with_reducible rfl
    rotate_left
    · simp only [Act.put, List.setIfInBounds_toArray, List.set_cons_zero, List.set_cons_succ, i64_w, i32_w]
      rfl
    refine one_ (i := 11) (N := some 45) #[true, true, true, true, true, true, true, true, true, true, true, true] rfl rfl (by kernel_rfl) (by decide) (fun K hK => ?_)
    refine goes_ Tryd.func31 (by kernel_rfl) rfl #[.bool true, .int .i64 71] (by rfl) rfl rfl (by first | rfl | kernel_rfl | simp [Act.eval]) ?_
    refine (want_yes 71 _).mono ?_
    rintro e X10 ⟨rfl, rfl⟩
    refine ⟨_, rfl, hK.out _ _ trivial (fun _ => ?_)⟩
    clear hK
    refine norm_ (a' := ?_) ?_ ?_
    rotate_left
    · show Act.put _ (some 45) _ = _
      simp only [Act.put, List.setIfInBounds_toArray, List.set_cons_zero, List.set_cons_succ, i64_w, i32_w]
      rfl
    refine done_ (by kernel_rfl) ?_
    have hV := Aside0.mk hV3.out
    go_wp2_with (go_at_call 34; ((with_reducible refine (kRo.out _ hV.out.bel).mono ?_); rintro e X11 ⟨v, rfl, hO, hbl⟩; refine Hid.out ?_))
    refine Lib.hid ?_
    obtain ⟨A0, c0, A2, c2, A3, c3, g3, VV, base, hbase, rfl, hI, hOR⟩ := hO.ex
    have hV2 := hV.out.below hbl
    have hbg : w.heap.size + 2 ≤ base := by have h2 := heap_lt hV.out.e; omega
    unfold crt
    have hII := Aside0.mk hI
    have hORR := Aside0.mk hOR
    obtain ⟨n0, hn0⟩ : ∃ n, n = cc.code.length := ⟨_, rfl⟩
    obtain ⟨n2, hn2⟩ : ∃ n, n = cc.efs.length := ⟨_, rfl⟩
    obtain ⟨n3, hn3⟩ : ∃ n, n = cc.bks.length := ⟨_, rfl⟩
    obtain ⟨en, hen⟩ : ∃ x, x = cc.entry := ⟨_, rfl⟩
    rw [← hn0, ← hn2, ← hn3, ← hen]
    have hnn := Aside0.mk (And.intro hn0 (And.intro hn2 (And.intro hn3 hen)))
    have hVV2 := Aside0.mk hV2
    have t0 : X11.cell? ⟨w.heap.size, 0, none⟩ = some (.slice none 0 0) := (cellH hV2.c).trans rfl
    have t1 : X11.cell? ⟨w.heap.size, 1, none⟩ = some (.int .u16 0) := (cellH hV2.c).trans rfl
    have t2 : X11.cell? ⟨w.heap.size, 2, none⟩ = some (.slice none 0 0) := (cellH hV2.c).trans rfl
    have t3 : X11.cell? ⟨w.heap.size, 3, none⟩ = some (.slice none 0 0) := (cellH hV2.c).trans rfl
    have t4 : X11.cell? ⟨w.heap.size + 1, 0, none⟩ = some (.int .i64 0) := (cellH hV2.e).trans rfl
    have f0 : X11.frozen? ⟨w.heap.size, 0, none⟩ = false := by simp [World.frozen?, hV2.c]
    have f1 : X11.frozen? ⟨w.heap.size, 1, none⟩ = false := by simp [World.frozen?, hV2.c]
    have f2 : X11.frozen? ⟨w.heap.size, 2, none⟩ = false := by simp [World.frozen?, hV2.c]
    have f3 : X11.frozen? ⟨w.heap.size, 3, none⟩ = false := by simp [World.frozen?, hV2.c]
    have f4 : X11.frozen? ⟨w.heap.size + 1, 0, none⟩ = false := by simp [World.frozen?, hV2.e]
    clear hn0 hn2 hn3 hen hI hOR hO hbase hbl hV2
    go_wp2
    exact door_good hVV2.out hdd.out hORR.out hII.out hbg hnn.out rfl rfl
end
end Go.Proofs.YtembdahclmffjaaDoor.Pk
