/- wisplaw02.TextPlaces: the walk. -/
import Derived.Test.YtjphhnhloeanlaaKe
import Derived.Test.YtjphhnhloeanlaaPm
namespace Go.Proofs.Ytjphhnhloeanlaa.Gp
open Go.RowKit Go.Proofs.YtjphhnhloeanlaaW.PrintWords Go.Proofs.YtjphhnhloeanlaaW.PrintLast Go.Proofs.YtjphhnhloeanlaaW.PrintMore Go.Proofs.Ytjphhnhloeanlaa.Mem
set_option linter.unusedVariables false
set_option linter.unusedSimpArgs false
open Go.Proofs.Ytjphhnhloeanlaa.Pure (PS Places_eq RefPlaces_eq)
set_option maxRecDepth 100000 in
theorem fixed_100 : P.wisplaw02_fixed.f 100 = some true := by decide +kernel
theorem Box2.new_ (W : World) (t : TypeId) (a b : Value) : Box2 (W.alloc (.cells #[a, b] t)) W.heap.size t a b := World.alloc_heap_new W _
/-- a slice cut anew, up to its room -/
theorem cut_cap {P : Program} (t e : TypeId) (kh : IntKind) {i : TypeInfo} (ht : P.underlying t = some (.slice e)) (hi : P.info? e = some i) (A : Option Addr) (n c : Nat) (j : Int) (h0 : 0 ≤ j) (hc : j ≤ c) :
    ∀ W : World, (Instr.slice t (.slice A n c) none (some (.int kh j)) none).run P W = .ok (.slice A j.toNat c) W := by
  intro W
  have hel : P.elem t = e := by simp [Program.elem, ht]
  have hu : P.underlying t = some (.slice (P.elem t)) := by rw [hel]; exact ht
  have ha : (A.map fun x => x.add 0) = A := by cases A <;> simp [Addr.add]
  rw [run_slice_h W t A n c hu kh j h0 hc, hel]
  simp [sizeOf, typeInfo, hi, sliced, Result.andThen, ha]
theorem K0 (w : World) : Kp (w.alloc (.cells #[.slice none 0 0, .slice none 0 0] 70)) w.heap.size (w.heap.size + 1) (w.heap.size + 1) (.slice none 0 0) (.slice none 0 0) [] :=
  ⟨Box2.new_ _ _ _ _, by omega, Kd.R_nil _ _ _ _ _, Kd.R_nil _ _ _ _ _, fun k hk => by simp [Value.ownBlock] at hk, fun k hk => by simp [Value.ownBlock] at hk, fun it h => by simp at h, fun it h => by simp at h, fun it h => by simp at h, List.Pairwise.nil⟩
theorem fixed_at (W : World) : Calls Try.prog 23 #[] W fun e w' => e = .returned (.bool true) ∧ Below W.heap.size W w' := P.wisplaw02_fixed.calls 100 true W fixed_100
theorem infoI : (Try.prog.info? 3).map (fun i => (i.zero, i.size, i.bytes)) = some (some (.int .i64 0), 1, 8) := by kernel_rfl
abbrev RI (W : World) (B : Nat) (v : Value) (xs : List Int) : Prop := Kd.R (Kd.int .i64) 3 W B (fun _ => True) v xs
abbrev CI (W : World) (A : Option Addr) (n : Nat) (xs : List Int) : Prop := Kd.C (Kd.int .i64) W A n xs
/-- a row of one's own, and behind it another row -/
theorem appI {ops : Array Oper} {Q : Exit → Act → World → Prop} {o : Oper} {rest : List Oper} {a : Act} {w0 W : World} (base : Nat) (v : Value) (xs ys : List Int) (A : Option Addr) (m c : Nat) (hgd : o.guard = none) (s x : Operand)
    (ho : o.op = .call { callee := .builtin .append, args := #[s, x], argTypes := #[66, 66] }) (hs : a.eval s = v) (hx : a.eval x = .slice A m c)
    (HO : RI W base v xs) (HR : CI W A m ys) (HB : Below base w0 W) (hbase : base ≤ W.heap.size) (hl : xs.length + m ≤ 100000)
    (h : ∀ v1 w1, RI w1 base v1 (xs ++ ys) → Below base w0 w1 → wpList Try.prog ops Q rest (a.put o.dst v1) w1) : wpList Try.prog ops Q (o :: rest) a W :=
  Kd.R_append_row (w0 := w0) (Value.int .i64) 0 (h1 := fun _ => rfl) base hgd s x 66 3 (.int .i64 0) 8 ho Try.underlying66 infoI rfl (by decide) v xs ys A m c (fun _ => True) hs hx (fun _ _ => trivial) HO HR HB hbase (by omega) (fun v1 w1 h1 h2 _ _ => h v1 w1 h1 h2)
theorem RI_made (w : World) : RI (w.alloc (.cells #[] 3)) w.heap.size (.slice (some ⟨w.heap.size, 0, none⟩) 0 0) ([] : List Int) := Kd.R_of_own (h1 := fun _ => rfl) (by have h2 := World.ownsRow_made w #[] (e := 3) (size := 1) 0 (Nat.le_refl _) (Nat.zero_le _) rfl; simpa [encs] using h2) (fun _ _ => trivial)
/-- a slice literal of numbers -/
theorem CI_lit (w : World) (xs : List Int) (t : TypeId) {fr : Nat × Nat} (hl : xs.length ≤ 1000) : CI (w.alloc (.cells (xs.map (Value.int .i64)).toArray t fr)) (some ⟨w.heap.size, 0, none⟩) xs.length xs := by
  refine Kd.C_of_reads (d := (0 : Int)) (h1 := fun _ => rfl) ⟨rfl, by omega, fun hn => ⟨_, rfl, fun j hj => ?_⟩⟩
  rw [add_plain]
  have hh := World.alloc_heap_new w (.cells (xs.map (Value.int .i64)).toArray t fr)
  simp only [World.cell?, hh]
  simp [hj, List.getD_eq_getElem?_getD]
theorem Places_at {W : World} {A : Option Addr} {n c : Nat} {l : List Int} (s : ByteArray) (hs : s.size ≤ 3000) (hC : CI W A n l) (hn : n = l.length) (hc : n ≤ c) (hl : n ≤ 60) :
    Calls Try.prog 26 #[.string s, .slice A n c] W fun e w' => ∃ A1 c1, e = .returned (.slice A1 n c1) ∧ n ≤ c1 ∧ Kd.R P.k25 25 w' W.heap.size (fun _ => True) (.slice A1 n c1) (l.map (PS s)) ∧ Below W.heap.size W w' := by
  subst hn
  refine (P.text_Places.calls 20011 s A c l (l.map (PS s)) W hC hc (Places_eq s (by omega) l (by omega) 20011 (by omega))).mono ?_
  rintro e w' ⟨v, rfl, hR, hb⟩
  obtain ⟨A1, c1, rfl, hc1, _⟩ := Kd.R_reads hR
  rw [List.length_map] at hR hc1 ⊢
  exact ⟨A1, c1, rfl, hc1, hR, hb⟩
theorem Ref_at {W : World} {A : Option Addr} {n c : Nat} {l : List Int} (s : ByteArray) (hs : s.size ≤ 3000) (hC : CI W A n l) (hn : n = l.length) (hc : n ≤ c) (hl : n ≤ 60) :
    Calls Try.prog 36 #[.string s, .slice A n c] W fun e w' => ∃ A1 c1, e = .returned (.slice A1 n c1) ∧ n ≤ c1 ∧ Kd.R P.k25 25 w' W.heap.size (fun _ => True) (.slice A1 n c1) (l.map (PS s)) ∧ Below W.heap.size W w' := by
  subst hn
  refine (P.wispref02_Places.calls 20011 s A c l (l.map (PS s)) W hC hc (RefPlaces_eq s (by omega) l (by omega) 20011 (by omega))).mono ?_
  rintro e w' ⟨v, rfl, hR, hb⟩
  obtain ⟨A1, c1, rfl, hc1, _⟩ := Kd.R_reads hR
  rw [List.length_map] at hR hc1 ⊢
  exact ⟨A1, c1, rfl, hc1, hR, hb⟩
theorem Same_R {W : World} {b1 b2 : Nat} {A B : Option Addr} {n c d : Nat} {l : List P.S25} (h1 : Kd.R P.k25 25 W b1 (fun _ => True) (.slice A n c) l) (h2 : Kd.R P.k25 25 W b2 (fun _ => True) (.slice B n d) l) (hn : n ≤ 60) :
    Calls Try.prog 29 #[.slice A n c, .slice B n d] W fun e w' => e = .returned (.bool true) ∧ Below W.heap.size W w' := by
  obtain ⟨e1, l1, C1⟩ := Kd.R_reads' h1
  obtain ⟨_, l2, C2⟩ := Kd.R_reads' h2
  subst e1
  refine (same_at (w := W) (c0 := c) (c1 := d) C1 C2 l1 l2 (by omega) W (Below.refl _ _) 0).mono ?_
  rintro e w' ⟨he, m, hm⟩
  refine ⟨he, ?_⟩
  rw [hm]
  exact pw_below_drewN (pw_below_drewN (Below.refl _ _) 0) m
/-- what the law keeps: its room (block g: the offsets and two marks behind them), and the shelf -/
structure Sf (w W : World) (g kb m cap : Nat) (L : List Int) (u v : Value) (J : List It) : Prop where
  bel : Below w.heap.size w W
  I : Kd.R (Kd.int .i64) 3 W w.heap.size (fun k => k = g) (.slice (some ⟨g, 0, none⟩) (m + 2) cap) L
  gk : g < kb
  K : Kp W kb (kb + 1) (kb + 1) u v J
namespace Sf
variable {w W W' : World} {g kb m cap : Nat} {L : List Int} {u v : Value} {J : List It}
theorem len (h : Sf w W g kb m cap L u v J) : L.length = m + 2 := (Kd.R_reads' h.I).1.symm
theorem cp (h : Sf w W g kb m cap L u v J) : m + 2 ≤ cap := (Kd.R_reads' h.I).2.1
theorem wg (h : Sf w W g kb m cap L u v J) : w.heap.size ≤ g := Kd.R_base h.I g rfl
theorem below (h : Sf w W g kb m cap L u v J) (hb : Below W.heap.size W W') : Sf w W' g kb m cap L u v J :=
  ⟨h.bel.trans (hb.mono h.bel.size), Kd.R_below h.I hb, h.gk, h.K.below hb⟩
theorem c (h : Sf w W g kb m cap L u v J) : CI W (some ⟨g, 0, none⟩) m (L.take m) := by
  have h1 := (Kd.R_reads' h.I).2.2
  have h2 := Kd.C_take (m := m) h1 (by rw [h.len]; omega)
  have e : (L.take m).length = m := by rw [List.length_take, h.len]; omega
  rw [e] at h2
  exact h2
theorem at_ (h : Sf w W g kb m cap L u v J) {k : Nat} (hk : k < m + 2) : W.cell? ⟨g, k, none⟩ = some (.int .i64 (rd L (k : Int))) ∧ W.frozen? ⟨g, k, none⟩ = false := by
  have hce := Kd.R_celln 0 h.I (k : Int) (by omega) (by omega)
  rw [Int.toNat_natCast] at hce
  exact hce
theorem put (h : Sf w W g kb m cap L u v J) {k : Nat} (hk : k < m + 2) (y : Int) : Sf w (W.setCell ⟨g, k, none⟩ (.int .i64 y)) g kb m cap (L.set k y) u v J := by
  have h9 := Kd.R_putn h.I (k : Int) y
  rw [Int.toNat_natCast] at h9
  have hw := h.wg
  have hgk := h.gk
  exact ⟨h.bel.setCell (p := ⟨g, k, none⟩) hw _, h9, h.gk, h.K.fr ((Fr.refl W (fun q => q = g)).setCell (p := ⟨g, k, none⟩) (fun _ => rfl) _) (fun q hq => by omega)⟩
theorem keep {u1 v1 : Value} {J1 : List It} (h : Sf w W g kb m cap L u v J) (hK : Kp W' kb (kb + 1) (kb + 1) u1 v1 J1) (hF : Fr W W' (fun k => k = kb ∨ some k = u.ownBlock ∨ some k = v.ownBlock)) : Sf w W' g kb m cap L u1 v1 J1 := by
  have hw := h.wg
  have hgk := h.gk
  have hS : ∀ k, (k = kb ∨ some k = u.ownBlock ∨ some k = v.ownBlock) → kb ≤ k := fun k hk => by
    rcases hk with e | e | e
    · omega
    · have := Kd.R_base h.K.ru k e.symm; omega
    · have := Kd.R_base h.K.rv k e.symm; omega
  exact ⟨h.bel.trans (hF.below (B := w.heap.size) h.bel.size (fun k hk hs => by have := hS k hs; omega)), R_frm rfl h.I hF (fun k hk hs => by have := hS k hs; simp [Value.ownBlock] at hk; omega), h.gk, hK⟩
end Sf
set_option maxRecDepth 100000 in
set_option maxHeartbeats 8000000 in
theorem T1 {w : World} {s : ByteArray} {A : Option Addr} {n c : Nat} {offs : List Int} (hs : s.size ≤ 140737488351232) (hC : CI w A n offs) (hn : n = offs.length) (hc : n ≤ c) (hl : n ≤ 140737488351232) (hcs : (s.size : Int) ≤ 3000) (hcn : (n : Int) ≤ 60) :
    Calls Try.prog 10 #[.string s, .slice A n c] w fun e w' => e = .returned (.bool true) ∧ Below w.heap.size w w' := by
  obtain ⟨i0, hi, hz0_, hz1_, hz2_⟩ := info_parts infoI
  clear hz0_ hz1_ hz2_
  have hCC := Aside0.mk hC
  have hnn := Aside0.mk hn
  clear hC hn
  go_enter Try.func10, Try.ntmps10
  go_upto_region 5 with (first | (go_at_call 23; ((with_reducible refine (fixed_at _).mono ?_); rintro e w1 ⟨rfl, hb_⟩; have hb1 := Aside0.mk hb_; clear hb_)))
  obtain ⟨s1, hs1⟩ : ∃ x, x = s := ⟨_, rfl⟩
  have hz0 : s1.size ≤ 3000 := by rw [hs1]; omega
  rw [← hs1]
  obtain ⟨m, hm⟩ : ∃ x : Nat, x = n := ⟨_, rfl⟩
  obtain ⟨l0, hl0⟩ : ∃ x, x = offs.take m := ⟨_, rfl⟩
  have hlm : Aside0 (l0.length = m) := ⟨by rw [hl0, List.length_take]; have := hnn.out; omega⟩
  have hCm : Aside0 (CI w A m l0) := ⟨by
    have h1 := hCC.out
    rw [hnn.out] at h1
    have h2 := Kd.C_take (m := m) h1 (by have := hnn.out; omega)
    rw [← hl0, hlm.out] at h2
    exact h2⟩
  have hmc : Aside0 (m ≤ c) := ⟨by omega⟩
  have hm6 : Aside0 (m ≤ 60) := ⟨by omega⟩
  have hz := Aside0.mk hz0
  first | rw [← hm] | skip
  clear hs1 hz0 hm hs hl hcs hcn hc hl0
  go_upto_region 8 with (first | (at_builtin; refine appI (w0 := w1) w1.heap.size _ [] l0 A m c rfl _ _ rfl rfl rfl (RI_made w1) (Kd.C_below hCm.out (below_alloc hb1.out _)) (below_alloc (Below.refl _ _) _) (by rw [World.size_alloc]; omega) (by have := hm6.out; simp; omega) ?_; intro v1 w2 hR hb; have hR2 := Aside0.mk (Kd.R_below hR (below_alloc (Below.refl _ _) (.cells #[.int .i64 77, .int .i64 78] 3))); have hb2 := Aside0.mk (below_alloc hb (.cells #[.int .i64 77, .int .i64 78] 3)); have hs2 := Aside0.mk hb.size; have hlit := Aside0.mk (CI_lit (fr := (0, 0)) w2 [77, 78] 3 (by simp)); clear hR hb) | (at_builtin; refine appI (w0 := w1) w1.heap.size v1 _ [77, 78] (some ⟨w2.heap.size, 0, none⟩) 2 2 rfl _ _ rfl rfl rfl hR2.out hlit.out hb2.out (by have := hs2.out; rw [World.size_alloc]; omega) (by have := hm6.out; have := hlm.out; rw [List.nil_append]; omega) ?_; intro v2 w3 hR hb; obtain ⟨g, cap, e, hwg, hgl, _⟩ := Kd.R_form hR (by simp); rw [List.nil_append, List.length_append, hlm.out, show ([77, 78] : List Int).length = 2 from rfl] at e; subst e; have hI := Aside0.mk (Kd.R_lower (Kd.R_mono (Kd.R_tight rfl hR) (ok' := fun k => k = g) (fun k hk => by simpa [Value.ownBlock] using hk)) hb1.out.size); have hgg := Aside0.mk hgl; have hb3 := Aside0.mk (hb1.out.trans (hb.mono hb1.out.size)); have hcp := Aside0.mk (Kd.R_reads' hR).2.1; have qs := cut_cap (P := Try.prog) 66 3 .i64 Try.underlying66 hi (some ⟨g, 0, none⟩) (m + 2) cap m (by omega) (by have := hcp.out; omega); rw [Int.toNat_natCast] at qs; clear hR hb hwg hgl))
  have hC0 : Aside0 (∀ W, Sf w W g w3.heap.size m cap (l0 ++ [77, 78]) (.slice none 0 0) (.slice none 0 0) [] → CI W (some ⟨g, 0, none⟩) m l0) := ⟨fun W h => by have h1 := h.c; rw [List.take_left' hlm.out] at h1; exact h1⟩
  have hS0 : Aside0 (Sf w (w3.alloc (.cells #[.slice none 0 0, .slice none 0 0] 70)) g w3.heap.size m cap (l0 ++ [77, 78]) (.slice none 0 0) (.slice none 0 0) []) := ⟨⟨below_alloc hb3.out _, by have h1 := Kd.R_below hI.out (below_alloc (Below.refl _ _) (.cells #[.slice none 0 0, .slice none 0 0] 70)); exact h1, hgg.out, K0 w3⟩⟩
  obtain ⟨W3, hW3⟩ : ∃ W3, W3 = w3.alloc (.cells #[.slice none 0 0, .slice none 0 0] 70) := ⟨_, rfl⟩
  have hkW : Aside0 (w3.heap.size + 1 = W3.heap.size) := ⟨by rw [hW3, World.size_alloc]⟩
  rw [← hW3] at hS0 ⊢
  generalize w3.heap.size = kb at hS0 hkW hC0 ⊢
  have hcp : Aside0 (m ≤ cap) := ⟨by have := hS0.out.cp; omega⟩
  clear hW3 qs hI hgg hb3 hR2 hlit hb2 hs2
  have kA := Aside0.mk (Places_at s1 hz.out (hC0.out _ hS0.out) hlm.out.symm hcp.out hm6.out)
  go_wp2_with (first | (go_at_call 26; ((with_reducible refine kA.out.mono ?_); rintro e w4 ⟨A1, c1, rfl, hc_, hR_, hb_⟩; have hRa := Aside0.mk hR_; have hS1 := Aside0.mk (hS0.out.below hb_); have hz4 := Aside0.mk hb_.size; have kB := Aside0.mk (Places_at s1 hz.out (hC0.out _ hS1.out) hlm.out.symm hcp.out hm6.out); clear hc_ hR_ hb_)) | (go_at_call 26; ((with_reducible refine kB.out.mono ?_); rintro e w5 ⟨A2, c2, rfl, hc_, hR_, hb_⟩; have hRb := Aside0.mk hR_; have hRa5 := Aside0.mk (Kd.R_below hRa.out hb_); have hS2 := Aside0.mk (hS1.out.below hb_); have hz5 := Aside0.mk hb_.size; have kKa := Aside0.mk (Keep hS2.out.K (Kd.R_lower hRa5.out (by have := hkW.out; omega)) (fun k hk => ⟨by simp [Value.ownBlock], by simp [Value.ownBlock]⟩) (by have := hkW.out; have := hz4.out; have := hz5.out; omega) (fun it hit => by simp at hit) (by have := hkW.out; have := hz4.out; have := hz5.out; omega) (by simp) (by have := hm6.out; omega)); clear hc_ hR_ hb_)) | (go_at_call 35; ((with_reducible refine kKa.out.mono ?_); rintro e w6 ⟨rfl, u1, v1, y1, hK_, hF_, _, _, hv_, hu_⟩; have hS3 := Aside0.mk (hS2.out.keep hK_ hF_); have hz6 := Aside0.mk hF_.size; have hRb6 := Aside0.mk (R_frm flat.E hRb.out hF_ (fun k hk hs => by have h1 := Kd.R_base hRb.out k hk; have h2 := hkW.out; have h3 := hz4.out; rcases hs with e | e | e; exact absurd e (by omega); exact absurd e (by simp [Value.ownBlock]); exact absurd e (by simp [Value.ownBlock]))); have kKb := Aside0.mk (Keep hS3.out.K (Kd.R_lower hRb6.out (by have := hkW.out; have := hz4.out; omega)) (fun k hk => ⟨fun e => absurd (hu_ k (Kd.R_lt hRb.out k hk) e) (by simp [Value.ownBlock]), fun e => absurd (hv_ k (Kd.R_lt hRb.out k hk) e) (by simp [Value.ownBlock])⟩) (by have := hkW.out; have := hz4.out; have := hz5.out; have := hz6.out; omega) (fun it hit k hk hk2 => by simp at hit; subst hit; have h1 := Kd.R_lt hRa.out k hk; have h2 := Kd.R_base hRb.out k hk2; omega) (by have := hkW.out; have := hz4.out; have := hz5.out; have := hz6.out; omega) (by simp) (by have := hm6.out; omega)); clear hK_ hF_ hv_ hu_)) | (go_at_call 35; ((with_reducible refine kKb.out.mono ?_); rintro e w7 ⟨rfl, u2, v2, y2, hK_, hF_, _, _, hv_, hu_⟩; have hS4 : Aside0 (Sf w w7 g kb m cap (l0 ++ [77, 78]) u2 v2 [⟨(A1, m, c1), y1, l0.map (PS s1)⟩, ⟨(A2, m, c2), y2, l0.map (PS s1)⟩]) := ⟨hS3.out.keep hK_ hF_⟩; have hz7 := Aside0.mk hF_.size; have kR := Aside0.mk (Ref_at s1 hz.out (Kd.C_below hCm.out hS4.out.bel) hlm.out.symm hmc.out hm6.out); clear hK_ hF_ hv_ hu_)) | (go_at_call 36; ((with_reducible refine kR.out.mono ?_); rintro e w8 ⟨Ar, cr, rfl, hc_, hR_, hb_⟩; have hS5 := Aside0.mk (hS4.out.below hb_); have kS1 := Aside0.mk (Same_R (show Kd.R P.k25 25 w8 (kb + 1) (fun _ => True) (.slice A1 m c1) (l0.map (PS s1)) from hS5.out.K.rh ⟨(A1, m, c1), y1, l0.map (PS s1)⟩ (by simp)) hR_ hm6.out); clear hc_ hR_ hb_)) | (go_at_call 29; ((with_reducible refine kS1.out.mono ?_); rintro e w9 ⟨rfl, hb_⟩; have hS6 := Aside0.mk (hS5.out.below hb_); have kS2 := Aside0.mk (Same_R (show Kd.R P.k25 25 w9 (kb + 1) (fun _ => True) (.slice A1 m c1) (l0.map (PS s1)) from hS6.out.K.rh ⟨(A1, m, c1), y1, l0.map (PS s1)⟩ (by simp)) (show Kd.R P.k25 25 w9 (kb + 1) (fun _ => True) (.slice A2 m c2) (l0.map (PS s1)) from hS6.out.K.rh ⟨(A2, m, c2), y2, l0.map (PS s1)⟩ (by simp)) hm6.out); clear hb_)) | (go_at_call 29; ((with_reducible refine kS2.out.mono ?_); rintro e w10 ⟨rfl, hb_⟩; have hS7 := Aside0.mk (hS6.out.below hb_); clear hb_)))
  have hS70 : Aside0 (∃ L, Sf w w10 g kb m cap L u2 v2 [⟨(A1, m, c1), y1, l0.map (PS s1)⟩, ⟨(A2, m, c2), y2, l0.map (PS s1)⟩] ∧ (∀ j : Nat, 0 ≤ j → j < m → rd L (j : Int) = rd l0 (j : Int)) ∧ rd L (m : Int) = 77 ∧ rd L ((m + 1 : Nat) : Int) = 78) := ⟨⟨_, hS7.out, fun j _ hj => by
      have h := hlm.out
      unfold rd
      rw [Int.toNat_natCast, List.getD_eq_getElem?_getD, List.getD_eq_getElem?_getD, List.getElem?_append_left (by omega)], by
      have h := hlm.out
      unfold rd
      rw [Int.toNat_natCast, List.getD_eq_getElem?_getD, List.getElem?_append_right (by omega), h, Nat.sub_self]; rfl, by
      have h := hlm.out
      unfold rd
      rw [Int.toNat_natCast, List.getD_eq_getElem?_getD, List.getElem?_append_right (by omega), h, Nat.add_sub_cancel_left]; rfl⟩⟩
  go_loopg [10] m (fun gk v10 wr => ∃ (i : Nat), v10 = .int .i64 (i : Int) ∧ i + gk = m ∧ Aside0 (∃ L, Sf w wr g kb m cap L u2 v2 [⟨(A1, m, c1), y1, l0.map (PS s1)⟩, ⟨(A2, m, c2), y2, l0.map (PS s1)⟩] ∧ (∀ j : Nat, i ≤ j → j < m → rd L (j : Int) = rd l0 (j : Int)) ∧ rd L (m : Int) = 77 ∧ rd L ((m + 1 : Nat) : Int) = 78))
  case atStart => exact ⟨0, rfl, by omega, hS70⟩
  case round =>
    clear hS70 hS7 kA kB kKa kKb kR kS1 kS2
    obtain ⟨i, rfl, hi, hQ⟩ := hrel
    obtain ⟨L, hSf, hLj, hL7, hL8⟩ := hQ.out
    have hSS := Aside0.mk hSf
    have hJJ := Aside0.mk hLj
    have h77 := Aside0.mk hL7
    have h78 := Aside0.mk hL8
    cases gk with
    | succ k1 =>
      have him : i < m := by omega
      have hd : decide ((i : Int) < (m : Int)) = true := decide_eq_true (by omega)
      have hd' : decide (i < m) = true := decide_eq_true (by omega)
      have q1 := hSf.at_ (k := i) (by omega)
      rw [hLj i (Nat.le_refl _) him] at q1
      obtain ⟨ad, e, q2⟩ := Kd.at_int (Kd.C_below hCm.out hSf.bel) (i : Int) (by omega) (by omega)
      subst e
      rw [Int.toNat_natCast] at q2
      obtain ⟨x, hx⟩ : ∃ x, x = rd l0 (i : Int) := ⟨_, rfl⟩
      rw [← hx] at q1 q2
      have q3 := q1.1
      have q4 := q1.2
      clear q1 hx hLj hL7 hL8 hSf hQ
      go_wp2
      go_quiet (fail)
      go_wp2
      go_roundg k1
      case measure => omega
      case rel =>
        refine ⟨i + 1, by rw [show wrap64 ((i : Int) + 1) = ((i + 1 : Nat) : Int) from by have := hm6.out; unfold wrap64; omega], by omega, ⟨⟨_, (hSS.out.below (pw_below_drewN (Below.refl _ _) _)).put (by omega) _, fun j h1 h2 => ?_, ?_, ?_⟩⟩⟩
        · rw [← hJJ.out j (by omega) h2]
          unfold rd
          rw [List.getD_eq_getElem?_getD, List.getD_eq_getElem?_getD, Int.toNat_natCast, List.getElem?_set_ne (by omega)]
        · rw [← h77.out]
          unfold rd
          rw [List.getD_eq_getElem?_getD, List.getD_eq_getElem?_getD, Int.toNat_natCast, List.getElem?_set_ne (by omega)]
        · rw [← h78.out]
          unfold rd
          rw [List.getD_eq_getElem?_getD, List.getD_eq_getElem?_getD, Int.toNat_natCast, List.getElem?_set_ne (by omega)]
    | zero =>
      have hd : decide ((i : Int) < (m : Int)) = false := decide_eq_false (by omega)
      have hd' : decide (i < m) = false := decide_eq_false (by omega)
      have hll : Aside0 (m = (L.take m).length) := ⟨by rw [List.length_take, hSf.len]; omega⟩
      obtain ⟨l1, hl1⟩ : ∃ x, x = L.take m := ⟨_, rfl⟩
      have hC1 : Aside0 (∀ W, Below wr.heap.size wr W → CI W (some ⟨g, 0, none⟩) m l1) := ⟨fun W hb => by rw [hl1]; exact (hSS.out.below hb).c⟩
      rw [← hl1] at hll
      have hwm : wrap64 ((m : Int) + 1) = ((m + 1 : Nat) : Int) := by have := hm6.out; unfold wrap64; omega
      clear hL7 hL8 hLj hSf hQ hl1 hi
      go_wp2_with (first | (at_builtin; refine appI (w0 := wr) wr.heap.size _ [] l1 (some ⟨g, 0, none⟩) m cap rfl _ _ rfl rfl rfl (RI_made wr) (hC1.out _ (below_alloc (Below.refl _ _) _)) (below_alloc (Below.refl _ _) _) (by rw [World.size_alloc]; omega) (by have := hm6.out; simp; omega) ?_; intro v3 w11 hR_ hb_; rw [List.nil_append] at hR_; obtain ⟨A5, c5, e_, hc5_, _⟩ := Kd.R_reads hR_; rw [← hll.out] at e_ hc5_; subst e_; have hRo := Aside0.mk hR_; have hc5 := Aside0.mk hc5_; have hT1 := Aside0.mk (hSS.out.below hb_); have kC := Aside0.mk (Places_at s1 hz.out (hC1.out _ hb_) hll.out hcp.out hm6.out); clear hR_ hb_ hc5_) | (go_at_call 26; ((with_reducible refine kC.out.mono ?_); rintro e w12 ⟨A3, c3, rfl, hc_, hR_, hb_⟩; have hRo2 := Aside0.mk (Kd.R_below hRo.out hb_); have hT2 := Aside0.mk (hT1.out.below hb_); have hz12 := Aside0.mk hb_.size; have kKc := Aside0.mk (Keep hT2.out.K (Kd.R_lower hR_ (by have := Box2.lt hT1.out.K.bx; omega)) (fun k hk => ⟨fun e => by have h1 := Kd.R_base hR_ k hk; have h2 := Kd.R_lt hT1.out.K.ru k e.symm; omega, fun e => by have h1 := Kd.R_base hR_ k hk; have h2 := Kd.R_lt hT1.out.K.rv k e.symm; omega⟩) (by have := Box2.lt hT2.out.K.bx; omega) (fun it hit k hk hk2 => by have h1 := Kd.R_lt (hT1.out.K.rh it hit) k hk; have h2 := Kd.R_base hR_ k hk2; omega) (by have := Box2.lt hT2.out.K.bx; omega) (by simp) (by have := hm6.out; omega)); clear hc_ hR_ hb_)) | (go_at_call 35; ((with_reducible refine kKc.out.mono ?_); rintro e w13 ⟨rfl, u3, v3, y3, hK_, hF_, _, _, hv_, hu_⟩; have hT3 : Aside0 (Sf w w13 g kb m cap L u3 v3 [⟨(A1, m, c1), y1, l0.map (PS s1)⟩, ⟨(A2, m, c2), y2, l0.map (PS s1)⟩, ⟨(A3, m, c3), y3, l1.map (PS s1)⟩]) := ⟨hT2.out.keep hK_ hF_⟩; have hRo3 := Aside0.mk (R_frm rfl hRo2.out hF_ (fun k hk hs => by have h1 := Kd.R_base hRo.out k hk; have h4 := Box2.lt hSS.out.K.bx; rcases hs with e | e | e; exact absurd e (by omega); exact absurd (Kd.R_lt hSS.out.K.ru k e.symm) (by omega); exact absurd (Kd.R_lt hSS.out.K.rv k e.symm) (by omega))); have kN := Aside0.mk (Places_at (W := w13) (A := none) (n := 0) (c := 0) (l := []) s1 hz.out (Kd.C_nil _ _) rfl (Nat.le_refl _) (by omega)); clear hK_ hF_ hv_ hu_)) | (go_at_call 26; ((with_reducible refine kN.out.mono ?_); rintro e w14 ⟨A4, c4, rfl, hc_, hR_, hb_⟩; have hT4 := Aside0.mk (hT3.out.below hb_); have hRo4 := Aside0.mk (Kd.R_below hRo3.out hb_); have kR2 := Aside0.mk (Ref_at s1 hz.out (by have h := (Kd.R_reads' hRo4.out).2.2; rw [← hll.out] at h; exact h) hll.out hc5.out hm6.out); clear hc_ hR_ hb_)) | (go_at_call 36; ((with_reducible refine kR2.out.mono ?_); rintro e w15 ⟨A6, c6, rfl, hc_, hR_, hb_⟩; have hT5 := Aside0.mk (hT4.out.below hb_); have kS3 := Aside0.mk (Same_R (show Kd.R P.k25 25 w15 (kb + 1) (fun _ => True) (.slice A3 m c3) (l1.map (PS s1)) from hT5.out.K.rh ⟨(A3, m, c3), y3, l1.map (PS s1)⟩ (by simp)) hR_ hm6.out); clear hc_ hR_ hb_)) | (go_at_call 29; ((with_reducible refine kS3.out.mono ?_); rintro e w16 ⟨rfl, hb_⟩; have hT6 := Aside0.mk (hT5.out.below hb_); have kZ := Aside0.mk (hT6.out.K.apart (by simp) (by simp) (by have := Box2.lt hT6.out.K.bx; omega) (fun it hit => by have h1 := hlm.out; have h2 := hll.out; have h3 := hm6.out; simp at hit; rcases hit with rfl | rfl | rfl; simp; omega; simp; omega; simp; omega)); have m7 := (hT6.out.at_ (k := m) (by omega)).1; rw [h77.out] at m7; have m8 := (hT6.out.at_ (k := m + 1) (by omega)).1; rw [h78.out] at m8; clear hb_)) | (go_at_call 37; ((with_reducible refine kZ.out.mono ?_); rintro e w17 ⟨rfl, hF_⟩; have hfin := Aside0.mk (hT6.out.bel.trans (hF_.below (B := w.heap.size) hT6.out.bel.size (fun k hk hs => by have h1 := hT6.out.wg; have h2 := hT6.out.gk; omega))); clear hF_)))
      go_ret
      exact ⟨rfl, hfin.out⟩
set_option maxRecDepth 100000 in
set_option maxHeartbeats 8000000 in
theorem T2 {w : World} {s : ByteArray} {A : Option Addr} {n c : Nat} {offs : List Int} (hs : s.size ≤ 140737488351232) (hC : CI w A n offs) (hn : n = offs.length) (hc : n ≤ c) (hl : n ≤ 140737488351232) (hcs : (s.size : Int) ≤ 3000) (hcn : ¬ (n : Int) ≤ 60) :
    Calls Try.prog 10 #[.string s, .slice A n c] w fun e w' => e = .returned (.bool true) ∧ Below w.heap.size w w' := by
  obtain ⟨i0, hi, hz0_, hz1_, hz2_⟩ := info_parts infoI
  clear hz0_ hz1_ hz2_
  have hCC := Aside0.mk hC
  have hnn := Aside0.mk hn
  clear hC hn
  go_enter Try.func10, Try.ntmps10
  go_upto_region 5 with (first | (go_at_call 23; ((with_reducible refine (fixed_at _).mono ?_); rintro e w1 ⟨rfl, hb_⟩; have hb1 := Aside0.mk hb_; clear hb_)))
  obtain ⟨s1, hs1⟩ : ∃ x, x = s := ⟨_, rfl⟩
  have hz0 : s1.size ≤ 3000 := by rw [hs1]; omega
  rw [← hs1]
  obtain ⟨m, hm⟩ : ∃ x : Nat, x = 60 := ⟨_, rfl⟩
  obtain ⟨l0, hl0⟩ : ∃ x, x = offs.take m := ⟨_, rfl⟩
  have hlm : Aside0 (l0.length = m) := ⟨by rw [hl0, List.length_take]; have := hnn.out; omega⟩
  have hCm : Aside0 (CI w A m l0) := ⟨by
    have h1 := hCC.out
    rw [hnn.out] at h1
    have h2 := Kd.C_take (m := m) h1 (by have := hnn.out; omega)
    rw [← hl0, hlm.out] at h2
    exact h2⟩
  have hmc : Aside0 (m ≤ c) := ⟨by omega⟩
  have hm6 : Aside0 (m ≤ 60) := ⟨by omega⟩
  have hz := Aside0.mk hz0
  first | rw [← hm] | skip
  clear hs1 hz0 hm hs hl hcs hcn hc hl0
  go_upto_region 8 with (first | (at_builtin; refine appI (w0 := w1) w1.heap.size _ [] l0 A m c rfl _ _ rfl rfl rfl (RI_made w1) (Kd.C_below hCm.out (below_alloc hb1.out _)) (below_alloc (Below.refl _ _) _) (by rw [World.size_alloc]; omega) (by have := hm6.out; simp; omega) ?_; intro v1 w2 hR hb; have hR2 := Aside0.mk (Kd.R_below hR (below_alloc (Below.refl _ _) (.cells #[.int .i64 77, .int .i64 78] 3))); have hb2 := Aside0.mk (below_alloc hb (.cells #[.int .i64 77, .int .i64 78] 3)); have hs2 := Aside0.mk hb.size; have hlit := Aside0.mk (CI_lit (fr := (0, 0)) w2 [77, 78] 3 (by simp)); clear hR hb) | (at_builtin; refine appI (w0 := w1) w1.heap.size v1 _ [77, 78] (some ⟨w2.heap.size, 0, none⟩) 2 2 rfl _ _ rfl rfl rfl hR2.out hlit.out hb2.out (by have := hs2.out; rw [World.size_alloc]; omega) (by have := hm6.out; have := hlm.out; rw [List.nil_append]; omega) ?_; intro v2 w3 hR hb; obtain ⟨g, cap, e, hwg, hgl, _⟩ := Kd.R_form hR (by simp); rw [List.nil_append, List.length_append, hlm.out, show ([77, 78] : List Int).length = 2 from rfl] at e; subst e; have hI := Aside0.mk (Kd.R_lower (Kd.R_mono (Kd.R_tight rfl hR) (ok' := fun k => k = g) (fun k hk => by simpa [Value.ownBlock] using hk)) hb1.out.size); have hgg := Aside0.mk hgl; have hb3 := Aside0.mk (hb1.out.trans (hb.mono hb1.out.size)); have hcp := Aside0.mk (Kd.R_reads' hR).2.1; have qs := cut_cap (P := Try.prog) 66 3 .i64 Try.underlying66 hi (some ⟨g, 0, none⟩) (m + 2) cap m (by omega) (by have := hcp.out; omega); rw [Int.toNat_natCast] at qs; clear hR hb hwg hgl))
  have hC0 : Aside0 (∀ W, Sf w W g w3.heap.size m cap (l0 ++ [77, 78]) (.slice none 0 0) (.slice none 0 0) [] → CI W (some ⟨g, 0, none⟩) m l0) := ⟨fun W h => by have h1 := h.c; rw [List.take_left' hlm.out] at h1; exact h1⟩
  have hS0 : Aside0 (Sf w (w3.alloc (.cells #[.slice none 0 0, .slice none 0 0] 70)) g w3.heap.size m cap (l0 ++ [77, 78]) (.slice none 0 0) (.slice none 0 0) []) := ⟨⟨below_alloc hb3.out _, by have h1 := Kd.R_below hI.out (below_alloc (Below.refl _ _) (.cells #[.slice none 0 0, .slice none 0 0] 70)); exact h1, hgg.out, K0 w3⟩⟩
  obtain ⟨W3, hW3⟩ : ∃ W3, W3 = w3.alloc (.cells #[.slice none 0 0, .slice none 0 0] 70) := ⟨_, rfl⟩
  have hkW : Aside0 (w3.heap.size + 1 = W3.heap.size) := ⟨by rw [hW3, World.size_alloc]⟩
  rw [← hW3] at hS0 ⊢
  generalize w3.heap.size = kb at hS0 hkW hC0 ⊢
  have hcp : Aside0 (m ≤ cap) := ⟨by have := hS0.out.cp; omega⟩
  clear hW3 qs hI hgg hb3 hR2 hlit hb2 hs2
  have kA := Aside0.mk (Places_at s1 hz.out (hC0.out _ hS0.out) hlm.out.symm hcp.out hm6.out)
  go_wp2_with (first | (go_at_call 26; ((with_reducible refine kA.out.mono ?_); rintro e w4 ⟨A1, c1, rfl, hc_, hR_, hb_⟩; have hRa := Aside0.mk hR_; have hS1 := Aside0.mk (hS0.out.below hb_); have hz4 := Aside0.mk hb_.size; have kB := Aside0.mk (Places_at s1 hz.out (hC0.out _ hS1.out) hlm.out.symm hcp.out hm6.out); clear hc_ hR_ hb_)) | (go_at_call 26; ((with_reducible refine kB.out.mono ?_); rintro e w5 ⟨A2, c2, rfl, hc_, hR_, hb_⟩; have hRb := Aside0.mk hR_; have hRa5 := Aside0.mk (Kd.R_below hRa.out hb_); have hS2 := Aside0.mk (hS1.out.below hb_); have hz5 := Aside0.mk hb_.size; have kKa := Aside0.mk (Keep hS2.out.K (Kd.R_lower hRa5.out (by have := hkW.out; omega)) (fun k hk => ⟨by simp [Value.ownBlock], by simp [Value.ownBlock]⟩) (by have := hkW.out; have := hz4.out; have := hz5.out; omega) (fun it hit => by simp at hit) (by have := hkW.out; have := hz4.out; have := hz5.out; omega) (by simp) (by have := hm6.out; omega)); clear hc_ hR_ hb_)) | (go_at_call 35; ((with_reducible refine kKa.out.mono ?_); rintro e w6 ⟨rfl, u1, v1, y1, hK_, hF_, _, _, hv_, hu_⟩; have hS3 := Aside0.mk (hS2.out.keep hK_ hF_); have hz6 := Aside0.mk hF_.size; have hRb6 := Aside0.mk (R_frm flat.E hRb.out hF_ (fun k hk hs => by have h1 := Kd.R_base hRb.out k hk; have h2 := hkW.out; have h3 := hz4.out; rcases hs with e | e | e; exact absurd e (by omega); exact absurd e (by simp [Value.ownBlock]); exact absurd e (by simp [Value.ownBlock]))); have kKb := Aside0.mk (Keep hS3.out.K (Kd.R_lower hRb6.out (by have := hkW.out; have := hz4.out; omega)) (fun k hk => ⟨fun e => absurd (hu_ k (Kd.R_lt hRb.out k hk) e) (by simp [Value.ownBlock]), fun e => absurd (hv_ k (Kd.R_lt hRb.out k hk) e) (by simp [Value.ownBlock])⟩) (by have := hkW.out; have := hz4.out; have := hz5.out; have := hz6.out; omega) (fun it hit k hk hk2 => by simp at hit; subst hit; have h1 := Kd.R_lt hRa.out k hk; have h2 := Kd.R_base hRb.out k hk2; omega) (by have := hkW.out; have := hz4.out; have := hz5.out; have := hz6.out; omega) (by simp) (by have := hm6.out; omega)); clear hK_ hF_ hv_ hu_)) | (go_at_call 35; ((with_reducible refine kKb.out.mono ?_); rintro e w7 ⟨rfl, u2, v2, y2, hK_, hF_, _, _, hv_, hu_⟩; have hS4 : Aside0 (Sf w w7 g kb m cap (l0 ++ [77, 78]) u2 v2 [⟨(A1, m, c1), y1, l0.map (PS s1)⟩, ⟨(A2, m, c2), y2, l0.map (PS s1)⟩]) := ⟨hS3.out.keep hK_ hF_⟩; have hz7 := Aside0.mk hF_.size; have kR := Aside0.mk (Ref_at s1 hz.out (Kd.C_below hCm.out hS4.out.bel) hlm.out.symm hmc.out hm6.out); clear hK_ hF_ hv_ hu_)) | (go_at_call 36; ((with_reducible refine kR.out.mono ?_); rintro e w8 ⟨Ar, cr, rfl, hc_, hR_, hb_⟩; have hS5 := Aside0.mk (hS4.out.below hb_); have kS1 := Aside0.mk (Same_R (show Kd.R P.k25 25 w8 (kb + 1) (fun _ => True) (.slice A1 m c1) (l0.map (PS s1)) from hS5.out.K.rh ⟨(A1, m, c1), y1, l0.map (PS s1)⟩ (by simp)) hR_ hm6.out); clear hc_ hR_ hb_)) | (go_at_call 29; ((with_reducible refine kS1.out.mono ?_); rintro e w9 ⟨rfl, hb_⟩; have hS6 := Aside0.mk (hS5.out.below hb_); have kS2 := Aside0.mk (Same_R (show Kd.R P.k25 25 w9 (kb + 1) (fun _ => True) (.slice A1 m c1) (l0.map (PS s1)) from hS6.out.K.rh ⟨(A1, m, c1), y1, l0.map (PS s1)⟩ (by simp)) (show Kd.R P.k25 25 w9 (kb + 1) (fun _ => True) (.slice A2 m c2) (l0.map (PS s1)) from hS6.out.K.rh ⟨(A2, m, c2), y2, l0.map (PS s1)⟩ (by simp)) hm6.out); clear hb_)) | (go_at_call 29; ((with_reducible refine kS2.out.mono ?_); rintro e w10 ⟨rfl, hb_⟩; have hS7 := Aside0.mk (hS6.out.below hb_); clear hb_)))
  have hS70 : Aside0 (∃ L, Sf w w10 g kb m cap L u2 v2 [⟨(A1, m, c1), y1, l0.map (PS s1)⟩, ⟨(A2, m, c2), y2, l0.map (PS s1)⟩] ∧ (∀ j : Nat, 0 ≤ j → j < m → rd L (j : Int) = rd l0 (j : Int)) ∧ rd L (m : Int) = 77 ∧ rd L ((m + 1 : Nat) : Int) = 78) := ⟨⟨_, hS7.out, fun j _ hj => by
      have h := hlm.out
      unfold rd
      rw [Int.toNat_natCast, List.getD_eq_getElem?_getD, List.getD_eq_getElem?_getD, List.getElem?_append_left (by omega)], by
      have h := hlm.out
      unfold rd
      rw [Int.toNat_natCast, List.getD_eq_getElem?_getD, List.getElem?_append_right (by omega), h, Nat.sub_self]; rfl, by
      have h := hlm.out
      unfold rd
      rw [Int.toNat_natCast, List.getD_eq_getElem?_getD, List.getElem?_append_right (by omega), h, Nat.add_sub_cancel_left]; rfl⟩⟩
  go_loopg [10] m (fun gk v10 wr => ∃ (i : Nat), v10 = .int .i64 (i : Int) ∧ i + gk = m ∧ Aside0 (∃ L, Sf w wr g kb m cap L u2 v2 [⟨(A1, m, c1), y1, l0.map (PS s1)⟩, ⟨(A2, m, c2), y2, l0.map (PS s1)⟩] ∧ (∀ j : Nat, i ≤ j → j < m → rd L (j : Int) = rd l0 (j : Int)) ∧ rd L (m : Int) = 77 ∧ rd L ((m + 1 : Nat) : Int) = 78))
  case atStart => exact ⟨0, rfl, by omega, hS70⟩
  case round =>
    clear hS70 hS7 kA kB kKa kKb kR kS1 kS2
    obtain ⟨i, rfl, hi, hQ⟩ := hrel
    obtain ⟨L, hSf, hLj, hL7, hL8⟩ := hQ.out
    have hSS := Aside0.mk hSf
    have hJJ := Aside0.mk hLj
    have h77 := Aside0.mk hL7
    have h78 := Aside0.mk hL8
    cases gk with
    | succ k1 =>
      have him : i < m := by omega
      have hd : decide ((i : Int) < (m : Int)) = true := decide_eq_true (by omega)
      have hd' : decide (i < m) = true := decide_eq_true (by omega)
      have q1 := hSf.at_ (k := i) (by omega)
      rw [hLj i (Nat.le_refl _) him] at q1
      obtain ⟨ad, e, q2⟩ := Kd.at_int (Kd.C_below hCm.out hSf.bel) (i : Int) (by omega) (by omega)
      subst e
      rw [Int.toNat_natCast] at q2
      obtain ⟨x, hx⟩ : ∃ x, x = rd l0 (i : Int) := ⟨_, rfl⟩
      rw [← hx] at q1 q2
      have q3 := q1.1
      have q4 := q1.2
      clear q1 hx hLj hL7 hL8 hSf hQ
      go_wp2
      go_quiet (fail)
      go_wp2
      go_roundg k1
      case measure => omega
      case rel =>
        refine ⟨i + 1, by rw [show wrap64 ((i : Int) + 1) = ((i + 1 : Nat) : Int) from by have := hm6.out; unfold wrap64; omega], by omega, ⟨⟨_, (hSS.out.below (pw_below_drewN (Below.refl _ _) _)).put (by omega) _, fun j h1 h2 => ?_, ?_, ?_⟩⟩⟩
        · rw [← hJJ.out j (by omega) h2]
          unfold rd
          rw [List.getD_eq_getElem?_getD, List.getD_eq_getElem?_getD, Int.toNat_natCast, List.getElem?_set_ne (by omega)]
        · rw [← h77.out]
          unfold rd
          rw [List.getD_eq_getElem?_getD, List.getD_eq_getElem?_getD, Int.toNat_natCast, List.getElem?_set_ne (by omega)]
        · rw [← h78.out]
          unfold rd
          rw [List.getD_eq_getElem?_getD, List.getD_eq_getElem?_getD, Int.toNat_natCast, List.getElem?_set_ne (by omega)]
    | zero =>
      have hd : decide ((i : Int) < (m : Int)) = false := decide_eq_false (by omega)
      have hd' : decide (i < m) = false := decide_eq_false (by omega)
      have hll : Aside0 (m = (L.take m).length) := ⟨by rw [List.length_take, hSf.len]; omega⟩
      obtain ⟨l1, hl1⟩ : ∃ x, x = L.take m := ⟨_, rfl⟩
      have hC1 : Aside0 (∀ W, Below wr.heap.size wr W → CI W (some ⟨g, 0, none⟩) m l1) := ⟨fun W hb => by rw [hl1]; exact (hSS.out.below hb).c⟩
      rw [← hl1] at hll
      have hwm : wrap64 ((m : Int) + 1) = ((m + 1 : Nat) : Int) := by have := hm6.out; unfold wrap64; omega
      clear hL7 hL8 hLj hSf hQ hl1 hi
      go_wp2_with (first | (at_builtin; refine appI (w0 := wr) wr.heap.size _ [] l1 (some ⟨g, 0, none⟩) m cap rfl _ _ rfl rfl rfl (RI_made wr) (hC1.out _ (below_alloc (Below.refl _ _) _)) (below_alloc (Below.refl _ _) _) (by rw [World.size_alloc]; omega) (by have := hm6.out; simp; omega) ?_; intro v3 w11 hR_ hb_; rw [List.nil_append] at hR_; obtain ⟨A5, c5, e_, hc5_, _⟩ := Kd.R_reads hR_; rw [← hll.out] at e_ hc5_; subst e_; have hRo := Aside0.mk hR_; have hc5 := Aside0.mk hc5_; have hT1 := Aside0.mk (hSS.out.below hb_); have kC := Aside0.mk (Places_at s1 hz.out (hC1.out _ hb_) hll.out hcp.out hm6.out); clear hR_ hb_ hc5_) | (go_at_call 26; ((with_reducible refine kC.out.mono ?_); rintro e w12 ⟨A3, c3, rfl, hc_, hR_, hb_⟩; have hRo2 := Aside0.mk (Kd.R_below hRo.out hb_); have hT2 := Aside0.mk (hT1.out.below hb_); have hz12 := Aside0.mk hb_.size; have kKc := Aside0.mk (Keep hT2.out.K (Kd.R_lower hR_ (by have := Box2.lt hT1.out.K.bx; omega)) (fun k hk => ⟨fun e => by have h1 := Kd.R_base hR_ k hk; have h2 := Kd.R_lt hT1.out.K.ru k e.symm; omega, fun e => by have h1 := Kd.R_base hR_ k hk; have h2 := Kd.R_lt hT1.out.K.rv k e.symm; omega⟩) (by have := Box2.lt hT2.out.K.bx; omega) (fun it hit k hk hk2 => by have h1 := Kd.R_lt (hT1.out.K.rh it hit) k hk; have h2 := Kd.R_base hR_ k hk2; omega) (by have := Box2.lt hT2.out.K.bx; omega) (by simp) (by have := hm6.out; omega)); clear hc_ hR_ hb_)) | (go_at_call 35; ((with_reducible refine kKc.out.mono ?_); rintro e w13 ⟨rfl, u3, v3, y3, hK_, hF_, _, _, hv_, hu_⟩; have hT3 : Aside0 (Sf w w13 g kb m cap L u3 v3 [⟨(A1, m, c1), y1, l0.map (PS s1)⟩, ⟨(A2, m, c2), y2, l0.map (PS s1)⟩, ⟨(A3, m, c3), y3, l1.map (PS s1)⟩]) := ⟨hT2.out.keep hK_ hF_⟩; have hRo3 := Aside0.mk (R_frm rfl hRo2.out hF_ (fun k hk hs => by have h1 := Kd.R_base hRo.out k hk; have h4 := Box2.lt hSS.out.K.bx; rcases hs with e | e | e; exact absurd e (by omega); exact absurd (Kd.R_lt hSS.out.K.ru k e.symm) (by omega); exact absurd (Kd.R_lt hSS.out.K.rv k e.symm) (by omega))); have kN := Aside0.mk (Places_at (W := w13) (A := none) (n := 0) (c := 0) (l := []) s1 hz.out (Kd.C_nil _ _) rfl (Nat.le_refl _) (by omega)); clear hK_ hF_ hv_ hu_)) | (go_at_call 26; ((with_reducible refine kN.out.mono ?_); rintro e w14 ⟨A4, c4, rfl, hc_, hR_, hb_⟩; have hT4 := Aside0.mk (hT3.out.below hb_); have hRo4 := Aside0.mk (Kd.R_below hRo3.out hb_); have kR2 := Aside0.mk (Ref_at s1 hz.out (by have h := (Kd.R_reads' hRo4.out).2.2; rw [← hll.out] at h; exact h) hll.out hc5.out hm6.out); clear hc_ hR_ hb_)) | (go_at_call 36; ((with_reducible refine kR2.out.mono ?_); rintro e w15 ⟨A6, c6, rfl, hc_, hR_, hb_⟩; have hT5 := Aside0.mk (hT4.out.below hb_); have kS3 := Aside0.mk (Same_R (show Kd.R P.k25 25 w15 (kb + 1) (fun _ => True) (.slice A3 m c3) (l1.map (PS s1)) from hT5.out.K.rh ⟨(A3, m, c3), y3, l1.map (PS s1)⟩ (by simp)) hR_ hm6.out); clear hc_ hR_ hb_)) | (go_at_call 29; ((with_reducible refine kS3.out.mono ?_); rintro e w16 ⟨rfl, hb_⟩; have hT6 := Aside0.mk (hT5.out.below hb_); have kZ := Aside0.mk (hT6.out.K.apart (by simp) (by simp) (by have := Box2.lt hT6.out.K.bx; omega) (fun it hit => by have h1 := hlm.out; have h2 := hll.out; have h3 := hm6.out; simp at hit; rcases hit with rfl | rfl | rfl; simp; omega; simp; omega; simp; omega)); have m7 := (hT6.out.at_ (k := m) (by omega)).1; rw [h77.out] at m7; have m8 := (hT6.out.at_ (k := m + 1) (by omega)).1; rw [h78.out] at m8; clear hb_)) | (go_at_call 37; ((with_reducible refine kZ.out.mono ?_); rintro e w17 ⟨rfl, hF_⟩; have hfin := Aside0.mk (hT6.out.bel.trans (hF_.below (B := w.heap.size) hT6.out.bel.size (fun k hk hs => by have h1 := hT6.out.wg; have h2 := hT6.out.gk; omega))); clear hF_)))
      go_ret
      exact ⟨rfl, hfin.out⟩
set_option maxRecDepth 100000 in
set_option maxHeartbeats 8000000 in
theorem T3 {w : World} {s : ByteArray} {A : Option Addr} {n c : Nat} {offs : List Int} (hs : s.size ≤ 140737488351232) (hC : CI w A n offs) (hn : n = offs.length) (hc : n ≤ c) (hl : n ≤ 140737488351232) (hcs : ¬ (s.size : Int) ≤ 3000) (hcn : (n : Int) ≤ 60) :
    Calls Try.prog 10 #[.string s, .slice A n c] w fun e w' => e = .returned (.bool true) ∧ Below w.heap.size w w' := by
  obtain ⟨i0, hi, hz0_, hz1_, hz2_⟩ := info_parts infoI
  clear hz0_ hz1_ hz2_
  have hCC := Aside0.mk hC
  have hnn := Aside0.mk hn
  clear hC hn
  go_enter Try.func10, Try.ntmps10
  go_upto_region 5 with (first | (go_at_call 23; ((with_reducible refine (fixed_at _).mono ?_); rintro e w1 ⟨rfl, hb_⟩; have hb1 := Aside0.mk hb_; clear hb_)))
  obtain ⟨s1, hs1⟩ : ∃ x, x = s.extract 0 3000 := ⟨_, rfl⟩
  have hz0 : s1.size ≤ 3000 := by rw [hs1]; (simp only [ByteArray.size_extract]; omega)
  rw [← hs1]
  obtain ⟨m, hm⟩ : ∃ x : Nat, x = n := ⟨_, rfl⟩
  obtain ⟨l0, hl0⟩ : ∃ x, x = offs.take m := ⟨_, rfl⟩
  have hlm : Aside0 (l0.length = m) := ⟨by rw [hl0, List.length_take]; have := hnn.out; omega⟩
  have hCm : Aside0 (CI w A m l0) := ⟨by
    have h1 := hCC.out
    rw [hnn.out] at h1
    have h2 := Kd.C_take (m := m) h1 (by have := hnn.out; omega)
    rw [← hl0, hlm.out] at h2
    exact h2⟩
  have hmc : Aside0 (m ≤ c) := ⟨by omega⟩
  have hm6 : Aside0 (m ≤ 60) := ⟨by omega⟩
  have hz := Aside0.mk hz0
  first | rw [← hm] | skip
  clear hs1 hz0 hm hs hl hcs hcn hc hl0
  go_upto_region 8 with (first | (at_builtin; refine appI (w0 := w1) w1.heap.size _ [] l0 A m c rfl _ _ rfl rfl rfl (RI_made w1) (Kd.C_below hCm.out (below_alloc hb1.out _)) (below_alloc (Below.refl _ _) _) (by rw [World.size_alloc]; omega) (by have := hm6.out; simp; omega) ?_; intro v1 w2 hR hb; have hR2 := Aside0.mk (Kd.R_below hR (below_alloc (Below.refl _ _) (.cells #[.int .i64 77, .int .i64 78] 3))); have hb2 := Aside0.mk (below_alloc hb (.cells #[.int .i64 77, .int .i64 78] 3)); have hs2 := Aside0.mk hb.size; have hlit := Aside0.mk (CI_lit (fr := (0, 0)) w2 [77, 78] 3 (by simp)); clear hR hb) | (at_builtin; refine appI (w0 := w1) w1.heap.size v1 _ [77, 78] (some ⟨w2.heap.size, 0, none⟩) 2 2 rfl _ _ rfl rfl rfl hR2.out hlit.out hb2.out (by have := hs2.out; rw [World.size_alloc]; omega) (by have := hm6.out; have := hlm.out; rw [List.nil_append]; omega) ?_; intro v2 w3 hR hb; obtain ⟨g, cap, e, hwg, hgl, _⟩ := Kd.R_form hR (by simp); rw [List.nil_append, List.length_append, hlm.out, show ([77, 78] : List Int).length = 2 from rfl] at e; subst e; have hI := Aside0.mk (Kd.R_lower (Kd.R_mono (Kd.R_tight rfl hR) (ok' := fun k => k = g) (fun k hk => by simpa [Value.ownBlock] using hk)) hb1.out.size); have hgg := Aside0.mk hgl; have hb3 := Aside0.mk (hb1.out.trans (hb.mono hb1.out.size)); have hcp := Aside0.mk (Kd.R_reads' hR).2.1; have qs := cut_cap (P := Try.prog) 66 3 .i64 Try.underlying66 hi (some ⟨g, 0, none⟩) (m + 2) cap m (by omega) (by have := hcp.out; omega); rw [Int.toNat_natCast] at qs; clear hR hb hwg hgl))
  have hC0 : Aside0 (∀ W, Sf w W g w3.heap.size m cap (l0 ++ [77, 78]) (.slice none 0 0) (.slice none 0 0) [] → CI W (some ⟨g, 0, none⟩) m l0) := ⟨fun W h => by have h1 := h.c; rw [List.take_left' hlm.out] at h1; exact h1⟩
  have hS0 : Aside0 (Sf w (w3.alloc (.cells #[.slice none 0 0, .slice none 0 0] 70)) g w3.heap.size m cap (l0 ++ [77, 78]) (.slice none 0 0) (.slice none 0 0) []) := ⟨⟨below_alloc hb3.out _, by have h1 := Kd.R_below hI.out (below_alloc (Below.refl _ _) (.cells #[.slice none 0 0, .slice none 0 0] 70)); exact h1, hgg.out, K0 w3⟩⟩
  obtain ⟨W3, hW3⟩ : ∃ W3, W3 = w3.alloc (.cells #[.slice none 0 0, .slice none 0 0] 70) := ⟨_, rfl⟩
  have hkW : Aside0 (w3.heap.size + 1 = W3.heap.size) := ⟨by rw [hW3, World.size_alloc]⟩
  rw [← hW3] at hS0 ⊢
  generalize w3.heap.size = kb at hS0 hkW hC0 ⊢
  have hcp : Aside0 (m ≤ cap) := ⟨by have := hS0.out.cp; omega⟩
  clear hW3 qs hI hgg hb3 hR2 hlit hb2 hs2
  have kA := Aside0.mk (Places_at s1 hz.out (hC0.out _ hS0.out) hlm.out.symm hcp.out hm6.out)
  go_wp2_with (first | (go_at_call 26; ((with_reducible refine kA.out.mono ?_); rintro e w4 ⟨A1, c1, rfl, hc_, hR_, hb_⟩; have hRa := Aside0.mk hR_; have hS1 := Aside0.mk (hS0.out.below hb_); have hz4 := Aside0.mk hb_.size; have kB := Aside0.mk (Places_at s1 hz.out (hC0.out _ hS1.out) hlm.out.symm hcp.out hm6.out); clear hc_ hR_ hb_)) | (go_at_call 26; ((with_reducible refine kB.out.mono ?_); rintro e w5 ⟨A2, c2, rfl, hc_, hR_, hb_⟩; have hRb := Aside0.mk hR_; have hRa5 := Aside0.mk (Kd.R_below hRa.out hb_); have hS2 := Aside0.mk (hS1.out.below hb_); have hz5 := Aside0.mk hb_.size; have kKa := Aside0.mk (Keep hS2.out.K (Kd.R_lower hRa5.out (by have := hkW.out; omega)) (fun k hk => ⟨by simp [Value.ownBlock], by simp [Value.ownBlock]⟩) (by have := hkW.out; have := hz4.out; have := hz5.out; omega) (fun it hit => by simp at hit) (by have := hkW.out; have := hz4.out; have := hz5.out; omega) (by simp) (by have := hm6.out; omega)); clear hc_ hR_ hb_)) | (go_at_call 35; ((with_reducible refine kKa.out.mono ?_); rintro e w6 ⟨rfl, u1, v1, y1, hK_, hF_, _, _, hv_, hu_⟩; have hS3 := Aside0.mk (hS2.out.keep hK_ hF_); have hz6 := Aside0.mk hF_.size; have hRb6 := Aside0.mk (R_frm flat.E hRb.out hF_ (fun k hk hs => by have h1 := Kd.R_base hRb.out k hk; have h2 := hkW.out; have h3 := hz4.out; rcases hs with e | e | e; exact absurd e (by omega); exact absurd e (by simp [Value.ownBlock]); exact absurd e (by simp [Value.ownBlock]))); have kKb := Aside0.mk (Keep hS3.out.K (Kd.R_lower hRb6.out (by have := hkW.out; have := hz4.out; omega)) (fun k hk => ⟨fun e => absurd (hu_ k (Kd.R_lt hRb.out k hk) e) (by simp [Value.ownBlock]), fun e => absurd (hv_ k (Kd.R_lt hRb.out k hk) e) (by simp [Value.ownBlock])⟩) (by have := hkW.out; have := hz4.out; have := hz5.out; have := hz6.out; omega) (fun it hit k hk hk2 => by simp at hit; subst hit; have h1 := Kd.R_lt hRa.out k hk; have h2 := Kd.R_base hRb.out k hk2; omega) (by have := hkW.out; have := hz4.out; have := hz5.out; have := hz6.out; omega) (by simp) (by have := hm6.out; omega)); clear hK_ hF_ hv_ hu_)) | (go_at_call 35; ((with_reducible refine kKb.out.mono ?_); rintro e w7 ⟨rfl, u2, v2, y2, hK_, hF_, _, _, hv_, hu_⟩; have hS4 : Aside0 (Sf w w7 g kb m cap (l0 ++ [77, 78]) u2 v2 [⟨(A1, m, c1), y1, l0.map (PS s1)⟩, ⟨(A2, m, c2), y2, l0.map (PS s1)⟩]) := ⟨hS3.out.keep hK_ hF_⟩; have hz7 := Aside0.mk hF_.size; have kR := Aside0.mk (Ref_at s1 hz.out (Kd.C_below hCm.out hS4.out.bel) hlm.out.symm hmc.out hm6.out); clear hK_ hF_ hv_ hu_)) | (go_at_call 36; ((with_reducible refine kR.out.mono ?_); rintro e w8 ⟨Ar, cr, rfl, hc_, hR_, hb_⟩; have hS5 := Aside0.mk (hS4.out.below hb_); have kS1 := Aside0.mk (Same_R (show Kd.R P.k25 25 w8 (kb + 1) (fun _ => True) (.slice A1 m c1) (l0.map (PS s1)) from hS5.out.K.rh ⟨(A1, m, c1), y1, l0.map (PS s1)⟩ (by simp)) hR_ hm6.out); clear hc_ hR_ hb_)) | (go_at_call 29; ((with_reducible refine kS1.out.mono ?_); rintro e w9 ⟨rfl, hb_⟩; have hS6 := Aside0.mk (hS5.out.below hb_); have kS2 := Aside0.mk (Same_R (show Kd.R P.k25 25 w9 (kb + 1) (fun _ => True) (.slice A1 m c1) (l0.map (PS s1)) from hS6.out.K.rh ⟨(A1, m, c1), y1, l0.map (PS s1)⟩ (by simp)) (show Kd.R P.k25 25 w9 (kb + 1) (fun _ => True) (.slice A2 m c2) (l0.map (PS s1)) from hS6.out.K.rh ⟨(A2, m, c2), y2, l0.map (PS s1)⟩ (by simp)) hm6.out); clear hb_)) | (go_at_call 29; ((with_reducible refine kS2.out.mono ?_); rintro e w10 ⟨rfl, hb_⟩; have hS7 := Aside0.mk (hS6.out.below hb_); clear hb_)))
  have hS70 : Aside0 (∃ L, Sf w w10 g kb m cap L u2 v2 [⟨(A1, m, c1), y1, l0.map (PS s1)⟩, ⟨(A2, m, c2), y2, l0.map (PS s1)⟩] ∧ (∀ j : Nat, 0 ≤ j → j < m → rd L (j : Int) = rd l0 (j : Int)) ∧ rd L (m : Int) = 77 ∧ rd L ((m + 1 : Nat) : Int) = 78) := ⟨⟨_, hS7.out, fun j _ hj => by
      have h := hlm.out
      unfold rd
      rw [Int.toNat_natCast, List.getD_eq_getElem?_getD, List.getD_eq_getElem?_getD, List.getElem?_append_left (by omega)], by
      have h := hlm.out
      unfold rd
      rw [Int.toNat_natCast, List.getD_eq_getElem?_getD, List.getElem?_append_right (by omega), h, Nat.sub_self]; rfl, by
      have h := hlm.out
      unfold rd
      rw [Int.toNat_natCast, List.getD_eq_getElem?_getD, List.getElem?_append_right (by omega), h, Nat.add_sub_cancel_left]; rfl⟩⟩
  go_loopg [10] m (fun gk v10 wr => ∃ (i : Nat), v10 = .int .i64 (i : Int) ∧ i + gk = m ∧ Aside0 (∃ L, Sf w wr g kb m cap L u2 v2 [⟨(A1, m, c1), y1, l0.map (PS s1)⟩, ⟨(A2, m, c2), y2, l0.map (PS s1)⟩] ∧ (∀ j : Nat, i ≤ j → j < m → rd L (j : Int) = rd l0 (j : Int)) ∧ rd L (m : Int) = 77 ∧ rd L ((m + 1 : Nat) : Int) = 78))
  case atStart => exact ⟨0, rfl, by omega, hS70⟩
  case round =>
    clear hS70 hS7 kA kB kKa kKb kR kS1 kS2
    obtain ⟨i, rfl, hi, hQ⟩ := hrel
    obtain ⟨L, hSf, hLj, hL7, hL8⟩ := hQ.out
    have hSS := Aside0.mk hSf
    have hJJ := Aside0.mk hLj
    have h77 := Aside0.mk hL7
    have h78 := Aside0.mk hL8
    cases gk with
    | succ k1 =>
      have him : i < m := by omega
      have hd : decide ((i : Int) < (m : Int)) = true := decide_eq_true (by omega)
      have hd' : decide (i < m) = true := decide_eq_true (by omega)
      have q1 := hSf.at_ (k := i) (by omega)
      rw [hLj i (Nat.le_refl _) him] at q1
      obtain ⟨ad, e, q2⟩ := Kd.at_int (Kd.C_below hCm.out hSf.bel) (i : Int) (by omega) (by omega)
      subst e
      rw [Int.toNat_natCast] at q2
      obtain ⟨x, hx⟩ : ∃ x, x = rd l0 (i : Int) := ⟨_, rfl⟩
      rw [← hx] at q1 q2
      have q3 := q1.1
      have q4 := q1.2
      clear q1 hx hLj hL7 hL8 hSf hQ
      go_wp2
      go_quiet (fail)
      go_wp2
      go_roundg k1
      case measure => omega
      case rel =>
        refine ⟨i + 1, by rw [show wrap64 ((i : Int) + 1) = ((i + 1 : Nat) : Int) from by have := hm6.out; unfold wrap64; omega], by omega, ⟨⟨_, (hSS.out.below (pw_below_drewN (Below.refl _ _) _)).put (by omega) _, fun j h1 h2 => ?_, ?_, ?_⟩⟩⟩
        · rw [← hJJ.out j (by omega) h2]
          unfold rd
          rw [List.getD_eq_getElem?_getD, List.getD_eq_getElem?_getD, Int.toNat_natCast, List.getElem?_set_ne (by omega)]
        · rw [← h77.out]
          unfold rd
          rw [List.getD_eq_getElem?_getD, List.getD_eq_getElem?_getD, Int.toNat_natCast, List.getElem?_set_ne (by omega)]
        · rw [← h78.out]
          unfold rd
          rw [List.getD_eq_getElem?_getD, List.getD_eq_getElem?_getD, Int.toNat_natCast, List.getElem?_set_ne (by omega)]
    | zero =>
      have hd : decide ((i : Int) < (m : Int)) = false := decide_eq_false (by omega)
      have hd' : decide (i < m) = false := decide_eq_false (by omega)
      have hll : Aside0 (m = (L.take m).length) := ⟨by rw [List.length_take, hSf.len]; omega⟩
      obtain ⟨l1, hl1⟩ : ∃ x, x = L.take m := ⟨_, rfl⟩
      have hC1 : Aside0 (∀ W, Below wr.heap.size wr W → CI W (some ⟨g, 0, none⟩) m l1) := ⟨fun W hb => by rw [hl1]; exact (hSS.out.below hb).c⟩
      rw [← hl1] at hll
      have hwm : wrap64 ((m : Int) + 1) = ((m + 1 : Nat) : Int) := by have := hm6.out; unfold wrap64; omega
      clear hL7 hL8 hLj hSf hQ hl1 hi
      go_wp2_with (first | (at_builtin; refine appI (w0 := wr) wr.heap.size _ [] l1 (some ⟨g, 0, none⟩) m cap rfl _ _ rfl rfl rfl (RI_made wr) (hC1.out _ (below_alloc (Below.refl _ _) _)) (below_alloc (Below.refl _ _) _) (by rw [World.size_alloc]; omega) (by have := hm6.out; simp; omega) ?_; intro v3 w11 hR_ hb_; rw [List.nil_append] at hR_; obtain ⟨A5, c5, e_, hc5_, _⟩ := Kd.R_reads hR_; rw [← hll.out] at e_ hc5_; subst e_; have hRo := Aside0.mk hR_; have hc5 := Aside0.mk hc5_; have hT1 := Aside0.mk (hSS.out.below hb_); have kC := Aside0.mk (Places_at s1 hz.out (hC1.out _ hb_) hll.out hcp.out hm6.out); clear hR_ hb_ hc5_) | (go_at_call 26; ((with_reducible refine kC.out.mono ?_); rintro e w12 ⟨A3, c3, rfl, hc_, hR_, hb_⟩; have hRo2 := Aside0.mk (Kd.R_below hRo.out hb_); have hT2 := Aside0.mk (hT1.out.below hb_); have hz12 := Aside0.mk hb_.size; have kKc := Aside0.mk (Keep hT2.out.K (Kd.R_lower hR_ (by have := Box2.lt hT1.out.K.bx; omega)) (fun k hk => ⟨fun e => by have h1 := Kd.R_base hR_ k hk; have h2 := Kd.R_lt hT1.out.K.ru k e.symm; omega, fun e => by have h1 := Kd.R_base hR_ k hk; have h2 := Kd.R_lt hT1.out.K.rv k e.symm; omega⟩) (by have := Box2.lt hT2.out.K.bx; omega) (fun it hit k hk hk2 => by have h1 := Kd.R_lt (hT1.out.K.rh it hit) k hk; have h2 := Kd.R_base hR_ k hk2; omega) (by have := Box2.lt hT2.out.K.bx; omega) (by simp) (by have := hm6.out; omega)); clear hc_ hR_ hb_)) | (go_at_call 35; ((with_reducible refine kKc.out.mono ?_); rintro e w13 ⟨rfl, u3, v3, y3, hK_, hF_, _, _, hv_, hu_⟩; have hT3 : Aside0 (Sf w w13 g kb m cap L u3 v3 [⟨(A1, m, c1), y1, l0.map (PS s1)⟩, ⟨(A2, m, c2), y2, l0.map (PS s1)⟩, ⟨(A3, m, c3), y3, l1.map (PS s1)⟩]) := ⟨hT2.out.keep hK_ hF_⟩; have hRo3 := Aside0.mk (R_frm rfl hRo2.out hF_ (fun k hk hs => by have h1 := Kd.R_base hRo.out k hk; have h4 := Box2.lt hSS.out.K.bx; rcases hs with e | e | e; exact absurd e (by omega); exact absurd (Kd.R_lt hSS.out.K.ru k e.symm) (by omega); exact absurd (Kd.R_lt hSS.out.K.rv k e.symm) (by omega))); have kN := Aside0.mk (Places_at (W := w13) (A := none) (n := 0) (c := 0) (l := []) s1 hz.out (Kd.C_nil _ _) rfl (Nat.le_refl _) (by omega)); clear hK_ hF_ hv_ hu_)) | (go_at_call 26; ((with_reducible refine kN.out.mono ?_); rintro e w14 ⟨A4, c4, rfl, hc_, hR_, hb_⟩; have hT4 := Aside0.mk (hT3.out.below hb_); have hRo4 := Aside0.mk (Kd.R_below hRo3.out hb_); have kR2 := Aside0.mk (Ref_at s1 hz.out (by have h := (Kd.R_reads' hRo4.out).2.2; rw [← hll.out] at h; exact h) hll.out hc5.out hm6.out); clear hc_ hR_ hb_)) | (go_at_call 36; ((with_reducible refine kR2.out.mono ?_); rintro e w15 ⟨A6, c6, rfl, hc_, hR_, hb_⟩; have hT5 := Aside0.mk (hT4.out.below hb_); have kS3 := Aside0.mk (Same_R (show Kd.R P.k25 25 w15 (kb + 1) (fun _ => True) (.slice A3 m c3) (l1.map (PS s1)) from hT5.out.K.rh ⟨(A3, m, c3), y3, l1.map (PS s1)⟩ (by simp)) hR_ hm6.out); clear hc_ hR_ hb_)) | (go_at_call 29; ((with_reducible refine kS3.out.mono ?_); rintro e w16 ⟨rfl, hb_⟩; have hT6 := Aside0.mk (hT5.out.below hb_); have kZ := Aside0.mk (hT6.out.K.apart (by simp) (by simp) (by have := Box2.lt hT6.out.K.bx; omega) (fun it hit => by have h1 := hlm.out; have h2 := hll.out; have h3 := hm6.out; simp at hit; rcases hit with rfl | rfl | rfl; simp; omega; simp; omega; simp; omega)); have m7 := (hT6.out.at_ (k := m) (by omega)).1; rw [h77.out] at m7; have m8 := (hT6.out.at_ (k := m + 1) (by omega)).1; rw [h78.out] at m8; clear hb_)) | (go_at_call 37; ((with_reducible refine kZ.out.mono ?_); rintro e w17 ⟨rfl, hF_⟩; have hfin := Aside0.mk (hT6.out.bel.trans (hF_.below (B := w.heap.size) hT6.out.bel.size (fun k hk hs => by have h1 := hT6.out.wg; have h2 := hT6.out.gk; omega))); clear hF_)))
      go_ret
      exact ⟨rfl, hfin.out⟩
set_option maxRecDepth 100000 in
set_option maxHeartbeats 8000000 in
theorem T4 {w : World} {s : ByteArray} {A : Option Addr} {n c : Nat} {offs : List Int} (hs : s.size ≤ 140737488351232) (hC : CI w A n offs) (hn : n = offs.length) (hc : n ≤ c) (hl : n ≤ 140737488351232) (hcs : ¬ (s.size : Int) ≤ 3000) (hcn : ¬ (n : Int) ≤ 60) :
    Calls Try.prog 10 #[.string s, .slice A n c] w fun e w' => e = .returned (.bool true) ∧ Below w.heap.size w w' := by
  obtain ⟨i0, hi, hz0_, hz1_, hz2_⟩ := info_parts infoI
  clear hz0_ hz1_ hz2_
  have hCC := Aside0.mk hC
  have hnn := Aside0.mk hn
  clear hC hn
  go_enter Try.func10, Try.ntmps10
  go_upto_region 5 with (first | (go_at_call 23; ((with_reducible refine (fixed_at _).mono ?_); rintro e w1 ⟨rfl, hb_⟩; have hb1 := Aside0.mk hb_; clear hb_)))
  obtain ⟨s1, hs1⟩ : ∃ x, x = s.extract 0 3000 := ⟨_, rfl⟩
  have hz0 : s1.size ≤ 3000 := by rw [hs1]; (simp only [ByteArray.size_extract]; omega)
  rw [← hs1]
  obtain ⟨m, hm⟩ : ∃ x : Nat, x = 60 := ⟨_, rfl⟩
  obtain ⟨l0, hl0⟩ : ∃ x, x = offs.take m := ⟨_, rfl⟩
  have hlm : Aside0 (l0.length = m) := ⟨by rw [hl0, List.length_take]; have := hnn.out; omega⟩
  have hCm : Aside0 (CI w A m l0) := ⟨by
    have h1 := hCC.out
    rw [hnn.out] at h1
    have h2 := Kd.C_take (m := m) h1 (by have := hnn.out; omega)
    rw [← hl0, hlm.out] at h2
    exact h2⟩
  have hmc : Aside0 (m ≤ c) := ⟨by omega⟩
  have hm6 : Aside0 (m ≤ 60) := ⟨by omega⟩
  have hz := Aside0.mk hz0
  first | rw [← hm] | skip
  clear hs1 hz0 hm hs hl hcs hcn hc hl0
  go_upto_region 8 with (first | (at_builtin; refine appI (w0 := w1) w1.heap.size _ [] l0 A m c rfl _ _ rfl rfl rfl (RI_made w1) (Kd.C_below hCm.out (below_alloc hb1.out _)) (below_alloc (Below.refl _ _) _) (by rw [World.size_alloc]; omega) (by have := hm6.out; simp; omega) ?_; intro v1 w2 hR hb; have hR2 := Aside0.mk (Kd.R_below hR (below_alloc (Below.refl _ _) (.cells #[.int .i64 77, .int .i64 78] 3))); have hb2 := Aside0.mk (below_alloc hb (.cells #[.int .i64 77, .int .i64 78] 3)); have hs2 := Aside0.mk hb.size; have hlit := Aside0.mk (CI_lit (fr := (0, 0)) w2 [77, 78] 3 (by simp)); clear hR hb) | (at_builtin; refine appI (w0 := w1) w1.heap.size v1 _ [77, 78] (some ⟨w2.heap.size, 0, none⟩) 2 2 rfl _ _ rfl rfl rfl hR2.out hlit.out hb2.out (by have := hs2.out; rw [World.size_alloc]; omega) (by have := hm6.out; have := hlm.out; rw [List.nil_append]; omega) ?_; intro v2 w3 hR hb; obtain ⟨g, cap, e, hwg, hgl, _⟩ := Kd.R_form hR (by simp); rw [List.nil_append, List.length_append, hlm.out, show ([77, 78] : List Int).length = 2 from rfl] at e; subst e; have hI := Aside0.mk (Kd.R_lower (Kd.R_mono (Kd.R_tight rfl hR) (ok' := fun k => k = g) (fun k hk => by simpa [Value.ownBlock] using hk)) hb1.out.size); have hgg := Aside0.mk hgl; have hb3 := Aside0.mk (hb1.out.trans (hb.mono hb1.out.size)); have hcp := Aside0.mk (Kd.R_reads' hR).2.1; have qs := cut_cap (P := Try.prog) 66 3 .i64 Try.underlying66 hi (some ⟨g, 0, none⟩) (m + 2) cap m (by omega) (by have := hcp.out; omega); rw [Int.toNat_natCast] at qs; clear hR hb hwg hgl))
  have hC0 : Aside0 (∀ W, Sf w W g w3.heap.size m cap (l0 ++ [77, 78]) (.slice none 0 0) (.slice none 0 0) [] → CI W (some ⟨g, 0, none⟩) m l0) := ⟨fun W h => by have h1 := h.c; rw [List.take_left' hlm.out] at h1; exact h1⟩
  have hS0 : Aside0 (Sf w (w3.alloc (.cells #[.slice none 0 0, .slice none 0 0] 70)) g w3.heap.size m cap (l0 ++ [77, 78]) (.slice none 0 0) (.slice none 0 0) []) := ⟨⟨below_alloc hb3.out _, by have h1 := Kd.R_below hI.out (below_alloc (Below.refl _ _) (.cells #[.slice none 0 0, .slice none 0 0] 70)); exact h1, hgg.out, K0 w3⟩⟩
  obtain ⟨W3, hW3⟩ : ∃ W3, W3 = w3.alloc (.cells #[.slice none 0 0, .slice none 0 0] 70) := ⟨_, rfl⟩
  have hkW : Aside0 (w3.heap.size + 1 = W3.heap.size) := ⟨by rw [hW3, World.size_alloc]⟩
  rw [← hW3] at hS0 ⊢
  generalize w3.heap.size = kb at hS0 hkW hC0 ⊢
  have hcp : Aside0 (m ≤ cap) := ⟨by have := hS0.out.cp; omega⟩
  clear hW3 qs hI hgg hb3 hR2 hlit hb2 hs2
  have kA := Aside0.mk (Places_at s1 hz.out (hC0.out _ hS0.out) hlm.out.symm hcp.out hm6.out)
  go_wp2_with (first | (go_at_call 26; ((with_reducible refine kA.out.mono ?_); rintro e w4 ⟨A1, c1, rfl, hc_, hR_, hb_⟩; have hRa := Aside0.mk hR_; have hS1 := Aside0.mk (hS0.out.below hb_); have hz4 := Aside0.mk hb_.size; have kB := Aside0.mk (Places_at s1 hz.out (hC0.out _ hS1.out) hlm.out.symm hcp.out hm6.out); clear hc_ hR_ hb_)) | (go_at_call 26; ((with_reducible refine kB.out.mono ?_); rintro e w5 ⟨A2, c2, rfl, hc_, hR_, hb_⟩; have hRb := Aside0.mk hR_; have hRa5 := Aside0.mk (Kd.R_below hRa.out hb_); have hS2 := Aside0.mk (hS1.out.below hb_); have hz5 := Aside0.mk hb_.size; have kKa := Aside0.mk (Keep hS2.out.K (Kd.R_lower hRa5.out (by have := hkW.out; omega)) (fun k hk => ⟨by simp [Value.ownBlock], by simp [Value.ownBlock]⟩) (by have := hkW.out; have := hz4.out; have := hz5.out; omega) (fun it hit => by simp at hit) (by have := hkW.out; have := hz4.out; have := hz5.out; omega) (by simp) (by have := hm6.out; omega)); clear hc_ hR_ hb_)) | (go_at_call 35; ((with_reducible refine kKa.out.mono ?_); rintro e w6 ⟨rfl, u1, v1, y1, hK_, hF_, _, _, hv_, hu_⟩; have hS3 := Aside0.mk (hS2.out.keep hK_ hF_); have hz6 := Aside0.mk hF_.size; have hRb6 := Aside0.mk (R_frm flat.E hRb.out hF_ (fun k hk hs => by have h1 := Kd.R_base hRb.out k hk; have h2 := hkW.out; have h3 := hz4.out; rcases hs with e | e | e; exact absurd e (by omega); exact absurd e (by simp [Value.ownBlock]); exact absurd e (by simp [Value.ownBlock]))); have kKb := Aside0.mk (Keep hS3.out.K (Kd.R_lower hRb6.out (by have := hkW.out; have := hz4.out; omega)) (fun k hk => ⟨fun e => absurd (hu_ k (Kd.R_lt hRb.out k hk) e) (by simp [Value.ownBlock]), fun e => absurd (hv_ k (Kd.R_lt hRb.out k hk) e) (by simp [Value.ownBlock])⟩) (by have := hkW.out; have := hz4.out; have := hz5.out; have := hz6.out; omega) (fun it hit k hk hk2 => by simp at hit; subst hit; have h1 := Kd.R_lt hRa.out k hk; have h2 := Kd.R_base hRb.out k hk2; omega) (by have := hkW.out; have := hz4.out; have := hz5.out; have := hz6.out; omega) (by simp) (by have := hm6.out; omega)); clear hK_ hF_ hv_ hu_)) | (go_at_call 35; ((with_reducible refine kKb.out.mono ?_); rintro e w7 ⟨rfl, u2, v2, y2, hK_, hF_, _, _, hv_, hu_⟩; have hS4 : Aside0 (Sf w w7 g kb m cap (l0 ++ [77, 78]) u2 v2 [⟨(A1, m, c1), y1, l0.map (PS s1)⟩, ⟨(A2, m, c2), y2, l0.map (PS s1)⟩]) := ⟨hS3.out.keep hK_ hF_⟩; have hz7 := Aside0.mk hF_.size; have kR := Aside0.mk (Ref_at s1 hz.out (Kd.C_below hCm.out hS4.out.bel) hlm.out.symm hmc.out hm6.out); clear hK_ hF_ hv_ hu_)) | (go_at_call 36; ((with_reducible refine kR.out.mono ?_); rintro e w8 ⟨Ar, cr, rfl, hc_, hR_, hb_⟩; have hS5 := Aside0.mk (hS4.out.below hb_); have kS1 := Aside0.mk (Same_R (show Kd.R P.k25 25 w8 (kb + 1) (fun _ => True) (.slice A1 m c1) (l0.map (PS s1)) from hS5.out.K.rh ⟨(A1, m, c1), y1, l0.map (PS s1)⟩ (by simp)) hR_ hm6.out); clear hc_ hR_ hb_)) | (go_at_call 29; ((with_reducible refine kS1.out.mono ?_); rintro e w9 ⟨rfl, hb_⟩; have hS6 := Aside0.mk (hS5.out.below hb_); have kS2 := Aside0.mk (Same_R (show Kd.R P.k25 25 w9 (kb + 1) (fun _ => True) (.slice A1 m c1) (l0.map (PS s1)) from hS6.out.K.rh ⟨(A1, m, c1), y1, l0.map (PS s1)⟩ (by simp)) (show Kd.R P.k25 25 w9 (kb + 1) (fun _ => True) (.slice A2 m c2) (l0.map (PS s1)) from hS6.out.K.rh ⟨(A2, m, c2), y2, l0.map (PS s1)⟩ (by simp)) hm6.out); clear hb_)) | (go_at_call 29; ((with_reducible refine kS2.out.mono ?_); rintro e w10 ⟨rfl, hb_⟩; have hS7 := Aside0.mk (hS6.out.below hb_); clear hb_)))
  have hS70 : Aside0 (∃ L, Sf w w10 g kb m cap L u2 v2 [⟨(A1, m, c1), y1, l0.map (PS s1)⟩, ⟨(A2, m, c2), y2, l0.map (PS s1)⟩] ∧ (∀ j : Nat, 0 ≤ j → j < m → rd L (j : Int) = rd l0 (j : Int)) ∧ rd L (m : Int) = 77 ∧ rd L ((m + 1 : Nat) : Int) = 78) := ⟨⟨_, hS7.out, fun j _ hj => by
      have h := hlm.out
      unfold rd
      rw [Int.toNat_natCast, List.getD_eq_getElem?_getD, List.getD_eq_getElem?_getD, List.getElem?_append_left (by omega)], by
      have h := hlm.out
      unfold rd
      rw [Int.toNat_natCast, List.getD_eq_getElem?_getD, List.getElem?_append_right (by omega), h, Nat.sub_self]; rfl, by
      have h := hlm.out
      unfold rd
      rw [Int.toNat_natCast, List.getD_eq_getElem?_getD, List.getElem?_append_right (by omega), h, Nat.add_sub_cancel_left]; rfl⟩⟩
  go_loopg [10] m (fun gk v10 wr => ∃ (i : Nat), v10 = .int .i64 (i : Int) ∧ i + gk = m ∧ Aside0 (∃ L, Sf w wr g kb m cap L u2 v2 [⟨(A1, m, c1), y1, l0.map (PS s1)⟩, ⟨(A2, m, c2), y2, l0.map (PS s1)⟩] ∧ (∀ j : Nat, i ≤ j → j < m → rd L (j : Int) = rd l0 (j : Int)) ∧ rd L (m : Int) = 77 ∧ rd L ((m + 1 : Nat) : Int) = 78))
  case atStart => exact ⟨0, rfl, by omega, hS70⟩
  case round =>
    clear hS70 hS7 kA kB kKa kKb kR kS1 kS2
    obtain ⟨i, rfl, hi, hQ⟩ := hrel
    obtain ⟨L, hSf, hLj, hL7, hL8⟩ := hQ.out
    have hSS := Aside0.mk hSf
    have hJJ := Aside0.mk hLj
    have h77 := Aside0.mk hL7
    have h78 := Aside0.mk hL8
    cases gk with
    | succ k1 =>
      have him : i < m := by omega
      have hd : decide ((i : Int) < (m : Int)) = true := decide_eq_true (by omega)
      have hd' : decide (i < m) = true := decide_eq_true (by omega)
      have q1 := hSf.at_ (k := i) (by omega)
      rw [hLj i (Nat.le_refl _) him] at q1
      obtain ⟨ad, e, q2⟩ := Kd.at_int (Kd.C_below hCm.out hSf.bel) (i : Int) (by omega) (by omega)
      subst e
      rw [Int.toNat_natCast] at q2
      obtain ⟨x, hx⟩ : ∃ x, x = rd l0 (i : Int) := ⟨_, rfl⟩
      rw [← hx] at q1 q2
      have q3 := q1.1
      have q4 := q1.2
      clear q1 hx hLj hL7 hL8 hSf hQ
      go_wp2
      go_quiet (fail)
      go_wp2
      go_roundg k1
      case measure => omega
      case rel =>
        refine ⟨i + 1, by rw [show wrap64 ((i : Int) + 1) = ((i + 1 : Nat) : Int) from by have := hm6.out; unfold wrap64; omega], by omega, ⟨⟨_, (hSS.out.below (pw_below_drewN (Below.refl _ _) _)).put (by omega) _, fun j h1 h2 => ?_, ?_, ?_⟩⟩⟩
        · rw [← hJJ.out j (by omega) h2]
          unfold rd
          rw [List.getD_eq_getElem?_getD, List.getD_eq_getElem?_getD, Int.toNat_natCast, List.getElem?_set_ne (by omega)]
        · rw [← h77.out]
          unfold rd
          rw [List.getD_eq_getElem?_getD, List.getD_eq_getElem?_getD, Int.toNat_natCast, List.getElem?_set_ne (by omega)]
        · rw [← h78.out]
          unfold rd
          rw [List.getD_eq_getElem?_getD, List.getD_eq_getElem?_getD, Int.toNat_natCast, List.getElem?_set_ne (by omega)]
    | zero =>
      have hd : decide ((i : Int) < (m : Int)) = false := decide_eq_false (by omega)
      have hd' : decide (i < m) = false := decide_eq_false (by omega)
      have hll : Aside0 (m = (L.take m).length) := ⟨by rw [List.length_take, hSf.len]; omega⟩
      obtain ⟨l1, hl1⟩ : ∃ x, x = L.take m := ⟨_, rfl⟩
      have hC1 : Aside0 (∀ W, Below wr.heap.size wr W → CI W (some ⟨g, 0, none⟩) m l1) := ⟨fun W hb => by rw [hl1]; exact (hSS.out.below hb).c⟩
      rw [← hl1] at hll
      have hwm : wrap64 ((m : Int) + 1) = ((m + 1 : Nat) : Int) := by have := hm6.out; unfold wrap64; omega
      clear hL7 hL8 hLj hSf hQ hl1 hi
      go_wp2_with (first | (at_builtin; refine appI (w0 := wr) wr.heap.size _ [] l1 (some ⟨g, 0, none⟩) m cap rfl _ _ rfl rfl rfl (RI_made wr) (hC1.out _ (below_alloc (Below.refl _ _) _)) (below_alloc (Below.refl _ _) _) (by rw [World.size_alloc]; omega) (by have := hm6.out; simp; omega) ?_; intro v3 w11 hR_ hb_; rw [List.nil_append] at hR_; obtain ⟨A5, c5, e_, hc5_, _⟩ := Kd.R_reads hR_; rw [← hll.out] at e_ hc5_; subst e_; have hRo := Aside0.mk hR_; have hc5 := Aside0.mk hc5_; have hT1 := Aside0.mk (hSS.out.below hb_); have kC := Aside0.mk (Places_at s1 hz.out (hC1.out _ hb_) hll.out hcp.out hm6.out); clear hR_ hb_ hc5_) | (go_at_call 26; ((with_reducible refine kC.out.mono ?_); rintro e w12 ⟨A3, c3, rfl, hc_, hR_, hb_⟩; have hRo2 := Aside0.mk (Kd.R_below hRo.out hb_); have hT2 := Aside0.mk (hT1.out.below hb_); have hz12 := Aside0.mk hb_.size; have kKc := Aside0.mk (Keep hT2.out.K (Kd.R_lower hR_ (by have := Box2.lt hT1.out.K.bx; omega)) (fun k hk => ⟨fun e => by have h1 := Kd.R_base hR_ k hk; have h2 := Kd.R_lt hT1.out.K.ru k e.symm; omega, fun e => by have h1 := Kd.R_base hR_ k hk; have h2 := Kd.R_lt hT1.out.K.rv k e.symm; omega⟩) (by have := Box2.lt hT2.out.K.bx; omega) (fun it hit k hk hk2 => by have h1 := Kd.R_lt (hT1.out.K.rh it hit) k hk; have h2 := Kd.R_base hR_ k hk2; omega) (by have := Box2.lt hT2.out.K.bx; omega) (by simp) (by have := hm6.out; omega)); clear hc_ hR_ hb_)) | (go_at_call 35; ((with_reducible refine kKc.out.mono ?_); rintro e w13 ⟨rfl, u3, v3, y3, hK_, hF_, _, _, hv_, hu_⟩; have hT3 : Aside0 (Sf w w13 g kb m cap L u3 v3 [⟨(A1, m, c1), y1, l0.map (PS s1)⟩, ⟨(A2, m, c2), y2, l0.map (PS s1)⟩, ⟨(A3, m, c3), y3, l1.map (PS s1)⟩]) := ⟨hT2.out.keep hK_ hF_⟩; have hRo3 := Aside0.mk (R_frm rfl hRo2.out hF_ (fun k hk hs => by have h1 := Kd.R_base hRo.out k hk; have h4 := Box2.lt hSS.out.K.bx; rcases hs with e | e | e; exact absurd e (by omega); exact absurd (Kd.R_lt hSS.out.K.ru k e.symm) (by omega); exact absurd (Kd.R_lt hSS.out.K.rv k e.symm) (by omega))); have kN := Aside0.mk (Places_at (W := w13) (A := none) (n := 0) (c := 0) (l := []) s1 hz.out (Kd.C_nil _ _) rfl (Nat.le_refl _) (by omega)); clear hK_ hF_ hv_ hu_)) | (go_at_call 26; ((with_reducible refine kN.out.mono ?_); rintro e w14 ⟨A4, c4, rfl, hc_, hR_, hb_⟩; have hT4 := Aside0.mk (hT3.out.below hb_); have hRo4 := Aside0.mk (Kd.R_below hRo3.out hb_); have kR2 := Aside0.mk (Ref_at s1 hz.out (by have h := (Kd.R_reads' hRo4.out).2.2; rw [← hll.out] at h; exact h) hll.out hc5.out hm6.out); clear hc_ hR_ hb_)) | (go_at_call 36; ((with_reducible refine kR2.out.mono ?_); rintro e w15 ⟨A6, c6, rfl, hc_, hR_, hb_⟩; have hT5 := Aside0.mk (hT4.out.below hb_); have kS3 := Aside0.mk (Same_R (show Kd.R P.k25 25 w15 (kb + 1) (fun _ => True) (.slice A3 m c3) (l1.map (PS s1)) from hT5.out.K.rh ⟨(A3, m, c3), y3, l1.map (PS s1)⟩ (by simp)) hR_ hm6.out); clear hc_ hR_ hb_)) | (go_at_call 29; ((with_reducible refine kS3.out.mono ?_); rintro e w16 ⟨rfl, hb_⟩; have hT6 := Aside0.mk (hT5.out.below hb_); have kZ := Aside0.mk (hT6.out.K.apart (by simp) (by simp) (by have := Box2.lt hT6.out.K.bx; omega) (fun it hit => by have h1 := hlm.out; have h2 := hll.out; have h3 := hm6.out; simp at hit; rcases hit with rfl | rfl | rfl; simp; omega; simp; omega; simp; omega)); have m7 := (hT6.out.at_ (k := m) (by omega)).1; rw [h77.out] at m7; have m8 := (hT6.out.at_ (k := m + 1) (by omega)).1; rw [h78.out] at m8; clear hb_)) | (go_at_call 37; ((with_reducible refine kZ.out.mono ?_); rintro e w17 ⟨rfl, hF_⟩; have hfin := Aside0.mk (hT6.out.bel.trans (hF_.below (B := w.heap.size) hT6.out.bel.size (fun k hk hs => by have h1 := hT6.out.wg; have h2 := hT6.out.gk; omega))); clear hF_)))
      go_ret
      exact ⟨rfl, hfin.out⟩
theorem TPlaces {w : World} {s : ByteArray} {A : Option Addr} {n c : Nat} {offs : List Int} (hs : s.size ≤ 140737488351232) (hC : CI w A n offs) (hn : n = offs.length) (hc : n ≤ c) (hl : n ≤ 140737488351232) :
    Calls Try.prog 10 #[.string s, .slice A n c] w fun e w' => e = .returned (.bool true) ∧ Below w.heap.size w w' := by
  by_cases h1 : (s.size : Int) ≤ 3000
  · by_cases h2 : (n : Int) ≤ 60
    · exact T1 hs hC hn hc hl h1 h2
    · exact T2 hs hC hn hc hl h1 h2
  · by_cases h2 : (n : Int) ≤ 60
    · exact T3 hs hC hn hc hl h1 h2
    · exact T4 hs hC hn hc hl h1 h2
end Go.Proofs.Ytjphhnhloeanlaa.Gp
