/- wisplaw20.ShotArts: the walk. -/
import Derived.Test.YtpjdgndbcjinjaaRa
import Derived.Test.YtpjdgndbcjinjaaApV
import Derived.Test.YtpjdgndbcjinjaaRv
namespace Go.Proofs.Ytpjdgndbcjinjaa.Sh
open Go.RowKit Go.Proofs.YtpjdgndbcjinjaaW.PrintWords Go.Proofs.YtpjdgndbcjinjaaW.PrintLast Go.Proofs.YtpjdgndbcjinjaaW.PrintMore Go.Proofs.Ytpjdgndbcjinjaa.Mem Go.Proofs.Ytpjdgndbcjinjaa.Ap Go.Proofs.Ytpjdgndbcjinjaa.P
set_option linter.unusedVariables false
set_option linter.unusedSimpArgs false
section
variable {W : World} {A : Option Addr} {n c : Nat} {zs : List Int} {s : ByteArray} {e : Int}
theorem fixed_at (W : World) : Calls Try.prog 9 #[] W fun e w' => e = .returned (.bool true) ∧ Below W.heap.size W w' := wisplaw20_fixed.calls 3073 true W (fixed_ok 0)
theorem Art_at (hC : CB W A n zs) (hn : n = zs.length) (hc : n ≤ c) (hB : allB zs) (hs : artA zs = (s, e)) : Calls Try.prog 20 #[.slice A n c] W fun e' w' => e' = .returned (.tuple #[.string s, .int .i64 e]) ∧ Below W.heap.size W w' := by
  subst hn
  exact shot_Art.calls 3073 A c zs s e W hC hc (by rw [Art_any zs hB 3073 (Nat.le_refl _), hs])
theorem RArt_at (hC : CB W A n zs) (hn : n = zs.length) (hc : n ≤ c) (hB : allB zs) (hs : artA zs = (s, e)) : Calls Try.prog 21 #[.slice A n c] W fun e' w' => e' = .returned (.tuple #[.string s, .int .i64 e]) ∧ Below W.heap.size W w' := by
  subst hn
  exact wispref20_Art.calls 3073 A c zs s e W hC hc (by rw [RArt_any zs hB 3073 (Nat.le_refl _), hs])
theorem Read_at (W : World) {t : ByteArray} {l : List Int} (hs : readA t = (l, e)) : Calls Try.prog 22 #[.string t] W fun e' w' => ∃ v, e' = .returned (.tuple #[v, .int .i64 e]) ∧ RB w' W.heap.size v l ∧ Below W.heap.size W w' :=
  shot_Read.calls 6300 t l e W (by rw [Read_any t 6300 (Nat.le_refl _), hs])
theorem RRead_at (W : World) {t : ByteArray} {l : List Int} (hs : readA t = (l, e)) : Calls Try.prog 23 #[.string t] W fun e' w' => ∃ v, e' = .returned (.tuple #[v, .int .i64 e]) ∧ RB w' W.heap.size v l ∧ Below W.heap.size W w' :=
  wispref20_Read.calls 6300 t l e W (by rw [RRead_any t 6300 (Nat.le_refl _), hs])
end
theorem RB_fr {W W' : World} {B g : Nat} {v : Value} {xs : List Int} (h : RB W B v xs) (hg : g < B) (hF : Fr W W' (fun k => k = g)) : RB W' B v xs :=
  Kd.R_mono (hF.row (Kd.R_bound h) (fun q hq _ e => by have := hq.2.1; omega)) (fun _ _ => trivial)
/-- three rows, one made behind the other -/
theorem fresh3 {W W1 W2 W3 : World} {B1 B2 B3 : Nat} {a b c : Value} {x y z : List Int} (ha : RB W B1 a x) (hb : RB W B2 b y) (hc : RB W B3 c z) (h1 : ∀ k, a.ownBlock = some k → k < B2) (h2 : ∀ k, b.ownBlock = some k → k < B3) (h3 : B2 ≤ B3) : Fresh W [(a, x), (b, y), (c, z)] := by
  refine ⟨fun p hp => ?_, ?_⟩
  · simp only [List.mem_cons, List.not_mem_nil, or_false] at hp
    rcases hp with rfl | rfl | rfl
    · exact Kd.R_lower ha (Nat.zero_le _)
    · exact Kd.R_lower hb (Nat.zero_le _)
    · exact Kd.R_lower hc (Nat.zero_le _)
  · have k2 := Kd.R_base hb
    have k3 := Kd.R_base hc
    refine List.Pairwise.cons (fun p hp k hk e => ?_) (List.Pairwise.cons (fun p hp k hk e => ?_) (List.Pairwise.cons (fun p hp => by cases hp) List.Pairwise.nil))
    · simp only [List.mem_cons, List.not_mem_nil, or_false] at hp
      have := h1 k hk
      rcases hp with rfl | rfl
      · have := k2 k e; omega
      · have := k3 k e; omega
    · simp only [List.mem_cons, List.not_mem_nil, or_false] at hp
      subst hp
      have := h2 k hk
      have := k3 k e
      omega
theorem setB {l : List Int} {i : Nat} {x : Int} (h : allB l) (hx : isB x) : allB (l.set i x) := fun y hy => by
  rcases List.mem_or_eq_of_mem_set hy with h1 | h1
  · exact h y h1
  · rw [h1]; exact hx
theorem mem3 {p a b c : Value × List Int} (h : p ∈ [a, b, c]) : p = a ∨ p = b ∨ p = c := by simpa using h
theorem rb_str {W : World} {B : Nat} {A : Option Addr} {m c : Nat} {xs : List Int} {S : ByteArray} (h : RB W B (.slice A m c) xs) (hS : strOfNums xs = S) : (convert 22 9 (.slice A m c)).run Try.prog W = .ok (.string S) W := by
  obtain ⟨h1, _, h2⟩ := Kd.R_reads' h
  subst h1
  exact strf h2 hS
/-- Apart of three rows that have been handed out -/
theorem Apart3 {W : World} {B1 B2 B3 : Nat} {a b c : Value} {x y z : List Int} (ha : RB W B1 a x) (hb : RB W B2 b y) (hc : RB W B3 c z) (h1 : ∀ k, a.ownBlock = some k → k < B2) (h2 : ∀ k, b.ownBlock = some k → k < B3) (h3 : B2 ≤ B3) (h4 : B1 ≤ B2)
    (hx : x.length ≤ 140737488351232) (hy : y.length ≤ 140737488351232) (hz : z.length ≤ 140737488351232) :
    Calls Try.prog 19 #[.slice (some ⟨W.heap.size, 0, none⟩) 3 3] (W.alloc (.cells #[a, b, c] 22)) fun e w' => e = .returned (.bool true) ∧ Fr W w' (fun q => B1 ≤ q) := by
  have h := ApartL (fresh3 (W1 := W) (W2 := W) (W3 := W) ha hb hc h1 h2 h3) (by simp) (fun p hp => by rcases mem3 hp with rfl | rfl | rfl <;> assumption)
  refine Calls.mono h (fun e w' ⟨he, hF⟩ => ⟨he, hF.mono (fun q _ ⟨p, hp, e⟩ => ?_)⟩)
  rcases mem3 hp with rfl | rfl | rfl
  · exact Kd.R_base ha q e
  · have := Kd.R_base hb q e; omega
  · have := Kd.R_base hc q e; omega
set_option maxRecDepth 100000 in
set_option maxHeartbeats 4000000 in
theorem Arts {w : World} {A : Option Addr} {c : Nat} {xs : List Int} {art : ByteArray} (hC : CB w A xs.length xs) (hc : xs.length ≤ c) (hB : allB xs) (hl : xs.length ≤ 140737488351232) :
    Calls Try.prog 5 #[.slice A xs.length c, .string art] w fun e w' => e = .returned (.bool true) ∧ Below w.heap.size w w' := by
  obtain ⟨n, hn⟩ : ∃ n, n = xs.length := ⟨_, rfl⟩
  rw [← hn]
  rw [← hn] at hC hc hl
  have hCC := Aside0.mk hC
  have hBB := Aside0.mk hB
  have hnn := Aside0.mk hn
  obtain ⟨⟨sa, ea⟩, hsa⟩ : ∃ p, artA xs = p := ⟨_, rfl⟩
  obtain ⟨⟨L, el⟩, hL⟩ : ∃ p, readA art = p := ⟨_, rfl⟩
  obtain ⟨⟨L3, e3⟩, hL3⟩ : ∃ p, readA sa = p := ⟨_, rfl⟩
  have hlL : L.length ≤ 3072 := by have := readA_len art; rw [hL] at this; exact this
  have hlL3 : L3.length ≤ 3072 := by have := readA_len sa; rw [hL3] at this; exact this
  have h3 : (sa = ⟨#[]⟩) ∨ (L3 = xs ∧ sa.size = 6192) := by
    unfold artA at hsa
    by_cases hx : xs.length = 3072
    · rw [if_pos hx] at hsa
      injection hsa with h1 h2
      refine .inr ⟨?_, ?_⟩
      · unfold readA at hL3
        rw [← h1, if_pos ⟨art_size xs, by rw [rdL_art xs hB hx]⟩, rdL_art xs hB hx] at hL3
        injection hL3 with h3 h4
        exact h3.symm
      · rw [← h1]; exact art_size xs
    · rw [if_neg hx] at hsa
      injection hsa with h1 h2
      exact .inl h1.symm
  have hsaa := Aside0.mk hsa
  have hLL := Aside0.mk hL
  have hLL3 := Aside0.mk hL3
  have h33 := Aside0.mk h3
  have q1 : (sa.toList == sa.toList) = true := by simp
  have q2 : (ea == ea) = true := by simp
  have q3 : (el == el) = true := by simp
  clear hC hB hn hsa hL hL3 h3
  go_enter Try.func5, Try.ntmps5
  go_wp2_with (first | (go_at_call 9; go_must ((with_reducible refine (fixed_at w).mono ?_)); rintro e w1 ⟨rfl, hb1⟩; have h1 := Aside0.mk hb1; have kR := Ap.Roomy (c := c) (xs := xs) (by rw [← hnn.out]; exact Kd.C_below hCC.out hb1) (by rw [← hnn.out]; omega); rw [← hnn.out] at kR; have hkR := Aside0.mk kR; clear hb1 kR) | (go_at_call 10; ((with_reducible refine hkR.out.mono ?_)); rintro e w2 ⟨g, cap, rfl, hM, hb⟩; have hM2 := Aside0.mk hM; have h2 := Aside0.mk (h1.out.trans (hb.mono h1.out.size)); have kA := Art_at (c := cap) hM.c rfl (by have := hM.len; omega) hBB.out hsaa.out; rw [← hnn.out] at kA; have hkA := Aside0.mk kA; clear hM hb kA) | (go_at_call 20; ((with_reducible refine hkA.out.mono ?_)); rintro e w3 ⟨rfl, hb⟩; have b3 := Aside0.mk hb; have h3 := Aside0.mk (h2.out.trans (hb.mono h2.out.size)); have hkB := Aside0.mk (RArt_at (c := c) (Kd.C_below hCC.out (h2.out.trans (hb.mono h2.out.size))) hnn.out hc hBB.out hsaa.out); clear hb) | (go_at_call 21; ((with_reducible refine hkB.out.mono ?_)); rintro e w4 ⟨rfl, hb⟩; have b4 := Aside0.mk (b3.out.trans (hb.mono b3.out.size)); clear hb) | (go_at_call 22; ((with_reducible refine (Read_at w4 hLL.out).mono ?_)); rintro e w5 ⟨v10, rfl, hR, hb⟩; have hR10 := Aside0.mk hR; have b5 := Aside0.mk hb; obtain ⟨A10, m10, c10, rfl, hm10, _⟩ := rowf hR; clear hR hb hm10) | (go_at_call 23; ((with_reducible refine (RRead_at w5 hLL.out).mono ?_)); rintro e w6 ⟨v12, rfl, hR, hb⟩; have hR12 := Aside0.mk hR; have b6 := Aside0.mk hb; obtain ⟨A12, m12, c12, rfl, hm12, _⟩ := rowf hR; clear hR hb hm12) | (go_at_call 22; ((with_reducible refine (Read_at w6 hLL.out).mono ?_)); rintro e w7 ⟨v14, rfl, hR, hb⟩; have hR14 := Aside0.mk hR; have b7 := Aside0.mk hb; obtain ⟨A14, m14, c14, rfl, hm14, _⟩ := rowf hR; clear hR hb hm14) | (go_at_call 22; ((with_reducible refine (Read_at w7 hLL3.out).mono ?_)); rintro e w8 ⟨v16, rfl, hR, hb⟩; have hR16 := Aside0.mk hR; have b8 := Aside0.mk hb; obtain ⟨A16, m16, c16, rfl, hm16, _⟩ := rowf hR; have hb28 := (((b4.out.trans (b5.out.mono b4.out.size)).trans (b6.out.mono (Nat.le_trans b4.out.size b5.out.size))).trans (b7.out.mono (Nat.le_trans b4.out.size (Nat.le_trans b5.out.size b6.out.size)))).trans (hb.mono (Nat.le_trans b4.out.size (Nat.le_trans b5.out.size (Nat.le_trans b6.out.size b7.out.size)))); have h8 := Aside0.mk (h2.out.trans (hb28.mono h2.out.size)); have hM8 := Aside0.mk (hM2.out.below hb28); have kW := Ap.Whole (c := c) hM8.out (by rw [← hnn.out]; exact Kd.C_below hCC.out h8.out) (by rw [← hnn.out]; omega); rw [← hnn.out] at kW; have hkW := Aside0.mk kW; have hs28 := hb28.size; clear hR hb hm16 hb28 kW) | (go_at_call 13; ((with_reducible refine hkW.out.mono ?_)); rintro e w9 ⟨rfl, rfl⟩))
  have hg1 := hM2.out.base
  have hg2 := hM2.out.lt
  obtain ⟨W8, rfl⟩ : ∃ W8, W8 = w8 := ⟨_, rfl⟩
  go_loopg [18] n (fun gk v18 wr => ∃ (i : Nat) (zs : List Int), v18 = .int .i64 (i : Int) ∧ i + gk = n ∧ Aside0 (zs.length = n ∧ allB zs ∧ IsM wr w1.heap.size g cap zs ∧ Fr W8 wr (fun k => k = g)))
  case atStart => exact ⟨0, xs, rfl, by omega, ⟨hnn.out.symm, hBB.out, hM8.out, Fr.refl _ _⟩⟩
  case round =>
    obtain ⟨i, zs, rfl, hi, hz⟩ := hrel
    cases gk with
    | succ k1 =>
      have hd : decide (i < n) = true := decide_eq_true (by omega)
      obtain ⟨hu, hf⟩ := hz.out.2.2.1.at_ (k := i) (by have := hz.out.1; omega)
      have hB := rdB hz.out.2.1 (i : Int)
      obtain ⟨u, hu2⟩ : ∃ u, rd zs (i : Int) = u := ⟨_, rfl⟩
      rw [hu2] at hu hB
      obtain ⟨hu0, hu1⟩ : 0 ≤ u ∧ u < 256 := hB
      clear hu2
      go_wp2
      go_roundg k1
      case measure => omega
      case rel =>
        refine ⟨i + 1, zs.set i ((u + (i : Int) % 3) % 256), rfl, by omega, ⟨by rw [List.length_set]; exact hz.out.1, setB hz.out.2.1 ⟨by omega, by omega⟩, hz.out.2.2.1.put (by have := hz.out.1; omega) _, hz.out.2.2.2.setCell (p := ⟨g, i, none⟩) (fun _ => rfl) _⟩⟩
    | zero =>
      have hd : decide (i < n) = false := decide_eq_false (by omega)
      obtain ⟨⟨sc, ec⟩, hsc⟩ : ∃ p, artA zs = p := ⟨_, rfl⟩
      have hscc := Aside0.mk hsc
      have k1 : (sc.toList == sc.toList) = true := by simp
      have k2 : (ec == ec) = true := by simp
      obtain ⟨S, hS⟩ : ∃ S, strOfNums L = S := ⟨_, rfl⟩
      obtain ⟨S3, hS3⟩ : ∃ S, strOfNums L3 = S := ⟨_, rfl⟩
      obtain ⟨S0, hS0⟩ : ∃ S, strOfNums xs = S := ⟨_, rfl⟩
      have k3 : (S.toList == S.toList) = true := by simp
      have k4 : (S0.toList == S0.toList) = true := by simp
      have hSS := Aside0.mk hS
      have hSS3 := Aside0.mk hS3
      have hSS0 := Aside0.mk hS0
      have kA := Art_at (c := cap) hz.out.2.2.1.c rfl (by have := hM2.out.len; have := hz.out.1; have := hnn.out; omega) hz.out.2.1 hsc
      rw [hz.out.1] at kA
      have hkA := Aside0.mk kA
      have hFr := Aside0.mk hz.out.2.2.2
      have hMz := Aside0.mk hz.out.2.2.1
      have hz0 := Aside0.mk hz.out.1
      have hz1 := Aside0.mk hz.out.2.1
      have hcap : n ≤ cap := by have := hM2.out.len; have := hnn.out; omega
      clear hsc hS hS3 hS0 kA hz
      rcases h33.out with h3 | ⟨h3, h4⟩
      · have kb : sa.toList = [] := by rw [h3]; exact (toList_bytes _ []).2 rfl
        have kb2 : (sa.toList == ([] : List UInt8)) = true := by rw [kb]; rfl
        go_wp2_with (first | (go_at_call 20; ((with_reducible refine hkA.out.mono ?_)); rintro e w9 ⟨rfl, hb⟩; have b9 := Aside0.mk hb; have kB := RArt_at (c := cap) (hMz.out.below hb).c rfl (by rw [hz0.out]; exact hcap) hz1.out hscc.out; rw [hz0.out] at kB; have hkB2 := Aside0.mk kB; clear hb kB) | (go_at_call 21; ((with_reducible refine hkB2.out.mono ?_)); rintro e w10 ⟨rfl, hb⟩; have hF10 : Fr W8 w10 (fun k => k = g) := hFr.out.trans (Fr.of_below (b9.out.trans (hb.mono b9.out.size)) (fun k => k = g)) (fun _ _ h => h); have s4 := b4.out.size; have s5 := b5.out.size; have s6 := b6.out.size; have s7 := b7.out.size; have r10 := RB_fr (Kd.R_below (Kd.R_below (Kd.R_below hR10.out b6.out) b7.out) b8.out) (by omega) hF10; have r12 := RB_fr (Kd.R_below (Kd.R_below hR12.out b7.out) b8.out) (by omega) hF10; have r14 := RB_fr (Kd.R_below hR14.out b8.out) (by omega) hF10; have r16 := RB_fr hR16.out (by omega) hF10; have h10 := Aside0.mk (h8.out.trans (hF10.below h8.out.size (fun k hk e => by have := h1.out.size; omega))); have t10 := rb_str r10 hSS.out; have t12 := rb_str r12 hSS.out; have t14 := rb_str r14 hSS.out; have t16 := rb_str r16 hSS3.out; have t0 := strf (c := c) (Kd.C_below hCC.out h10.out) hSS0.out; have hAp := Aside0.mk (Apart3 r10 r14 r16 (fun k hk => by have := Kd.R_lt hR10.out k hk; omega) (fun k hk => by have := Kd.R_lt hR14.out k hk; omega) s7 (by omega) (by omega) (by omega) (by omega)); clear hb hF10 r10 r12 r14 r16) | (go_at_call 19; ((with_reducible refine hAp.out.mono ?_)); rintro e w11 ⟨rfl, hF⟩; have h11 := Aside0.mk (h10.out.trans (hF.below h10.out.size (fun k hk e => by have := h2.out.size; have := b4.out.size; omega))); clear hF))
        go_ret
        exact ⟨rfl, h11.out⟩
      · subst h3
        have kb : sa.toList ≠ [] := fun e => by
          have h5 := bytesOf_length sa
          have h6 : bytesOf sa = [] := (toList_bytes sa []).1 e
          rw [h6] at h5
          simp at h5
          omega
        have kb2 : (sa.toList == ([] : List UInt8)) = false := beq_eq_false_iff_ne.2 kb
        have k5 : S3 = S0 := hSS3.out.symm.trans hSS0.out
        subst k5
        clear h4
        go_wp2_with (first | (go_at_call 20; ((with_reducible refine hkA.out.mono ?_)); rintro e w9 ⟨rfl, hb⟩; have b9 := Aside0.mk hb; have kB := RArt_at (c := cap) (hMz.out.below hb).c rfl (by rw [hz0.out]; exact hcap) hz1.out hscc.out; rw [hz0.out] at kB; have hkB2 := Aside0.mk kB; clear hb kB) | (go_at_call 21; ((with_reducible refine hkB2.out.mono ?_)); rintro e w10 ⟨rfl, hb⟩; have hF10 : Fr W8 w10 (fun k => k = g) := hFr.out.trans (Fr.of_below (b9.out.trans (hb.mono b9.out.size)) (fun k => k = g)) (fun _ _ h => h); have s4 := b4.out.size; have s5 := b5.out.size; have s6 := b6.out.size; have s7 := b7.out.size; have r10 := RB_fr (Kd.R_below (Kd.R_below (Kd.R_below hR10.out b6.out) b7.out) b8.out) (by omega) hF10; have r12 := RB_fr (Kd.R_below (Kd.R_below hR12.out b7.out) b8.out) (by omega) hF10; have r14 := RB_fr (Kd.R_below hR14.out b8.out) (by omega) hF10; have r16 := RB_fr hR16.out (by omega) hF10; have h10 := Aside0.mk (h8.out.trans (hF10.below h8.out.size (fun k hk e => by have := h1.out.size; omega))); have t10 := rb_str r10 hSS.out; have t12 := rb_str r12 hSS.out; have t14 := rb_str r14 hSS.out; have t16 := rb_str r16 hSS3.out; have t0 := strf (c := c) (Kd.C_below hCC.out h10.out) hSS0.out; have hAp := Aside0.mk (Apart3 r10 r14 r16 (fun k hk => by have := Kd.R_lt hR10.out k hk; omega) (fun k hk => by have := Kd.R_lt hR14.out k hk; omega) s7 (by omega) (by omega) (by omega) (by omega)); clear hb hF10 r10 r12 r14 r16) | (go_at_call 19; ((with_reducible refine hAp.out.mono ?_)); rintro e w11 ⟨rfl, hF⟩; have h11 := Aside0.mk (h10.out.trans (hF.below h10.out.size (fun k hk e => by have := h2.out.size; have := b4.out.size; omega))); clear hF))
        go_ret
        exact ⟨rfl, h11.out⟩
end Go.Proofs.Ytpjdgndbcjinjaa.Sh
