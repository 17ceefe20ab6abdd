/- wisplaw03.again: the walk. -/
import Derived.Test.YtgnjlgfnpfjjnaaDoorPt
import Derived.Test.YtgnjlgfnpfjjnaaDoorBm
import Derived.Test.YtgnjlgfnpfjjnaaDoorKn
import Derived.Deep.DeepCutAuto
import Derived.Deep.CutBlock
import Derived.Deep.QuietTactic
import Derived.Deep.RegionHeld3
import Derived.BigQuiet
namespace Go.Proofs.YtgnjlgfnpfjjnaaDoor.Pk
open Go.RowKit Go.Proofs.YtgnjlgfnpfjjnaaDoorW.PrintWords Go.Proofs.YtgnjlgfnpfjjnaaDoorW.PrintLast Go.Proofs.YtgnjlgfnpfjjnaaDoorW.PrintMore Go.Proofs.YtgnjlgfnpfjjnaaDoor.Mem
set_option linter.unusedVariables false
set_option linter.unusedSimpArgs false
abbrev TakeT := Int × Int
def kTake : Kd TakeT := Kd.pair (Kd.int .i64) (Kd.int .i64)
theorem at_Take {w : World} {A : Option Addr} {n : Nat} {xs : List TakeT} (h : Kd.C kTake w A n xs) (i : Nat) (h1 : i < xs.length) (hn : n = xs.length) :
    ∃ ad, A = some ad ∧ w.cell? (ad.add (i * 2)) = some (.int .i64 xs[i].1) ∧ w.cell? ⟨(ad.add (i * 2)).block, (ad.add (i * 2)).off + 1, none⟩ = some (.int .i64 xs[i].2) := by
  obtain ⟨ad, c, e, _, hK, hc0⟩ := Kd.C_get h (0, 0) (i : Int) (by omega) (by omega)
  rw [Int.toNat_natCast] at hK hc0
  have hp : xs.getD i (0, 0) = xs[i] := by rw [List.getD_eq_getElem?_getD, List.getElem?_eq_getElem h1]; rfl
  rw [hp] at hK
  have hc : ∀ j u, c[j]? = some u → w.cell? (ad.add (i * 2 + j)) = some u := hc0
  obtain ⟨_, _, rfl, rfl, rfl⟩ := hK
  exact ⟨ad, e, hc 0 _ rfl, by rw [← add_field _ _ 1 (by omega)]; exact hc 1 _ rfl⟩
/-- where `again` stands: the reader, the writer, how far -/
structure St (w : World) (gr gw z : Nat) (bs : List Int) (p : Nat) (wx : World) (err : Int) (q : Nat) (xs ys : List Int) : Prop where
  r : IsR wx w.heap.size (fun k => w.heap.size ≤ k ∧ k < z) gr xs err
  wr : IsW wx w.heap.size (fun k => z ≤ k) gw ys
  b : Below w.heap.size w wx
  z : z ≤ wx.heap.size
  c : (err = 0 ∧ q ≤ bs.length ∧ xs = bs.drop q ∧ ys = bs.take q) ∨ (err ≠ 0 ∧ xs = bs.drop p ∧ ∃ junk, ys = bs.take p ++ junk ∧ junk.length ≤ 10)
theorem takeL_len (xs : List Int) (err n : Int) : (takeL xs err n).length ≤ xs.length := by
  unfold takeL
  split
  · rw [List.length_take]; omega
  · simp
/-- a reader's call and a writer's call on what it told -/
theorem St.step {w wx w2 w3 : World} {gr gw z p : Nat} {bs l xs' : List Int} {err' : Int} (hz : w.heap.size ≤ z) (hgr : gr < z) (hgw : gw = z) (h : St w gr gw z bs p wx 0 p (bs.drop p) (bs.take p)) (hp : p ≤ bs.length)
    (h1 : IsR w2 w.heap.size (fun k => w.heap.size ≤ k ∧ k < z) gr xs' err') (h2 : Fr wx w2 (fun k => k = gr))
    (h3 : IsW w3 w.heap.size (fun k => z ≤ k ∨ w2.heap.size ≤ k) gw (bs.take p ++ l)) (h4 : Fr w2 w3 (fun k => k = gw ∨ z ≤ k))
    (ht : err' = 0 → ∃ d, d ≤ (bs.drop p).length ∧ xs' = (bs.drop p).drop d ∧ l = (bs.drop p).take d) (hl : err' ≠ 0 → xs' = bs.drop p ∧ l.length ≤ 10) :
    ∃ err q xs ys, Aside0 (St w gr gw z bs p w3 err q xs ys) := by
  have hb := h.r.base
  have hzz := h.z
  have hlen : (bs.drop p).length = bs.length - p := List.length_drop
  have k1 : IsR w3 w.heap.size (fun k => w.heap.size ≤ k ∧ k < z) gr xs' err' := h1.fr h4 (by omega) (fun k hk _ hk2 => by omega)
  have k2 : IsW w3 w.heap.size (fun k => z ≤ k) gw (bs.take p ++ l) := h3.mono (fun k hk _ _ => by have := h2.size; omega)
  have k3 : Below w.heap.size w w3 := (h.b.trans (h2.below (B := w.heap.size) h.b.size (fun k hk e => by omega))).trans (h4.below (B := w.heap.size) (Nat.le_trans h.b.size h2.size) (fun k hk e => by omega))
  have k4 : z ≤ w3.heap.size := by have := h2.size; have := h4.size; omega
  by_cases he : err' = 0
  · obtain ⟨d, hd, e1, e2⟩ := ht he
    exact ⟨err', p + d, xs', bs.take p ++ l, ⟨⟨k1, k2, k3, k4, .inl ⟨he, by omega, by rw [e1, List.drop_drop], by rw [e2, List.take_add]⟩⟩⟩⟩
  · obtain ⟨e1, e2⟩ := hl he
    exact ⟨err', p, xs', bs.take p ++ l, ⟨⟨k1, k2, k3, k4, .inr ⟨he, e1, l, rfl, e2⟩⟩⟩⟩
theorem take_step (xs l : List Int) (n : Int) (ht : (0 ≤ n ∧ n ≤ xs.length) → l = takeL xs 0 n) (hl : ¬ (0 ≤ n ∧ n ≤ xs.length) → l.length ≤ 10) :
    (errL xs 0 n = 0 → ∃ d, d ≤ xs.length ∧ leftL xs 0 n = xs.drop d ∧ l = xs.take d) ∧ (errL xs 0 n ≠ 0 → leftL xs 0 n = xs ∧ l.length ≤ 10) := by
  by_cases hn : 0 ≤ n ∧ n ≤ xs.length
  · have hc : (0 : Int) = 0 ∧ 0 ≤ n ∧ n ≤ (xs.length : Int) := ⟨rfl, hn⟩
    have e0 : errL xs 0 n = 0 := by unfold errL; rw [if_neg (fun h => h.2 hn)]
    exact ⟨fun _ => ⟨n.toNat, by omega, by unfold leftL; rw [if_pos hc], by rw [ht hn]; unfold takeL; rw [if_pos hc]⟩, fun h => absurd e0 h⟩
  · have e0 : errL xs 0 n = 30 := by unfold errL; rw [if_pos ⟨rfl, hn⟩]
    exact ⟨(fun h => by rw [e0] at h; cases h), fun _ => ⟨by unfold leftL; rw [if_neg (fun h => hn h.2)], hl hn⟩⟩
theorem takeL_B {xs : List Int} (h : allB xs) (n : Int) : allB (takeL xs 0 n) := by
  unfold takeL
  split
  · exact fun y hy => h y (List.mem_of_mem_take hy)
  · exact fun y hy => by simp at hy
theorem takeL_n (xs : List Int) (n : Int) : (takeL xs 0 n).length ≤ n.toNat := by
  unfold takeL
  split
  · rw [List.length_take]; omega
  · simp
theorem takeL_full {xs : List Int} {n : Int} (h : 0 ≤ n ∧ n ≤ xs.length) : (takeL xs 0 n).length = n.toNat := by
  unfold takeL
  rw [if_pos ⟨rfl, h⟩, List.length_take]
  omega
theorem num_err : ∀ (k i : Nat) (l : List Int) (x : Int), (numR k i l x).2.1 = 0 ∨ (numR k i l x).2.2 = 0
  | 0, _, _, _ => .inr rfl
  | _ + 1, _, [], _ => .inr rfl
  | k + 1, i, b :: l, x => by
    simp only [numR]
    split
    · exact num_err k (i + 1) l _
    · split
      · exact .inr rfl
      · exact .inl rfl
theorem num_step {xs : List Int} (h : allB xs) : ((numF xs 0).2.1 = 0 → ∃ d, d ≤ xs.length ∧ xs.drop (numF xs 0).2.2 = xs.drop d ∧ numOf (numF xs 0).1 = xs.take d) ∧ ((numF xs 0).2.1 ≠ 0 → xs.drop (numF xs 0).2.2 = xs ∧ (numOf (numF xs 0).1).length ≤ 10) := by
  refine ⟨fun h0 => ?_, fun h0 => ?_⟩
  · obtain ⟨h1, h2⟩ := num_here (v := (numF xs 0).1) (m := (numF xs 0).2.2) h (Prod.ext rfl (Prod.ext h0 rfl))
    exact ⟨_, h2, rfl, h1⟩
  · have h1 : (numF xs 0).2.2 = 0 := by
      rcases num_err 5 0 xs 0 with h | h
      · unfold numF at h0; rw [if_pos rfl] at h0; exact absurd h h0
      · unfold numF; rw [if_pos rfl]; exact h
    rw [h1]
    refine ⟨rfl, ?_⟩
    have : (numOf (numF xs 0).1).length ≤ 4 + 1 := vl_len 4 _
    omega
section
variable {W : World} {B g : Nat} {ok : Nat → Prop} {xs : List Int}
theorem read1 (hB : allB xs) (hR : IsR W B ok g xs 0) : ∃ V, Calls Tryd.prog 25 #[.pointer (some ⟨g, 0, none⟩)] W (fun e w' => e = .returned (.int .u8 V) ∧ IsR w' B ok g (leftL xs 0 1) (errL xs 0 1) ∧ Fr W w' (fun k => k = g)) ∧ ((0 ≤ (1 : Int) ∧ (1 : Int) ≤ xs.length) → [V] = takeL xs 0 1) := by
  refine ⟨_, RByte hR, fun h => ?_⟩
  have h1 := takeL_full h
  have h2 := takeL_B hB 1
  rw [or_val h2 (by rw [h1]; decide)]
  have h3 := lowI_val _ h2
  have h4 := valI_b _ h2
  rw [h1] at h3 h4
  conv => rhs; rw [← h3]
  rw [show ((256 : Int) ^ (1 : Int).toNat) = 256 by decide] at h4
  show [_] = lowI 1 _
  simp only [lowI]
theorem read2 (hB : allB xs) (hR : IsR W B ok g xs 0) : ∃ V, 0 ≤ V ∧ V ≤ 65535 ∧ Calls Tryd.prog 28 #[.pointer (some ⟨g, 0, none⟩)] W (fun e w' => e = .returned (.int .u16 V) ∧ IsR w' B ok g (leftL xs 0 2) (errL xs 0 2) ∧ Fr W w' (fun k => k = g)) ∧ ((0 ≤ (2 : Int) ∧ (2 : Int) ≤ xs.length) → [V % 256, V / 256] = takeL xs 0 2) := by
  refine ⟨_, ?_, ?_, RCell hR, fun h => ?_⟩
  · rw [IntKind.wrap_u16]; omega
  · rw [IntKind.wrap_u16]; omega
  have h1 := takeL_full h
  have h2 := takeL_B hB 2
  rw [or_val h2 (by rw [h1]; decide)]
  have h3 := lowI_val _ h2
  have h4 := valI_b _ h2
  rw [h1] at h3 h4
  conv => rhs; rw [← h3]
  rw [show ((256 : Int) ^ (2 : Int).toNat) = 65536 by decide] at h4
  show [_, _] = lowI 2 _
  generalize valI (takeL xs 0 2) = v at h4
  rw [IntKind.wrap_u16]
  simp only [lowI]
  rw [show v % 65536 = v by omega, show v / 256 % 256 = v / 256 by omega]
theorem read3 (hB : allB xs) (hR : IsR W B ok g xs 0) : ∃ V, 0 ≤ V ∧ V ≤ 4294967295 ∧ Calls Tryd.prog 29 #[.pointer (some ⟨g, 0, none⟩)] W (fun e w' => e = .returned (.int .u32 V) ∧ IsR w' B ok g (leftL xs 0 4) (errL xs 0 4) ∧ Fr W w' (fun k => k = g)) ∧ ((0 ≤ (4 : Int) ∧ (4 : Int) ≤ xs.length) → [V % 65536 % 256, V % 65536 / 256, V / 65536 % 256, V / 65536 / 256] = takeL xs 0 4) := by
  have h2 := takeL_B hB 4
  have hn := takeL_n xs 4
  have hv : orL 0 (takeL xs 0 4) 0 = valI (takeL xs 0 4) := or_val h2 (by have : (4 : Int).toNat = 4 := rfl; omega)
  have h4 := valI_b _ h2
  have hp : (256 : Int) ^ (takeL xs 0 4).length ≤ 4294967296 := by
    have hL : (takeL xs 0 4).length ≤ 4 := hn
    generalize (takeL xs 0 4).length = L at hL
    rcases (show L = 0 ∨ L = 1 ∨ L = 2 ∨ L = 3 ∨ L = 4 by omega) with h | h | h | h | h <;> rw [h] <;> decide
  have hR2 := RWord hR
  rw [hv] at hR2
  refine ⟨_, h4.1, by omega, hR2, fun h => ?_⟩
  have h1 := takeL_full h
  have h3 := lowI_val _ h2
  rw [h1] at h3
  conv => rhs; rw [← h3]
  show [_, _, _, _] = lowI 4 _
  generalize valI (takeL xs 0 4) = v at h4
  have hv2 : 0 ≤ v ∧ v < 4294967296 := by omega
  clear h4 hR2
  simp only [lowI]
  congr 1
  · omega
  · congr 1
    · omega
    · congr 1
      · omega
      · congr 1; omega
end
theorem St.below {w wx wy : World} {gr gw z p q : Nat} {bs xs ys : List Int} {err : Int} (h : St w gr gw z bs p wx err q xs ys) (hb : Below wx.heap.size wx wy) : St w gr gw z bs p wy err q xs ys :=
  ⟨h.r.below hb, h.wr.below hb, h.b.trans (hb.mono h.b.size), Nat.le_trans h.z hb.size, h.c⟩
theorem C_max {w : World} {A : Option Addr} {n : Nat} {xs : List Int} (h : Kd.C (Kd.int .u8) w A n xs) : n = xs.length := h.1.symm
set_option maxRecDepth 100000 in
set_option maxHeartbeats 4000000 in
theorem Again {w : World} {A A2 : Option Addr} {c c2 : Nat} {bs : List Int} {ts : List TakeT} (hC : Kd.C (Kd.int .u8) w A bs.length bs) (hcl : bs.length ≤ c) (hB : allB bs) (hl : bs.length ≤ 1000000000) (hT : Kd.C kTake w A2 ts.length ts) (hn : ts.length ≤ 1000000000) :
    Calls Tryd.prog 30 #[.slice A bs.length c, .slice A2 ts.length c2] w fun e w' => e = .returned (.bool true) ∧ Below w.heap.size w w' := by
  have kN := NewReader (c := c) hC (by omega)
  have hCC := Aside0.mk hC
  have hcc := Aside0.mk hcl
  have hBB := Aside0.mk hB
  have hTT := Aside0.mk hT
  obtain ⟨m, hm⟩ : ∃ m, m = bs.length := ⟨_, rfl⟩
  obtain ⟨n, hn0⟩ : ∃ n, n = ts.length := ⟨_, rfl⟩
  rw [← hm] at kN ⊢
  rw [← hn0]
  have hmm := Aside0.mk hm
  have hnn := Aside0.mk hn0
  have hm9 : m ≤ 1000000000 := by omega
  have hn9 : n ≤ 1000000000 := by omega
  have hNN := Aside0.mk kN
  obtain ⟨N, hN⟩ : ∃ N, N = min n 60 := ⟨_, rfl⟩
  have hNn : N ≤ n ∧ N ≤ 60 ∧ (N = n ∨ N = 60) := by omega
  have hN3 := Aside0.mk hNn
  clear hC hcl hB hT hl hn hm hn0 kN hN hNn
  go_enter Tryd.func30, Tryd.ntmps30
  go_wp2_with (go_at_call 20; ((with_reducible refine hNN.out.mono ?_); rintro e w2 ⟨gr, rfl, hR, hb⟩; have hR2 := Aside0.mk hR; have hb2 := Aside0.mk hb; have hgr := hR.base; have hgl := hR.lt; clear hR hb))
  obtain ⟨gw, hgw⟩ : ∃ gw, gw = w2.heap.size := ⟨_, rfl⟩
  have hgww := Aside0.mk hgw
  have hS0 : Aside0 (St w gr w2.heap.size w2.heap.size bs 0 (w2.alloc (.cells #[.slice none 0 0] 36)) 0 0 (bs.drop 0) (bs.take 0)) := by
    have hba : Below w2.heap.size w2 (w2.alloc (.cells #[.slice none 0 0] 36)) := below_alloc (Below.refl _ _) _
    exact ⟨(hR2.out.mono (fun k hk h => ⟨hk, h⟩)).below hba, (IsW.new w2 w.heap.size hb2.out.size).mono (fun k h _ _ => h.elim), hb2.out.trans (hba.mono hb2.out.size), by rw [World.size_alloc]; omega, .inl ⟨rfl, by omega, rfl, rfl⟩⟩
  clear hgw
  go_loopg [7] N (fun gk v7 wr => ∃ (i p : Nat), v7 = .int .i64 (i : Int) ∧ i + gk = N ∧ p ≤ m ∧ Aside0 (St w gr w2.heap.size w2.heap.size bs p wr 0 p (bs.drop p) (bs.take p)))
  case atStart => exact ⟨0, 0, rfl, by omega, by omega, hS0⟩
  case round =>
    obtain ⟨i, p, rfl, hi, hp, hS⟩ := hrel
    cases gk with
    | zero =>
      have hpl : p ≤ bs.length := by have := hmm.out; omega
      have hyl : (bs.take p).length = p := by rw [List.length_take]; omega
      have hlf := RLeft hS.out.r
      obtain ⟨K, hK⟩ : ∃ K, (bs.drop p).length = K := ⟨_, rfl⟩
      have hKm : K + p = m := by rw [← hK, List.length_drop]; have := hmm.out; omega
      rw [hK] at hlf
      have hlff := Aside0.mk hlf
      have hSd := hS.out.below (below_drew (Below.refl _ _))
      have hDn := (Done hSd.wr (by rw [hyl]; omega)).mono (R' := fun e w' => ∃ A' c', e = .returned (.slice A' p c') ∧ Kd.C (Kd.int .u8) w' A' p (bs.take p) ∧ Below w.heap.size w w') (fun e w' ⟨v, he, hR, hb⟩ => by
        obtain ⟨A', c', e2, hl2, hC2⟩ := Kd.R_reads hR
        rw [hyl] at e2 hC2
        exact ⟨A', c', by rw [he, e2], hC2, hSd.b.trans (hb.mono hSd.b.size)⟩)
      have hDDn := Aside0.mk hDn
      obtain ⟨i0, hi0, hz0, hz1, hz2⟩ := info_parts infoB
      have hcl := hcc.out
      rw [← hmm.out] at hcl
      have qs2 := cut_to (P := Tryd.prog) 23 5 .i64 Tryd.underlying23 hi0 A m c p (by omega) (by omega) hcl
      rw [Int.toNat_natCast] at qs2
      have hCz : ∀ w', Below w.heap.size w w' → Kd.C (Kd.int .u8) w' A p (bs.take p) := fun w' hb => by
        have h3 := Kd.C_take (m := p) (Kd.C_below hCC.out hb) hpl
        rwa [hyl] at h3
      have hst := Aside0.mk (fun w' hb => Kd.C_string (P := Tryd.prog) (c := c) Tryd.underlying23 Tryd.underlying5 Tryd.underlying9 (hCz w' hb))
      have t2 := hst.out wr.drew (below_drew hS.out.b)
      have t4 : decide ((p : Int) ≤ (m : Int)) = true := decide_eq_true (by omega)
      have t5 : decide (p ≤ m) = true := decide_eq_true (by omega)
      have t6 : decide ((0 : Int) ≤ (p : Int)) = true := decide_eq_true (by omega)
      have t8 : IntKind.i64.wrap ((m : Int) - (K : Int)) = (p : Int) := by rw [IntKind.wrap_i64]; omega
      have t10 : ((strOfNums (bs.take p)).toList == (strOfNums (bs.take p)).toList) = true := by simp
      have hiN : i = N := by omega
      have hdis : (decide (i < n) = false) ∨ (decide (i < n) = true ∧ decide ((i : Int) < 60) = false ∧ ¬ (i : Int) < 60) := by
        have := hN3.out
        by_cases h : i < n
        · exact .inr ⟨decide_eq_true h, decide_eq_false (by omega), by omega⟩
        · exact .inl (decide_eq_false h)
      clear hpl hyl hlf hK hDn hcl hCz hiN hSd
      rcases hdis with hd | ⟨hd, hd2, hd3⟩
      all_goals
        go_wp2_with (go_at_call 24; ((with_reducible refine hlff.out.mono ?_); rintro e w4 ⟨rfl, rfl⟩))
        refine start_ (n := 19) (S := (fun w' => (convert 23 9 (.slice A p c)).run Tryd.prog w' = .ok (.string (strOfNums (bs.take p))) w')) (ds := []) #[false, false, false, false, false, false, false, false, false, false, false, false, false, false, false, false, false, false, false] (by kernel_rfl) rfl rfl t2 (fun hHeld => ?_)
        refine pure_ (i := 0) (N := some 111) (v := ?_) (a' := ?_) #[true, false, false, false, false, false, false, false, false, false, false, false, false, false, false, false, false, false, false] rfl rfl (by kernel_rfl) (fun _ _ _ h => h) (Or.inl ⟨by rfl, ?_⟩) ?_ ?_
        rotate_left
        · intro w'
          go_simp
          with_reducible rfl
        rotate_left
        · simp only [Act.put, List.setIfInBounds_toArray, List.set_cons_zero, List.set_cons_succ, i64_w, i32_w]
          rfl
        refine pure_ (i := 1) (N := some 112) (v := ?_) (a' := ?_) #[true, true, false, false, false, false, false, false, false, false, false, false, false, false, false, false, false, false, false] rfl rfl (by kernel_rfl) (fun _ _ _ h => h) (Or.inl ⟨by rfl, ?_⟩) ?_ ?_
        rotate_left
        · intro w'
          go_simp
          with_reducible rfl
        rotate_left
        · simp only [Act.put, List.setIfInBounds_toArray, List.set_cons_zero, List.set_cons_succ, i64_w, i32_w]
          rfl
        refine pure_ (i := 2) (N := some 113) (v := ?_) (a' := ?_) #[true, true, true, false, false, false, false, false, false, false, false, false, false, false, false, false, false, false, false] rfl rfl (by kernel_rfl) (fun _ _ _ h => h) (Or.inl ⟨by rfl, ?_⟩) ?_ ?_
        rotate_left
        · intro w'
          go_simp
          with_reducible rfl
        rotate_left
        · simp only [Act.put, List.setIfInBounds_toArray, List.set_cons_zero, List.set_cons_succ, i64_w, i32_w]
          rfl
        refine pure_ (i := 3) (N := some 114) (v := ?_) (a' := ?_) #[true, true, true, true, false, false, false, false, false, false, false, false, false, false, false, false, false, false, false] rfl rfl (by kernel_rfl) (fun _ _ _ h => h) (Or.inl ⟨by rfl, ?_⟩) ?_ ?_
        rotate_left
        · intro w'
          go_simp
          with_reducible rfl
        rotate_left
        · simp only [Act.put, List.setIfInBounds_toArray, List.set_cons_zero, List.set_cons_succ, i64_w, i32_w]
          rfl
        refine pure_ (i := 4) (N := some 115) (v := ?_) (a' := ?_) #[true, true, true, true, true, false, false, false, false, false, false, false, false, false, false, false, false, false, false] rfl rfl (by kernel_rfl) (fun _ _ _ h => h) (Or.inl ⟨by rfl, ?_⟩) ?_ ?_
        rotate_left
        · intro w'
          go_simp
          with_reducible rfl
        rotate_left
        · simp only [Act.put, List.setIfInBounds_toArray, List.set_cons_zero, List.set_cons_succ, i64_w, i32_w]
          rfl
        refine pure_ (i := 5) (N := some 116) (v := ?_) (a' := ?_) #[true, true, true, true, true, true, false, false, false, false, false, false, false, false, false, false, false, false, false] rfl rfl (by kernel_rfl) (fun _ _ _ h => h) (Or.inl ⟨by rfl, ?_⟩) ?_ ?_
        rotate_left
        · intro w'
          go_simp
          with_reducible rfl
        rotate_left
        · simp only [Act.put, List.setIfInBounds_toArray, List.set_cons_zero, List.set_cons_succ, i64_w, i32_w]
          rfl
        refine pure_ (i := 6) (N := some 117) (v := ?_) (a' := ?_) #[true, true, true, true, true, true, true, false, false, false, false, false, false, false, false, false, false, false, false] rfl rfl (by kernel_rfl) (fun _ _ _ h => h) (Or.inl ⟨by rfl, ?_⟩) ?_ ?_
        rotate_left
        · intro w'
          go_simp
          with_reducible rfl
        rotate_left
        · simp only [Act.put, List.setIfInBounds_toArray, List.set_cons_zero, List.set_cons_succ, i64_w, i32_w]
          rfl
        refine pure_ (i := 7) (N := some 118) (v := ?_) (a' := ?_) #[true, true, true, true, true, true, true, true, false, false, false, false, false, false, false, false, false, false, false] rfl rfl (by kernel_rfl) (fun _ _ _ h => h) (Or.inl ⟨by rfl, ?_⟩) ?_ ?_
        rotate_left
        · intro w'
          go_simp
          with_reducible rfl
        rotate_left
        · simp only [Act.put, List.setIfInBounds_toArray, List.set_cons_zero, List.set_cons_succ, i64_w, i32_w]
          rfl
        refine pure_ (i := 8) (N := some 119) (v := ?_) (a' := ?_) #[true, true, true, true, true, true, true, true, true, false, false, false, false, false, false, false, false, false, false] rfl rfl (by kernel_rfl) (fun _ _ _ h => h) (Or.inl ⟨by rfl, ?_⟩) ?_ ?_
        rotate_left
        · intro w'
          go_simp
          with_reducible rfl
        rotate_left
        · simp only [Act.put, List.setIfInBounds_toArray, List.set_cons_zero, List.set_cons_succ, i64_w, i32_w]
          rfl
        refine pure_ (i := 9) (N := some 120) (v := ?_) (a' := ?_) #[true, true, true, true, true, true, true, true, true, true, false, false, false, false, false, false, false, false, false] rfl rfl (by kernel_rfl) (fun _ _ _ h => h) (Or.inl ⟨by rfl, ?_⟩) ?_ ?_
        rotate_left
        · intro w'
          go_simp
          with_reducible rfl
        rotate_left
        · simp only [Act.put, List.setIfInBounds_toArray, List.set_cons_zero, List.set_cons_succ, i64_w, i32_w]
          rfl
        refine pure_ (i := 12) (N := some 123) (v := ?_) (a' := ?_) #[true, true, true, true, true, true, true, true, true, true, false, false, true, false, false, false, false, false, false] rfl rfl (by kernel_rfl) (fun _ _ _ h => h) (Or.inl ⟨by rfl, ?_⟩) ?_ ?_
        rotate_left
        · intro w'
          go_simp
          with_reducible rfl
        rotate_left
        · simp only [Act.put, List.setIfInBounds_toArray, List.set_cons_zero, List.set_cons_succ, i64_w, i32_w]
          rfl
        refine pure_ (i := 13) (N := some 124) (v := ?_) (a' := ?_) #[true, true, true, true, true, true, true, true, true, true, false, false, true, true, false, false, false, false, false] rfl rfl (by kernel_rfl) (fun _ _ _ h => h) (Or.inl ⟨by rfl, ?_⟩) ?_ ?_
        rotate_left
        · intro w'
          go_simp
          with_reducible rfl
        rotate_left
        · simp only [Act.put, List.setIfInBounds_toArray, List.set_cons_zero, List.set_cons_succ, i64_w, i32_w]
          rfl
        refine pure_ (i := 14) (N := some 125) (v := ?_) (a' := ?_) #[true, true, true, true, true, true, true, true, true, true, false, false, true, true, true, false, false, false, false] rfl rfl (by kernel_rfl) (fun _ _ _ h => h) (Or.inl ⟨by rfl, ?_⟩) ?_ ?_
        rotate_left
        · intro w'
          go_simp
          with_reducible rfl
        rotate_left
        · simp only [Act.put, List.setIfInBounds_toArray, List.set_cons_zero, List.set_cons_succ, i64_w, i32_w]
          rfl
        refine take_ (i := 15) (N := some 126) (v := ?_) (a' := ?_) #[true, true, true, true, true, true, true, true, true, true, false, false, true, true, true, true, false, false, false] rfl rfl (by kernel_rfl) (fun _ _ _ h => h) (Or.inl ⟨by rfl, ?_⟩) hHeld ?_ ?_
        rotate_left
        · intro w' hSw
          go_simp
          with_reducible rfl
        rotate_left
        · simp only [Act.put, List.setIfInBounds_toArray, List.set_cons_zero, List.set_cons_succ, i64_w, i32_w]
          rfl
        refine one_ (i := 10) (N := some 121) #[true, true, true, true, true, true, true, true, true, true, true, false, true, true, true, true, false, false, false] rfl rfl (by kernel_rfl) (by decide) (fun K hK => ?_)
        refine goes_ Tryd.func15 (by kernel_rfl) rfl #[.pointer (some ⟨w2.heap.size, 0, none⟩)] (by rfl) rfl rfl (by first | rfl | kernel_rfl | simp [Act.eval]) ?_
        refine hDDn.out.mono ?_
        rintro e w7 ⟨A7, c7, rfl, hC7, hb7⟩
        have t3 := hst.out w7 hb7
        refine ⟨_, rfl, hK.out _ _ t3 (fun hHeld2 => ?_)⟩
        have t1 := Kd.C_string (P := Tryd.prog) (c := c7) Tryd.underlying23 Tryd.underlying5 Tryd.underlying9 hC7
        have hb8 := Aside0.mk hb7
        clear hC7 hb7 hK
        refine norm_ (a' := ?_) ?_ ?_
        rotate_left
        · show Act.put _ (some 121) _ = _
          simp only [Act.put, List.setIfInBounds_toArray, List.set_cons_zero, List.set_cons_succ, i64_w, i32_w]
          rfl
        refine one_ (i := 11) (N := some 122) #[true, true, true, true, true, true, true, true, true, true, true, true, true, true, true, true, false, false, false] rfl rfl (by kernel_rfl) (by decide) (fun K hK => ?_)
        refine value_ (v := .string (strOfNums (bs.take p))) (w1 := w7) (by rfl) rfl (by go_simp) ?_
        refine hK.out _ _ t3 (fun hHeld3 => ?_)
        clear hK
        refine norm_ (a' := ?_) ?_ ?_
        rotate_left
        · show Act.put _ (some 122) _ = _
          simp only [Act.put, List.setIfInBounds_toArray, List.set_cons_zero, List.set_cons_succ, i64_w, i32_w]
          rfl
        refine pure_ (i := 16) (N := some 127) (v := ?_) (a' := ?_) #[true, true, true, true, true, true, true, true, true, true, true, true, true, true, true, true, true, false, false] rfl rfl (by kernel_rfl) (fun _ _ _ h => h) (Or.inl ⟨by rfl, ?_⟩) ?_ ?_
        rotate_left
        · intro w'
          go_simp
          with_reducible rfl
        rotate_left
        · simp only [Act.put, List.setIfInBounds_toArray, List.set_cons_zero, List.set_cons_succ, i64_w, i32_w]
          rfl
        refine pure_ (i := 17) (N := some 128) (v := ?_) (a' := ?_) #[true, true, true, true, true, true, true, true, true, true, true, true, true, true, true, true, true, true, false] rfl rfl (by kernel_rfl) (fun _ _ _ h => h) (Or.inl ⟨by rfl, ?_⟩) ?_ ?_
        rotate_left
        · intro w'
          go_simp
          with_reducible rfl
        rotate_left
        · simp only [Act.put, List.setIfInBounds_toArray, List.set_cons_zero, List.set_cons_succ, i64_w, i32_w]
          rfl
        refine pure_ (i := 18) (N := some 4) (v := ?_) (a' := ?_) #[true, true, true, true, true, true, true, true, true, true, true, true, true, true, true, true, true, true, true] rfl rfl (by kernel_rfl) (fun _ _ _ h => h) (Or.inl ⟨by rfl, ?_⟩) ?_ ?_
        rotate_left
        · intro w'
          go_simp
          with_reducible rfl
        rotate_left
        · simp only [Act.put, List.setIfInBounds_toArray, List.set_cons_zero, List.set_cons_succ, i64_w, i32_w]
          rfl
        refine done_ (by kernel_rfl) ?_
        go_wp2
        go_ret
        exact ⟨rfl, hb8.out⟩
    | succ k1 =>
      have hlt : i < ts.length := by have := hnn.out; have := hN3.out; omega
      have kd : decide (i < n) = true := decide_eq_true (by have := hN3.out; omega)
      have kd2 : decide ((i : Int) < 60) = true := decide_eq_true (by have := hN3.out; omega)
      have kd3 : (i : Int) < 60 := by have := hN3.out; omega
      have kd4 : i < n := by have := hN3.out; omega
      obtain ⟨ad, e0, hx0, hx1⟩ := at_Take hTT.out i hlt rfl
      subst e0
      have hy0 := cell_below hS.out.b hx0
      have hy1 := cell_below hS.out.b hx1
      have hxx0 := Aside0.mk hx0
      have hxx1 := Aside0.mk hx1
      generalize ts[i] = tk at hy0 hy1 hxx0 hxx1
      obtain ⟨kind, nn⟩ := tk
      simp only at hy0 hy1 hxx0 hxx1
      clear hlt hx0 hx1
      have htl : (bs.take p).length = p := by rw [List.length_take]; have := hmm.out; omega
      have hD := (Done hS.out.wr (by rw [htl]; omega)).mono (R' := fun e w' => ∃ A' c', e = .returned (.slice A' p c') ∧ St w gr w2.heap.size w2.heap.size bs p w' 0 p (bs.drop p) (bs.take p)) (fun e w' ⟨v, he, hR, hb⟩ => by
        obtain ⟨A', c', e2, _, _⟩ := Kd.R_reads hR
        rw [htl] at e2
        exact ⟨A', c', by rw [he, e2], hS.out.below hb⟩)
      have hDD := Aside0.mk hD
      clear htl hD
      go_upto_block 2 with (go_at_call 15; ((with_reducible refine hDD.out.mono ?_); rintro e w3 ⟨A5, c5, rfl, hS5⟩; have hS3 := Aside0.mk hS5; have hz0 := cell_below hS5.b hxx0.out; have hz1 := cell_below hS5.b hxx1.out; clear hS5))
      go_cut [8] (fun s8 wx => s8 = .int .i64 (p : Int) ∧ ∃ (err : Int) (q : Nat) (xs ys : List Int), Aside0 (St w gr w2.heap.size w2.heap.size bs p wx err q xs ys))
      case first =>
        have hdB : allB (bs.drop p) := fun y hy => hBB.out y (List.mem_of_mem_drop hy)
        have hzw := hb2.out.size
        have hsz3 := hS3.out.z
        have hpl : p ≤ bs.length := by have := hmm.out; omega
        have hlen : (bs.take p).length ≤ 1000000000 := by rw [List.length_take]; omega
        have hpll := Aside0.mk hpl
        have hll := Aside0.mk hlen
        have hdBB := Aside0.mk hdB
        clear hpl hlen hdB
        by_cases h1 : kind = 1
        · have hd1 : (kind == 1) = true := beq_iff_eq.2 h1
          clear h1
          obtain ⟨V, hK, hV⟩ := read1 hdBB.out hS3.out.r
          have hKK := Aside0.mk hK
          have hVV := Aside0.mk hV
          clear hK hV
          go_wp2_with (first | (go_at_call 25; ((with_reducible refine hKK.out.mono ?_); rintro e w4 ⟨rfl, hR, hF⟩; have hR4 := Aside0.mk hR; have hF4 := Aside0.mk hF; have hW4 := Aside0.mk (hS3.out.wr.fr hF (by omega) (fun k hk _ _ he => by omega)); have hs4 := hF.size; clear hR hF)) | (go_at_call 17; ((with_reducible refine (Byte V hW4.out (by omega) (by have := hll.out; omega)).mono ?_); rintro e w5 ⟨rfl, hW, hF⟩; have hW5 := Aside0.mk hW; have hF5 := Aside0.mk hF; clear hW hF)))
          go_meet
          exact ⟨rfl, St.step (l := [V]) hzw hgl rfl hS3.out hpll.out hR4.out hF4.out hW5.out hF5.out (take_step _ [V] 1 hVV.out (fun _ => by simp)).1 (take_step _ [V] 1 hVV.out (fun _ => by simp)).2⟩
        · by_cases h2 : kind = 2
          · have hd1 : (kind == 1) = false := beq_eq_false_iff_ne.2 (by omega)
            have hd2 : (kind == 2) = true := beq_iff_eq.2 h2
            clear h1 h2
            obtain ⟨V, hV0, hV1, hK, hV⟩ := read2 hdBB.out hS3.out.r
            have hKK := Aside0.mk hK
            have hVV := Aside0.mk hV
            clear hK hV
            go_wp2_with (first | (go_at_call 28; ((with_reducible refine hKK.out.mono ?_); rintro e w4 ⟨rfl, hR, hF⟩; have hR4 := Aside0.mk hR; have hF4 := Aside0.mk hF; have hW4 := Aside0.mk (hS3.out.wr.fr hF (by omega) (fun k hk _ _ he => by omega)); have hs4 := hF.size; clear hR hF)) | (go_at_call 32; ((with_reducible refine (Cell V hV0 hV1 hW4.out (by omega) (by have := hll.out; omega)).mono ?_); rintro e w5 ⟨rfl, hW, hF⟩; have hW5 := Aside0.mk hW; have hF5 := Aside0.mk hF; clear hW hF)))
            go_meet
            exact ⟨rfl, St.step (l := [V % 256, V / 256]) hzw hgl rfl hS3.out hpll.out hR4.out hF4.out hW5.out hF5.out (take_step _ [V % 256, V / 256] 2 hVV.out (fun _ => by simp)).1 (take_step _ [V % 256, V / 256] 2 hVV.out (fun _ => by simp)).2⟩
          · by_cases h3 : kind = 3
            · have hd1 : (kind == 1) = false := beq_eq_false_iff_ne.2 (by omega)
              have hd2 : (kind == 2) = false := beq_eq_false_iff_ne.2 (by omega)
              have hd3 : (kind == 3) = true := beq_iff_eq.2 h3
              clear h1 h2 h3
              obtain ⟨V, hV0, hV1, hK, hV⟩ := read3 hdBB.out hS3.out.r
              have hKK := Aside0.mk hK
              have hVV := Aside0.mk hV
              clear hK hV
              go_wp2_with (first | (go_at_call 29; ((with_reducible refine hKK.out.mono ?_); rintro e w4 ⟨rfl, hR, hF⟩; have hR4 := Aside0.mk hR; have hF4 := Aside0.mk hF; have hW4 := Aside0.mk (hS3.out.wr.fr hF (by omega) (fun k hk _ _ he => by omega)); have hs4 := hF.size; clear hR hF)) | (go_at_call 33; ((with_reducible refine (Word V hV0 hV1 hW4.out (by omega) (by have := hll.out; omega)).mono ?_); rintro e w5 ⟨rfl, hW, hF⟩; have hW5 := Aside0.mk hW; have hF5 := Aside0.mk hF; clear hW hF)))
              go_meet
              exact ⟨rfl, St.step (l := [V % 65536 % 256, V % 65536 / 256, V / 65536 % 256, V / 65536 / 256]) hzw hgl rfl hS3.out hpll.out hR4.out hF4.out hW5.out hF5.out (take_step _ [V % 65536 % 256, V % 65536 / 256, V / 65536 % 256, V / 65536 / 256] 4 hVV.out (fun _ => by simp)).1 (take_step _ [V % 65536 % 256, V % 65536 / 256, V / 65536 % 256, V / 65536 / 256] 4 hVV.out (fun _ => by simp)).2⟩
            · by_cases h4 : kind = 4
              · have hd1 : (kind == 1) = false := beq_eq_false_iff_ne.2 (by omega)
                have hd2 : (kind == 2) = false := beq_eq_false_iff_ne.2 (by omega)
                have hd3 : (kind == 3) = false := beq_eq_false_iff_ne.2 (by omega)
                have hd4 : (kind == 4) = true := beq_iff_eq.2 h4
                clear h1 h2 h3 h4
                have hK := RBytes nn hS3.out.r (by rw [List.length_drop]; have := hmm.out; omega)
                have hTl := takeL_len (bs.drop p) 0 nn
                rw [List.length_drop] at hTl
                have hTs := take_step (bs.drop p) (takeL (bs.drop p) 0 nn) nn (fun _ => rfl) (fun h => by unfold takeL; rw [if_neg (fun h2 => h h2.2)]; simp)
                generalize takeL (bs.drop p) 0 nn = T at hK hTl hTs
                have hKK := Aside0.mk hK
                have hTss := Aside0.mk hTs
                have hTll : Aside0 (T.length ≤ 1000000000) := ⟨by have := hmm.out; omega⟩
                clear hK hTs hTl
                go_wp2_with (first | (go_at_call 26; ((with_reducible refine hKK.out.mono ?_); rintro e w4 ⟨v, rfl, hV, hR, hF⟩; have hR4 := Aside0.mk hR; have hF4 := Aside0.mk hF; have hW4 := Aside0.mk (hS3.out.wr.fr hF (by omega) (fun k hk _ _ he => by omega)); have hs4 := hF.size; obtain ⟨A6, c6, rfl, _, hC6⟩ := Kd.R_reads hV; have hC66 := Aside0.mk hC6; clear hV hC6; clear hR hF)) | (go_at_call 19; ((with_reducible refine (Bytes (c := c6) hW4.out (by omega) hC66.out (by have := hll.out; have := hTll.out; omega)).mono ?_); rintro e w5 ⟨rfl, hW, hF⟩; have hW5 := Aside0.mk hW; have hF5 := Aside0.mk hF; clear hW hF)))
                go_meet
                exact ⟨rfl, St.step (l := T) hzw hgl rfl hS3.out hpll.out hR4.out hF4.out hW5.out hF5.out (hTss.out).1 (hTss.out).2⟩
              · by_cases h5 : kind = 5
                · have hd1 : (kind == 1) = false := beq_eq_false_iff_ne.2 (by omega)
                  have hd2 : (kind == 2) = false := beq_eq_false_iff_ne.2 (by omega)
                  have hd3 : (kind == 3) = false := beq_eq_false_iff_ne.2 (by omega)
                  have hd4 : (kind == 4) = false := beq_eq_false_iff_ne.2 (by omega)
                  have hd5 : (kind == 5) = true := beq_iff_eq.2 h5
                  clear h1 h2 h3 h4 h5
                  have hK := RNumber hS3.out.r
                  have hTs := num_step hdBB.out
                  generalize (numF (bs.drop p) 0).1 = V at hK hTs
                  generalize (numF (bs.drop p) 0).2.1 = E at hK hTs
                  generalize (bs.drop p).drop (numF (bs.drop p) 0).2.2 = X at hK hTs
                  have hKK := Aside0.mk hK
                  have hTss := Aside0.mk hTs
                  clear hK hTs
                  go_wp2_with (first | (go_at_call 27; ((with_reducible refine hKK.out.mono ?_); rintro e w4 ⟨rfl, hR, hF⟩; have hR4 := Aside0.mk hR; have hF4 := Aside0.mk hF; have hW4 := Aside0.mk (hS3.out.wr.fr hF (by omega) (fun k hk _ _ he => by omega)); have hs4 := hF.size; clear hR hF)) | (go_at_call 18; ((with_reducible refine (Number V hW4.out (by omega) (by have := hll.out; omega)).mono ?_); rintro e w5 ⟨rfl, hW, hF⟩; have hW5 := Aside0.mk hW; have hF5 := Aside0.mk hF; clear hW hF)))
                  go_meet
                  exact ⟨rfl, St.step (l := numOf V) hzw hgl rfl hS3.out hpll.out hR4.out hF4.out hW5.out hF5.out (hTss.out).1 (hTss.out).2⟩
                · have hd1 : (kind == 1) = false := beq_eq_false_iff_ne.2 h1
                  have hd2 : (kind == 2) = false := beq_eq_false_iff_ne.2 h2
                  have hd3 : (kind == 3) = false := beq_eq_false_iff_ne.2 h3
                  have hd4 : (kind == 4) = false := beq_eq_false_iff_ne.2 h4
                  have hd5 : (kind == 5) = false := beq_eq_false_iff_ne.2 h5
                  clear h1 h2 h3 h4 h5
                  go_wp2
                  go_meet
                  exact ⟨rfl, 0, p, _, _, hS3⟩
      case rest =>
        obtain ⟨rfl, err, q, xs, ys, hS⟩ := hcut
        by_cases he : err = 0
        · have hd : (err == 0) = true := beq_iff_eq.2 he
          have hd' : (err != 0) = false := by simp [he]
          have hee := Aside0.mk he
          clear he
          go_wp2_with (first | (go_at_call 23; ((with_reducible refine (RErr hS.out.r).mono ?_); rintro e w4 ⟨rfl, rfl⟩)) | (go_at_call 22; ((with_reducible refine (num _ _).mono ?_); rintro e w5 ⟨rfl, rfl⟩)))
          go_roundg k1
          case measure => omega
          case rel =>
            rcases hS.out.c with ⟨h0, hq, hx, hy⟩ | ⟨h0, _⟩
            · refine ⟨i + 1, q, rfl, by omega, by have := hmm.out; omega, ⟨?_⟩⟩
              have h9 := hS.out
              rw [h0, hx, hy] at h9
              exact ⟨h9.r, h9.wr, h9.b, h9.z, .inl ⟨rfl, hq, rfl, rfl⟩⟩
            · exact absurd hee.out h0
        · have hd : (err == 0) = false := beq_eq_false_iff_ne.2 he
          have hd' : (err != 0) = true := by simp [he]
          obtain ⟨hxs, junk, hys, hj⟩ : xs = bs.drop p ∧ ∃ junk, ys = bs.take p ++ junk ∧ junk.length ≤ 10 := by
            rcases hS.out.c with ⟨h0, _⟩ | ⟨_, h⟩
            · exact absurd h0 he
            · exact h
          have hpl : p ≤ bs.length := by have := hmm.out; omega
          have hyl : ys.length = p + junk.length := by rw [hys, List.length_append, List.length_take]; omega
          have hyt : ys.take p = bs.take p := by rw [hys, List.take_left' (by rw [List.length_take]; omega)]
          have hlf := RLeft hS.out.r
          obtain ⟨K, hK⟩ : ∃ K, xs.length = K := ⟨_, rfl⟩
          have hKm : K + p = m := by rw [← hK, hxs, List.length_drop]; have := hmm.out; omega
          rw [hK] at hlf
          obtain ⟨L, hL⟩ : ∃ L, ys.length = L := ⟨_, rfl⟩
          have hpL : p ≤ L := by omega
          have hDn := (Done hS.out.wr (by omega)).mono (R' := fun e w' => ∃ A' c', e = .returned (.slice A' L c') ∧ L ≤ c' ∧ Kd.C (Kd.int .u8) w' A' p (bs.take p) ∧ St w gr w2.heap.size w2.heap.size bs p w' err q xs ys) (fun e w' ⟨v, he, hR, hb⟩ => by
            obtain ⟨A', c', e2, hl2, hC2⟩ := Kd.R_reads hR
            have h3 := Kd.C_take (m := p) hC2 (by omega)
            rw [hyt, List.length_take, show min p bs.length = p by omega] at h3
            rw [hL] at e2 hl2
            exact ⟨A', c', by rw [he, e2], hl2, h3, hS.out.below hb⟩)
          have hDDn := Aside0.mk hDn
          clear he hxs hys hj hyl hyt hlf hDn hpl
          go_wp2_with (first | (go_at_call 23; ((with_reducible refine (RErr hS.out.r).mono ?_); rintro e w4 ⟨rfl, rfl⟩)) | (go_at_call 22; ((with_reducible refine (num _ _).mono ?_); rintro e w5 ⟨rfl, rfl⟩)) | (go_at_call 15; ((with_reducible refine hDDn.out.mono ?_); rintro e w6 ⟨A7, c7, rfl, hLc, hC7, hS7⟩)))
          obtain ⟨i0, hi0, hz0, hz1, hz2⟩ := info_parts infoB
          have hcl := hcc.out
          rw [← hmm.out] at hcl
          have qs1 := cut_to (P := Tryd.prog) 23 5 .i64 Tryd.underlying23 hi0 A7 L c7 p (by omega) (by omega) hLc
          have qs2 := cut_to (P := Tryd.prog) 23 5 .i64 Tryd.underlying23 hi0 A m c p (by omega) (by omega) hcl
          rw [Int.toNat_natCast] at qs1 qs2
          have hCb : Kd.C (Kd.int .u8) w6 A p (bs.take p) := by
            have h3 := Kd.C_take (m := p) (Kd.C_below hCC.out hS7.b) (by have := hmm.out; omega)
            rwa [List.length_take, show min p bs.length = p by have := hmm.out; omega] at h3
          have hs7 := Aside0.mk hS7
          have t1 := fun k => Kd.C_string (P := Tryd.prog) (c := c7) Tryd.underlying23 Tryd.underlying5 Tryd.underlying9 (Kd.C_below hC7 (pw_below_drewN (Below.refl _ _) k))
          have t2 := fun k => Kd.C_string (P := Tryd.prog) (c := c) Tryd.underlying23 Tryd.underlying5 Tryd.underlying9 (Kd.C_below hCb (pw_below_drewN (Below.refl _ _) k))
          have t3 : ∀ k, Calls Tryd.prog 24 #[.pointer (some ⟨gr, 0, none⟩)] (w6.drewN k) fun e w' => e = .returned (.int .i64 (K : Int)) ∧ w' = w6.drewN k := fun k => by
            have h := RLeft (hS7.below (pw_below_drewN (Below.refl _ _) k)).r
            rw [hK] at h
            exact h.mono (fun _ _ ⟨a, b⟩ => ⟨a, b.symm⟩)
          have t4 : decide ((p : Int) ≤ (m : Int)) = true := decide_eq_true (by omega)
          have t5 : decide (p ≤ m) = true := decide_eq_true (by omega)
          have t6 : decide ((p : Int) ≤ (L : Int)) = true := decide_eq_true (by omega)
          have t7 : decide (p ≤ L) = true := decide_eq_true (by omega)
          have t8 : IntKind.i64.wrap ((m : Int) - (K : Int)) = (p : Int) := by rw [IntKind.wrap_i64]; omega
          have t9 : ((p : Int) == (p : Int)) = true := by simp
          have t10 : ((strOfNums (bs.take p)).toList == (strOfNums (bs.take p)).toList) = true := by simp
          clear hC7 hCb hK hL hKm hpL hcl hS7
          go_quiet ((go_at_call 24; exact Calls.quiet_of_same (t3 _)))
          go_wp2
          go_ret
          refine ⟨rfl, hs7.out.b.trans ((pw_below_drewN (Below.refl _ _) _).mono hs7.out.b.size)⟩
end Go.Proofs.YtgnjlgfnpfjjnaaDoor.Pk
