import Derived.Test.YtembdahclmffjaaDoorZb
import Derived.Test.YtembdahclmffjaaDoorPx4
import Derived.Test.YtembdahclmffjaaDoorPx5
import Derived.Test.YtembdahclmffjaaDoorZa
import Derived.Test.YtembdahclmffjaaDoorKc
/- The document's reader of cartridges: what its small functions answer (low, right), and the cuts of bytes. -/
namespace Go.Proofs.YtembdahclmffjaaDoor.Pk
open Go.RowKit Go.Proofs.YtembdahclmffjaaDoorW.PrintWords Go.Proofs.YtembdahclmffjaaDoorW.PrintLast Go.Proofs.YtembdahclmffjaaDoorW.PrintMore Go.Proofs.YtembdahclmffjaaDoor.Mem
set_option linter.unusedVariables false
set_option linter.unusedSimpArgs false
/-- bytes, cut from the one to the other place -/
theorem cutB (A : Option Addr) (n cap : Nat) (xs : List Int) (i j : Nat) (hnc : xs.length ≤ cap) (hij : i ≤ j) (hj : j ≤ xs.length) :
    ∃ A', (∀ W : World, (Instr.slice 22 (.slice A n cap) (some (.int .i64 (i : Int))) (some (.int .i64 (j : Int))) none).run Tryd.prog W = .ok (.slice A' (j - i) (cap - i)) W) ∧ j - i ≤ cap - i ∧ j - i = ((xs.drop i).take (j - i)).length ∧ ∀ W, Kd.C (Kd.int .u8) W A xs.length xs → Kd.C (Kd.int .u8) W A' (j - i) ((xs.drop i).take (j - i)) := by
  obtain ⟨i0, hi, _, hz1, _⟩ := info_parts infoB
  have hlen : j - i = ((xs.drop i).take (j - i)).length := by rw [List.length_take, List.length_drop]; omega
  refine ⟨if cap = i then A else A.map (·.add (i * 1)), fun W => ?_, by omega, hlen, fun W h => ?_⟩
  · have hel : Tryd.prog.elem 22 = 5 := by simp [Program.elem, Tryd.underlying22]
    have hu : Tryd.prog.underlying 22 = some (.slice (Tryd.prog.elem 22)) := by rw [hel]; exact Tryd.underlying22
    rw [run_slice_lh W 22 A n cap hu .i64 .i64 (i : Int) (j : Int) (by omega) (by omega) (by omega), hel]
    simp [sizeOf, typeInfo, hi, hz1, sliced, Result.andThen]
  · have h1 := Kd.C_drop h (show i ≤ xs.length by omega) hnc
    have h2 := Kd.C_take (m := j - i) h1 (by rw [List.length_drop]; omega)
    rw [← hlen] at h2
    exact h2
/-- the same, from a place on -/
theorem cutF (A : Option Addr) (n cap : Nat) (xs : List Int) (i : Nat) (hn : n = xs.length) (hnc : n ≤ cap) (hi : i ≤ n) :
    ∃ A', (∀ W : World, (Instr.slice 22 (.slice A n cap) (some (.int .i64 (i : Int))) none none).run Tryd.prog W = .ok (.slice A' (n - i) (cap - i)) W) ∧ n - i ≤ cap - i ∧ n - i = (xs.drop i).length ∧ ∀ W, Kd.C (Kd.int .u8) W A n xs → Kd.C (Kd.int .u8) W A' (n - i) (xs.drop i) := by
  obtain ⟨i0, hi0, _, hz1, _⟩ := info_parts infoB
  have hlen : n - i = (xs.drop i).length := by rw [List.length_drop]; omega
  refine ⟨if cap = i then A else A.map (·.add (i * 1)), fun W => ?_, by omega, hlen, fun W h => ?_⟩
  · have := cut_from (P := Tryd.prog) 22 5 .i64 Tryd.underlying22 hi0 1 hz1 A n cap (i : Int) (by omega) (by omega) W
    rw [Int.toNat_natCast] at this
    exact this
  · subst hn
    have h1 := Kd.C_drop h (show i ≤ xs.length by omega) hnc
    rw [← hlen] at h1
    exact h1
/-- the same, up to a place -/
theorem cutT (A : Option Addr) (n cap : Nat) (xs : List Int) (j : Nat) (hnc : xs.length ≤ cap) (hj : j ≤ xs.length) :
    (∀ W : World, (Instr.slice 22 (.slice A n cap) none (some (.int .i64 (j : Int))) none).run Tryd.prog W = .ok (.slice A j cap) W) ∧ j = (xs.take j).length ∧ ∀ W, Kd.C (Kd.int .u8) W A xs.length xs → Kd.C (Kd.int .u8) W A j (xs.take j) := by
  obtain ⟨i0, hi0, _, hz1, _⟩ := info_parts infoB
  have hlen : j = (xs.take j).length := by rw [List.length_take]; omega
  refine ⟨fun W => ?_, hlen, fun W h => ?_⟩
  · have := cut_cap (P := Tryd.prog) 22 5 .i64 Tryd.underlying22 hi0 A n cap (j : Int) (by omega) (by omega) W
    rw [Int.toNat_natCast] at this
    exact this
  · have h2 := Kd.C_take (m := j) h hj
    rw [← hlen] at h2
    exact h2
/-- the numbers in few bytes -/
theorem low_l {xs : List Int} (hB : allB xs) (h4 : xs.length ≤ 4) : ∀ i k, i ≤ xs.length → i < k → P.wispref07_low.l0 k xs (valI (xs.drop i)) ((i : Int) - 1) = some (valI xs) := by
  intro i
  induction i with
  | zero =>
    intro k _ hk
    obtain ⟨k, rfl⟩ : ∃ m, k = m + 1 := ⟨k - 1, by omega⟩
    simp only [P.wispref07_low.l0]
    rw [if_neg (by omega)]; rfl
  | succ i ih =>
    intro k hi hk
    obtain ⟨k, rfl⟩ : ∃ m, k = m + 1 := ⟨k - 1, by omega⟩
    have hn := ih k (by omega) (by omega)
    have hd : xs.drop i = xs.getD i 0 :: xs.drop (i + 1) := drop_getD (by omega)
    have h1 := valI_b (xs.drop (i + 1)) (allB_drop hB (i + 1))
    have h2 := getB hB i
    unfold isB at h2
    have h3 : ∀ q : Nat, q ≤ 3 → (256 : Int) ^ q ≤ 16777216 := by decide
    replace h3 := h3 (xs.drop (i + 1)).length (by rw [List.length_drop]; omega)
    rw [hd, valI] at hn
    generalize valI (xs.drop (i + 1)) = V at h1 hn
    generalize xs.getD i 0 = x at h2 hn hd
    have hr : rd xs (((i + 1 : Nat) : Int) - 1) = x := by
      unfold rd
      rw [show (((i + 1 : Nat) : Int) - 1).toNat = i by omega]
      have := congrArg (fun l => l.getD 0 0) hd
      simpa [List.getD_eq_getElem?_getD, List.getElem?_drop] using this
    simp only [P.wispref07_low.l0]
    rw [if_pos (by omega), if_pos (by omega), if_pos (by omega), hr]
    have e1 : wrap64 ((wrap64 (256 * V)) + (wrap64 x)) = x + 256 * V := by unfold wrap64; omega
    have e2 : wrap64 (((i + 1 : Nat) : Int) - 1 - 1) = (i : Int) - 1 := by unfold wrap64; omega
    rw [e1, e2]
    exact hn
theorem low_f {xs : List Int} (hB : allB xs) (h4 : xs.length ≤ 4) : P.wispref07_low.f 6 xs = some (valI xs) := by
  have h := low_l hB h4 xs.length 6 (Nat.le_refl _) (by omega)
  rw [List.drop_length] at h
  unfold P.wispref07_low.f
  have e : wrap64 ((xs.length : Int) - 1) = (xs.length : Int) - 1 := by unfold wrap64; omega
  rw [e]
  exact h
theorem drawn_below {w w' : World} (h : Drawn0 w w') : Below w.heap.size w w' := by obtain ⟨k, rfl⟩ := h; exact pw_below_drewN (Below.refl _ _) k
theorem LowD {w : World} {A : Option Addr} {n k : Nat} {xs : List Int} {v : Int} (hC : Kd.C (Kd.int .u8) w A n xs) (hn : n = xs.length) (hk : n ≤ k) (hB : allB xs) (h4 : xs.length ≤ 4) (hv : valI xs = v) :
    Calls Tryd.prog 35 #[.slice A n k] w fun e w' => e = .returned (.int .i64 v) ∧ Drawn0 w w' := by
  subst hn
  have := P.wispref07_low.calls 6 A k xs (valI xs) w hC hk (low_f hB h4)
  rw [hv] at this
  exact this
/-- a part of few bytes, as a number -/
theorem val2' {b : List Int} {p : Nat} (h : p + 2 ≤ b.length) : valI ((b.drop p).take 2) = low2 b p := val2 h
def gS (x : ScT) : P.S77 := ⟨x.1, x.2.1, x.2.2⟩
theorem C_gS {w : World} {A : Option Addr} {n : Nat} {xs : List ScT} (h : kS.C w A n xs) : P.k77.C w A n (xs.map gS) := C_map (g := gS) (fun _ => rfl) h
theorem rdS (es : List ScT) (i : Nat) : P.rd_T77 (es.map gS) (i : Int) = gS (es.getD i (0, 0, [])) := by
  unfold P.rd_T77
  rw [Int.toNat_natCast, List.getD_eq_getElem?_getD, List.getD_eq_getElem?_getD, List.getElem?_map]
  cases es[i]? <;> rfl
/-- the first m sections -/
def secM (b : List Int) (m : Nat) : List ScT := (List.range m).map (secOf b)
theorem secM_len (b : List Int) (m : Nat) : (secM b m).length = m := by simp [secM]
theorem secM_snoc (b : List Int) (m : Nat) : secM b (m + 1) = secM b m ++ [secOf b m] := by simp [secM, List.range_succ]
theorem secM_get (b : List Int) {m i : Nat} (h : i < m) : (secM b m).getD i (0, 0, []) = secOf b i := by
  simp [secM, List.getD_eq_getElem?_getD, h]
open Classical in
noncomputable def rgtB (b : List Int) (m i : Nat) : Bool := decide (∀ j, i ≤ j → j < m → rgt b j)
open Classical in
theorem rgtB_end (b : List Int) (m : Nat) : rgtB b m m = true := decide_eq_true (fun j h1 h2 => by omega)
open Classical in
theorem rgtB_no {b : List Int} {m i : Nat} (h : i < m) (hr : ¬ rgt b i) : rgtB b m i = false := decide_eq_false (fun hn => hr (hn i (Nat.le_refl _) h))
open Classical in
theorem rgtB_true {b : List Int} {m : Nat} (h : ∀ j, j < m → rgt b j) : rgtB b m 0 = true := decide_eq_true (fun j _ hj => h j hj)
open Classical in
theorem rgtB_false {b : List Int} {m : Nat} (h : ¬ ∀ j, j < m → rgt b j) : rgtB b m 0 = false := decide_eq_false (fun hn => h (fun j hj => hn j (Nat.zero_le _) hj))
open Classical in
theorem rgtB_yes {b : List Int} {m i : Nat} (h : rgt b i) : rgtB b m i = rgtB b m (i + 1) := by
  unfold rgtB
  congr 1
  apply propext
  constructor
  · intro hh j h1 h2; exact hh j (by omega) h2
  · intro hh j h1 h2
    by_cases e : j = i
    · rw [e]; exact h
    · exact hh j (by omega) h2
theorem right_l {b : List Int} (hB : allB b) {m : Nat} (h2 : 2 ≤ m) (h18 : m ≤ 18) : ∀ d i k, i + d = m → d < k → P.wispref07_right.l0 k ((secM b m).map gS) (i : Int) = some (rgtB b m i) := by
  intro d
  induction d with
  | zero =>
    intro i k hi hk
    obtain ⟨k, rfl⟩ : ∃ m, k = m + 1 := ⟨k - 1, by omega⟩
    have e : i = m := by omega
    subst e
    simp only [P.wispref07_right.l0, List.length_map, secM_len]
    rw [if_neg (by omega), rgtB_end, decide_eq_true (by omega)]
  | succ d ih =>
    intro i k hi hk
    obtain ⟨k, rfl⟩ : ∃ m, k = m + 1 := ⟨k - 1, by omega⟩
    have hn := ih (i + 1) k (by omega) (by omega)
    have hlt : i < m := by omega
    have hw1 : wrap64 ((i : Int) + 1) = ((i + 1 : Nat) : Int) := by unfold wrap64; omega
    have hk0 := getB hB (8 + 10 * i)
    have hn0 := getB hB (9 + 10 * i)
    unfold isB at hk0 hn0
    have hf : ∀ j, j < m → (gS ((secM b m).getD j (0, 0, []))).f0 = knd b j ∧ (gS ((secM b m).getD j (0, 0, []))).f1 = nmb b j := fun j hj => by
      rw [secM_get b hj]; exact ⟨rfl, rfl⟩
    have hI := hf i hlt
    have no : ¬ rgt b i → some false = some (rgtB b m i) := fun h => by rw [rgtB_no hlt h]
    have yes : rgt b i → some (rgtB b m (i + 1)) = some (rgtB b m i) := fun h => by rw [rgtB_yes (m := m) h]
    simp only [P.wispref07_right.l0, List.length_map, secM_len, rdS, hw1]
    rw [if_pos (show (i : Int) < (m : Int) by omega)]
    simp only [hI.1, hI.2, hn]
    have hmin : ((min (i + 1) 3 : Nat) : Int) = if i < 2 then ((i + 1 : Nat) : Int) else 3 := by split <;> omega
    by_cases hi2 : (i : Int) < 2
    · rw [if_pos hi2, if_pos (by omega)]
      rw [if_pos (show i < 2 by omega)] at hmin
      by_cases c1 : knd b i = ((i + 1 : Nat) : Int) % 256
      · rw [if_pos c1]
        by_cases c2 : nmb b i = 0
        · rw [if_pos c2, if_neg (by omega), if_neg (by omega)]
          exact yes ⟨by rw [hmin]; omega, fun _ => c2, by omega, fun h => by omega⟩
        · rw [if_neg c2]
          exact no (fun h => c2 (h.2.1 (by omega)))
      · rw [if_neg c1]
        exact no (fun h => c1 (by have := h.1; rw [hmin] at this; omega))
    · rw [if_neg hi2, if_pos (by omega)]
      rw [if_neg (show ¬ i < 2 by omega)] at hmin
      by_cases c1 : knd b i = 3
      · rw [if_pos c1]
        by_cases c2 : nmb b i > 15
        · rw [if_pos c2]
          exact no (fun h => by have := h.2.2.1; omega)
        · rw [if_neg c2]
          by_cases c3 : (i : Int) > 2
          · have hw2 : wrap64 ((i : Int) - 1) = ((i - 1 : Nat) : Int) := by unfold wrap64; omega
            have hJ := hf (i - 1) (by omega)
            rw [if_pos c3]
            simp only [hw2, rdS, hJ.2]
            rw [if_pos (by omega), if_pos (by omega)]
            by_cases c4 : nmb b (i - 1) ≥ nmb b i
            · rw [if_pos c4]
              exact no (fun h => by have := h.2.2.2 (by omega); omega)
            · rw [if_neg c4]
              exact yes ⟨by rw [hmin]; exact c1, fun h => by omega, by omega, fun _ => by omega⟩
          · rw [if_neg c3]
            exact yes ⟨by rw [hmin]; exact c1, fun h => by omega, by omega, fun h => by omega⟩
      · rw [if_neg c1]
        exact no (fun h => c1 (by have := h.1; rw [hmin] at this; exact this))
theorem Right {w : World} {A : Option Addr} {n k : Nat} {b : List Int} {m : Nat} (hC : kS.C w A n (secM b m)) (hn : n = m) (hk : n ≤ k) (hB : allB b) (h2 : 2 ≤ m) (h18 : m ≤ 18) :
    Calls Tryd.prog 36 #[.slice A n k] w fun e w' => e = .returned (.bool (rgtB b m 0)) ∧ Drawn0 w w' := by
  subst hn
  have hl : ((secM b n).map gS).length = n := by rw [List.length_map, secM_len]
  have := P.wispref07_right.calls (n + 1) A k ((secM b n).map gS) (rgtB b n 0) w (by rw [hl]; exact C_gS hC) (by rw [hl]; exact hk) (right_l hB h2 h18 n 0 (n + 1) (by omega) (by omega))
  rw [hl] at this
  exact this
end Go.Proofs.YtembdahclmffjaaDoor.Pk
/- wispref07.Decode: the walk where bytes are refused ahead of the table. -/
namespace Go.Proofs.YtembdahclmffjaaDoor.Pk
open Go.RowKit Go.Proofs.YtembdahclmffjaaDoorW.PrintWords Go.Proofs.YtembdahclmffjaaDoorW.PrintLast Go.Proofs.YtembdahclmffjaaDoorW.PrintMore Go.Proofs.YtembdahclmffjaaDoor.Mem
set_option linter.unusedVariables false
set_option linter.unusedSimpArgs false
/-- a cartridge whose lists lie in blocks from B on -/
def CtF (B : Nat) (w : World) (v : Value) (c : CartP) : Prop := ∀ (Y : World) (S : Nat → Prop), Fr w Y S → (∀ k, k < w.heap.size → S k → k < B) → CtV Y v c
theorem CtF.ct {B : Nat} {w : World} {v : Value} {c : CartP} (h : CtF B w v c) : CtV w v c := h w (fun _ => False) (Fr.refl _ _) (fun _ _ e => e.elim)
/-- what the document's reader comes to -/
def RefPost (r : List Int) (w : World) (e : Ending) (w' : World) : Prop := ∃ v, e = .returned (.tuple #[v, .int .i64 (decB r).2]) ∧ CtF w.heap.size w' v (decB r).1 ∧ Below w.heap.size w w'
abbrev zcart : Value := .agg #[.slice none 0 0, .int .u16 0, .slice none 0 0, .slice none 0 0]
theorem ref_bad {r : List Int} {w w' : World} {er : Int} (h : decB r = (z0, er)) (hb : Below w.heap.size w w') : RefPost r w (.returned (.tuple #[zcart, .int .i64 er])) w' := by
  refine ⟨zcart, by rw [h], ?_, hb⟩
  rw [h]
  exact fun Y _ _ _ => Ct0 Y
theorem dec_70 {r : List Int} (h : ¬ (5 ≤ r.length ∧ r.take 5 = magic)) : decB r = (z0, 70) := if_pos h
theorem dec_71 {r : List Int} (h : 5 ≤ r.length ∧ r.take 5 = magic) (h2 : ¬ (12 ≤ r.length ∧ r.length ≤ 524288 ∧ low4 r (r.length - 4) = sumI [r.take (r.length - 4)])) : decB r = (z0, 71) := by
  unfold decB
  rw [if_neg (fun hn => hn h), if_pos h2]
theorem dec_R {r : List Int} (h : 5 ≤ r.length ∧ r.take 5 = magic) (h2 : 12 ≤ r.length ∧ r.length ≤ 524288 ∧ low4 r (r.length - 4) = sumI [r.take (r.length - 4)]) : decB r = decR (r.take (r.length - 4)) := by
  unfold decB
  rw [if_neg (fun hn => hn h), if_neg (fun hn => hn h2)]
theorem ref_ret {r : List Int} {w X : World} {R : Nat} {tmps : Array Value} {a0 a1 a2 a3 : Value} {er : Int} (h2 : tmps[2]? = some (.pointer (some ⟨R, 0, none⟩))) (h3 : tmps[3]? = some (.int .i64 er)) (hx : X.heap[R]? = some (.cells #[a0, a1, a2, a3] 28 (0, 0)))
    (hP : RefPost r w (.returned (.tuple #[.agg #[a0, a1, a2, a3], .int .i64 er])) X) : bodyPost Tryd.prog Tryd.f10 (RefPost r w) .ret { tmps := tmps, defers := [] } X := by
  have y0 : X.cell? ⟨R, 0, none⟩ = some a0 := (cellH hx).trans rfl
  have y1 : X.cell? ⟨R, 1, none⟩ = some a1 := (cellH hx).trans rfl
  have y2 : X.cell? ⟨R, 2, none⟩ = some a2 := (cellH hx).trans rfl
  have y3 : X.cell? ⟨R, 3, none⟩ = some a3 := (cellH hx).trans rfl
  exact bodyPost_ret (v := .tuple #[.agg #[a0, a1, a2, a3], .int .i64 er]) (by simp [results, Tryd.results10, go_sem, h2, h3, y0, y1, y2, y3]) rfl hP
/-- the answer of an error, laid -/
theorem ref_err {r : List Int} {w X : World} {tmps : Array Value} {er : Int} (h : decB r = (z0, er)) (h2 : tmps[2]? = some (.pointer (some ⟨w.heap.size, 0, none⟩))) (h3 : tmps[3]? = some (.int .i64 er)) {a0 a1 a2 a3 : Value} (hx : X.heap[w.heap.size]? = some (.cells #[a0, a1, a2, a3] 28 (0, 0))) (hb : Below w.heap.size w X) :
    bodyPost Tryd.prog Tryd.f10 (RefPost r w) .ret { tmps := tmps, defers := [] } ((((X.setCell ⟨w.heap.size, 0, none⟩ (.slice none 0 0)).setCell ⟨w.heap.size, 1, none⟩ (.int .u16 0)).setCell ⟨w.heap.size, 2, none⟩ (.slice none 0 0)).setCell ⟨w.heap.size, 3, none⟩ (.slice none 0 0)) :=
  ref_ret h2 h3 (put4 hx _ _ _ _) (ref_bad h (hb.trans ((put4F X w.heap.size _ _ _ _).below hb.size (fun k hk e => by omega))))
section
variable {w : World} {A : Option Addr} {N cap : Nat} {r : List Int}
set_option maxRecDepth 100000 in
set_option maxHeartbeats 4000000 in
theorem Ref_short (h5 : N < 5) (hd : decB r = (z0, 70)) :
    Calls Tryd.prog 10 #[.slice A N cap] w (RefPost r w) := by
  have hb1 := Aside0.mk (below_alloc (Below.refl w.heap.size w) (.cells #[.slice none 0 0, .int .u16 0, .slice none 0 0, .slice none 0 0] 28))
  have hq1 := World.alloc_heap_new w (.cells #[.slice none 0 0, .int .u16 0, .slice none 0 0, .slice none 0 0] 28)
  have hdd := Aside0.mk hd
  have hd1 : decide ((N : Int) < 5) = true := decide_eq_true (by omega)
  clear hd
  go_enter Tryd.func10, Tryd.ntmps10
  go_wp2
  exact ref_ret rfl rfl hq1 (ref_bad hdd.out hb1.out)
theorem str_magic5 {b : List Int} (h : allB b) : (strOfNums (b.take 5)).toList = [87, 73, 83, 80, 1] ↔ b.take 5 = magic := by
  constructor
  · intro e
    have := str_back (allB_take h 5)
    rw [e] at this
    rw [← this]; rfl
  · intro e
    rw [e]
    simp [strOfNums, magic]
/-- what the walk wants, behind the magic -/
structure Rh (w : World) (A : Option Addr) (N cap : Nat) (r : List Int) : Prop where
  hC : Kd.C (Kd.int .u8) w A N r
  n : N = r.length
  cap : N ≤ cap
  bb : allB r
theorem Rh.str (h : Rh w A N cap r) (h5 : 5 ≤ N) (W : World) (hb : Below w.heap.size w W) : (convert 22 9 (.slice A 5 cap)).run Tryd.prog W = .ok (.string (strOfNums (r.take 5))) W := by
  have h1 := Kd.C_below h.hC hb
  have hn := h.n
  subst hn
  have h2 := Kd.C_take (m := 5) h1 h5
  have hl : (r.take 5).length = 5 := by rw [List.length_take]; omega
  have := Kd.C_string (P := Tryd.prog) (c := cap) Tryd.underlying22 Tryd.underlying5 Tryd.underlying9 h2
  rw [hl] at this
  exact this
set_option maxRecDepth 100000 in
set_option maxHeartbeats 4000000 in
theorem Ref_magic (h : Rh w A N cap r) (h5 : 5 ≤ N) (hm : r.take 5 ≠ magic) (hd : decB r = (z0, 70)) :
    Calls Tryd.prog 10 #[.slice A N cap] w (RefPost r w) := by
  have hb1 := Aside0.mk (below_alloc (Below.refl w.heap.size w) (.cells #[.slice none 0 0, .int .u16 0, .slice none 0 0, .slice none 0 0] 28))
  have hq1 := World.alloc_heap_new w (.cells #[.slice none 0 0, .int .u16 0, .slice none 0 0, .slice none 0 0] 28)
  have hdd := Aside0.mk hd
  have hd1 : decide ((N : Int) < 5) = false := decide_eq_false (by omega)
  have hs := h.str h5 _ hb1.out
  have hs2 : ((strOfNums (r.take 5)).toList == ([87, 73, 83, 80, 1] : List UInt8)) = false := beq_eq_false_iff_ne.2 (fun e => hm ((str_magic5 h.bb).1 e))
  generalize strOfNums (r.take 5) = S5 at hs hs2
  have cT : ∀ W : World, (Instr.slice 22 (.slice A N cap) none (some (.int .i64 5)) none).run Tryd.prog W = .ok (.slice A 5 cap) W := (cutT A N cap r 5 (by rw [← h.n]; exact h.cap) (by rw [← h.n]; exact h5)).1
  have hN5 : ((N : Int) < 5) = False := eq_false (by omega)
  clear hd
  go_enter Tryd.func10, Tryd.ntmps10
  go_wp2
  exact ref_ret rfl rfl hq1 (ref_bad hdd.out hb1.out)
set_option maxRecDepth 100000 in
set_option maxHeartbeats 4000000 in
theorem Ref_len1 (h : Rh w A N cap r) (h5 : 5 ≤ N) (hm : r.take 5 = magic) (hl : N < 12) (hd : decB r = (z0, 71)) :
    Calls Tryd.prog 10 #[.slice A N cap] w (RefPost r w) := by
  have hb1 := Aside0.mk (below_alloc (Below.refl w.heap.size w) (.cells #[.slice none 0 0, .int .u16 0, .slice none 0 0, .slice none 0 0] 28))
  have hq1 := World.alloc_heap_new w (.cells #[.slice none 0 0, .int .u16 0, .slice none 0 0, .slice none 0 0] 28)
  have hdd := Aside0.mk hd
  have hs := h.str h5 _ hb1.out
  have hs2 : ((strOfNums (r.take 5)).toList == ([87, 73, 83, 80, 1] : List UInt8)) = true := beq_iff_eq.2 ((str_magic5 h.bb).2 hm)
  generalize strOfNums (r.take 5) = S5 at hs hs2
  have cT : ∀ W : World, (Instr.slice 22 (.slice A N cap) none (some (.int .i64 5)) none).run Tryd.prog W = .ok (.slice A 5 cap) W := (cutT A N cap r 5 (by rw [← h.n]; exact h.cap) (by rw [← h.n]; exact h5)).1
  have hd1 : decide ((N : Int) < 5) = false := decide_eq_false (by omega)
  have hN5 : ((N : Int) < 5) = False := eq_false (by omega)
  have hd2 : decide ((N : Int) < 12) = true := decide_eq_true (by omega)
  clear hd
  go_enter Tryd.func10, Tryd.ntmps10
  go_wp2
  go_quiet (fail)
  go_wp2
  exact ref_err hdd.out rfl rfl hq1 (pw_below_drewN hb1.out nq)
set_option maxRecDepth 100000 in
set_option maxHeartbeats 4000000 in
theorem Ref_len2 (h : Rh w A N cap r) (h5 : 12 ≤ N) (hm : r.take 5 = magic) (hl : 524288 < N) (hN : N ≤ 140737488355328) (hd : decB r = (z0, 71)) :
    Calls Tryd.prog 10 #[.slice A N cap] w (RefPost r w) := by
  have hb1 := Aside0.mk (below_alloc (Below.refl w.heap.size w) (.cells #[.slice none 0 0, .int .u16 0, .slice none 0 0, .slice none 0 0] 28))
  have hq1 := World.alloc_heap_new w (.cells #[.slice none 0 0, .int .u16 0, .slice none 0 0, .slice none 0 0] 28)
  have hdd := Aside0.mk hd
  have hs := h.str (by omega) _ hb1.out
  have hs2 : ((strOfNums (r.take 5)).toList == ([87, 73, 83, 80, 1] : List UInt8)) = true := beq_iff_eq.2 ((str_magic5 h.bb).2 hm)
  generalize strOfNums (r.take 5) = S5 at hs hs2
  have cT : ∀ W : World, (Instr.slice 22 (.slice A N cap) none (some (.int .i64 5)) none).run Tryd.prog W = .ok (.slice A 5 cap) W := (cutT A N cap r 5 (by rw [← h.n]; exact h.cap) (by rw [← h.n]; omega)).1
  have hd1 : decide ((N : Int) < 5) = false := decide_eq_false (by omega)
  have hN5 : ((N : Int) < 5) = False := eq_false (by omega)
  have hd2 : decide ((N : Int) < 12) = false := decide_eq_false (by omega)
  have hd3 : decide ((N : Int) > 524288) = true := decide_eq_true (by omega)
  clear hd
  go_enter Tryd.func10, Tryd.ntmps10
  go_wp2
  go_quiet (fail)
  go_wp2
  exact ref_err hdd.out rfl rfl hq1 (pw_below_drewN hb1.out nq)
theorem drawn_ex {w w' : World} (h : Drawn0 w w') : ∃ m, w' = w.drewN m := by obtain ⟨m, h⟩ := h; exact ⟨m, h⟩
theorem Rh.sum (h : Rh w A N cap r) {E : Nat} (hE : E + 4 = N) (W : World) (hb : Below w.heap.size w W) (k : Nat) : Calls Tryd.prog 27 #[.slice A E cap] (W.drewN k) fun e w' => e = .returned (.int .u32 (sumI [r.take E])) ∧ w' = W.drewN k := by
  have hn := h.n
  have hb2 := pw_below_drewN hb k
  have h1 := h.hC
  rw [hn] at h1
  have c := (cutT A N cap r E (by rw [← hn]; exact h.cap) (by rw [← hn]; omega)).2
  have h2 := c.2 _ (Kd.C_below h1 hb2)
  have hl := c.1
  have := RefSum (c := cap) (xs := r.take E) (by rw [← hl]; exact h2) (allB_take h.bb E)
  rw [← hl] at this
  exact this.mono fun e w' ⟨a, b⟩ => ⟨a, b.symm⟩
theorem Rh.tail (h : Rh w A N cap r) {E : Nat} (hE : E + 4 = N) (W : World) (hb : Below w.heap.size w W) : ∃ A4, (∀ W : World, (Instr.slice 22 (.slice A N cap) (some (.int .i64 ((N : Int) - 4))) none none).run Tryd.prog W = .ok (.slice A4 4 (cap - E)) W) ∧ ∀ k, Calls Tryd.prog 35 #[.slice A4 4 (cap - E)] (W.drewN k) fun e w' => e = .returned (.int .i64 (low4 r E)) ∧ ∃ m, w' = (W.drewN k).drewN m := by
  have hn := h.n
  have hcap := h.cap
  obtain ⟨A', c1, c2, c3, c4⟩ := cutF A N cap r E hn hcap (by omega)
  rw [show N - E = 4 by omega] at c1 c2 c3 c4
  refine ⟨A', fun W => ?_, fun k => ?_⟩
  · rw [show (N : Int) - 4 = (E : Int) by omega]
    exact c1 W
  · refine (LowD (c4 _ (Kd.C_below h.hC (pw_below_drewN hb k))) c3 c2 (allB_drop h.bb E) (by omega) ?_).mono fun e w' hh => ⟨hh.1, drawn_ex hh.2⟩
    have := val4 (b := r) (p := E) (by omega)
    rw [List.take_of_length_le (by omega)] at this
    exact this
set_option maxRecDepth 100000 in
set_option maxHeartbeats 4000000 in
theorem Ref_sum (h : Rh w A N cap r) {E : Nat} (hE : E + 4 = N) (h12 : 12 ≤ N) (hm : r.take 5 = magic) (hN : N ≤ 524288) (hne : low4 r E ≠ sumI [r.take E]) (hd : decB r = (z0, 71)) :
    Calls Tryd.prog 10 #[.slice A N cap] w (RefPost r w) := by
  have hb1 := Aside0.mk (below_alloc (Below.refl w.heap.size w) (.cells #[.slice none 0 0, .int .u16 0, .slice none 0 0, .slice none 0 0] 28))
  have hq1 := World.alloc_heap_new w (.cells #[.slice none 0 0, .int .u16 0, .slice none 0 0, .slice none 0 0] 28)
  have hdd := Aside0.mk hd
  have hs := h.str (by omega) _ hb1.out
  have hs2 : ((strOfNums (r.take 5)).toList == ([87, 73, 83, 80, 1] : List UInt8)) = true := beq_iff_eq.2 ((str_magic5 h.bb).2 hm)
  generalize strOfNums (r.take 5) = S5 at hs hs2
  have cT : ∀ W : World, (Instr.slice 22 (.slice A N cap) none (some (.int .i64 5)) none).run Tryd.prog W = .ok (.slice A 5 cap) W := (cutT A N cap r 5 (by rw [← h.n]; exact h.cap) (by rw [← h.n]; omega)).1
  have hd1 : decide ((N : Int) < 5) = false := decide_eq_false (by omega)
  have hN5 : ((N : Int) < 5) = False := eq_false (by omega)
  have kS := h.sum hE _ hb1.out
  have kL := h.tail hE _ hb1.out
  obtain ⟨A4, cF, kL⟩ := kL
  obtain ⟨sm, hsm⟩ : ∃ sm, sumI [r.take E] = sm := ⟨_, rfl⟩
  obtain ⟨lo, hlo⟩ : ∃ lo, low4 r E = lo := ⟨_, rfl⟩
  have hs0 := sum_bd [r.take E]
  have hl0 := low4_bd h.bb E
  rw [hsm] at kS hs0
  rw [hlo] at kL hl0
  obtain ⟨hs0, hs1⟩ := hs0
  obtain ⟨hl0, hl1⟩ := hl0
  have cE : ∀ W : World, (Instr.slice 22 (.slice A N cap) none (some (.int .i64 ((N : Int) - 4))) none).run Tryd.prog W = .ok (.slice A E cap) W := by
    rw [show (N : Int) - 4 = (E : Int) by omega]
    exact (cutT A N cap r E (by rw [← h.n]; exact h.cap) (by rw [← h.n]; omega)).1
  have kSS := Aside0.mk kS
  have kLL := Aside0.mk kL
  have hd2 : decide ((N : Int) < 12) = false := decide_eq_false (by omega)
  have hd3 : decide ((N : Int) > 524288) = false := decide_eq_false (by omega)
  clear kS kL
  have hne2 : (sm == lo) = false := beq_eq_false_iff_ne.2 (fun e => hne (by rw [hsm, hlo, e]))
  clear hd
  go_enter Tryd.func10, Tryd.ntmps10
  go_wp2
  go_quiet (first | (go_at_call 27; with_reducible exact Calls.quiet_of_same (kSS.out _)) | (go_at_call 35; with_reducible exact Calls.quiet_of (kLL.out _)))
  go_wp2
  exact ref_err hdd.out rfl rfl hq1 (pw_below_drewN hb1.out nq)
end
end Go.Proofs.YtembdahclmffjaaDoor.Pk
/- wispref07.Check: what it answers. (Printed by gen_rk.py.) -/
namespace Go.Proofs.YtembdahclmffjaaDoor.Pk
open Go.RowKit Go.Proofs.YtembdahclmffjaaDoorW.PrintWords Go.Proofs.YtembdahclmffjaaDoorW.PrintLast Go.Proofs.YtembdahclmffjaaDoorW.PrintMore Go.Proofs.YtembdahclmffjaaDoor.Mem
set_option linter.unusedVariables false
set_option linter.unusedSimpArgs false
set_option maxRecDepth 100000 in
set_option maxHeartbeats 8000000 in
theorem kChkR {w : World} {u : Value} {c : CartP} (h1 : CtV w u c) (he : c.efs.length < 4611686018427387904) (hb : c.bks.length < 4611686018427387904) :
    Calls Tryd.prog 37 #[u] w fun e w' => e = .returned (.int .i64 (chk c)) ∧ Below w.heap.size w w' := by
  obtain ⟨A0, c0, A2, c2, A3, c3, rfl, hI⟩ := h1
  unfold crt
  have hC2 := Aside0.mk hI.efs
  have hC3 := Aside0.mk hI.bks
  obtain ⟨n0, hn0⟩ : ∃ n, n = c.code.length := ⟨_, rfl⟩
  obtain ⟨n2, hn2⟩ : ∃ n, n = c.efs.length := ⟨_, rfl⟩
  obtain ⟨n3, hn3⟩ : ∃ n, n = c.bks.length := ⟨_, rfl⟩
  obtain ⟨ent, hent⟩ : ∃ x, x = c.entry := ⟨_, rfl⟩
  have hn063 := hI.code.2.1
  rw [← hn0] at hn063
  rw [← hn2] at he
  rw [← hn3] at hb
  rw [← hn0, ← hn2, ← hn3, ← hent]
  have hnn0 := Aside0.mk hn0
  have hnn2 := Aside0.mk hn2
  have hnn3 := Aside0.mk hn3
  have hB0 := Aside0.mk (below_alloc (Below.refl w.heap.size w) (.cells #[.slice A0 n0 c0, .int .u16 ent, .slice A2 n2 c2, .slice A3 n3 c3] 28))
  have hX0 := Aside0.mk (World.alloc_heap_new w (.cells #[.slice A0 n0 c0, .int .u16 ent, .slice A2 n2 c2, .slice A3 n3 c3] 28))
  clear hI hn0 hn2 hn3 hent
  by_cases hd : n0 % 2 = 0 ∧ n0 ≤ 16384 ∧ n2 ≤ 8192
  · obtain ⟨d1, d2, d3⟩ := hd
    have e1 : (((n0 : Int) % 2) != 0) = false := by rw [show (n0 : Int) % 2 = 0 by omega]; rfl
    have e2 : decide ((n0 : Int) > 16384) = false := decide_eq_false (by omega)
    have e3 : decide ((n2 : Int) > 8192) = false := decide_eq_false (by omega)
    go_enter Tryd.func37, Tryd.ntmps37
    go_wp2
    go_loopg [3] n2 (fun gk v3 wr => ∃ i : Nat, v3 = .int .i64 (i : Int) ∧ i + gk = n2 ∧ Aside0 (∀ j, j < i → okE c.efs j) ∧ Aside0 (wr.heap[w.heap.size]? = some (.cells #[.slice A0 n0 c0, .int .u16 ent, .slice A2 n2 c2, .slice A3 n3 c3] 28 (0, 0))) ∧ Aside0 (Below w.heap.size w wr))
    case atStart => exact ⟨0, rfl, by omega, ⟨fun j hj => by omega⟩, hX0, hB0⟩
    case round =>
      clear hX0 hB0
      obtain ⟨i, rfl, hi, hok, hX, hB⟩ := hrel
      have q2 : wr.cell? ⟨w.heap.size, 2, none⟩ = some (.slice A2 n2 c2) := (cellH hX.out).trans rfl
      have q3 : wr.cell? ⟨w.heap.size, 3, none⟩ = some (.slice A3 n3 c3) := (cellH hX.out).trans rfl
      cases gk with
      | succ k1 =>
        have hd : decide ((i : Int) < (n2 : Int)) = true := decide_eq_true (by omega)
        have hd' : decide (i < n2) = true := decide_eq_true (by omega)
        have hin : i < n2 := by omega
        obtain ⟨ad, eA, hx0, hx1, hx2⟩ := atE (Kd.C_below hC2.out hB.out) i (by have := hnn2.out; omega)
        subst eA
        have hiE : Aside0 (i < c.efs.length) := ⟨by have := hnn2.out; omega⟩
        have hokE : Aside0 (okE c.efs i ↔ 0 ≤ (c.efs.getD i (0, 0, 0)).2.1 ∧ (c.efs.getD i (0, 0, 0)).2.1 ≤ 256 ∧ 0 ≤ (c.efs.getD i (0, 0, 0)).2.2 ∧ (c.efs.getD i (0, 0, 0)).2.2 ≤ 256 ∧ (0 < i → (c.efs.getD (i - 1) (0, 0, 0)).1 < (c.efs.getD i (0, 0, 0)).1)) := ⟨Iff.rfl⟩
        generalize c.efs.getD i (0, 0, 0) = x at hx0 hx1 hx2 hokE
        obtain ⟨xa, xi, xo⟩ := x
        dsimp only at hx0 hx1 hx2 hokE
        have hb1 := below_alloc (Below.refl wr.heap.size wr) (.cells #[.int .u16 xa, .int .i64 xi, .int .i64 xo] 80)
        have hX1 := Aside0.mk ((hb1.block _ (heap_lt hX.out)).trans hX.out)
        have hB1 := Aside0.mk (hB.out.trans (hb1.mono hB.out.size))
        have q2' : (wr.alloc (.cells #[.int .u16 xa, .int .i64 xi, .int .i64 xo] 80)).cell? ⟨w.heap.size, 2, none⟩ = some (.slice (some ad) n2 c2) := (cellH hX1.out).trans rfl
        clear hb1
        by_cases hc8 : xi < 0
        · have f1 : decide (xi < 0) = true := decide_eq_true (by omega)
          have hbad : Aside0 (chk c = 74) := ⟨chk_es hiE.out (fun h => by have := hokE.out.1 h; omega)⟩
          go_wp2
          go_quiet (fail)
          go_wp2
          go_ret
          exact ⟨(by rw [hbad.out]; first | done | rfl), pw_below_drewN hB1.out _⟩
        · have f1 : decide (xi < 0) = false := decide_eq_false (by omega)
          by_cases hc10 : xi > 256
          · have f2 : decide (xi > 256) = true := decide_eq_true (by omega)
            have hbad : Aside0 (chk c = 74) := ⟨chk_es hiE.out (fun h => by have := hokE.out.1 h; omega)⟩
            go_wp2
            go_quiet (fail)
            go_wp2
            go_ret
            exact ⟨(by rw [hbad.out]; first | done | rfl), pw_below_drewN hB1.out _⟩
          · have f2 : decide (xi > 256) = false := decide_eq_false (by omega)
            by_cases hc12 : xo < 0
            · have f3 : decide (xo < 0) = true := decide_eq_true (by omega)
              have hbad : Aside0 (chk c = 74) := ⟨chk_es hiE.out (fun h => by have := hokE.out.1 h; omega)⟩
              go_wp2
              go_quiet (fail)
              go_wp2
              go_ret
              exact ⟨(by rw [hbad.out]; first | done | rfl), pw_below_drewN hB1.out _⟩
            · have f3 : decide (xo < 0) = false := decide_eq_false (by omega)
              by_cases hc14 : xo > 256
              · have f4 : decide (xo > 256) = true := decide_eq_true (by omega)
                have hbad : Aside0 (chk c = 74) := ⟨chk_es hiE.out (fun h => by have := hokE.out.1 h; omega)⟩
                go_wp2
                go_quiet (fail)
                go_wp2
                go_ret
                exact ⟨(by rw [hbad.out]; first | done | rfl), pw_below_drewN hB1.out _⟩
              · have f4 : decide (xo > 256) = false := decide_eq_false (by omega)
                by_cases hi0 : 0 < i
                · have ei : decide ((i : Int) > 0) = true := decide_eq_true (by omega)
                  obtain ⟨ad', eA', hy0, _, _⟩ := atE (Kd.C_below hC2.out hB1.out) (i - 1) (by have := hnn2.out; omega)
                  cases eA'
                  generalize (c.efs.getD (i - 1) (0, 0, 0)).1 = pv at hy0 hokE
                  have hi1 : ((i : Int) - 1).toNat = i - 1 := by omega
                  have hi2 : 0 ≤ (i : Int) - 1 := by omega
                  have hi3 : (i : Int) - 1 < (n2 : Int) := by omega
                  by_cases hp : pv ≥ xa
                  · have ep : decide (pv ≥ xa) = true := decide_eq_true hp
                    have hbad : Aside0 (chk c = 74) := ⟨chk_es hiE.out (fun h => by have := hokE.out.1 h; omega)⟩
                    go_wp2
                    go_quiet (fail)
                    go_wp2
                    go_ret
                    exact ⟨(by rw [hbad.out]; first | done | rfl), pw_below_drewN hB1.out _⟩
                  · have ep : decide (pv ≥ xa) = false := decide_eq_false hp
                    have hgood := Aside0.mk (hokE.out.2 (by omega))
                    go_wp2
                    go_quiet (fail)
                    go_wp2
                    go_roundg k1
                    case measure => omega
                    case rel => exact ⟨i + 1, rfl, by omega, ⟨fun j hj => by
                        by_cases e : j = i
                        · rw [e]; exact hgood.out
                        · exact hok.out j (by omega)⟩, hX1, ⟨pw_below_drewN hB1.out _⟩⟩
                · have ei : decide ((i : Int) > 0) = false := decide_eq_false (by omega)
                  have hgood := Aside0.mk (hokE.out.2 (by omega))
                  go_wp2
                  go_quiet (fail)
                  go_wp2
                  go_roundg k1
                  case measure => omega
                  case rel => exact ⟨i + 1, rfl, by omega, ⟨fun j hj => by
                      by_cases e : j = i
                      · rw [e]; exact hgood.out
                      · exact hok.out j (by omega)⟩, hX1, ⟨pw_below_drewN hB1.out _⟩⟩
      | zero =>
        have hd : decide ((i : Int) < (n2 : Int)) = false := decide_eq_false (by omega)
        have hd' : decide (i < n2) = false := decide_eq_false (by omega)
        have hokE : Aside0 (∀ j, j < c.efs.length → okE c.efs j) := ⟨fun j hj => hok.out j (by have := hnn2.out; omega)⟩
        clear hok hi
        go_wp2
        clear hd hd' q2 q3
        go_loopg [5] n3 (fun gk v5 wr => ∃ i : Nat, v5 = .int .i64 (i : Int) ∧ i + gk = n3 ∧ Aside0 (∀ j, j < i → okB c.bks j) ∧ Aside0 (wr.heap[w.heap.size]? = some (.cells #[.slice A0 n0 c0, .int .u16 ent, .slice A2 n2 c2, .slice A3 n3 c3] 28 (0, 0))) ∧ Aside0 (Below w.heap.size w wr))
        case atStart => exact ⟨0, rfl, by omega, ⟨fun j hj => by omega⟩, hX, hB⟩
        case round =>
          clear hX hB
          obtain ⟨i, rfl, hi, hok, hX, hB⟩ := hrel
          have q3 : wr.cell? ⟨w.heap.size, 3, none⟩ = some (.slice A3 n3 c3) := (cellH hX.out).trans rfl
          cases gk with
          | succ k1 =>
            have hd : decide ((i : Int) < (n3 : Int)) = true := decide_eq_true (by omega)
            have hd' : decide (i < n3) = true := decide_eq_true (by omega)
            have hin : i < n3 := by omega
            obtain ⟨ad, A1, k1', eA, hx0, hx1, _, _⟩ := atB (Kd.C_below hC3.out hB.out) i (by have := hnn3.out; omega)
            subst eA
            have hiE : Aside0 (i < c.bks.length) := ⟨by have := hnn3.out; omega⟩
            have hokE : Aside0 (okB c.bks i ↔ 0 ≤ (c.bks.getD i (0, [])).1 ∧ (c.bks.getD i (0, [])).1 ≤ 15 ∧ (c.bks.getD i (0, [])).2.length ≤ 16384 ∧ (0 < i → (c.bks.getD (i - 1) (0, [])).1 < (c.bks.getD i (0, [])).1)) := ⟨Iff.rfl⟩
            generalize c.bks.getD i (0, []) = x at hx0 hx1 hokE
            obtain ⟨xn, xd⟩ := x
            dsimp only at hx0 hx1 hokE
            generalize xd.length = nd at hx1 hokE
            have hb1 := below_alloc (Below.refl wr.heap.size wr) (.cells #[.int .i64 xn, .slice A1 nd k1'] 82)
            have hX1 := Aside0.mk ((hb1.block _ (heap_lt hX.out)).trans hX.out)
            have hB1 := Aside0.mk (hB.out.trans (hb1.mono hB.out.size))
            have q3' : (wr.alloc (.cells #[.int .i64 xn, .slice A1 nd k1'] 82)).cell? ⟨w.heap.size, 3, none⟩ = some (.slice (some ad) n3 c3) := (cellH hX1.out).trans rfl
            clear hb1
            by_cases hc12 : xn < 0
            · have f1 : decide (xn < 0) = true := decide_eq_true (by omega)
              have hbad : Aside0 (chk c = 74) := ⟨chk_bs hiE.out (fun h => by have := hokE.out.1 h; omega)⟩
              go_wp2
              go_quiet (fail)
              go_wp2
              go_ret
              exact ⟨(by rw [hbad.out]; first | done | rfl), pw_below_drewN hB1.out _⟩
            · have f1 : decide (xn < 0) = false := decide_eq_false (by omega)
              by_cases hc14 : xn > 15
              · have f2 : decide (xn > 15) = true := decide_eq_true (by omega)
                have hbad : Aside0 (chk c = 74) := ⟨chk_bs hiE.out (fun h => by have := hokE.out.1 h; omega)⟩
                go_wp2
                go_quiet (fail)
                go_wp2
                go_ret
                exact ⟨(by rw [hbad.out]; first | done | rfl), pw_below_drewN hB1.out _⟩
              · have f2 : decide (xn > 15) = false := decide_eq_false (by omega)
                by_cases hc16 : nd > 16384
                · have f3 : decide ((nd : Int) > 16384) = true := decide_eq_true (by omega)
                  have hbad : Aside0 (chk c = 74) := ⟨chk_bs hiE.out (fun h => by have := hokE.out.1 h; omega)⟩
                  go_wp2
                  go_quiet (fail)
                  go_wp2
                  go_ret
                  exact ⟨(by rw [hbad.out]; first | done | rfl), pw_below_drewN hB1.out _⟩
                · have f3 : decide ((nd : Int) > 16384) = false := decide_eq_false (by omega)
                  by_cases hi0 : 0 < i
                  · have ei : decide ((i : Int) > 0) = true := decide_eq_true (by omega)
                    obtain ⟨ad', A1', k2', eA', hy0, _, _, _⟩ := atB (Kd.C_below hC3.out hB1.out) (i - 1) (by have := hnn3.out; omega)
                    cases eA'
                    generalize (c.bks.getD (i - 1) (0, [])).1 = pv at hy0 hokE
                    have hi1 : ((i : Int) - 1).toNat = i - 1 := by omega
                    have hi2 : 0 ≤ (i : Int) - 1 := by omega
                    have hi3 : (i : Int) - 1 < (n3 : Int) := by omega
                    by_cases hp : pv ≥ xn
                    · have ep : decide (pv ≥ xn) = true := decide_eq_true hp
                      have hbad : Aside0 (chk c = 74) := ⟨chk_bs hiE.out (fun h => by have := hokE.out.1 h; omega)⟩
                      go_wp2
                      go_quiet (fail)
                      go_wp2
                      go_ret
                      exact ⟨(by rw [hbad.out]; first | done | rfl), pw_below_drewN hB1.out _⟩
                    · have ep : decide (pv ≥ xn) = false := decide_eq_false hp
                      have hgood := Aside0.mk (hokE.out.2 (by omega))
                      go_wp2
                      go_quiet (fail)
                      go_wp2
                      go_roundg k1
                      case measure => omega
                      case rel => exact ⟨i + 1, rfl, by omega, ⟨fun j hj => by
                          by_cases e : j = i
                          · rw [e]; exact hgood.out
                          · exact hok.out j (by omega)⟩, hX1, ⟨pw_below_drewN hB1.out _⟩⟩
                  · have ei : decide ((i : Int) > 0) = false := decide_eq_false (by omega)
                    have hgood := Aside0.mk (hokE.out.2 (by omega))
                    go_wp2
                    go_quiet (fail)
                    go_wp2
                    go_roundg k1
                    case measure => omega
                    case rel => exact ⟨i + 1, rfl, by omega, ⟨fun j hj => by
                        by_cases e : j = i
                        · rw [e]; exact hgood.out
                        · exact hok.out j (by omega)⟩, hX1, ⟨pw_below_drewN hB1.out _⟩⟩
          | zero =>
            have hd : decide ((i : Int) < (n3 : Int)) = false := decide_eq_false (by omega)
            have hd' : decide (i < n3) = false := decide_eq_false (by omega)
            have hfin : Aside0 (chk c = 0) := ⟨chk_ok ⟨by have := hnn0.out; omega, by have := hnn0.out; omega, by have := hnn2.out; omega, hokE.out, fun j hj => hok.out j (by have := hnn3.out; omega)⟩⟩
            go_wp2
            go_ret
            exact ⟨(by rw [hfin.out]; first | done | rfl), hB.out⟩
  · have hbad : Aside0 (chk c = 74) := ⟨chk_head (fun h => hd (by have := hnn0.out; have := hnn2.out; omega))⟩
    obtain ⟨b1, e1⟩ : ∃ b, (((n0 : Int) % 2) != 0) = b := ⟨_, rfl⟩
    obtain ⟨b2, e2⟩ : ∃ b, decide ((n0 : Int) > 16384) = b := ⟨_, rfl⟩
    obtain ⟨b3, e3⟩ : ∃ b, decide ((n2 : Int) > 8192) = b := ⟨_, rfl⟩
    have hq : Aside0 (b1 = true ∨ b2 = true ∨ b3 = true) := ⟨by
      rw [← e1, ← e2, ← e3]
      simp only [decide_eq_true_eq, bne_iff_ne, ne_eq]
      omega⟩
    clear hd
    cases b1 <;> cases b2 <;> cases b3
    all_goals try (exfalso; rcases hq.out with h0 | h0 | h0 <;> cases h0 <;> done)
    all_goals
      go_enter Tryd.func37, Tryd.ntmps37
      go_wp2
      all_goals first | (go_ret; exact ⟨(by rw [hbad.out]; first | done | rfl), hB0.out⟩) | (exfalso; have h9 := of_decide_eq_true e3; omega)
end Go.Proofs.YtembdahclmffjaaDoor.Pk
/- wispref07.Decode: what its loops keep. -/
namespace Go.Proofs.YtembdahclmffjaaDoor.Pk
open Go.RowKit Go.Proofs.YtembdahclmffjaaDoorW.PrintWords Go.Proofs.YtembdahclmffjaaDoorW.PrintLast Go.Proofs.YtembdahclmffjaaDoorW.PrintMore Go.Proofs.YtembdahclmffjaaDoor.Mem
set_option linter.unusedVariables false
set_option linter.unusedSimpArgs false
theorem low4_take (d : List Int) (n i : Nat) (h : i + 3 < n) : low4 (d.take n) i = low4 d i := by
  unfold low4
  simp only [List.getD_eq_getElem?_getD, List.getElem?_take]
  rw [if_pos (by omega), if_pos (by omega), if_pos (by omega), if_pos h]
theorem getD_take (d : List Int) (n i : Nat) (h : i < n) : (d.take n).getD i 0 = d.getD i 0 := by
  simp only [List.getD_eq_getElem?_getD, List.getElem?_take]
  rw [if_pos h]
theorem infoS7 : (Tryd.prog.info? 77).map (fun i => (i.zero, i.size, i.bytes)) = some (some (.agg #[(.int .u8 0), (.int .u8 0), (.slice none 0 0)]), 3, 32) := by kernel_rfl
/-- one section behind a row of them -/
theorem appS7 {ops : Array Oper} {rest : List Oper} {o : Oper} {a : Act} {Q : Exit → Act → World → Prop} {w0 W : World} (base : Nat) (hgd : o.guard = none) (s x : Operand)
    (ho : o.op = .call { callee := .builtin .append, args := #[s, x], argTypes := #[75, 75] })
    (v : Value) (xs : List ScT) (p : ScT) (cs : List Value) (hs : a.eval s = v) (hx : a.eval x = .slice (some ⟨W.heap.size, 0, none⟩) 1 1) (hp : Kd.FK kS W (fun q => q < base) p cs)
    (HO : Kd.N kS 77 W base (fun _ => True) v xs) (HB : Below base w0 W) (hbase : base ≤ W.heap.size) (hl : (xs.length + 1) * 32 ≤ 140737488355328)
    (h : ∀ A1 c1 w1, Kd.N kS 77 w1 base (fun _ => True) (.slice A1 (xs ++ [p]).length c1) (xs ++ [p]) → Below base w0 w1 → wpList Tryd.prog ops Q rest (a.put o.dst (.slice A1 (xs ++ [p]).length c1)) w1) :
    wpList Tryd.prog ops Q (o :: rest) a (W.alloc (.cells cs.toArray 77)) :=
  Kd.N_append (P := Tryd.prog) kS (w0 := w0) base hgd s x 75 77 (.agg #[(.int .u8 0), (.int .u8 0), (.slice none 0 0)]) 32 ho Tryd.underlying75 (by rw [szS]; exact infoS7) (by rw [szS]; rfl) (by rw [szS]; decide) (by decide) v xs p cs (fun _ => True) (fun q => q < base) hs hx hp (fun k hk => ⟨trivial, fun e => by have := Kd.N_base HO k e.symm; omega⟩) (fun _ _ => trivial) HO HB hbase hl (fun v1 w1 hN hB _ _ => by
    obtain ⟨A1, c1, rfl⟩ := Kd.N_slice hN
    exact h A1 c1 w1 hN hB)
/-- the bytes ahead of the sum, in memory -/
structure Bd (w : World) (A : Option Addr) (N cap E : Nat) (b : List Int) : Prop where
  C : Kd.C (Kd.int .u8) w A E b
  len : E = b.length
  le : E + 4 = N
  cap : N ≤ cap
  bb : allB b
theorem Rh.bd {w : World} {A : Option Addr} {N cap E : Nat} {r : List Int} (h : Rh w A N cap r) (hE : E + 4 = N) : Bd w A N cap E (r.take E) := by
  have hn := h.n
  have hC := h.hC
  have hcap := h.cap
  have c := (cutT A N cap r E (by omega) (by omega)).2
  rw [hn] at hC
  exact ⟨c.2 w hC, c.1, hE, h.cap, allB_take h.bb E⟩
section
variable {w : World} {A : Option Addr} {N cap E : Nat} {b : List Int}
/-- what one entry of the table is for the walk: the entry's bytes and its two numbers, each read by low -/
structure Ent (w : World) (A : Option Addr) (N cap : Nat) (b : List Int) (i : Nat) (A9 : Option Addr) (c9 : Nat) (A6 : Option Addr) (c6 : Nat) (A2 : Option Addr) (c2 : Nat) : Prop where
  cut : ∀ W : World, (Instr.slice 22 (.slice A N cap) (some (.int .i64 (8 + 10 * (i : Int)))) (some (.int .i64 (18 + 10 * (i : Int)))) none).run Tryd.prog W = .ok (.slice A9 10 c9) W
  cut6 : ∀ W : World, (Instr.slice 22 (.slice A9 10 c9) (some (.int .i64 6)) (some (.int .i64 10)) none).run Tryd.prog W = .ok (.slice A6 4 c6) W
  cut2 : ∀ W : World, (Instr.slice 22 (.slice A9 10 c9) (some (.int .i64 2)) (some (.int .i64 6)) none).run Tryd.prog W = .ok (.slice A2 4 c2) W
  low6 : ∀ W, Below w.heap.size w W → Calls Tryd.prog 35 #[.slice A6 4 c6] W fun e w' => e = .returned (.int .i64 (siz b i)) ∧ Below W.heap.size W w'
  low2 : ∀ W, Below w.heap.size w W → Calls Tryd.prog 35 #[.slice A2 4 c2] W fun e w' => e = .returned (.int .i64 (frm b i)) ∧ Below W.heap.size W w'
  cells : ∃ a9, A9 = some a9 ∧ ∀ W, Below w.heap.size w W → W.cell? a9 = some (.int .u8 (knd b i)) ∧ W.cell? ⟨a9.block, a9.off + 1, none⟩ = some (.int .u8 (nmb b i))
theorem Bd.ent (h : Bd w A N cap E b) (i : Nat) (hi : 18 + 10 * i ≤ E) : ∃ A9 c9 A6 c6 A2 c2, Ent w A N cap b i A9 c9 A6 c6 A2 c2 := by
  have hlen := h.len
  have hcap := h.cap
  have hle := h.le
  obtain ⟨A9, k1, k2, k3, k4⟩ := cutB A N cap b (8 + 10 * i) (18 + 10 * i) (by omega) (by omega) (by omega)
  rw [show 18 + 10 * i - (8 + 10 * i) = 10 by omega] at k1 k2 k3 k4
  obtain ⟨c9, hc9⟩ : ∃ c, c = cap - (8 + 10 * i) := ⟨_, rfl⟩
  rw [← hc9] at k1 k2
  have hx : ∀ p, p + 3 < 10 → low4 ((b.drop (8 + 10 * i)).take 10) p = low4 b (8 + 10 * i + p) := fun p hp => by rw [low4_take _ _ _ hp, low4_drop]
  have hg : ∀ p, p < 10 → ((b.drop (8 + 10 * i)).take 10).getD p 0 = b.getD (8 + 10 * i + p) 0 := fun p hp => by rw [getD_take _ _ _ hp, getD_drop]
  have hB : allB ((b.drop (8 + 10 * i)).take 10) := allB_take (allB_drop h.bb _) _
  generalize (b.drop (8 + 10 * i)).take 10 = x at k3 k4 hx hg hB
  obtain ⟨A6, q1, q2, q3, q4⟩ := cutB A9 10 c9 x 6 10 (by omega) (by omega) (by omega)
  obtain ⟨A2, p1, p2, p3, p4⟩ := cutB A9 10 c9 x 2 6 (by omega) (by omega) (by omega)
  have hC : ∀ W, Below w.heap.size w W → Kd.C (Kd.int .u8) W A9 x.length x := fun W hb => by
    have := k4 W (hlen ▸ Kd.C_below h.C hb)
    rwa [k3] at this
  have hCw := hC w (Below.refl _ _)
  obtain ⟨a9, e9, _⟩ := Kd.at_int hCw 0 (by omega) (by omega)
  refine ⟨A9, c9, A6, c9 - 6, A2, c9 - 2, fun W => ?_, fun W => q1 W, fun W => p1 W, fun W hb => ?_, fun W hb => ?_, a9, e9, fun W hb => ?_⟩
  · rw [show (8 : Int) + 10 * (i : Int) = ((8 + 10 * i : Nat) : Int) by omega, show (18 : Int) + 10 * (i : Int) = ((18 + 10 * i : Nat) : Int) by omega]
    exact k1 W
  · refine (LowD (q4 W (hC W hb)) q3 q2 (allB_take (allB_drop hB _) _) (by omega) ?_).mono fun e w' hh => ⟨hh.1, drawn_below hh.2⟩
    rw [val4 (by omega), hx 6 (by omega)]
    unfold siz
    rw [show 14 + 10 * i = 8 + 10 * i + 6 by omega]
  · refine (LowD (p4 W (hC W hb)) p3 p2 (allB_take (allB_drop hB _) _) (by omega) ?_).mono fun e w' hh => ⟨hh.1, drawn_below hh.2⟩
    rw [val4 (by omega), hx 2 (by omega)]
    unfold frm
    rw [show 10 + 10 * i = 8 + 10 * i + 2 by omega]
  · have hCW := hC W hb
    subst e9
    obtain ⟨a0, e0, h0⟩ := Kd.at_int hCW 0 (by omega) (by omega)
    obtain ⟨a1, e1, h1⟩ := Kd.at_int hCW 1 (by omega) (by omega)
    cases e0
    cases e1
    have r0 : rd x 0 = knd b i := hg 0 (by omega)
    have r1 : rd x 1 = nmb b i := by
      have := hg 1 (by omega)
      unfold nmb
      rw [show 9 + 10 * i = 8 + 10 * i + 1 by omega]
      exact this
    rw [r0] at h0
    rw [r1] at h1
    refine ⟨?_, ?_⟩
    · simpa [Addr.add] using h0
    · simpa [Addr.add] using h1
/-- a section's bytes -/
theorem Bd.sec (h : Bd w A N cap E b) (a s : Nat) (has : a + s ≤ E) : ∃ A7 c7, (∀ W : World, (Instr.slice 22 (.slice A N cap) (some (.int .i64 (a : Int))) (some (.int .i64 ((a : Int) + (s : Int)))) none).run Tryd.prog W = .ok (.slice A7 s c7) W) ∧ s ≤ c7 ∧ s = ((b.drop a).take s).length ∧ ∀ W, Below w.heap.size w W → Kd.C (Kd.int .u8) W A7 s ((b.drop a).take s) := by
  have hlen := h.len
  have hcap := h.cap
  have hle := h.le
  obtain ⟨A9, k1, k2, k3, k4⟩ := cutB A N cap b a (a + s) (by omega) (by omega) (by omega)
  rw [show a + s - a = s by omega] at k1 k2 k3 k4
  refine ⟨A9, cap - a, fun W => ?_, by omega, k3, fun W hb => k4 W (hlen ▸ Kd.C_below h.C hb)⟩
  rw [show (a : Int) + (s : Int) = ((a + s : Nat) : Int) by omega]
  exact k1 W
end
theorem box4 {w : World} {g t : Nat} {x0 x1 x2 x3 : Value} (h : w.heap[g]? = some (.cells #[x0, x1, x2, x3] t (0, 0))) : w.cell? ⟨g, 0, none⟩ = some x0 ∧ w.cell? ⟨g, 1, none⟩ = some x1 ∧ w.cell? ⟨g, 2, none⟩ = some x2 ∧ w.cell? ⟨g, 3, none⟩ = some x3 ∧ w.frozen? ⟨g, 0, none⟩ = false ∧ w.frozen? ⟨g, 1, none⟩ = false ∧ w.frozen? ⟨g, 2, none⟩ = false ∧ w.frozen? ⟨g, 3, none⟩ = false :=
  ⟨(cellH h).trans rfl, (cellH h).trans rfl, (cellH h).trans rfl, (cellH h).trans rfl, by simp [World.frozen?, h], by simp [World.frozen?, h], by simp [World.frozen?, h], by simp [World.frozen?, h]⟩
/-- the sections found so far -/
structure T7 (w w1 wr : World) (b : List Int) (A7 : Option Addr) (n7 c7 i : Nat) : Prop where
  N : Kd.N kS 77 wr (w.heap.size + 1) (fun _ => True) (.slice A7 n7 c7) (secM b i)
  n : n7 = i
  bel : Below (w.heap.size + 1) w1 wr
  w1 : Below w.heap.size w w1 ∧ w1.heap.size = w.heap.size + 1
namespace T7
variable {w w1 wr W : World} {b : List Int} {A7 : Option Addr} {n7 c7 i : Nat}
theorem step (h : T7 w w1 wr b A7 n7 c7 i) (hb : Below wr.heap.size wr W) : T7 w w1 W b A7 n7 c7 i := ⟨Kd.N_below h.N hb, h.n, h.bel.trans (hb.mono (by have := h.bel.size; have := h.w1.2; omega)), h.w1⟩
theorem old (h : T7 w w1 wr b A7 n7 c7 i) : Below w.heap.size w wr := h.w1.1.trans (h.bel.mono (by omega))
theorem box (h : T7 w w1 wr b A7 n7 c7 i) {o : Obj} (hx : w1.heap[w.heap.size]? = some o) : wr.heap[w.heap.size]? = some o := (h.bel.block _ (by omega)).trans hx
theorem sz (h : T7 w w1 wr b A7 n7 c7 i) : w.heap.size + 1 ≤ wr.heap.size := by have := h.bel.size; have := h.w1.2; omega
end T7
theorem dat_le (b : List Int) (j : Nat) : (dat b j).length ≤ b.length := by
  unfold dat
  rw [List.length_take, List.length_drop]
  omega
theorem allB_dat {b : List Int} (h : allB b) (j : Nat) : allB (dat b j) := allB_take (allB_drop h _) _
theorem secOf_eq {b : List Int} {i : Nat} : secOf b i = (knd b i, nmb b i, (b.drop (ats b i).toNat).take (siz b i).toNat) := rfl
/-- a section of the row, wherever -/
theorem T7.sec {w w1 wr : World} {b : List Int} {A7 : Option Addr} {n7 c7 m : Nat} (h : T7 w w1 wr b A7 n7 c7 m) (hm : 0 < m) :
    ∃ g7, A7 = some ⟨g7, 0, none⟩ ∧ ∀ i, i < m → ∃ Ad nd cd, nd = (dat b i).length ∧ nd ≤ cd ∧ ∀ X, Below wr.heap.size wr X → X.cell? ⟨g7, i * 3 + 1, none⟩ = some (.int .u8 (nmb b i)) ∧ X.cell? ⟨g7, i * 3 + 2, none⟩ = some (.slice Ad nd cd) ∧ Kd.C (Kd.int .u8) X Ad nd (dat b i) := by
  have hn := h.n
  subst hn
  obtain ⟨g7, cap, e, hlo, hlt, _⟩ := Kd.N_form h.N (by rw [secM_len]; exact hm)
  injection e with e1 e2 e3
  subst e1
  refine ⟨g7, rfl, fun i hi => ?_⟩
  obtain ⟨c, hcl, hF, hcc, _⟩ := Kd.N_elem h.N (0, 0, []) (i : Int) (by omega) (by omega)
  rw [Int.toNat_natCast, secM_get b hi] at hF
  rw [Int.toNat_natCast, szS] at hcc
  have hK := Kd.FK_now hF
  obtain ⟨_, _, e1, k1, _, _, e2, k2, ⟨Ad, cd, e3, hl, hC⟩⟩ := hK
  have hdat : (secOf b i).2.2 = dat b i := rfl
  rw [hdat] at hl hC e3
  have hnum : (secOf b i).2.1 = nmb b i := rfl
  subst e3
  have k1' := k1
  have k2' := k2
  change _ = [Value.int .u8 (secOf b i).1] at k1
  change _ = [Value.int .u8 (secOf b i).2.1] at k2
  subst k1
  subst k2
  subst e2
  subst e1
  refine ⟨Ad, _, cd, rfl, hl, fun X hb => ?_⟩
  have q1 := hcc 1 _ rfl
  have q2 := hcc 2 _ rfl
  have hx : X.heap[g7]? = wr.heap[g7]? := hb.block g7 hlt
  refine ⟨(World.cell?_of_block (a := ⟨g7, i * 3 + 1, none⟩) hx).trans q1, (World.cell?_of_block (a := ⟨g7, i * 3 + 2, none⟩) hx).trans q2, Kd.C_below hC hb⟩
/-- bytes behind a row, in a drawn region -/
theorem appB_step {ops : Array Oper} {o : Oper} {a : Act} {Q : Exit → Act → World → Prop} {Kc : Act → World → Prop} {w0 W : World} (base : Nat) (hw : Region.wanted o (yielded ops a.tmps) = true) (s x : Operand)
    (ho : o.op = .call { callee := .builtin .append, args := #[s, x], argTypes := #[22, 22] }) (v : Value) (xs ys : List Int) (A : Option Addr) (m c : Nat) (hs : a.eval s = v) (hx : a.eval x = .slice A m c)
    (HO : Kd.R (Kd.int .u8) 5 W base (fun _ => True) v xs) (HR : Kd.C (Kd.int .u8) W A m ys) (HB : Below base w0 W) (hbase : base ≤ W.heap.size) (hl : xs.length + m ≤ 140737488355328)
    (h : ∀ v1 w1, Kd.R (Kd.int .u8) 5 w1 base (fun _ => True) v1 (xs ++ ys) → Below base w0 w1 → W.grownBy w1 v.ownBlock → Kc (a.put o.dst v1) w1) :
    if Region.wanted o (yielded ops a.tmps) = true then Oper.wp Tryd.prog o a W Kc Q else Kc (a.put o.dst undef) W :=
  Kd.R_append_rows_step (P := Tryd.prog) (Kd.int .u8) (Rr := fun x cs => cs = [Value.int .u8 x]) (w0 := w0) base hw s x 22 5 (.int .u8 0) 1 ho Tryd.underlying22 infoB rfl (by decide) (by decide) v xs ys A m c (fun _ => True) (fun _ => False) hs hx HO HR (fun _ _ h => h) (fun _ h => h.elim) (fun _ _ => trivial) HB hbase (by omega) (fun v1 w1 h1 h2 h3 _ => h v1 w1 h1 h2 h3)
theorem row0 (u : World) {B : Nat} (hB : B ≤ u.heap.size) : Kd.R (Kd.int .u8) 5 (u.alloc (.cells #[] 5)) B (fun _ => True) (.slice (some ⟨u.heap.size, 0, none⟩) 0 0) ([] : List Int) :=
  Kd.R_lower (Kd.R_of_own (h1 := fun _ => rfl) (by have h2 := World.ownsRow_made u #[] (e := 5) (size := 1) 0 (Nat.le_refl _) (Nat.zero_le _) rfl; simpa [encs] using h2) (fun _ _ => trivial)) hB
/-- the cartridge's box, empty -/
def Bx0 (X : World) (g : Nat) : Prop := X.heap[g]? = some (.cells #[.slice none 0 0, .int .u16 0, .slice none 0 0, .slice none 0 0] 28 (0, 0))
theorem Bx0.grown {X X1 : World} {g B : Nat} {v : Value} {L : List Int} (h : Bx0 X g) (hR : Kd.R (Kd.int .u8) 5 X B (fun _ => True) v L) (hg : X.grownBy X1 v.ownBlock) : Bx0 X1 g :=
  (hg.block g (heap_lt h) (Kd.R_ne hR h (by decide))).trans h
theorem Bx0.below {X X1 : World} {g : Nat} (h : Bx0 X g) (hb : Below X.heap.size X X1) : Bx0 X1 g := (hb.block g (heap_lt h)).trans h
/-- the first banks -/
def bkM (b : List Int) (j : Nat) : List BkT := (List.range j).map fun i => (nmb b (i + 2), dat b (i + 2))
theorem bkM_len (b : List Int) (j : Nat) : (bkM b j).length = j := by simp [bkM]
theorem bkM_snoc (b : List Int) (j : Nat) : bkM b (j + 1) = bkM b j ++ [(nmb b (j + 2), dat b (j + 2))] := by simp [bkM, List.range_succ]
/-- the cartridge as it grows -/
structure T9 (X wr : World) (g : Nat) (v0 v2 v3 : Value) (L2 : List EfT) (L3 : List BkT) (ent : Int) : Prop where
  F : Fr X wr (fun k => k = g)
  gx : g < X.heap.size
  r2 : Kd.R kE 80 wr X.heap.size (fun _ => True) v2 L2
  r3 : Kd.R kB 82 wr X.heap.size (fun _ => True) v3 L3
  bx : wr.heap[g]? = some (.cells #[v0, .int .u16 ent, v2, v3] 28 (0, 0))
namespace T9
variable {X wr w1 : World} {g : Nat} {v0 v2 v3 v1 : Value} {L2 L2' : List EfT} {L3 L3' : List BkT} {ent : Int}
theorem sz (h : T9 X wr g v0 v2 v3 L2 L3 ent) : X.heap.size ≤ wr.heap.size := h.F.size
theorem below (h : T9 X wr g v0 v2 v3 L2 L3 ent) (hb : Below wr.heap.size wr w1) : T9 X w1 g v0 v2 v3 L2 L3 ent :=
  ⟨h.F.trans (Fr.of_below hb (fun _ => False)) (fun _ _ e => e.elim), h.gx, Kd.R_below h.r2 hb, Kd.R_below h.r3 hb, (hb.block _ (heap_lt h.bx)).trans h.bx⟩
theorem put (hF : Fr X w1 (fun k => k = g)) (gx : g < X.heap.size) (h2 : Kd.R kE 80 w1 X.heap.size (fun _ => True) v2 L2) (h3 : Kd.R kB 82 w1 X.heap.size (fun _ => True) v3 L3) {c0 c1 c2 c3 : Value} (hx : w1.heap[g]? = some (.cells #[c0, c1, c2, c3] 28 (0, 0))) (j : Nat) (u : Value)
    (hj : (#[c0, c1, c2, c3] : Array Value).setIfInBounds j u = #[v0, .int .u16 ent, v2, v3]) : T9 X (w1.setCell ⟨g, j, none⟩ u) g v0 v2 v3 L2 L3 ent := by
  have hF1 : Fr w1 (w1.setCell ⟨g, j, none⟩ u) (fun k => k = g) := (Fr.refl w1 (fun k => k = g)).setCell (p := ⟨g, j, none⟩) (fun _ => rfl) u
  have row : ∀ {α : Type} {d : Kd α} {e : Nat} {v : Value} {xs : List α}, Kd.R d e w1 X.heap.size (fun _ => True) v xs → Kd.R d e (w1.setCell ⟨g, j, none⟩ u) X.heap.size (fun _ => True) v xs := fun hr =>
    Kd.R_mono (hF1.row (Kd.R_mono (Kd.R_bound hr) (ok' := fun k => X.heap.size ≤ k) (fun k hk => hk.2.1)) (fun k hk _ e => by omega)) (fun _ _ => trivial)
  refine ⟨hF.trans hF1 (fun _ _ e => e), gx, row h2, row h3, ?_⟩
  have := setH hx j u
  rw [hj] at this
  exact this
theorem app2 (h : T9 X wr g v0 v2 v3 L2 L3 ent) (hR : Kd.R kE 80 w1 X.heap.size (fun _ => True) v1 L2') (hb : Below X.heap.size wr w1) (hg : wr.grownBy w1 v2.ownBlock) : T9 X (w1.setCell ⟨g, 2, none⟩ v1) g v0 v1 v3 L2' L3 ent :=
  put (h.F.trans (T := fun k => X.heap.size ≤ k) ⟨hb.os, hb.tape, hb.output, hb.size, fun k hk hn => hb.block k (by omega)⟩ (fun k hk e => by omega)) h.gx hR (Kd.R_over' h.r3 (Kd.R_typed h.r2) (by intro q hq; simp [kB, Kd.pair, Kd.slice, Kd.int, Kd.scalar] at hq; rcases hq with rfl | rfl <;> decide) hg) ((hb.block _ h.gx).trans h.bx) 2 v1 rfl
theorem app3 (h : T9 X wr g v0 v2 v3 L2 L3 ent) (hR : Kd.R kB 82 w1 X.heap.size (fun _ => True) v1 L3') (hb : Below X.heap.size wr w1) (hg : wr.grownBy w1 v3.ownBlock) : T9 X (w1.setCell ⟨g, 3, none⟩ v1) g v0 v2 v1 L2 L3' ent :=
  put (h.F.trans (T := fun k => X.heap.size ≤ k) ⟨hb.os, hb.tape, hb.output, hb.size, fun k hk hn => hb.block k (by omega)⟩ (fun k hk e => by omega)) h.gx (Kd.R_over' h.r2 (Kd.R_typed h.r3) (by intro q hq; simp [kE, Kd.pair, Kd.int, Kd.scalar] at hq; rw [hq]; decide) hg) hR ((hb.block _ h.gx).trans h.bx) 3 v1 rfl
theorem cellU (h : T9 X wr g v0 v2 v3 L2 L3 ent) (hb : Below X.heap.size wr w1) (j : Nat) {u : Value} (hj : (#[v0, .int .u16 ent, v2, v3] : Array Value)[j]? = some u) : w1.cell? ⟨g, j, none⟩ = some u ∧ w1.frozen? ⟨g, j, none⟩ = false := by
  have k2 := (hb.block _ h.gx).trans h.bx
  exact ⟨by simp [World.cell?, k2, hj], by simp [World.frozen?, k2]⟩
theorem old9 (h : T9 X wr g v0 v2 v3 L2 L3 ent) {W6 : World} (hX : Below W6.heap.size W6 X) (hg : W6.heap.size ≤ g) : Below W6.heap.size W6 wr := hX.trans (h.F.below hX.size (fun k hk e => by omega))
/-- what lies in older blocks, but for the box, is there -/
theorem code (h : T9 X wr g v0 v2 v3 L2 L3 ent) {B : Nat} {d : List Int} (hR : Kd.R (Kd.int .u8) 5 X B (fun _ => True) v0 d) (hb : Bx0 X g) : ∃ A0 c0, v0 = .slice A0 d.length c0 ∧ d.length ≤ c0 ∧ Kd.C (Kd.int .u8) wr A0 d.length d := by
  have h1 := Kd.R_mono (Kd.R_tight rfl hR) (ok' := fun k => k ≠ g) (fun k hk e => Kd.R_ne hR hb (by decide) (by rw [← e]; exact hk))
  obtain ⟨A0, c0, e, hl, hC⟩ := Kd.R_reads (h.F.row h1 (fun k hk _ e => hk e))
  exact ⟨A0, c0, e, hl, hC⟩
end T9
theorem setAll {w : World} {g : Nat} {x0 x1 x2 x3 : Value} (hx : w.heap[g]? = some (.cells #[x0, x1, x2, x3] 28 (0, 0))) (v0 : Value) (ent : Int) :
    T9 w ((((w.setCell ⟨g, 0, none⟩ v0).setCell ⟨g, 1, none⟩ (.int .u16 ent)).setCell ⟨g, 2, none⟩ (.slice none 0 0)).setCell ⟨g, 3, none⟩ (.slice none 0 0)) g v0 (.slice none 0 0) (.slice none 0 0) [] [] ent :=
  ⟨put4F w g _ _ _ _, heap_lt hx, Kd.R_nil _ _ _ _ _, Kd.R_nil _ _ _ _ _, put4 hx _ _ _ _⟩
/-- append of an effect, of a bank with its bytes, in a drawn region -/
theorem appBkD {ops : Array Oper} {o : Oper} {a : Act} {Q : Exit → Act → World → Prop} {Kc : Act → World → Prop} {W : World} (base : Nat) (hw : Region.wanted o (yielded ops a.tmps) = true) (s x : Operand)
    (ho : o.op = .call { callee := .builtin .append, args := #[s, x], argTypes := #[26, 26] }) (v : Value) (xs : List BkT) (D : Int) (vd : Value) (d : List Int) (B : Nat) (hs : a.eval s = v) (hx : a.eval x = .slice (some ⟨W.heap.size, 0, none⟩) 1 1)
    (hd : Kd.R (Kd.int .u8) 5 W base (fun k => B ≤ k) vd d) (hB : ∀ k, v.ownBlock = some k → k < B)
    (HO : Kd.R kB 82 W base (fun _ => True) v xs) (hbase : base ≤ W.heap.size) (hl : (xs.length + 1) * 32 ≤ 140737488355328)
    (h : ∀ v1 w1, Kd.R kB 82 w1 base (fun _ => True) v1 (xs ++ [(D, d)]) → Below base W w1 → W.grownBy w1 v.ownBlock → Kc (a.put o.dst v1) w1) :
    if Region.wanted o (yielded ops a.tmps) = true then Oper.wp Tryd.prog o a (W.alloc (.cells #[.int .i64 D, vd] 82)) Kc Q else Kc (a.put o.dst undef) (W.alloc (.cells #[.int .i64 D, vd] 82)) :=
  Kd.R_append_step (P := Tryd.prog) kB (w0 := W) base hw s x 26 82 (.agg #[(.int .i64 0), (.slice none 0 0)]) 32 ho Tryd.underlying26 (by rw [szB]; exact infoBk) (by rw [szB]; rfl) (by rw [szB]; decide) (by decide) v xs (D, d) [.int .i64 D, vd] (fun _ => True) (fun k => B ≤ k) hs hx (kB_mkM _ _ _ _ hd) (fun k hk => ⟨trivial, fun e => by have := hB k e.symm; omega⟩) (fun _ _ => trivial) HO (Below.refl _ _) hbase hl (fun v1 w1 hN hB hg _ => h v1 w1 hN hB hg)
/-- six bytes of an effect -/
theorem eff6 {Ad : Option Addr} {nd cd : Nat} {d : List Int} (hn : nd = d.length) (hcd : nd ≤ cd) (hB : allB d) (i : Nat) (hi : i + 6 ≤ nd) :
    ∃ Ax cx A2 c2 A4 c4, (if cd = i then Ad else Option.map (fun x => x.add i) Ad) = Ax ∧ cd - i = cx ∧ (∀ W : World, (Instr.slice 22 (.slice Ax 6 cx) none (some (.int .i64 2)) none).run Tryd.prog W = .ok (.slice Ax 2 cx) W) ∧ (∀ W : World, (Instr.slice 22 (.slice Ax 6 cx) (some (.int .i64 2)) (some (.int .i64 4)) none).run Tryd.prog W = .ok (.slice A2 2 c2) W) ∧ (∀ W : World, (Instr.slice 22 (.slice Ax 6 cx) (some (.int .i64 4)) (some (.int .i64 6)) none).run Tryd.prog W = .ok (.slice A4 2 c4) W) ∧
      ∀ X, Kd.C (Kd.int .u8) X Ad nd d → (Calls Tryd.prog 35 #[.slice Ax 2 cx] X fun e w' => e = .returned (.int .i64 (low2 d i)) ∧ Below X.heap.size X w') ∧ (Calls Tryd.prog 35 #[.slice A2 2 c2] X fun e w' => e = .returned (.int .i64 (low2 d (i + 2))) ∧ Below X.heap.size X w') ∧ (Calls Tryd.prog 35 #[.slice A4 2 c4] X fun e w' => e = .returned (.int .i64 (low2 d (i + 4))) ∧ Below X.heap.size X w') := by
  have k2 : 6 ≤ cd - i := by omega
  have k3 : 6 = ((d.drop i).take 6).length := by rw [List.length_take, List.length_drop]; omega
  have k4 : ∀ W, Kd.C (Kd.int .u8) W Ad d.length d → Kd.C (Kd.int .u8) W (if cd = i then Ad else Option.map (fun x => x.add i) Ad) 6 ((d.drop i).take 6) := fun W h => by
    have h1 := Kd.C_drop h (show i ≤ d.length by omega) (show d.length ≤ cd by omega)
    have h2 := Kd.C_take (m := 6) h1 (by rw [List.length_drop]; omega)
    rw [← k3] at h2
    simpa [show (Kd.int .u8).sz = 1 from rfl] using h2
  generalize hAx : (if cd = i then Ad else Option.map (fun x => x.add i) Ad) = Ax at k4
  have hx : ∀ p, p + 1 < 6 → low2 ((d.drop i).take 6) p = low2 d (i + p) := fun p hp => by rw [low2_take _ _ _ hp, low2_drop]
  have hBx : allB ((d.drop i).take 6) := allB_take (allB_drop hB _) _
  generalize (d.drop i).take 6 = x at k3 k4 hx hBx
  obtain ⟨cx, hcx⟩ : ∃ c, c = cd - i := ⟨_, rfl⟩
  rw [← hcx] at k2
  obtain ⟨p1, p2, p3⟩ := cutT Ax 6 cx x 2 (by omega) (by omega)
  obtain ⟨A2, q1, q2, q3, q4⟩ := cutB Ax 6 cx x 2 4 (by omega) (by omega) (by omega)
  obtain ⟨A4, r1, r2, r3, r4⟩ := cutB Ax 6 cx x 4 6 (by omega) (by omega) (by omega)
  refine ⟨Ax, cx, A2, cx - 2, A4, cx - 4, rfl, hcx.symm, fun W => p1 W, fun W => q1 W, fun W => r1 W, fun X hC => ?_⟩
  · have hCx := k4 X (hn ▸ hC)
    rw [k3] at hCx
    refine ⟨(LowD (p3 X hCx) p2 (by omega) (allB_take hBx _) (by omega) ?_).mono fun e w' hh => ⟨hh.1, drawn_below hh.2⟩, (LowD (q4 X hCx) q3 q2 (allB_take (allB_drop hBx _) _) (by omega) ?_).mono fun e w' hh => ⟨hh.1, drawn_below hh.2⟩, (LowD (r4 X hCx) r3 r2 (allB_take (allB_drop hBx _) _) (by omega) ?_).mono fun e w' hh => ⟨hh.1, drawn_below hh.2⟩⟩
    · have := val2 (b := x) (p := 0) (by omega)
      rw [List.drop_zero] at this
      rw [this, hx 0 (by omega)]; rfl
    · rw [val2 (by omega), hx 2 (by omega)]
    · rw [val2 (by omega), hx 4 (by omega)]
/-- two bytes of the head -/
theorem Bd.head {w : World} {A : Option Addr} {N cap E : Nat} {b : List Int} (h : Bd w A N cap E b) (h8 : 8 ≤ E) : ∃ A6 c6, (∀ W : World, (Instr.slice 22 (.slice A N cap) (some (.int .i64 6)) (some (.int .i64 8)) none).run Tryd.prog W = .ok (.slice A6 2 c6) W) ∧ ∀ X, Below w.heap.size w X → Calls Tryd.prog 35 #[.slice A6 2 c6] X fun e w' => e = .returned (.int .i64 (low2 b 6)) ∧ Below X.heap.size X w' := by
  have hlen := h.len
  have hcap := h.cap
  have hle := h.le
  obtain ⟨A6, k1, k2, k3, k4⟩ := cutB A N cap b 6 8 (by omega) (by omega) (by omega)
  refine ⟨A6, cap - 6, fun W => k1 W, fun X hb => ?_⟩
  refine (LowD (k4 X (hlen ▸ Kd.C_below h.C hb)) k3 k2 (allB_take (allB_drop h.bb _) _) (by omega) ?_).mono fun e w' hh => ⟨hh.1, drawn_below hh.2⟩
  exact val2 (by omega)
/-- the cartridge that was read -/
theorem ref_ct {X wr : World} {g B n0 n2 c2 n3 c3 c1 : Nat} {A1 A2 A3 : Option Addr} {L2 : List EfT} {L3 : List BkT} {lo : Int} {d : List Int} {c : CartP} (h : T9 X wr g (.slice A1 n0 c1) (.slice A2 n2 c2) (.slice A3 n3 c3) L2 L3 lo) (hR : Kd.R (Kd.int .u8) 5 X B (fun _ => True) (.slice A1 n0 c1) d) (hx : Bx0 X g) (hn : n0 = d.length) (hc : c = ⟨d, lo, L2, L3⟩) :
    CtV wr (.agg #[.slice A1 n0 c1, .int .u16 lo, .slice A2 n2 c2, .slice A3 n3 c3]) c := by
  obtain ⟨A0, c0, e, hl, hC⟩ := h.code hR hx
  injection e with e1 e2 e3
  subst e1 e3
  obtain ⟨h21, h22, h23⟩ := Kd.R_reads' h.r2
  obtain ⟨h31, h32, h33⟩ := Kd.R_reads' h.r3
  subst hn h21 h31 hc
  exact ⟨_, _, _, _, _, _, rfl, hC, h23, h33, hl, h22, h32⟩
/-- the same behind a store into an older block -/
theorem ref_ct2 {X wr Y : World} {g B R b0 n0 n2 c2 n3 c3 c1 : Nat} {A1 A2 A3 : Option Addr} {L2 : List EfT} {L3 : List BkT} {lo : Int} {d : List Int} {c : CartP} (h : T9 X wr g (.slice A1 n0 c1) (.slice A2 n2 c2) (.slice A3 n3 c3) L2 L3 lo) (hR : Kd.R (Kd.int .u8) 5 X B (fun _ => True) (.slice A1 n0 c1) d) (hx : Bx0 X g) (hn : n0 = d.length) (hc : c = ⟨d, lo, L2, L3⟩)
    (hF : Fr wr Y (fun k => k = R)) (hRB : R < B) (hBX : B ≤ X.heap.size) (hb0 : b0 ≤ B) : CtF b0 Y (.agg #[.slice A1 n0 c1, .int .u16 lo, .slice A2 n2 c2, .slice A3 n3 c3]) c := by
  intro Z S hZ hS
  have h1 := Kd.R_mono (Kd.R_bound (Kd.R_tight rfl hR)) (ok' := fun k => k ≠ g ∧ B ≤ k) (fun k hk => ⟨fun e => Kd.R_ne hR hx (by decide) (by rw [← e]; exact hk.1), hk.2.1⟩)
  have hF1 : Fr wr Z (fun k => k = R ∨ k < b0) := (hF.mono (T := fun k => k = R ∨ k < b0) (fun k _ e => .inl e)).trans (hZ.mono (T := fun k => k < b0) (fun k hk e => hS k hk e)) (fun k _ e => .inr e)
  have hF2 : Fr X Z (fun k => k = g ∨ k = R ∨ k < b0) := (h.F.mono (T := fun k => k = g ∨ k = R ∨ k < b0) (fun k _ e => .inl e)).trans hF1 (fun k _ e => .inr e)
  have row : ∀ {α : Type} {k : Kd α} {e : Nat} {v : Value} {xs : List α}, Kd.R k e wr X.heap.size (fun _ => True) v xs → Kd.R k e Z X.heap.size (fun _ => True) v xs := fun hr =>
    Kd.R_mono (hF1.row (Kd.R_mono (Kd.R_bound hr) (ok' := fun k => X.heap.size ≤ k) (fun k hk => hk.2.1)) (fun k hk _ e => by omega)) (fun _ _ => trivial)
  obtain ⟨A0, c0, e, hl, hC⟩ := Kd.R_reads (hF2.row h1 (fun k hk _ e => by rcases e with e | e; exact hk.1 e; have := hk.2; omega))
  injection e with e1 e2 e3
  subst e1 e3
  obtain ⟨h21, h22, h23⟩ := Kd.R_reads' (row h.r2)
  obtain ⟨h31, h32, h33⟩ := Kd.R_reads' (row h.r3)
  subst hn h21 h31 hc
  exact ⟨_, _, _, _, _, _, rfl, hC, h23, h33, hl, h22, h32⟩
end Go.Proofs.YtembdahclmffjaaDoor.Pk
