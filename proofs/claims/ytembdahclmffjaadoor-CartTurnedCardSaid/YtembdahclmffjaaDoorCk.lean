/- Cartridges in memory: their kinds; what both Checks answer. -/
import Derived.Test.YtembdahclmffjaaDoorZa
import Derived.Test.YtembdahclmffjaaDoorPx2
namespace Go.Proofs.YtembdahclmffjaaDoor.Pk
open Go.RowKit Go.Proofs.YtembdahclmffjaaDoorW.PrintWords Go.Proofs.YtembdahclmffjaaDoorW.PrintLast Go.Proofs.YtembdahclmffjaaDoorW.PrintMore Go.Proofs.YtembdahclmffjaaDoor.Mem
open P (S80 S82 rd_T80 rd_T82 k80 k82 z80 z82)
set_option linter.unusedVariables false
set_option linter.unusedSimpArgs false
def kE : Kd EfT := Kd.pair (Kd.int .u16) (Kd.pair (Kd.int .i64) (Kd.int .i64))
def kB : Kd BkT := Kd.pair (Kd.int .i64) (Kd.slice 5 (Kd.int .u8))
def kS : Kd ScT := Kd.pair (Kd.int .u8) (Kd.pair (Kd.int .u8) (Kd.slice 5 (Kd.int .u8)))
def gE (x : EfT) : S80 := ⟨x.1, x.2.1, x.2.2⟩
def gB (x : BkT) : S82 := ⟨x.1, x.2⟩
theorem C_map {α β : Type} {d : Kd α} {f : β → α} {g : α → β} (hg : ∀ x, f (g x) = x) {w : World} {A : Option Addr} {n : Nat} {xs : List α} (h : d.C w A n xs) : (Kd.iso d f).C w A n (xs.map g) := by
  obtain ⟨h1, h2, h3⟩ := h
  refine ⟨by rw [List.length_map]; exact h1, h2, fun hn => ?_⟩
  obtain ⟨ad, e, hc⟩ := h3 hn
  refine ⟨ad, e, fun j p hj => ?_⟩
  rw [List.getElem?_map] at hj
  obtain ⟨x, hx, rfl⟩ := Option.map_eq_some_iff.1 hj
  obtain ⟨cs, hl, hK, hcc⟩ := hc j x hx
  refine ⟨cs, hl, ?_, hcc⟩
  show d.K w (f (g x)) cs
  rw [hg]; exact hK
theorem C_gE {w : World} {A : Option Addr} {n : Nat} {xs : List EfT} (h : kE.C w A n xs) : k80.C w A n (xs.map gE) := C_map (g := gE) (fun _ => rfl) h
theorem C_gB {w : World} {A : Option Addr} {n : Nat} {xs : List BkT} (h : kB.C w A n xs) : k82.C w A n (xs.map gB) := C_map (g := gB) (fun _ => rfl) h
theorem rdE (es : List EfT) (i : Nat) : rd_T80 (es.map gE) (i : Int) = gE (es.getD i (0, 0, 0)) := by
  unfold P.rd_T80
  rw [Int.toNat_natCast, List.getD_eq_getElem?_getD, List.getD_eq_getElem?_getD, List.getElem?_map]
  cases es[i]? <;> rfl
theorem rdBk (bs : List BkT) (i : Nat) : rd_T82 (bs.map gB) (i : Int) = gB (bs.getD i (0, [])) := by
  unfold P.rd_T82
  rw [Int.toNat_natCast, List.getD_eq_getElem?_getD, List.getD_eq_getElem?_getD, List.getElem?_map]
  cases bs[i]? <;> rfl
open Classical in
noncomputable def resB (bs : List BkT) (i : Nat) : Int := if ∀ j, i ≤ j → j < bs.length → okB bs j then 0 else 74
open Classical in
noncomputable def resE (es : List EfT) (i : Nat) : Int := if ∀ j, i ≤ j → j < es.length → okE es j then 0 else 74
theorem resB_end {bs : List BkT} {i : Nat} (h : bs.length ≤ i) : resB bs i = 0 := if_pos (fun j h1 h2 => by omega)
theorem resE_end {es : List EfT} {i : Nat} (h : es.length ≤ i) : resE es i = 0 := if_pos (fun j h1 h2 => by omega)
theorem resB_bad {bs : List BkT} {i : Nat} (h : i < bs.length) (hb : ¬ okB bs i) : resB bs i = 74 := if_neg (fun hn => hb (hn i (Nat.le_refl _) h))
theorem resE_bad {es : List EfT} {i : Nat} (h : i < es.length) (hb : ¬ okE es i) : resE es i = 74 := if_neg (fun hn => hb (hn i (Nat.le_refl _) h))
theorem resB_ok {bs : List BkT} {i : Nat} (hb : okB bs i) : resB bs i = resB bs (i + 1) := by
  unfold resB
  congr 1
  apply propext
  constructor
  · intro h j h1 h2; exact h j (by omega) h2
  · intro h j h1 h2
    by_cases e : j = i
    · rw [e]; exact hb
    · exact h j (by omega) h2
theorem resE_ok {es : List EfT} {i : Nat} (hb : okE es i) : resE es i = resE es (i + 1) := by
  unfold resE
  congr 1
  apply propext
  constructor
  · intro h j h1 h2; exact h j (by omega) h2
  · intro h j h1 h2
    by_cases e : j = i
    · rw [e]; exact hb
    · exact h j (by omega) h2
theorem chk_eq (c : CartP) : chk c = if c.code.length % 2 = 0 ∧ c.code.length ≤ 16384 ∧ c.efs.length ≤ 8192 then (if resE c.efs 0 = 0 then resB c.bks 0 else 74) else 74 := by
  unfold chk
  by_cases h : OkC c
  · have e1 : resE c.efs 0 = 0 := if_pos (fun j _ h2 => h.es j h2)
    have e2 : resB c.bks 0 = 0 := if_pos (fun j _ h2 => h.bs j h2)
    rw [if_pos h, if_pos ⟨h.ev, h.cl, h.el⟩, if_pos e1, e2]
  · rw [if_neg h]
    split
    · rename_i h1
      split
      · rename_i h2
        unfold resB
        rw [if_neg]
        intro h3
        apply h
        refine ⟨h1.1, h1.2.1, h1.2.2, fun i hi => ?_, fun i hi => h3 i (Nat.zero_le _) hi⟩
        unfold resE at h2
        split at h2
        · rename_i h4; exact h4 i (Nat.zero_le _) hi
        · omega
      · rfl
    · rfl
theorem within_f (x m : Int) : P.cart_within.f x m = some (decide (0 ≤ x ∧ x ≤ m)) := by
  unfold P.cart_within.f
  by_cases h : x ≥ 0
  · rw [if_pos h]
    congr 1
    rw [decide_eq_decide]
    exact ⟨fun h1 => ⟨h, h1⟩, fun h1 => h1.2⟩
  · rw [if_neg h, decide_eq_false (fun h1 => h h1.1)]
theorem wrap_add1 {i : Nat} (h : i < 4611686018427387904) : wrap64 ((i : Int) + 1) = ((i + 1 : Nat) : Int) := by unfold wrap64; omega
theorem wrap_sub1 {i : Nat} (h : i < 4611686018427387904) (h0 : 0 < i) : wrap64 ((i : Int) - 1) = ((i - 1 : Nat) : Int) := by unfold wrap64; omega
section
variable (l0 : List Int) (a1 : Int) (es : List EfT) (bs : List BkT)
theorem chk_l1 (hb : bs.length < 4611686018427387904) : ∀ d i k, i + d = bs.length → d < k → P.cart_Check.l1 k (bs.map gB) (bs.length : Int) (i : Int) l0 a1 (es.map gE) (bs.map gB) = some (resB bs i) := by
  intro d
  induction d with
  | zero =>
    intro i k hi hk
    obtain ⟨k, rfl⟩ : ∃ m, k = m + 1 := ⟨k - 1, by omega⟩
    simp only [P.cart_Check.l1]
    rw [if_neg (by omega), resB_end (by omega)]
  | succ d ih =>
    intro i k hi hk
    obtain ⟨k, rfl⟩ : ∃ m, k = m + 1 := ⟨k - 1, by omega⟩
    have hn := ih (i + 1) k (by omega) (by omega)
    have hl : i < bs.length := by omega
    simp only [P.cart_Check.l1, within_f, Option.bind_some, decide_eq_true_eq, List.length_map, rdBk]
    rw [if_pos (show (i : Int) < (bs.length : Int) by omega), if_pos (show (0 : Int) ≤ (i : Int) by omega), if_pos (show (i : Int) < (bs.length : Int) by omega), wrap_add1 (by omega)]
    generalize hx : bs.getD i (0, []) = x at *
    have hgb : ∀ y : BkT, (gB y).f0 = y.1 ∧ (gB y).f1 = y.2 := fun y => ⟨rfl, rfl⟩
    simp only [hgb]
    by_cases h1 : 0 ≤ x.1 ∧ x.1 ≤ 15
    · rw [if_pos h1]
      by_cases h2 : (x.2.length : Int) > 16384
      · rw [if_pos h2, resB_bad hl (fun h => by unfold okB at h; rw [hx] at h; omega)]
      · rw [if_neg h2]
        by_cases h3 : (i : Int) > 0
        · rw [if_pos h3, wrap_sub1 (by omega) (by omega), if_pos (show (0 : Int) ≤ ((i - 1 : Nat) : Int) by omega), if_pos (show ((i - 1 : Nat) : Int) < (bs.length : Int) by omega), rdBk]
          simp only [hgb]
          by_cases h4 : x.1 ≤ (bs.getD (i - 1) (0, [])).1
          · rw [if_pos h4, resB_bad hl (fun h => by unfold okB at h; rw [hx] at h; have := h.2.2.2 (by omega); omega)]
          · rw [if_neg h4, hn, resB_ok (i := i) (by unfold okB; rw [hx]; exact ⟨h1.1, h1.2, by omega, fun _ => by omega⟩)]
        · rw [if_neg h3, hn, resB_ok (i := i) (by unfold okB; rw [hx]; exact ⟨h1.1, h1.2, by omega, fun _ => by omega⟩)]
    · rw [if_neg h1, resB_bad hl (fun h => by unfold okB at h; rw [hx] at h; exact h1 ⟨h.1, h.2.1⟩)]
theorem chk_l0 (he : es.length < 4611686018427387904) (hb : bs.length < 4611686018427387904) : ∀ d i k, i + d = es.length → d + bs.length + 1 < k → P.cart_Check.l0 k (es.map gE) (es.length : Int) (i : Int) l0 a1 (es.map gE) (bs.map gB) = some (if resE es i = 0 then resB bs 0 else 74) := by
  intro d
  induction d with
  | zero =>
    intro i k hi hk
    obtain ⟨k, rfl⟩ : ∃ m, k = m + 1 := ⟨k - 1, by omega⟩
    simp only [P.cart_Check.l0]
    have h1 := chk_l1 l0 a1 es bs hb bs.length 0 k (by omega) (by omega)
    rw [if_neg (by omega), resE_end (by omega), if_pos rfl, List.length_map]
    exact h1
  | succ d ih =>
    intro i k hi hk
    obtain ⟨k, rfl⟩ : ∃ m, k = m + 1 := ⟨k - 1, by omega⟩
    have hn := ih (i + 1) k (by omega) (by omega)
    have hl : i < es.length := by omega
    simp only [P.cart_Check.l0, within_f, Option.bind_some, decide_eq_true_eq, List.length_map, rdE]
    rw [if_pos (show (i : Int) < (es.length : Int) by omega), if_pos (show (0 : Int) ≤ (i : Int) by omega), if_pos (show (i : Int) < (es.length : Int) by omega), wrap_add1 (by omega)]
    generalize hx : es.getD i (0, 0, 0) = x at *
    have hge : ∀ y : EfT, (gE y).f0 = y.1 ∧ (gE y).f1 = y.2.1 ∧ (gE y).f2 = y.2.2 := fun y => ⟨rfl, rfl, rfl⟩
    simp only [hge]
    have bad : ∀ h : ¬ okE es i, some (74 : Int) = some (if resE es i = 0 then resB bs 0 else 74) := fun h => by rw [resE_bad hl h, if_neg (by omega)]
    by_cases h1 : 0 ≤ x.2.1 ∧ x.2.1 ≤ 256
    · rw [if_pos h1]
      by_cases h2 : 0 ≤ x.2.2 ∧ x.2.2 ≤ 256
      · rw [if_pos h2]
        by_cases h3 : (i : Int) > 0
        · rw [if_pos h3, wrap_sub1 (by omega) (by omega), if_pos (show (0 : Int) ≤ ((i - 1 : Nat) : Int) by omega), if_pos (show ((i - 1 : Nat) : Int) < (es.length : Int) by omega), rdE]
          simp only [hge]
          by_cases h4 : x.1 ≤ (es.getD (i - 1) (0, 0, 0)).1
          · rw [if_pos h4]; exact bad (fun h => by unfold okE at h; rw [hx] at h; have := h.2.2.2.2 (by omega); omega)
          · rw [if_neg h4, hn, resE_ok (i := i) (by unfold okE; rw [hx]; exact ⟨h1.1, h1.2, h2.1, h2.2, fun _ => by omega⟩)]
        · rw [if_neg h3, hn, resE_ok (i := i) (by unfold okE; rw [hx]; exact ⟨h1.1, h1.2, h2.1, h2.2, fun _ => by omega⟩)]
      · rw [if_neg h2]; exact bad (fun h => by unfold okE at h; rw [hx] at h; exact h2 ⟨h.2.2.1, h.2.2.2.1⟩)
    · rw [if_neg h1]; exact bad (fun h => by unfold okE at h; rw [hx] at h; exact h1 ⟨h.1, h.2.1⟩)
theorem chk_f (he : es.length < 4611686018427387904) (hb : bs.length < 4611686018427387904) : P.cart_Check.f (es.length + bs.length + 3) l0 a1 (es.map gE) (bs.map gB) = some (chk ⟨l0, a1, es, bs⟩) := by
  unfold P.cart_Check.f
  rw [chk_eq]
  simp only [List.length_map]
  have h0 := chk_l0 l0 a1 es bs he hb es.length 0 (es.length + bs.length + 2) (by omega) (by omega)
  have hj : ∀ b, P.cart_Check.j0 (es.length + bs.length + 3) b l0 a1 (es.map gE) (bs.map gB) = if b = true then some 74 else some (if resE es 0 = 0 then resB bs 0 else 74) := fun b => by
    simp only [P.cart_Check.j0, List.length_map]
    split
    · rfl
    · exact h0
  simp only [hj, if_true, decide_eq_true_eq]
  by_cases h1 : (l0.length : Int) % 2 = 0
  · rw [if_pos h1]
    by_cases h2 : (l0.length : Int) > 16384
    · rw [if_pos h2, if_neg (by omega)]
    · rw [if_neg h2]
      by_cases h3 : (es.length : Int) > 8192
      · rw [if_pos h3, if_neg (by omega)]
      · rw [if_neg h3, if_pos (show l0.length % 2 = 0 ∧ l0.length ≤ 16384 ∧ es.length ≤ 8192 by omega)]
  · rw [if_neg h1, if_neg (by omega)]
end
/-- a cartridge that is read: its value -/
def crt (A0 : Option Addr) (c0 : Nat) (A2 : Option Addr) (c2 : Nat) (A3 : Option Addr) (c3 : Nat) (c : CartP) : Value := .agg #[.slice A0 c.code.length c0, .int .u16 c.entry, .slice A2 c.efs.length c2, .slice A3 c.bks.length c3]
structure IsC (w : World) (A0 : Option Addr) (c0 : Nat) (A2 : Option Addr) (c2 : Nat) (A3 : Option Addr) (c3 : Nat) (c : CartP) : Prop where
  code : Kd.C (Kd.int .u8) w A0 c.code.length c.code
  efs : Kd.C kE w A2 c.efs.length c.efs
  bks : Kd.C kB w A3 c.bks.length c.bks
  l0 : c.code.length ≤ c0
  l2 : c.efs.length ≤ c2
  l3 : c.bks.length ≤ c3
theorem kE_heap : Kd.Heap kE := Kd.heap_pair (Kd.heap_int .u16) (Kd.heap_pair (Kd.heap_int .i64) (Kd.heap_int .i64))
theorem kB_heap : Kd.Heap kB := Kd.heap_pair (Kd.heap_int .i64) (Kd.heap_slice 5 (Kd.heap_int .u8))
theorem kS_heap : Kd.Heap kS := Kd.heap_pair (Kd.heap_int .u8) (Kd.heap_pair (Kd.heap_int .u8) (Kd.heap_slice 5 (Kd.heap_int .u8)))
theorem IsC.below {w w' : World} {A0 A2 A3 : Option Addr} {c0 c2 c3 : Nat} {c : CartP} (h : IsC w A0 c0 A2 c2 A3 c3 c) (hb : Below w.heap.size w w') : IsC w' A0 c0 A2 c2 A3 c3 c := ⟨Kd.C_below h.code hb, Kd.C_below h.efs hb, Kd.C_below h.bks hb, h.l0, h.l2, h.l3⟩
theorem Check {w : World} {A0 A2 A3 : Option Addr} {c0 c2 c3 : Nat} {c : CartP} (h : IsC w A0 c0 A2 c2 A3 c3 c) (he : c.efs.length < 4611686018427387904) (hb : c.bks.length < 4611686018427387904) :
    Calls Tryd.prog 17 #[crt A0 c0 A2 c2 A3 c3 c] w fun e w' => e = .returned (.int .i64 (chk c)) ∧ Below w.heap.size w w' := by
  have h2 := C_gE h.efs
  have h3 := C_gB h.bks
  have k := P.cart_Check.calls (c.efs.length + c.bks.length + 3) A0 c0 c.code c.entry A2 c2 (c.efs.map gE) A3 c3 (c.bks.map gB) (chk c) w h.code h.l0 (by rw [List.length_map]; exact h2) (by rw [List.length_map]; exact h.l2) (by rw [List.length_map]; exact h3) (by rw [List.length_map]; exact h.l3) (chk_f c.code c.entry c.efs c.bks he hb)
  rw [List.length_map, List.length_map] at k
  exact k
end Go.Proofs.YtembdahclmffjaaDoor.Pk
