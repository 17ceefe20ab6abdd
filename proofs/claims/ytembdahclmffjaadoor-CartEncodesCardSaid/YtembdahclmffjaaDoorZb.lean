import Derived.Test.YtembdahclmffjaaDoorZa
import Derived.Test.YtembdahclmffjaaDoorPx1
import Derived.Lib.Hide
import Derived.Lib.SlBytesConst
import Derived.WalkLawsBesides
/- Cartridges in memory: their kinds; what both Checks answer. -/
namespace Go.Proofs.YtembdahclmffjaaDoor.Pk
open Go.RowKit Go.Proofs.YtembdahclmffjaaDoorW.PrintWords Go.Proofs.YtembdahclmffjaaDoorW.PrintLast Go.Proofs.YtembdahclmffjaaDoorW.PrintMore Go.Proofs.YtembdahclmffjaaDoor.Mem
open P (S80 S82 rd_T80 rd_T82 k80 k82 z80 z82)
set_option linter.unusedVariables false
set_option linter.unusedSimpArgs false
def kE : Kd EfT := Kd.pair (Kd.int .u16) (Kd.pair (Kd.int .i64) (Kd.int .i64))
def kB : Kd BkT := Kd.pair (Kd.int .i64) (Kd.slice 5 (Kd.int .u8))
def kS : Kd ScT := Kd.pair (Kd.int .u8) (Kd.pair (Kd.int .u8) (Kd.slice 5 (Kd.int .u8)))
def gE (x : EfT) : S80 := ⟨x.1, x.2.1, x.2.2⟩
def gB (x : BkT) : S82 := ⟨x.1, x.2⟩
theorem C_map {α β : Type} {d : Kd α} {f : β → α} {g : α → β} (hg : ∀ x, f (g x) = x) {w : World} {A : Option Addr} {n : Nat} {xs : List α} (h : d.C w A n xs) : (Kd.iso d f).C w A n (xs.map g) := by
  obtain ⟨h1, h2, h3⟩ := h
  refine ⟨by rw [List.length_map]; exact h1, h2, fun hn => ?_⟩
  obtain ⟨ad, e, hc⟩ := h3 hn
  refine ⟨ad, e, fun j p hj => ?_⟩
  rw [List.getElem?_map] at hj
  obtain ⟨x, hx, rfl⟩ := Option.map_eq_some_iff.1 hj
  obtain ⟨cs, hl, hK, hcc⟩ := hc j x hx
  refine ⟨cs, hl, ?_, hcc⟩
  show d.K w (f (g x)) cs
  rw [hg]; exact hK
theorem C_gE {w : World} {A : Option Addr} {n : Nat} {xs : List EfT} (h : kE.C w A n xs) : k80.C w A n (xs.map gE) := C_map (g := gE) (fun _ => rfl) h
theorem C_gB {w : World} {A : Option Addr} {n : Nat} {xs : List BkT} (h : kB.C w A n xs) : k82.C w A n (xs.map gB) := C_map (g := gB) (fun _ => rfl) h
theorem rdE (es : List EfT) (i : Nat) : rd_T80 (es.map gE) (i : Int) = gE (es.getD i (0, 0, 0)) := by
  unfold P.rd_T80
  rw [Int.toNat_natCast, List.getD_eq_getElem?_getD, List.getD_eq_getElem?_getD, List.getElem?_map]
  cases es[i]? <;> rfl
theorem rdBk (bs : List BkT) (i : Nat) : rd_T82 (bs.map gB) (i : Int) = gB (bs.getD i (0, [])) := by
  unfold P.rd_T82
  rw [Int.toNat_natCast, List.getD_eq_getElem?_getD, List.getD_eq_getElem?_getD, List.getElem?_map]
  cases bs[i]? <;> rfl
open Classical in
noncomputable def resB (bs : List BkT) (i : Nat) : Int := if ∀ j, i ≤ j → j < bs.length → okB bs j then 0 else 74
open Classical in
noncomputable def resE (es : List EfT) (i : Nat) : Int := if ∀ j, i ≤ j → j < es.length → okE es j then 0 else 74
theorem resB_end {bs : List BkT} {i : Nat} (h : bs.length ≤ i) : resB bs i = 0 := if_pos (fun j h1 h2 => by omega)
theorem resE_end {es : List EfT} {i : Nat} (h : es.length ≤ i) : resE es i = 0 := if_pos (fun j h1 h2 => by omega)
theorem resB_bad {bs : List BkT} {i : Nat} (h : i < bs.length) (hb : ¬ okB bs i) : resB bs i = 74 := if_neg (fun hn => hb (hn i (Nat.le_refl _) h))
theorem resE_bad {es : List EfT} {i : Nat} (h : i < es.length) (hb : ¬ okE es i) : resE es i = 74 := if_neg (fun hn => hb (hn i (Nat.le_refl _) h))
theorem resB_ok {bs : List BkT} {i : Nat} (hb : okB bs i) : resB bs i = resB bs (i + 1) := by
  unfold resB
  congr 1
  apply propext
  constructor
  · intro h j h1 h2; exact h j (by omega) h2
  · intro h j h1 h2
    by_cases e : j = i
    · rw [e]; exact hb
    · exact h j (by omega) h2
theorem resE_ok {es : List EfT} {i : Nat} (hb : okE es i) : resE es i = resE es (i + 1) := by
  unfold resE
  congr 1
  apply propext
  constructor
  · intro h j h1 h2; exact h j (by omega) h2
  · intro h j h1 h2
    by_cases e : j = i
    · rw [e]; exact hb
    · exact h j (by omega) h2
theorem chk_eq (c : CartP) : chk c = if c.code.length % 2 = 0 ∧ c.code.length ≤ 16384 ∧ c.efs.length ≤ 8192 then (if resE c.efs 0 = 0 then resB c.bks 0 else 74) else 74 := by
  unfold chk
  by_cases h : OkC c
  · have e1 : resE c.efs 0 = 0 := if_pos (fun j _ h2 => h.es j h2)
    have e2 : resB c.bks 0 = 0 := if_pos (fun j _ h2 => h.bs j h2)
    rw [if_pos h, if_pos ⟨h.ev, h.cl, h.el⟩, if_pos e1, e2]
  · rw [if_neg h]
    split
    · rename_i h1
      split
      · rename_i h2
        unfold resB
        rw [if_neg]
        intro h3
        apply h
        refine ⟨h1.1, h1.2.1, h1.2.2, fun i hi => ?_, fun i hi => h3 i (Nat.zero_le _) hi⟩
        unfold resE at h2
        split at h2
        · rename_i h4; exact h4 i (Nat.zero_le _) hi
        · omega
      · rfl
    · rfl
theorem wrap_add1 {i : Nat} (h : i < 4611686018427387904) : wrap64 ((i : Int) + 1) = ((i + 1 : Nat) : Int) := by unfold wrap64; omega
theorem wrap_sub1 {i : Nat} (h : i < 4611686018427387904) (h0 : 0 < i) : wrap64 ((i : Int) - 1) = ((i - 1 : Nat) : Int) := by unfold wrap64; omega
/-- a cartridge that is read: its value -/
def crt (A0 : Option Addr) (c0 : Nat) (A2 : Option Addr) (c2 : Nat) (A3 : Option Addr) (c3 : Nat) (c : CartP) : Value := .agg #[.slice A0 c.code.length c0, .int .u16 c.entry, .slice A2 c.efs.length c2, .slice A3 c.bks.length c3]
structure IsC (w : World) (A0 : Option Addr) (c0 : Nat) (A2 : Option Addr) (c2 : Nat) (A3 : Option Addr) (c3 : Nat) (c : CartP) : Prop where
  code : Kd.C (Kd.int .u8) w A0 c.code.length c.code
  efs : Kd.C kE w A2 c.efs.length c.efs
  bks : Kd.C kB w A3 c.bks.length c.bks
  l0 : c.code.length ≤ c0
  l2 : c.efs.length ≤ c2
  l3 : c.bks.length ≤ c3
theorem kE_heap : Kd.Heap kE := Kd.heap_pair (Kd.heap_int .u16) (Kd.heap_pair (Kd.heap_int .i64) (Kd.heap_int .i64))
theorem kB_heap : Kd.Heap kB := Kd.heap_pair (Kd.heap_int .i64) (Kd.heap_slice 5 (Kd.heap_int .u8))
theorem kS_heap : Kd.Heap kS := Kd.heap_pair (Kd.heap_int .u8) (Kd.heap_pair (Kd.heap_int .u8) (Kd.heap_slice 5 (Kd.heap_int .u8)))
theorem IsC.below {w w' : World} {A0 A2 A3 : Option Addr} {c0 c2 c3 : Nat} {c : CartP} (h : IsC w A0 c0 A2 c2 A3 c3 c) (hb : Below w.heap.size w w') : IsC w' A0 c0 A2 c2 A3 c3 c := ⟨Kd.C_below h.code hb, Kd.C_below h.efs hb, Kd.C_below h.bks hb, h.l0, h.l2, h.l3⟩
theorem atE' {w : World} {A : Option Addr} {n : Nat} {es : List EfT} (h : kE.C w A n es) (i : Nat) (hi : i < n) : ∃ ad, A = some ad ∧ w.cell? (ad.add (i * 3)) = some (.int .u16 (es.getD i (0, 0, 0)).1) ∧ w.cell? ⟨(ad.add (i * 3)).block, (ad.add (i * 3)).off + 1, none⟩ = some (.int .i64 (es.getD i (0, 0, 0)).2.1) ∧ w.cell? ⟨(ad.add (i * 3)).block, (ad.add (i * 3)).off + 2, none⟩ = some (.int .i64 (es.getD i (0, 0, 0)).2.2) := by
  obtain ⟨ad, e, h0, h1, h2⟩ := P.at_T80 (C_gE h) (i : Int) (by omega) (by omega)
  rw [rdE, Int.toNat_natCast] at h0 h1 h2
  exact ⟨ad, e, h0, h1, h2⟩
theorem atB' {w : World} {A : Option Addr} {n : Nat} {bs : List BkT} (h : kB.C w A n bs) (i : Nat) (hi : i < n) : ∃ ad A1 c1, A = some ad ∧ w.cell? (ad.add (i * 2)) = some (.int .i64 (bs.getD i (0, [])).1) ∧ w.cell? ⟨(ad.add (i * 2)).block, (ad.add (i * 2)).off + 1, none⟩ = some (.slice A1 (bs.getD i (0, [])).2.length c1) ∧ (bs.getD i (0, [])).2.length ≤ c1 ∧ Kd.C (Kd.int .u8) w A1 (bs.getD i (0, [])).2.length (bs.getD i (0, [])).2 := by
  obtain ⟨ad, A1, c1, e, h0, h1, h2, h3⟩ := P.at_T82 (C_gB h) (i : Int) (by omega) (by omega)
  rw [rdBk, Int.toNat_natCast] at h0
  rw [rdBk, Int.toNat_natCast] at h1
  rw [rdBk] at h2 h3
  exact ⟨ad, A1, c1, e, h0, h1, h2, h3⟩
theorem cellH' {w : World} {g o t : Nat} {cs : Array Value} {fr : Nat × Nat} (h : w.heap[g]? = some (.cells cs t fr)) : w.cell? ⟨g, o, none⟩ = cs[o]? := by simp [World.cell?, h]
set_option maxHeartbeats 1000000 in
theorem within_at (x m : Int) (b : Bool) (hb : decide (0 ≤ x ∧ x ≤ m) = b) (X : World) (k : Nat) : Calls Tryd.prog 40 #[.int .i64 x, .int .i64 m] (X.drewN k) fun e w' => e = .returned (.bool b) ∧ w' = X.drewN k := by
  by_cases h1 : x ≥ 0
  · have e1 : decide (x ≥ 0) = true := decide_eq_true h1
    have e2 : decide (x ≤ m) = b := by rw [← hb]; congr 1; exact propext ⟨fun h => ⟨h1, h⟩, fun h => h.2⟩
    go_enter Tryd.func40, Tryd.ntmps40
    go_wp2
    go_ret
    refine ⟨?_, rfl⟩
    first | (rw [← e2]; rfl) | (rw [e2]; rfl) | (simp [e2])
  · have e1 : decide (x ≥ 0) = false := decide_eq_false h1
    have e2 : b = false := by rw [← hb]; exact decide_eq_false (fun h => h1 h.1)
    go_enter Tryd.func40, Tryd.ntmps40
    go_wp2
    go_ret
    refine ⟨?_, rfl⟩
    first | rfl | (rw [e2]; first | done | rfl)
theorem chk_head {c : CartP} (h : ¬ (c.code.length % 2 = 0 ∧ c.code.length ≤ 16384 ∧ c.efs.length ≤ 8192)) : chk c = 74 := by rw [chk_eq, if_neg h]
theorem chk_es {c : CartP} {i : Nat} (hi : i < c.efs.length) (h : ¬ okE c.efs i) : chk c = 74 := if_neg (fun (ho : OkC c) => h (ho.es i hi))
theorem chk_bs {c : CartP} {i : Nat} (hi : i < c.bks.length) (h : ¬ okB c.bks i) : chk c = 74 := if_neg (fun (ho : OkC c) => h (ho.bs i hi))
set_option maxRecDepth 100000 in
set_option maxHeartbeats 8000000 in
theorem Check {w : World} {A0 A2 A3 : Option Addr} {c0 c2 c3 : Nat} {c : CartP} (hI : IsC w A0 c0 A2 c2 A3 c3 c) (he : c.efs.length < 4611686018427387904) (hb : c.bks.length < 4611686018427387904) :
    Calls Tryd.prog 17 #[crt A0 c0 A2 c2 A3 c3 c] w fun e w' => e = .returned (.int .i64 (chk c)) ∧ Below w.heap.size w w' := by
  unfold crt
  have hC2 := Aside0.mk hI.efs
  have hC3 := Aside0.mk hI.bks
  obtain ⟨n0, hn0⟩ : ∃ n, n = c.code.length := ⟨_, rfl⟩
  obtain ⟨n2, hn2⟩ : ∃ n, n = c.efs.length := ⟨_, rfl⟩
  obtain ⟨n3, hn3⟩ : ∃ n, n = c.bks.length := ⟨_, rfl⟩
  obtain ⟨ent, hent⟩ : ∃ x, x = c.entry := ⟨_, rfl⟩
  have hn063 := hI.code.2.1
  rw [← hn0] at hn063
  rw [← hn2] at he
  rw [← hn3] at hb
  rw [← hn0, ← hn2, ← hn3, ← hent]
  have hnn0 := Aside0.mk hn0
  have hnn2 := Aside0.mk hn2
  have hnn3 := Aside0.mk hn3
  have hB0 := Aside0.mk (below_alloc (Below.refl w.heap.size w) (.cells #[.slice A0 n0 c0, .int .u16 ent, .slice A2 n2 c2, .slice A3 n3 c3] 28))
  have hX0 := Aside0.mk (World.alloc_heap_new w (.cells #[.slice A0 n0 c0, .int .u16 ent, .slice A2 n2 c2, .slice A3 n3 c3] 28))
  clear hI hn0 hn2 hn3 hent
  by_cases hd : n0 % 2 = 0 ∧ n0 ≤ 16384 ∧ n2 ≤ 8192
  · obtain ⟨d1, d2, d3⟩ := hd
    have e1 : (((n0 : Int) % 2) != 0) = false := by rw [show (n0 : Int) % 2 = 0 by omega]; rfl
    have e2 : decide ((n0 : Int) > 16384) = false := decide_eq_false (by omega)
    have e3 : decide ((n2 : Int) > 8192) = false := decide_eq_false (by omega)
    go_enter Tryd.func17, Tryd.ntmps17
    go_wp2
    go_loopg [27] n2 (fun gk v27 wr => ∃ i : Nat, v27 = .int .i64 (i : Int) ∧ i + gk = n2 ∧ Aside0 (∀ j, j < i → okE c.efs j) ∧ Aside0 (wr.heap[w.heap.size]? = some (.cells #[.slice A0 n0 c0, .int .u16 ent, .slice A2 n2 c2, .slice A3 n3 c3] 28 (0, 0))) ∧ Aside0 (Below w.heap.size w wr))
    case atStart => exact ⟨0, rfl, by omega, ⟨fun j hj => by omega⟩, hX0, hB0⟩
    case round =>
      clear hX0 hB0
      obtain ⟨i, rfl, hi, hok, hX, hB⟩ := hrel
      have q2 : wr.cell? ⟨w.heap.size, 2, none⟩ = some (.slice A2 n2 c2) := (cellH' hX.out).trans rfl
      have q3 : wr.cell? ⟨w.heap.size, 3, none⟩ = some (.slice A3 n3 c3) := (cellH' hX.out).trans rfl
      cases gk with
      | succ k1 =>
        have hd : decide ((i : Int) < (n2 : Int)) = true := decide_eq_true (by omega)
        have hd' : decide (i < n2) = true := decide_eq_true (by omega)
        have hin : i < n2 := by omega
        obtain ⟨ad, eA, hx0, hx1, hx2⟩ := atE' (Kd.C_below hC2.out hB.out) i (by have := hnn2.out; omega)
        subst eA
        have hiE : Aside0 (i < c.efs.length) := ⟨by have := hnn2.out; omega⟩
        have hokE : Aside0 (okE c.efs i ↔ 0 ≤ (c.efs.getD i (0, 0, 0)).2.1 ∧ (c.efs.getD i (0, 0, 0)).2.1 ≤ 256 ∧ 0 ≤ (c.efs.getD i (0, 0, 0)).2.2 ∧ (c.efs.getD i (0, 0, 0)).2.2 ≤ 256 ∧ (0 < i → (c.efs.getD (i - 1) (0, 0, 0)).1 < (c.efs.getD i (0, 0, 0)).1)) := ⟨Iff.rfl⟩
        generalize c.efs.getD i (0, 0, 0) = x at hx0 hx1 hx2 hokE
        obtain ⟨xa, xi, xo⟩ := x
        dsimp only at hx0 hx1 hx2 hokE
        have hb1 := below_alloc (Below.refl wr.heap.size wr) (.cells #[.int .u16 xa, .int .i64 xi, .int .i64 xo] 80)
        have hX1 := Aside0.mk ((hb1.block _ (heap_lt hX.out)).trans hX.out)
        have hB1 := Aside0.mk (hB.out.trans (hb1.mono hB.out.size))
        have q2' : (wr.alloc (.cells #[.int .u16 xa, .int .i64 xi, .int .i64 xo] 80)).cell? ⟨w.heap.size, 2, none⟩ = some (.slice (some ad) n2 c2) := (cellH' hX1.out).trans rfl
        clear hb1
        by_cases hc8 : 0 ≤ xi ∧ xi ≤ 256
        case neg =>
          have wE1 : Aside0 (decide (0 ≤ xi ∧ xi ≤ 256) = false) := ⟨decide_eq_false hc8⟩
          have hbad : Aside0 (chk c = 74) := ⟨chk_es hiE.out (fun h => by have := hokE.out.1 h; omega)⟩
          go_wp2
          go_quiet (first | (go_at_call 40; with_reducible exact Calls.quiet_of_same (within_at xi 256 _ wE1.out _ _)) | (go_at_call 40; with_reducible exact Calls.quiet_of_same (within_at xo 256 _ wE2.out _ _)))
          go_wp2
          go_ret
          exact ⟨(by rw [hbad.out]; first | done | rfl), pw_below_drewN hB1.out _⟩
        have wE1 : Aside0 (decide (0 ≤ xi ∧ xi ≤ 256) = true) := ⟨decide_eq_true hc8⟩
        by_cases hc8 : 0 ≤ xo ∧ xo ≤ 256
        case neg =>
          have wE2 : Aside0 (decide (0 ≤ xo ∧ xo ≤ 256) = false) := ⟨decide_eq_false hc8⟩
          have hbad : Aside0 (chk c = 74) := ⟨chk_es hiE.out (fun h => by have := hokE.out.1 h; omega)⟩
          go_wp2
          go_quiet (first | (go_at_call 40; with_reducible exact Calls.quiet_of_same (within_at xi 256 _ wE1.out _ _)) | (go_at_call 40; with_reducible exact Calls.quiet_of_same (within_at xo 256 _ wE2.out _ _)))
          go_wp2
          go_ret
          exact ⟨(by rw [hbad.out]; first | done | rfl), pw_below_drewN hB1.out _⟩
        have wE2 : Aside0 (decide (0 ≤ xo ∧ xo ≤ 256) = true) := ⟨decide_eq_true hc8⟩
        by_cases hi0 : 0 < i
        case neg =>
          have ei : decide ((i : Int) > 0) = false := decide_eq_false (by omega)
          have hgood := Aside0.mk (hokE.out.2 (by omega))
          go_wp2
          go_quiet (first | (go_at_call 40; with_reducible exact Calls.quiet_of_same (within_at xi 256 _ wE1.out _ _)) | (go_at_call 40; with_reducible exact Calls.quiet_of_same (within_at xo 256 _ wE2.out _ _)))
          go_wp2
          go_roundg k1
          case measure => omega
          case rel => exact ⟨i + 1, rfl, by omega, ⟨fun j hj => by
              by_cases e : j = i
              · rw [e]; exact hgood.out
              · exact hok.out j (by omega)⟩, hX1, ⟨pw_below_drewN hB1.out _⟩⟩
        have ei : decide ((i : Int) > 0) = true := decide_eq_true (by omega)
        obtain ⟨ad', eA', hy0, _, _⟩ := atE' (Kd.C_below hC2.out hB1.out) (i - 1) (by have := hnn2.out; omega)
        cases eA'
        generalize (c.efs.getD (i - 1) (0, 0, 0)).1 = pv at hy0 hokE
        have hi1 : ((i : Int) - 1).toNat = i - 1 := by omega
        have hi2 : 0 ≤ (i : Int) - 1 := by omega
        have hi3 : (i : Int) - 1 < (n2 : Int) := by omega
        by_cases hp : xa ≤ pv
        case neg =>
          have ep : decide (xa ≤ pv) = false := decide_eq_false hp
          have hgood := Aside0.mk (hokE.out.2 (by omega))
          go_wp2
          go_quiet (first | (go_at_call 40; with_reducible exact Calls.quiet_of_same (within_at xi 256 _ wE1.out _ _)) | (go_at_call 40; with_reducible exact Calls.quiet_of_same (within_at xo 256 _ wE2.out _ _)))
          go_wp2
          go_roundg k1
          case measure => omega
          case rel => exact ⟨i + 1, rfl, by omega, ⟨fun j hj => by
              by_cases e : j = i
              · rw [e]; exact hgood.out
              · exact hok.out j (by omega)⟩, hX1, ⟨pw_below_drewN hB1.out _⟩⟩
        have ep : decide (xa ≤ pv) = true := decide_eq_true hp
        have hbad : Aside0 (chk c = 74) := ⟨chk_es hiE.out (fun h => by have := hokE.out.1 h; omega)⟩
        go_wp2
        go_quiet (first | (go_at_call 40; with_reducible exact Calls.quiet_of_same (within_at xi 256 _ wE1.out _ _)) | (go_at_call 40; with_reducible exact Calls.quiet_of_same (within_at xo 256 _ wE2.out _ _)))
        go_wp2
        go_ret
        exact ⟨(by rw [hbad.out]; first | done | rfl), pw_below_drewN hB1.out _⟩
      | zero =>
        have hd : decide ((i : Int) < (n2 : Int)) = false := decide_eq_false (by omega)
        have hd' : decide (i < n2) = false := decide_eq_false (by omega)
        have hokE : Aside0 (∀ j, j < c.efs.length → okE c.efs j) := ⟨fun j hj => hok.out j (by have := hnn2.out; omega)⟩
        clear hok hi
        go_wp2
        clear hd hd' q2 q3
        go_loopg [62] n3 (fun gk v62 wr => ∃ i : Nat, v62 = .int .i64 (i : Int) ∧ i + gk = n3 ∧ Aside0 (∀ j, j < i → okB c.bks j) ∧ Aside0 (wr.heap[w.heap.size]? = some (.cells #[.slice A0 n0 c0, .int .u16 ent, .slice A2 n2 c2, .slice A3 n3 c3] 28 (0, 0))) ∧ Aside0 (Below w.heap.size w wr))
        case atStart => exact ⟨0, rfl, by omega, ⟨fun j hj => by omega⟩, hX, hB⟩
        case round =>
          clear hX hB
          obtain ⟨i, rfl, hi, hok, hX, hB⟩ := hrel
          have q3 : wr.cell? ⟨w.heap.size, 3, none⟩ = some (.slice A3 n3 c3) := (cellH' hX.out).trans rfl
          cases gk with
          | succ k1 =>
            have hd : decide ((i : Int) < (n3 : Int)) = true := decide_eq_true (by omega)
            have hd' : decide (i < n3) = true := decide_eq_true (by omega)
            have hin : i < n3 := by omega
            obtain ⟨ad, A1, k1', eA, hx0, hx1, _, _⟩ := atB' (Kd.C_below hC3.out hB.out) i (by have := hnn3.out; omega)
            subst eA
            have hiE : Aside0 (i < c.bks.length) := ⟨by have := hnn3.out; omega⟩
            have hokE : Aside0 (okB c.bks i ↔ 0 ≤ (c.bks.getD i (0, [])).1 ∧ (c.bks.getD i (0, [])).1 ≤ 15 ∧ (c.bks.getD i (0, [])).2.length ≤ 16384 ∧ (0 < i → (c.bks.getD (i - 1) (0, [])).1 < (c.bks.getD i (0, [])).1)) := ⟨Iff.rfl⟩
            generalize c.bks.getD i (0, []) = x at hx0 hx1 hokE
            obtain ⟨xn, xd⟩ := x
            dsimp only at hx0 hx1 hokE
            generalize xd.length = nd at hx1 hokE
            have hb1 := below_alloc (Below.refl wr.heap.size wr) (.cells #[.int .i64 xn, .slice A1 nd k1'] 82)
            have hX1 := Aside0.mk ((hb1.block _ (heap_lt hX.out)).trans hX.out)
            have hB1 := Aside0.mk (hB.out.trans (hb1.mono hB.out.size))
            have q3' : (wr.alloc (.cells #[.int .i64 xn, .slice A1 nd k1'] 82)).cell? ⟨w.heap.size, 3, none⟩ = some (.slice (some ad) n3 c3) := (cellH' hX1.out).trans rfl
            clear hb1
            by_cases hc12 : 0 ≤ xn ∧ xn ≤ 15
            case neg =>
              have wB1 : Aside0 (decide (0 ≤ xn ∧ xn ≤ 15) = false) := ⟨decide_eq_false hc12⟩
              have hbad : Aside0 (chk c = 74) := ⟨chk_bs hiE.out (fun h => by have := hokE.out.1 h; omega)⟩
              go_wp2
              go_quiet ((go_at_call 40; with_reducible exact Calls.quiet_of_same (within_at xn 15 _ wB1.out _ _)))
              go_wp2
              go_ret
              exact ⟨(by rw [hbad.out]; first | done | rfl), pw_below_drewN hB1.out _⟩
            have wB1 : Aside0 (decide (0 ≤ xn ∧ xn ≤ 15) = true) := ⟨decide_eq_true hc12⟩
            by_cases hc12 : nd ≤ 16384
            case neg =>
              have f3 : decide ((nd : Int) > 16384) = true := decide_eq_true (by omega)
              have hbad : Aside0 (chk c = 74) := ⟨chk_bs hiE.out (fun h => by have := hokE.out.1 h; omega)⟩
              go_wp2
              go_quiet ((go_at_call 40; with_reducible exact Calls.quiet_of_same (within_at xn 15 _ wB1.out _ _)))
              go_wp2
              go_ret
              exact ⟨(by rw [hbad.out]; first | done | rfl), pw_below_drewN hB1.out _⟩
            have f3 : decide ((nd : Int) > 16384) = false := decide_eq_false (by omega)
            by_cases hi0 : 0 < i
            case neg =>
              have ei : decide ((i : Int) > 0) = false := decide_eq_false (by omega)
              have hgood := Aside0.mk (hokE.out.2 (by omega))
              go_wp2
              go_quiet ((go_at_call 40; with_reducible exact Calls.quiet_of_same (within_at xn 15 _ wB1.out _ _)))
              go_wp2
              go_roundg k1
              case measure => omega
              case rel => exact ⟨i + 1, rfl, by omega, ⟨fun j hj => by
                  by_cases e : j = i
                  · rw [e]; exact hgood.out
                  · exact hok.out j (by omega)⟩, hX1, ⟨pw_below_drewN hB1.out _⟩⟩
            have ei : decide ((i : Int) > 0) = true := decide_eq_true (by omega)
            obtain ⟨ad', A1', k2', eA', hy0, _, _, _⟩ := atB' (Kd.C_below hC3.out hB1.out) (i - 1) (by have := hnn3.out; omega)
            cases eA'
            generalize (c.bks.getD (i - 1) (0, [])).1 = pv at hy0 hokE
            have hi1 : ((i : Int) - 1).toNat = i - 1 := by omega
            have hi2 : 0 ≤ (i : Int) - 1 := by omega
            have hi3 : (i : Int) - 1 < (n3 : Int) := by omega
            by_cases hp : xn ≤ pv
            case neg =>
              have ep : decide (xn ≤ pv) = false := decide_eq_false hp
              have hgood := Aside0.mk (hokE.out.2 (by omega))
              go_wp2
              go_quiet ((go_at_call 40; with_reducible exact Calls.quiet_of_same (within_at xn 15 _ wB1.out _ _)))
              go_wp2
              go_roundg k1
              case measure => omega
              case rel => exact ⟨i + 1, rfl, by omega, ⟨fun j hj => by
                  by_cases e : j = i
                  · rw [e]; exact hgood.out
                  · exact hok.out j (by omega)⟩, hX1, ⟨pw_below_drewN hB1.out _⟩⟩
            have ep : decide (xn ≤ pv) = true := decide_eq_true hp
            have hbad : Aside0 (chk c = 74) := ⟨chk_bs hiE.out (fun h => by have := hokE.out.1 h; omega)⟩
            go_wp2
            go_quiet ((go_at_call 40; with_reducible exact Calls.quiet_of_same (within_at xn 15 _ wB1.out _ _)))
            go_wp2
            go_ret
            exact ⟨(by rw [hbad.out]; first | done | rfl), pw_below_drewN hB1.out _⟩
          | zero =>
            have hd : decide ((i : Int) < (n3 : Int)) = false := decide_eq_false (by omega)
            have hd' : decide (i < n3) = false := decide_eq_false (by omega)
            have hfin : Aside0 (chk c = 0) := ⟨if_pos ⟨by have := hnn0.out; omega, by have := hnn0.out; omega, by have := hnn2.out; omega, hokE.out, fun j hj => hok.out j (by have := hnn3.out; omega)⟩⟩
            go_wp2
            go_ret
            exact ⟨(by rw [hfin.out]; first | done | rfl), hB.out⟩
  · have hbad : Aside0 (chk c = 74) := ⟨chk_head (fun h => hd (by have := hnn0.out; have := hnn2.out; omega))⟩
    obtain ⟨b1, e1⟩ : ∃ b, (((n0 : Int) % 2) != 0) = b := ⟨_, rfl⟩
    obtain ⟨b2, e2⟩ : ∃ b, decide ((n0 : Int) > 16384) = b := ⟨_, rfl⟩
    obtain ⟨b3, e3⟩ : ∃ b, decide ((n2 : Int) > 8192) = b := ⟨_, rfl⟩
    have hq : Aside0 (b1 = true ∨ b2 = true ∨ b3 = true) := ⟨by
      rw [← e1, ← e2, ← e3]
      simp only [decide_eq_true_eq, bne_iff_ne, ne_eq]
      omega⟩
    clear hd
    cases b1 <;> cases b2 <;> cases b3
    all_goals try (exfalso; rcases hq.out with h0 | h0 | h0 <;> cases h0 <;> done)
    all_goals
      go_enter Tryd.func17, Tryd.ntmps17
      go_wp2
      all_goals first | (go_ret; exact ⟨(by rw [hbad.out]; first | done | rfl), hB0.out⟩) | (exfalso; have h9 := of_decide_eq_true e3; omega)
end Go.Proofs.YtembdahclmffjaaDoor.Pk
/- cart.sections: the walk. (Printed by gen_se.py.) -/
namespace Go.Proofs.YtembdahclmffjaaDoor.Pk
open Go.RowKit Go.Proofs.YtembdahclmffjaaDoorW.PrintWords Go.Proofs.YtembdahclmffjaaDoorW.PrintLast Go.Proofs.YtembdahclmffjaaDoorW.PrintMore Go.Proofs.YtembdahclmffjaaDoor.Mem
set_option linter.unusedVariables false
set_option linter.unusedSimpArgs false
theorem atE {w : World} {A : Option Addr} {n : Nat} {es : List EfT} (h : kE.C w A n es) (i : Nat) (hi : i < n) : ∃ ad, A = some ad ∧ w.cell? (ad.add (i * 3)) = some (.int .u16 (es.getD i (0, 0, 0)).1) ∧ w.cell? ⟨(ad.add (i * 3)).block, (ad.add (i * 3)).off + 1, none⟩ = some (.int .i64 (es.getD i (0, 0, 0)).2.1) ∧ w.cell? ⟨(ad.add (i * 3)).block, (ad.add (i * 3)).off + 2, none⟩ = some (.int .i64 (es.getD i (0, 0, 0)).2.2) := by
  obtain ⟨ad, e, h0, h1, h2⟩ := P.at_T80 (C_gE h) (i : Int) (by omega) (by omega)
  rw [rdE, Int.toNat_natCast] at h0 h1 h2
  exact ⟨ad, e, h0, h1, h2⟩
theorem atB {w : World} {A : Option Addr} {n : Nat} {bs : List BkT} (h : kB.C w A n bs) (i : Nat) (hi : i < n) : ∃ ad A1 c1, A = some ad ∧ w.cell? (ad.add (i * 2)) = some (.int .i64 (bs.getD i (0, [])).1) ∧ w.cell? ⟨(ad.add (i * 2)).block, (ad.add (i * 2)).off + 1, none⟩ = some (.slice A1 (bs.getD i (0, [])).2.length c1) ∧ (bs.getD i (0, [])).2.length ≤ c1 ∧ Kd.C (Kd.int .u8) w A1 (bs.getD i (0, [])).2.length (bs.getD i (0, [])).2 := by
  obtain ⟨ad, A1, c1, e, h0, h1, h2, h3⟩ := P.at_T82 (C_gB h) (i : Int) (by omega) (by omega)
  rw [rdBk, Int.toNat_natCast] at h0
  rw [rdBk, Int.toNat_natCast] at h1
  rw [rdBk] at h2 h3
  exact ⟨ad, A1, c1, e, h0, h1, h2, h3⟩
theorem infoS : (Tryd.prog.info? 100).map (fun i => (i.zero, i.size, i.bytes)) = some (some (.agg #[(.int .u8 0), (.int .u8 0), (.slice none 0 0)]), 3, 32) := by kernel_rfl
theorem szS : kS.sz = 3 := rfl
/-- a section's cells -/
theorem kS_mk {w : World} (k n : Int) {A : Option Addr} {c : Nat} {d : List Int} (hl : d.length ≤ c) (hC : Kd.C (Kd.int .u8) w A d.length d) : kS.K w (k, n, d) [.int .u8 k, .int .u8 n, .slice A d.length c] := ⟨[.int .u8 k], [.int .u8 n, .slice A d.length c], rfl, rfl, ⟨[.int .u8 n], [.slice A d.length c], rfl, rfl, ⟨A, c, rfl, hl, hC⟩⟩⟩
theorem FK_S {w W : World} (k n : Int) {A : Option Addr} {c : Nat} {d : List Int} (hl : d.length ≤ c) (hC : Kd.C (Kd.int .u8) w A d.length d) (hb : Below w.heap.size w W) : Kd.FK kS W (fun q => q < w.heap.size) (k, n, d) [.int .u8 k, .int .u8 n, .slice A d.length c] := fun W' hW =>
  kS_mk k n hl ((Kd.heap_int .u8).C (fun q hq => (hW q hq (Nat.lt_of_lt_of_le hq hb.size)).trans (hb.block q hq)) hC)
/-- one section behind a row of them -/
theorem appS {ops : Array Oper} {rest : List Oper} {o : Oper} {a : Act} {Q : Exit → Act → World → Prop} {w0 W : World} (base : Nat) (hgd : o.guard = none) (s x : Operand)
    (ho : o.op = .call { callee := .builtin .append, args := #[s, x], argTypes := #[97, 97] })
    (v : Value) (xs : List ScT) (p : ScT) (cs : List Value) (hs : a.eval s = v) (hx : a.eval x = .slice (some ⟨W.heap.size, 0, none⟩) 1 1) (hp : Kd.FK kS W (fun q => q < base) p cs)
    (HO : Kd.N kS 100 W base (fun _ => True) v xs) (HB : Below base w0 W) (hbase : base ≤ W.heap.size) (hl : (xs.length + 1) * 32 ≤ 140737488355328)
    (h : ∀ A1 c1 w1, Kd.N kS 100 w1 base (fun _ => True) (.slice A1 (xs ++ [p]).length c1) (xs ++ [p]) → Below base w0 w1 → wpList Tryd.prog ops Q rest (a.put o.dst (.slice A1 (xs ++ [p]).length c1)) w1) :
    wpList Tryd.prog ops Q (o :: rest) a (W.alloc (.cells cs.toArray 100)) :=
  Kd.N_append (P := Tryd.prog) kS (w0 := w0) base hgd s x 97 100 (.agg #[(.int .u8 0), (.int .u8 0), (.slice none 0 0)]) 32 ho Tryd.underlying97 (by rw [szS]; exact infoS) (by rw [szS]; rfl) (by rw [szS]; decide) (by decide) v xs p cs (fun _ => True) (fun q => q < base) hs hx hp (fun k hk => ⟨trivial, fun e => by have := Kd.N_base HO k e.symm; omega⟩) (fun _ _ => trivial) HO HB hbase hl (fun v1 w1 hN hB _ _ => by
    obtain ⟨A1, c1, rfl⟩ := Kd.N_slice hN
    exact h A1 c1 w1 hN hB)
/-- a writer at g, all ahead of g as it was in w0, and a block b that holds o -/
structure Wst (w0 W : World) (g b : Nat) (o : Obj) (xs : List Int) : Prop where
  isw : IsW W g (fun k => g < k ∧ k ≠ b) g xs
  bel : Below g w0 W
  bx : W.heap[b]? = some o
  ne : b ≠ g
namespace Wst
variable {w0 W w1 : World} {g b : Nat} {o : Obj} {xs zs : List Int}
theorem le (h : Wst w0 W g b o xs) : g ≤ W.heap.size := Nat.le_of_lt h.isw.lt
theorem lt (h : Wst w0 W g b o xs) : b < W.heap.size := heap_lt h.bx
theorem step (h : Wst w0 W g b o xs) (hW : IsW w1 g (fun k => (g < k ∧ k ≠ b) ∨ W.heap.size ≤ k) g zs) (hF : Fr W w1 (fun k => k = g ∨ (g < k ∧ k ≠ b))) : Wst w0 w1 g b o zs :=
  ⟨hW.mono (fun k hk _ _ => by
      have := h.lt; have := h.isw.lt
      rcases hk with hk | hk
      · exact hk
      · exact ⟨by omega, by omega⟩), h.bel.trans (hF.below h.le (fun k hk hs => by rcases hs with e | e <;> omega)), hF.heap h.bx (fun e => e.elim (fun e => h.ne e) (fun e => e.2 rfl)), h.ne⟩
theorem cell (h : Wst w0 W g b o xs) {cs : Array Value} {t : TypeId} {fr : Nat × Nat} (ho : o = .cells cs t fr) (j : Nat) {u : Value} (hj : cs[j]? = some u) : W.cell? ⟨b, j, none⟩ = some u := by
  have hb := h.bx
  subst ho
  simp [World.cell?, hb, hj]
theorem under (h : Wst w0 W g b o xs) {hb : Below g W w1} : True := trivial
end Wst
/-- what a writer in front of new blocks is, when a block b has come up -/
theorem Wst.of {w0 W : World} {g : Nat} {ok : Nat → Prop} {xs : List Int} (o : Obj) (hW : IsW W g ok g xs) (hk : ∀ k, ok k → g < k) (hb : Below g w0 W) : Wst w0 (W.alloc o) g W.heap.size o xs :=
  ⟨(hW.mono (ok' := fun k => g < k ∧ k ≠ W.heap.size) (fun k hk1 hB hlt => ⟨hk k hk1, by omega⟩)).lit o, hb.alloc (Nat.le_of_lt hW.lt) o, World.alloc_heap_new W o, by have := hW.lt; omega⟩
theorem effB_snoc (es : List EfT) (i : Nat) (h : i < es.length) : effB (es.take (i + 1)) = ((effB (es.take i) ++ [(es.getD i (0, 0, 0)).1 % 256, (es.getD i (0, 0, 0)).1 / 256]) ++ [(es.getD i (0, 0, 0)).2.1 % 256, (es.getD i (0, 0, 0)).2.1 / 256]) ++ [(es.getD i (0, 0, 0)).2.2 % 256, (es.getD i (0, 0, 0)).2.2 / 256] := by
  rw [List.take_succ_eq_append_getElem h, getD_at _ _ h]
  unfold effB
  rw [List.flatMap_append]
  simp only [List.flatMap_cons, List.flatMap_nil, List.append_nil, cellB, List.append_assoc]
theorem secs_snoc (bs : List BkT) (i : Nat) (h : i < bs.length) : ((bs.take (i + 1)).map fun b => ((3 : Int), b.1, b.2)) = ((bs.take i).map fun b => ((3 : Int), b.1, b.2)) ++ [((3 : Int), (bs.getD i (0, [])).1, (bs.getD i (0, [])).2)] := by
  rw [List.take_succ_eq_append_getElem h, getD_at _ _ h, List.map_append]
  rfl
set_option maxRecDepth 100000 in
set_option maxHeartbeats 4000000 in
theorem Sections {w : World} {A0 A2 A3 : Option Addr} {c0 c2 c3 : Nat} {c : CartP} (h : IsC w A0 c0 A2 c2 A3 c3 c) (hok : OkC c) (hwf : WfC c) :
    Calls Tryd.prog 49 #[crt A0 c0 A2 c2 A3 c3 c] w fun e w' => ∃ A1 c1, e = .returned (.slice A1 (secs c).length c1) ∧ (secs c).length ≤ c1 ∧ Kd.C kS w' A1 (secs c).length (secs c) ∧ Below w.heap.size w w' := by
  have hbl := bk_len hok.bs
  have hel := hok.el
  have hes := Aside0.mk hok.es
  have hbs := Aside0.mk hok.bs
  have hat := Aside0.mk hwf.ats
  have hsl := Aside0.mk (secs_len c)
  have hse : Aside0 (secs c = [((1 : Int), (0 : Int), c.code), (2, 0, effB c.efs)] ++ c.bks.map fun b => ((3 : Int), b.1, b.2)) := ⟨rfl⟩
  have hIC := Aside0.mk h
  have hC0 := Aside0.mk h.code
  have hC2 := Aside0.mk h.efs
  have hC3 := Aside0.mk h.bks
  have hl0 := Aside0.mk h.l0
  unfold crt
  obtain ⟨n2, hn2⟩ : ∃ n, n = c.efs.length := ⟨_, rfl⟩
  obtain ⟨n3, hn3⟩ : ∃ n, n = c.bks.length := ⟨_, rfl⟩
  obtain ⟨n0, hn0⟩ : ∃ n, n = c.code.length := ⟨_, rfl⟩
  obtain ⟨ent, hent⟩ : ∃ x, x = c.entry := ⟨_, rfl⟩
  rw [← hn2] at hel
  rw [← hn3] at hbl
  rw [← hn0, ← hn2, ← hn3, ← hent]
  obtain ⟨w0, hw0⟩ : ∃ w0, w0 = w.alloc (.cells #[.slice A0 n0 c0, .int .u16 ent, .slice A2 n2 c2, .slice A3 n3 c3] 28) := ⟨_, rfl⟩
  have hz0 : w0.heap.size = w.heap.size + 1 := by rw [hw0, World.size_alloc]
  have hbx0 : Aside0 (w0.heap[w.heap.size]? = some (.cells #[.slice A0 n0 c0, .int .u16 ent, .slice A2 n2 c2, .slice A3 n3 c3] 28 (0, 0))) := ⟨by rw [hw0]; exact World.alloc_heap_new w _⟩
  have hbw0 : Aside0 (Below w.heap.size w w0) := ⟨by rw [hw0]; exact below_alloc (Below.refl _ _) _⟩
  have hnn2 := Aside0.mk hn2
  have hnn3 := Aside0.mk hn3
  have hnn0 := Aside0.mk hn0
  have hen := Aside0.mk hent
  have hW0 := Aside0.mk hw0
  have hZ0 := Aside0.mk hz0
  clear h hok hwf hn2 hn3 hn0 hent hw0 hz0
  go_enter Tryd.func49, Tryd.ntmps49
  go_wp2
  go_loopg [14] n2 (fun gk v14 wr => ∃ i : Nat, v14 = .int .i64 (i : Int) ∧ i + gk = n2 ∧ Aside0 (IsW wr (w.heap.size + 1) (fun k => w.heap.size + 1 < k) (w.heap.size + 1) (effB (c.efs.take i))) ∧ Aside0 (Below (w.heap.size + 1) w0 wr))
  case atStart =>
    have e := hW0.out
    have hz := hZ0.out
    refine ⟨0, rfl, by omega, ⟨?_⟩, ⟨?_⟩⟩
    · have h1 := (IsW.new w0 w0.heap.size (Nat.le_refl _)).mono (ok' := fun k => w0.heap.size < k) (fun k hk _ _ => hk.elim)
      rw [hz] at h1
      rw [e] at h1
      exact h1
    · have h1 := below_alloc (Below.refl w0.heap.size w0) (.cells #[.slice none 0 0] 51)
      rw [hz] at h1
      rw [e] at h1 ⊢
      exact h1
  case round =>
    obtain ⟨i, rfl, hi, hW, hB⟩ := hrel
    have hBw : Aside0 (Below w.heap.size w wr) := ⟨hbw0.out.trans (hB.out.mono (by have := hZ0.out; omega))⟩
    cases gk with
    | succ k1 =>
      have hd : decide ((i : Int) < (n2 : Int)) = true := decide_eq_true (by omega)
      have hd' : decide (i < n2) = true := decide_eq_true (by omega)
      have hilt : i < c.efs.length := by have := hnn2.out; omega
      have hsn := Aside0.mk (effB_snoc c.efs i hilt)
      have hef := hes.out i hilt
      have hln := eff_len (c.efs.take i)
      rw [List.length_take] at hln
      have hln2 : Aside0 ((effB (c.efs.take i)).length ≤ 100000) := ⟨by have := hnn2.out; omega⟩
      have hatx := hat.out (c.efs.getD i (0, 0, 0)) (by rw [getD_at _ _ hilt]; exact List.getElem_mem hilt)
      obtain ⟨ad, eA, hx0, hx1, hx2⟩ := atE (Kd.C_below hC2.out hBw.out) i (by have := hnn2.out; omega)
      subst eA
      unfold okE at hef
      generalize c.efs.getD i (0, 0, 0) = x at hx0 hx1 hx2 hef hatx hsn
      obtain ⟨xa, xi, xo⟩ := x
      dsimp only at hx0 hx1 hx2 hef hatx hsn
      have p0 := hatx.1
      have p1 : xa ≤ 65535 := by have := hatx.2; omega
      have p2 := hef.1
      have p3 := hef.2.1
      have p4 := hef.2.2.1
      have p5 := hef.2.2.2.1
      clear hef hatx hln hilt
      have hS := Aside0.mk (Wst.of (.cells #[.int .u16 xa, .int .i64 xi, .int .i64 xo] 80) hW.out (fun k hk => hk) hB.out)
      go_wp2_with (first | (go_at_call 21; ((with_reducible refine (Cell xa p0 p1 hS.out.isw hS.out.le (by have := hln2.out; omega)).mono ?_); rintro e w1 ⟨rfl, hW1, hF1⟩; have hS1 := Aside0.mk (hS.out.step hW1 hF1); have y1 := hS1.out.cell rfl 1 rfl; have y2 := hS1.out.cell rfl 2 rfl; clear hW1 hF1)) | (go_at_call 21; ((with_reducible refine (Cell xi p2 (by omega) hS1.out.isw hS1.out.le (by have := hln2.out; simp; omega)).mono ?_); rintro e w2 ⟨rfl, hW1, hF1⟩; have hS2 := Aside0.mk (hS1.out.step hW1 hF1); have z2 := hS2.out.cell rfl 2 rfl; clear hW1 hF1)) | (go_at_call 21; ((with_reducible refine (Cell xo p4 (by omega) hS2.out.isw hS2.out.le (by have := hln2.out; simp; omega)).mono ?_); rintro e w3 ⟨rfl, hW1, hF1⟩; have hS3 := Aside0.mk (hS2.out.step hW1 hF1); clear hW1 hF1)))
      go_roundg k1
      case measure => omega
      case rel => exact ⟨i + 1, rfl, by omega, ⟨by rw [hsn.out]; exact hS3.out.isw.mono (fun k hk _ _ => hk.1)⟩, ⟨hS3.out.bel⟩⟩
    | zero =>
      have hd : decide ((i : Int) < (n2 : Int)) = false := decide_eq_false (by omega)
      have hd' : decide (i < n2) = false := decide_eq_false (by omega)
      have hall : c.efs.take i = c.efs := List.take_of_length_le (by have := hnn2.out; omega)
      rw [hall] at hW
      have hbx := (hB.out.block _ (by omega)).trans hbx0.out
      have q0 : wr.cell? ⟨w.heap.size, 0, none⟩ = some (.slice A0 n0 c0) := by simp [World.cell?, hbx]
      have q3 : wr.cell? ⟨w.heap.size, 3, none⟩ = some (.slice A3 n3 c3) := by simp [World.cell?, hbx]
      have hdl : Aside0 ((effB c.efs).length ≤ 140737488351232) := ⟨by rw [eff_len]; have := hnn2.out; omega⟩
      have hln9 : Aside0 (effB c.efs = effB c.efs) := ⟨rfl⟩
      have q0d := And.intro q0 q3
      have hWd := Aside0.mk ((hW.out.below (below_drew (Below.refl _ _))))
      clear hall hbx
      go_wp2
      refine start_ (n := 8) (S := (fun w' => w'.cell? ⟨w.heap.size, 0, none⟩ = some (.slice A0 n0 c0) ∧ w'.cell? ⟨w.heap.size, 3, none⟩ = some (.slice A3 n3 c3))) (ds := []) #[false, false, false, false, false, false, false, false] (by kernel_rfl) rfl rfl q0d (fun hHeld => ?_)
      refine pure_ (i := 0) (N := some 33) (v := ?_) (a' := ?_) #[true, false, false, false, false, false, false, false] rfl rfl (by kernel_rfl) (fun _ _ _ h => h) (Or.inl ⟨by rfl, ?_⟩) ?_ ?_
      rotate_left
      · intro w'
        go_simp
        with_reducible rfl
      rotate_left
      · simp only [Act.put, List.setIfInBounds_toArray, List.set_cons_zero, List.set_cons_succ, i64_w, i32_w]
        rfl
      refine take_ (i := 1) (N := some 34) (v := ?_) (a' := ?_) #[true, true, false, false, false, false, false, false] rfl rfl (by kernel_rfl) (fun _ _ _ h => h) (Or.inl ⟨by rfl, ?_⟩) hHeld ?_ ?_
      rotate_left
      · rintro w' ⟨hS0, hS3⟩
        go_simp
        with_reducible rfl
      rotate_left
      · simp only [Act.put, List.setIfInBounds_toArray, List.set_cons_zero, List.set_cons_succ, i64_w, i32_w]
        rfl
      refine pure_ (i := 2) (N := some 35) (v := ?_) (a' := ?_) #[true, true, true, false, false, false, false, false] rfl rfl (by kernel_rfl) (fun _ _ _ h => h) (Or.inl ⟨by rfl, ?_⟩) ?_ ?_
      rotate_left
      · intro w'
        go_simp
        with_reducible rfl
      rotate_left
      · simp only [Act.put, List.setIfInBounds_toArray, List.set_cons_zero, List.set_cons_succ, i64_w, i32_w]
        rfl
      refine pure_ (i := 3) (N := some 36) (v := ?_) (a' := ?_) #[true, true, true, true, false, false, false, false] rfl rfl (by kernel_rfl) (fun _ _ _ h => h) (Or.inl ⟨by rfl, ?_⟩) ?_ ?_
      rotate_left
      · intro w'
        go_simp
        with_reducible rfl
      rotate_left
      · simp only [Act.put, List.setIfInBounds_toArray, List.set_cons_zero, List.set_cons_succ, i64_w, i32_w]
        rfl
      refine one_ (i := 4) (N := some 37) #[true, true, true, true, true, false, false, false] rfl rfl (by kernel_rfl) (by decide) (fun K hK => ?_)
      refine goes_ Tryd.func23 (by kernel_rfl) rfl #[.pointer (some ⟨w.heap.size + 1, 0, none⟩)] (by rfl) rfl rfl (by first | rfl | kernel_rfl | simp [Act.eval]) ?_
      refine (Done hWd.out hdl.out).mono ?_
      rintro e w5 ⟨v5, rfl, hR5, hb5⟩
      obtain ⟨A5, c5, rfl⟩ := Kd.R_slice hR5
      have hq5 : w5.cell? ⟨w.heap.size, 0, none⟩ = some (.slice A0 n0 c0) ∧ w5.cell? ⟨w.heap.size, 3, none⟩ = some (.slice A3 n3 c3) := ⟨(hb5.cell (by have := hB.out.size; have := hZ0.out; simp; omega)).trans hHeld.1, (hb5.cell (by have := hB.out.size; have := hZ0.out; simp; omega)).trans hHeld.2⟩
      have hR6 := Aside0.mk hR5
      have hb6 := Aside0.mk hb5
      clear hR5 hb5
      refine ⟨_, rfl, hK.out _ _ hq5 (fun hHeld2 => ?_)⟩
      clear hK
      refine norm_ (a' := ?_) ?_ ?_
      rotate_left
      · show Act.put _ (some 37) _ = _
        simp only [Act.put, List.setIfInBounds_toArray, List.set_cons_zero, List.set_cons_succ, i64_w, i32_w]
        rfl
      refine pure_ (i := 5) (N := some 38) (v := ?_) (a' := ?_) #[true, true, true, true, true, true, false, false] rfl rfl (by kernel_rfl) (fun _ _ _ h => h) (Or.inl ⟨by rfl, ?_⟩) ?_ ?_
      rotate_left
      · intro w'
        go_simp
        with_reducible rfl
      rotate_left
      · simp only [Act.put, List.setIfInBounds_toArray, List.set_cons_zero, List.set_cons_succ, i64_w, i32_w]
        rfl
      refine one_ (i := 6) (N := some 39) #[true, true, true, true, true, true, true, false] rfl rfl (by kernel_rfl) (by decide) (fun K hK => ?_)
      have e1 : Aside0 (Kd.FK kS w5 (fun q => q < w5.heap.size) ((1 : Int), (0 : Int), c.code) [.int .u8 1, .int .u8 0, .slice A0 n0 c0]) := ⟨by
        have hb5w : Below w.heap.size w w5 := (hBw.out.trans (below_drew (Below.refl _ _))).trans (hb6.out.mono (by have := hBw.out.size; simp; omega))
        have h9 := FK_S (W := w5) 1 0 hl0.out hC0.out hb5w
        rw [hnn0.out]
        exact Kd.FK_mono h9 (fun q hq => Nat.lt_of_lt_of_le hq hb5w.size)⟩
      have e2 : Aside0 (Kd.FK kS w5 (fun q => q < w5.heap.size) ((2 : Int), (0 : Int), effB c.efs) [.int .u8 2, .int .u8 0, .slice A5 (effB c.efs).length c5]) := ⟨FK_S (W := w5) 2 0 (Kd.R_reads' hR6.out).2.1 (Kd.R_reads' hR6.out).2.2 (Below.refl _ _)⟩
      have e3 : Aside0 (Below w.heap.size w w5) := ⟨(hBw.out.trans (below_drew (Below.refl _ _))).trans (hb6.out.mono (by have := hBw.out.size; simp; omega))⟩
      refine Kd.N_lit_step kS (w0 := w) w.heap.size 100 (by rfl) (N' := 39) rfl (xs := [((1 : Int), (0 : Int), c.code), ((2 : Int), (0 : Int), effB c.efs)]) (inner := [.int .u8 1, .int .u8 0, .slice A0 n0 c0, .int .u8 2, .int .u8 0, .slice A5 (effB c.efs).length c5]) (ok := fun _ => True) (okp := fun q => q < w5.heap.size) (by go_simp) (Reps.c3 e1.out (Reps.c3 e2.out (Reps.none _ _))) (fun _ _ => trivial) trivial e3.out e3.out.size (by simp) ?_
      intro v9 w6 hN6 hB6 hg6 hnew6
      obtain ⟨A6, c6, rfl⟩ := Kd.N_slice hN6
      have hk6 := hg6.block w.heap.size (World.block_lt_of_cell? _ _ hHeld2.1) (by simp)
      have hq6 : w6.cell? ⟨w.heap.size, 0, none⟩ = some (.slice A0 n0 c0) ∧ w6.cell? ⟨w.heap.size, 3, none⟩ = some (.slice A3 n3 c3) := ⟨(World.cell?_of_block (a := ⟨w.heap.size, 0, none⟩) hk6).trans hHeld2.1, (World.cell?_of_block (a := ⟨w.heap.size, 3, none⟩) hk6).trans hHeld2.2⟩
      have hN7 := Aside0.mk hN6
      have hB7 := Aside0.mk hB6
      clear hN6 hB6 hg6 hnew6 hk6
      refine hK.out _ _ hq6 (fun hHeld3 => ?_)
      clear hK
      refine norm_ (a' := ?_) ?_ ?_
      rotate_left
      · show Act.put _ (some 39) _ = _
        simp only [Act.put, List.setIfInBounds_toArray, List.set_cons_zero, List.set_cons_succ, i64_w, i32_w]
        rfl
      refine pure_ (i := 7) (N := some 6) (v := ?_) (a' := ?_) #[true, true, true, true, true, true, true, true] rfl rfl (by kernel_rfl) (fun _ _ _ h => h) (Or.inl ⟨by rfl, ?_⟩) ?_ ?_
      rotate_left
      · intro w'
        go_simp
        with_reducible rfl
      rotate_left
      · simp only [Act.put, List.setIfInBounds_toArray, List.set_cons_zero, List.set_cons_succ, i64_w, i32_w]
        rfl
      refine done_ (by kernel_rfl) ?_
      have q3b := hHeld3.2
      obtain ⟨L0, hL0⟩ : ∃ L0 : List ScT, L0 = [((1 : Int), (0 : Int), c.code), ((2 : Int), (0 : Int), effB c.efs)] := ⟨_, rfl⟩
      have hL2 : Aside0 (2 = L0.length) := ⟨by rw [hL0]; rfl⟩
      rw [← hL0] at hN7
      have hLL := Aside0.mk hL0
      have hN8 := Aside0.mk hN7.out
      rw [← hL2.out] at hN8
      clear hL0 hN7 hHeld hHeld2 hHeld3 q0 q3 q0d hWd e1 e2 e3 hR6 hb6 hW hB hBw hd hd' hdl hln9 hbx0
      go_wp2
      go_loopg [6, 43] n3 (fun gk v6 v43 wr => ∃ (i : Nat) (A : Option Addr) (c' nL : Nat) (pre : List ScT), v6 = .slice A nL c' ∧ v43 = .int .i64 (i : Int) ∧ i + gk = n3 ∧ Aside0 (pre = L0 ++ (c.bks.take i).map fun b => ((3 : Int), b.1, b.2)) ∧ Aside0 (pre.length = 2 + i) ∧ Aside0 (nL = pre.length) ∧ Aside0 (Kd.N kS 100 wr w.heap.size (fun _ => True) (.slice A nL c') pre) ∧ Aside0 (Below w.heap.size w wr))
      case atStart => exact ⟨0, A6, c6, 2, L0, rfl, rfl, by omega, ⟨by simp⟩, ⟨by have := hL2.out; omega⟩, hL2, hN8, hB7⟩
      case round =>
        obtain ⟨i, A, c', nL, pre, rfl, rfl, hi, hpre, hpl, hnL, hN, hB⟩ := hrel
        cases gk with
        | succ k1 =>
          have hd : decide ((i : Int) < (n3 : Int)) = true := decide_eq_true (by omega)
          have hd' : decide (i < n3) = true := decide_eq_true (by omega)
          have hilt : i < c.bks.length := by have := hnn3.out; omega
          have hsn := Aside0.mk (secs_snoc c.bks i hilt)
          have hef := hbs.out i hilt
          obtain ⟨ad, A1, c1, eA, hx0, hx1, hx2, hx3⟩ := atB (Kd.C_below hC3.out hB.out) i (by have := hnn3.out; omega)
          obtain ⟨_, _, _, eA', _, hy1, hy2, hy3⟩ := atB hC3.out i (by have := hnn3.out; omega)
          subst eA
          injection eA' with eA'
          subst eA'
          have hy1' := (hB.out.cell (World.block_lt_of_cell? _ _ hy1)).trans hy1
          rw [hx1] at hy1'
          injection hy1' with hy1'
          injection hy1' with ea1 _ ea3
          subst ea1
          subst ea3
          clear hy1 hx3
          unfold okB at hef
          generalize c.bks.getD i (0, []) = x at hx0 hx1 hx2 hef hy2 hy3 hsn
          obtain ⟨num, d⟩ := x
          dsimp only at hx0 hx1 hx2 hef hy2 hy3 hsn
          have p0 := hef.1
          have p1 := hef.2.1
          obtain ⟨nd, hnd⟩ : ∃ n, n = d.length := ⟨_, rfl⟩
          have hndd := Aside0.mk hnd
          have hFK := FK_S (W := wr.alloc (.cells #[.int .i64 num, .slice A1 d.length c1] 82)) 3 num hy2 hy3 (below_alloc hB.out _)
          have hF2 := Aside0.mk hFK
          rw [← hnd] at hx1 hF2
          clear hef hx2 hy2 hy3 hilt hnd hFK
          go_wp2_with (at_builtin; go_must (refine appS (w0 := w) w.heap.size rfl _ _ rfl (.slice A nL c') pre ((3 : Int), num, d) [.int .u8 3, .int .u8 num, .slice A1 nd c1] rfl (by rw [World.size_alloc]; rfl) hF2.out (Kd.N_alloc hN.out _) (below_alloc hB.out _) (by have := hB.out.size; simp; omega) (by have := hpl.out; omega) ?_); intro A9 c9 w9 hN9 hB9; have hN9 := Aside0.mk hN9; have hB9 := Aside0.mk hB9)
          go_roundg k1
          case measure => omega
          case rel => exact ⟨i + 1, A9, c9, _, pre ++ [((3 : Int), num, d)], rfl, rfl, by omega, ⟨by rw [hpre.out, hsn.out, List.append_assoc]⟩, ⟨by have := hpl.out; simp; omega⟩, ⟨by simp⟩, ⟨by have h := hN9.out; rw [List.length_append] at h; exact h⟩, hB9⟩
        | zero =>
          have hd : decide ((i : Int) < (n3 : Int)) = false := decide_eq_false (by omega)
          have hd' : decide (i < n3) = false := decide_eq_false (by omega)
          have hall : c.bks.take i = c.bks := List.take_of_length_le (by have := hnn3.out; omega)
          rw [hall] at hpre
          have hp : Aside0 (pre = secs c) := ⟨by rw [hpre.out, hLL.out]; rfl⟩
          clear hall hpre
          go_wp2
          go_ret
          have e := hp.out
          subst e
          have en := hnL.out
          subst en
          have hr := Kd.N_reads' hN.out
          exact ⟨A, c', rfl, hr.2.1, hr.2.2, hB.out⟩
end Go.Proofs.YtembdahclmffjaaDoor.Pk
/- cart.body: the walk. -/
namespace Go.Proofs.YtembdahclmffjaaDoor.Pk
open Go.RowKit Go.Proofs.YtembdahclmffjaaDoorW.PrintWords Go.Proofs.YtembdahclmffjaaDoorW.PrintLast Go.Proofs.YtembdahclmffjaaDoorW.PrintMore Go.Proofs.YtembdahclmffjaaDoor.Mem
set_option linter.unusedVariables false
set_option linter.unusedSimpArgs false
theorem atS {w : World} {A : Option Addr} {n : Nat} {l : List ScT} (h : kS.C w A n l) (i : Nat) (hi : i < n) : ∃ ad A2 c2, A = some ad ∧ w.cell? (ad.add (i * 3)) = some (.int .u8 (l.getD i (0, 0, [])).1) ∧ w.cell? ⟨(ad.add (i * 3)).block, (ad.add (i * 3)).off + 1, none⟩ = some (.int .u8 (l.getD i (0, 0, [])).2.1) ∧ w.cell? ⟨(ad.add (i * 3)).block, (ad.add (i * 3)).off + 2, none⟩ = some (.slice A2 (l.getD i (0, 0, [])).2.2.length c2) ∧ (l.getD i (0, 0, [])).2.2.length ≤ c2 ∧ Kd.C (Kd.int .u8) w A2 (l.getD i (0, 0, [])).2.2.length (l.getD i (0, 0, [])).2.2 := by
  obtain ⟨a0, cc, e0, _, hK, hx⟩ := Kd.C_get h (0, 0, []) (i : Int) (by omega) (by omega)
  rw [Int.toNat_natCast] at hK hx
  subst e0
  generalize l.getD i (0, 0, []) = x at hK ⊢
  obtain ⟨k, num, d⟩ := x
  obtain ⟨_, _, rfl, rfl, ⟨_, _, rfl, rfl, ⟨A1, c1, rfl, l1, g1⟩⟩⟩ := hK
  have h0 := hx 0 _ rfl
  have h1 := hx 1 _ rfl
  have h2 := hx 2 _ rfl
  rw [szS] at h0 h1 h2
  refine ⟨a0, A1, c1, rfl, h0, ?_, ?_, l1, g1⟩
  · rw [← h1]; congr 1
    unfold Addr.add
    split <;> simp_all <;> omega
  · rw [← h2]; congr 1
    unfold Addr.add
    split <;> simp_all <;> omega
theorem word_eq (x : Int) (h0 : 0 ≤ x) (h1 : x ≤ 4294967295) : ([x % 65536 % 256, x % 65536 / 256, x / 65536 % 256, x / 65536 / 256] : List Int) = wordB x := by
  simp only [wordB, lowI, List.cons.injEq, and_true]
  omega
theorem tab_step (l : List ScT) (i : Nat) (a : Int) (h : i < l.length) : tabB a (l.drop i) = (l.getD i (0, 0, [])).1 :: (l.getD i (0, 0, [])).2.1 :: (wordB a ++ (wordB (l.getD i (0, 0, [])).2.2.length ++ tabB (a + (l.getD i (0, 0, [])).2.2.length) (l.drop (i + 1)))) := by
  rw [List.drop_eq_getElem_cons h, getD_at _ _ h]
  rfl
theorem dat_step (l : List ScT) (i : Nat) (h : i < l.length) : datB (l.drop i) = (l.getD i (0, 0, [])).2.2 ++ datB (l.drop (i + 1)) := by
  rw [List.drop_eq_getElem_cons h, getD_at _ _ h, dat_cons]
theorem secs_len18 {c : CartP} (h : OkC c) : (secs c).length ≤ 18 := by have := bk_len h.bs; rw [secs_len]; omega
set_option maxRecDepth 100000 in
set_option maxHeartbeats 8000000 in
theorem Body {w : World} {A0 A2 A3 : Option Addr} {c0 c2 c3 : Nat} {c : CartP} (h : IsC w A0 c0 A2 c2 A3 c3 c) (hok : OkC c) (hwf : WfC c) :
    Calls Tryd.prog 39 #[crt A0 c0 A2 c2 A3 c3 c] w fun e w' => ∃ v, e = .returned v ∧ Kd.R (Kd.int .u8) 5 w' w.heap.size (fun _ => True) v (bodyB c.entry (secs c)) ∧ Below w.heap.size w w' := by
  have hl18 := secs_len18 hok
  have hdl := secs_dat hok
  have he0 := hwf.e0
  have he1 : c.entry ≤ 65535 := by have := hwf.e1; omega
  have hbody := body_len c.entry (secs c)
  have hBe : Aside0 (bodyB c.entry (secs c) = ([87, 73, 83, 80, 1, ((secs c).length : Int), c.entry % 256, c.entry / 256] : List Int) ++ (tabB (8 + 10 * (secs c).length) (secs c) ++ datB (secs c))) := ⟨rfl⟩
  have hKS := Aside0.mk (fun (W : World) (hb : Below w.heap.size w W) => Sections (h.below hb) hok hwf)
  clear h hok hwf
  unfold crt at hKS ⊢
  generalize c.code.length = n0 at *
  generalize c.efs.length = n2 at *
  generalize c.bks.length = n3 at *
  generalize c.entry = ent at *
  generalize secs c = l at *
  clear c
  obtain ⟨n, hn⟩ : ∃ n, n = l.length := ⟨_, rfl⟩
  obtain ⟨T, hT⟩ : ∃ T, T = bodyB ent l := ⟨_, rfl⟩
  rw [← hT] at hBe hbody ⊢
  rw [← hn] at hl18 hbody hBe hKS
  have hTl : Aside0 (T.length ≤ 400000) := ⟨by omega⟩
  have hDl : Aside0 ((datB l).length ≤ 400000) := ⟨by omega⟩
  have hnn := Aside0.mk hn
  clear hT hn hbody hdl
  have hB0 := Aside0.mk (below_alloc (Below.refl w.heap.size w) (.cells #[.slice A0 n0 c0, .int .u16 ent, .slice A2 n2 c2, .slice A3 n3 c3] 28))
  have hX0 := World.alloc_heap_new w (.cells #[.slice A0 n0 c0, .int .u16 ent, .slice A2 n2 c2, .slice A3 n3 c3] 28)
  have hX := Aside0.mk hX0
  clear hX0
  go_enter Tryd.func39, Tryd.ntmps39
  go_wp2_with (go_at_call 49; go_must (with_reducible refine (hKS.out _ hB0.out).mono ?_); rintro e w1 ⟨A, cl, rfl, hlc, hC1, hb1⟩; refine Hid.out ?_)
  refine Lib.hid ?_
  have hlt1 : w.heap.size < w1.heap.size := by have := hb1.size; simp at this; omega
  have hx1 : w1.heap[w.heap.size]? = some (.cells #[.slice A0 n0 c0, .int .u16 ent, .slice A2 n2 c2, .slice A3 n3 c3] 28 (0, 0)) := (hb1.block _ (by simp)).trans hX.out
  have hbw1 := Aside0.mk (hB0.out.trans (hb1.mono (by simp)))
  have hS := Aside0.mk (show Wst w1 (w1.alloc (.cells #[.slice none 0 0] 51)) w1.heap.size w.heap.size (.cells #[.slice A0 n0 c0, .int .u16 ent, .slice A2 n2 c2, .slice A3 n3 c3] 28 (0, 0)) [] from ⟨(IsW.new w1 w1.heap.size (Nat.le_refl _)).mono (fun k hk _ _ => hk.elim), below_alloc (Below.refl _ _) _, (by rw [← hx1]; exact (below_alloc (Below.refl _ _) _ : Below w1.heap.size w1 _).block _ hlt1), by omega⟩)
  have hCC := Aside0.mk hC1
  have hSl := Aside0.mk (fun (W : World) (xs : List Int) (o : Obj) (hS : Wst w1 W w1.heap.size w.heap.size (.cells #[.slice A0 n0 c0, .int .u16 ent, .slice A2 n2 c2, .slice A3 n3 c3] 28 (0, 0)) xs) => hS)
  clear hC1 hb1 hKS hX hx1 hlc
  have kc := Go.Lib.run_convert_bytes_const (P := Tryd.prog) (w1.alloc (.cells #[.slice none 0 0] 51)) 22 5 #[.int .u8 87, .int .u8 73, .int .u8 83, .int .u8 80] 4 4 Tryd.underlying22 Tryd.underlying5
  rw [World.size_alloc] at kc
  have hL0 := C_lit (fr := (4, 5)) (w1.alloc (.cells #[.slice none 0 0] 51)) [87, 73, 83, 80] 5 (by simp)
  have kB0 := Bytes (c := 4) (ys := [87, 73, 83, 80]) (hS.out.isw.lit (.cells #[.int .u8 87, .int .u8 73, .int .u8 83, .int .u8 80] 5 (4, 5))) (by have := hS.out.le; simp; omega) hL0 (by simp)
  rw [World.size_alloc] at kB0
  have kB := Aside0.mk kB0
  clear hL0 kB0
  have hn256 : ((n : Int) % 256) = (n : Int) := by omega
  have hn25 := Aside0.mk hn256
  clear hn256
  go_wp2_with (first | (go_at_call 19; ((refine kB.out.mono ?_); rintro e w2 ⟨rfl, hW, hF⟩; have hS2 := Aside0.mk (hS.out.step (up hW) (upF hF)); clear hW hF kB)) | (go_at_call 20; ((with_reducible refine (Byte 1 hS2.out.isw hS2.out.le (by simp)).mono ?_); rintro e w3 ⟨rfl, hW, hF⟩; have hS3 := Aside0.mk (hS2.out.step hW hF); clear hW hF)) | (go_at_call 20; ((with_reducible refine (Byte _ hS3.out.isw hS3.out.le (by simp)).mono ?_); rintro e w4 ⟨rfl, hW, hF⟩; have hS4 := Aside0.mk (hS3.out.step hW hF); have q1 := hS4.out.cell rfl 1 rfl; clear hW hF)) | (go_at_call 21; ((with_reducible refine (Cell ent he0 he1 hS4.out.isw hS4.out.le (by simp)).mono ?_); rintro e w5 ⟨rfl, hW, hF⟩; have hS5 := Aside0.mk (hS4.out.step hW hF); clear hW hF)))
  have hT8 : Aside0 ((((([] ++ [87, 73, 83, 80]) ++ [1]) ++ [(n : Int)]) ++ [ent % 256, ent / 256]) ++ (tabB (8 + 10 * (n : Int)) (l.drop 0) ++ datB l) = T) := ⟨by rw [hBe.out]; rfl⟩
  have hI5 := Aside0.mk (hS5.out.isw.mono (ok' := fun k => w1.heap.size < k) (fun k hk _ _ => hk.1))
  have hB5 := Aside0.mk hS5.out.bel
  generalize (((([] ++ [87, 73, 83, 80]) ++ [1]) ++ [(n : Int)]) ++ [ent % 256, ent / 256] : List Int) = xs0 at hT8 hI5
  clear hS hS2 hS3 hS4 hS5 hSl q1 hB0 kc
  go_loopg [5, 35] n (fun gk v5 v35 wr => ∃ (i : Nat) (a : Int) (xs : List Int), v35 = .int .i64 (i : Int) ∧ v5 = .int .i64 a ∧ 0 ≤ a ∧ Aside0 (a + (datB (l.drop i)).length ≤ 800000) ∧ i + gk = n ∧ Aside0 (xs ++ (tabB a (l.drop i) ++ datB l) = T) ∧ Aside0 (IsW wr w1.heap.size (fun k => w1.heap.size < k) w1.heap.size xs) ∧ Aside0 (Below w1.heap.size w1 wr))
  case atStart => exact ⟨0, 8 + 10 * (n : Int), xs0, rfl, rfl, by omega, ⟨by have := hDl.out; rw [List.drop_zero]; omega⟩, by omega, hT8, hI5, hB5⟩
  case round =>
    obtain ⟨i, a, xs, rfl, rfl, ha0, ha1, hi, hT, hW, hB⟩ := hrel
    cases gk with
    | succ k1 =>
      have hd : decide ((i : Int) < (n : Int)) = true := decide_eq_true (by omega)
      have hd' : decide (i < n) = true := decide_eq_true (by omega)
      have hilt : i < l.length := by have := hnn.out; omega
      have hts := tab_step l i a hilt
      have hds := dat_step l i hilt
      have hT0 := hT.out
      have ha2 := ha1.out
      have hlen0 := congrArg List.length hT0
      rw [List.length_append] at hlen0
      have hxl := Aside0.mk (show xs.length ≤ 400000 by have := hTl.out; omega)
      obtain ⟨ad, A1, c1, eA, hx0, hx1, hx2, _, _⟩ := atS hCC.out i (by have := hnn.out; omega)
      subst eA
      generalize l.getD i (0, 0, []) = x at hx0 hx1 hx2 hts hds
      obtain ⟨k, num, d⟩ := x
      dsimp only at hx0 hx1 hx2 hts hds
      rw [hds, List.length_append] at ha2
      rw [hts] at hT0
      obtain ⟨nd, hnd⟩ : ∃ m, m = d.length := ⟨_, rfl⟩
      rw [← hnd] at hx2 hT0 ha2
      have hnd8 : (nd : Int) ≤ 800000 := by omega
      have ha8 : a ≤ 800000 := by omega
      have hT1 := Aside0.mk hT0
      have ha3 := Aside0.mk ha2
      replace hx0 := (hB.out.cell (World.block_lt_of_cell? _ _ hx0)).trans hx0
      replace hx1 := (hB.out.cell (World.block_lt_of_cell? _ _ hx1)).trans hx1
      replace hx2 := (hB.out.cell (World.block_lt_of_cell? _ _ hx2)).trans hx2
      clear hts hds hT hT0 ha1 ha2 hlen0 hnd hilt
      have hS := Aside0.mk (Wst.of (.cells #[.int .u8 k, .int .u8 num, .slice A1 nd c1] 100) hW.out (fun k hk => hk) hB.out)
      go_wp2_with (first | (go_at_call 20; ((with_reducible refine (Byte k hS.out.isw hS.out.le (by have := hxl.out; omega)).mono ?_); rintro e w2 ⟨rfl, hW1, hF1⟩; have hS1 := Aside0.mk (hS.out.step hW1 hF1); have y1 := hS1.out.cell rfl 1 rfl; have y2 := hS1.out.cell rfl 2 rfl; clear hW1 hF1)) | (go_at_call 20; ((with_reducible refine (Byte num hS1.out.isw hS1.out.le (by have := hxl.out; simp; omega)).mono ?_); rintro e w3 ⟨rfl, hW1, hF1⟩; have hS2 := Aside0.mk (hS1.out.step hW1 hF1); have z2 := hS2.out.cell rfl 2 rfl; clear hW1 hF1)) | (go_at_call 22; ((with_reducible refine (Word a ha0 (by omega) hS2.out.isw hS2.out.le (by have := hxl.out; simp; omega)).mono ?_); rintro e w4 ⟨rfl, hW1, hF1⟩; have hS3 := Aside0.mk (hS2.out.step hW1 hF1); have u2 := hS3.out.cell rfl 2 rfl; clear hW1 hF1)) | (go_at_call 22; ((with_reducible refine (Word (nd : Int) (by omega) (by omega) hS3.out.isw hS3.out.le (by have := hxl.out; simp; omega)).mono ?_); rintro e w5 ⟨rfl, hW1, hF1⟩; have hS4 := Aside0.mk (hS3.out.step hW1 hF1); have t2 := hS4.out.cell rfl 2 rfl; clear hW1 hF1)))
      go_roundg k1
      case measure => omega
      case rel =>
        refine ⟨i + 1, a + nd, _, rfl, rfl, by omega, ⟨by have := ha3.out; omega⟩, by omega, ⟨?_⟩, ⟨hS4.out.isw.mono (fun k hk _ _ => hk.1)⟩, ⟨hS4.out.bel⟩⟩
        rw [← hT1.out, word_eq a ha0 (by omega), word_eq (nd : Int) (by omega) (by omega)]
        simp only [List.append_assoc, List.cons_append, List.nil_append]
    | zero =>
      have hd : decide ((i : Int) < (n : Int)) = false := decide_eq_false (by omega)
      have hd' : decide (i < n) = false := decide_eq_false (by omega)
      have hall : l.drop i = [] := List.drop_of_length_le (by have := hnn.out; omega)
      have hT0 := hT.out
      rw [hall] at hT0
      have hT1 : Aside0 (xs ++ datB (l.drop 0) = T) := ⟨hT0⟩
      clear hall hT0 hT ha1
      go_wp2
      clear hi hd hd'
      go_loopg [65] n (fun gk v65 wr => ∃ (i : Nat) (xs : List Int), v65 = .int .i64 (i : Int) ∧ i + gk = n ∧ Aside0 (xs ++ datB (l.drop i) = T) ∧ Aside0 (IsW wr w1.heap.size (fun k => w1.heap.size < k) w1.heap.size xs) ∧ Aside0 (Below w1.heap.size w1 wr))
      case atStart => exact ⟨0, xs, rfl, by omega, hT1, hW, hB⟩
      case round =>
        clear hW hB hT1
        obtain ⟨i, xs, rfl, hi, hT, hW, hB⟩ := hrel
        cases gk with
        | succ k1 =>
          have hd : decide ((i : Int) < (n : Int)) = true := decide_eq_true (by omega)
          have hd' : decide (i < n) = true := decide_eq_true (by omega)
          have hilt : i < l.length := by have := hnn.out; omega
          have hds := dat_step l i hilt
          have hT0 := hT.out
          have hlen0 := congrArg List.length hT0
          rw [List.length_append] at hlen0
          have hxl0 : xs.length ≤ 400000 := by have := hTl.out; omega
          obtain ⟨ad, A1, c1, eA, hx0, hx1, hx2, hx3, hx4⟩ := atS hCC.out i (by have := hnn.out; omega)
          subst eA
          generalize l.getD i (0, 0, []) = x at hx0 hx1 hx2 hx3 hx4 hds
          obtain ⟨k, num, d⟩ := x
          dsimp only at hx0 hx1 hx2 hx3 hx4 hds
          rw [hds] at hT0 hlen0
          rw [List.length_append] at hlen0
          have hdl0 : d.length ≤ 400000 := by have := hTl.out; omega
          have hT1 := Aside0.mk hT0
          replace hx0 := (hB.out.cell (World.block_lt_of_cell? _ _ hx0)).trans hx0
          replace hx1 := (hB.out.cell (World.block_lt_of_cell? _ _ hx1)).trans hx1
          replace hx2 := (hB.out.cell (World.block_lt_of_cell? _ _ hx2)).trans hx2
          have hS := Aside0.mk (Wst.of (.cells #[.int .u8 k, .int .u8 num, .slice A1 d.length c1] 100) hW.out (fun k hk => hk) hB.out)
          have kB := Aside0.mk (Bytes (c := c1) hS.out.isw hS.out.le (Kd.C_below hx4 (hB.out.alloc (Nat.le_of_lt hW.out.lt) (.cells #[.int .u8 k, .int .u8 num, .slice A1 d.length c1] 100))) (by omega))
          obtain ⟨nd, hnd⟩ : ∃ m, m = d.length := ⟨_, rfl⟩
          rw [← hnd] at hx2 kB hS
          clear hds hT hT0 hlen0 hnd hilt hx3 hx4
          go_wp2_with (go_at_call 19; ((with_reducible refine kB.out.mono ?_); rintro e w2 ⟨rfl, hW1, hF1⟩; have hS1 := Aside0.mk (hS.out.step hW1 hF1); clear hW1 hF1))
          go_roundg k1
          case measure => omega
          case rel => exact ⟨i + 1, _, rfl, by omega, ⟨by rw [← hT1.out, List.append_assoc]⟩, ⟨hS1.out.isw.mono (fun k hk _ _ => hk.1)⟩, ⟨hS1.out.bel⟩⟩
        | zero =>
          have hd : decide ((i : Int) < (n : Int)) = false := decide_eq_false (by omega)
          have hd' : decide (i < n) = false := decide_eq_false (by omega)
          have hall : l.drop i = [] := List.drop_of_length_le (by have := hnn.out; omega)
          have hT0 := hT.out
          rw [hall] at hT0
          have hT1 : Aside0 (xs = T) := ⟨by rw [← hT0]; simp [datB]⟩
          clear hall hT0 hT hd hd'
          have kD := Aside0.mk (Done hW.out (by rw [hT1.out]; have := hTl.out; omega))
          go_wp2_with (go_at_call 23; ((with_reducible refine kD.out.mono ?_); rintro e w2 ⟨v, rfl, hR, hb⟩))
          go_ret
          have e := hT1.out
          subst e
          refine ⟨v, rfl, Kd.R_lower hR (by have := hB.out.size; have := hbw1.out.size; omega), ?_⟩
          exact (hbw1.out.trans (hB.out.mono hbw1.out.size)).trans (hb.mono (by have := hB.out.size; have := hbw1.out.size; omega))
end Go.Proofs.YtembdahclmffjaaDoor.Pk
/- cart.Encode, cart.Sum: the walks. -/
namespace Go.Proofs.YtembdahclmffjaaDoor.Pk
open Go.RowKit Go.Proofs.YtembdahclmffjaaDoorW.PrintWords Go.Proofs.YtembdahclmffjaaDoorW.PrintLast Go.Proofs.YtembdahclmffjaaDoorW.PrintMore Go.Proofs.YtembdahclmffjaaDoor.Mem
set_option linter.unusedVariables false
set_option linter.unusedSimpArgs false
/-- the sum of one row -/
theorem sum_one_call {w : World} {A : Option Addr} {c : Nat} {xs : List Int} (hT : Tab w) (hl : xs.length ≤ c) (hC : Kd.C (Kd.int .u8) w A xs.length xs) :
    Calls Tryd.prog 18 #[.slice (some ⟨w.heap.size, 0, none⟩) 1 1] (w.alloc (.cells #[.slice A xs.length c] 22)) fun e w' => e = .returned (.int .u32 (sumI [xs])) ∧ w.alloc (.cells #[.slice A xs.length c] 22) = w' :=
  Sum (c := 1) (hT.below (below_alloc (Below.refl _ _) _)) (C_one (c := c) 22 hl hC)
theorem chk_ok {c : CartP} (h : OkC c) : chk c = 0 := if_pos h
theorem chk_bad {c : CartP} (h : ¬ OkC c) : chk c = 74 := if_neg h
set_option maxRecDepth 100000 in
set_option maxHeartbeats 4000000 in
theorem Encode_bad {w : World} {A0 A2 A3 : Option Addr} {c0 c2 c3 : Nat} {c : CartP} (h : IsC w A0 c0 A2 c2 A3 c3 c) (hok : ¬ OkC c) (he : c.efs.length < 4611686018427387904) (hb : c.bks.length < 4611686018427387904) :
    Calls Tryd.prog 16 #[crt A0 c0 A2 c2 A3 c3 c] w fun e w' => e = .returned (.tuple #[.slice none 0 0, .int .i64 74]) ∧ Below w.heap.size w w' := by
  have hK := Aside0.mk (fun (W : World) (hb1 : Below w.heap.size w W) => Check (h.below hb1) he hb)
  have hc := chk_bad hok
  rw [hc] at hK
  clear h hok he hb hc
  unfold crt at hK ⊢
  have hB0 := Aside0.mk (below_alloc (Below.refl w.heap.size w) (.cells #[.slice A0 c.code.length c0, .int .u16 c.entry, .slice A2 c.efs.length c2, .slice A3 c.bks.length c3] 28))
  generalize c.code.length = n0 at *
  generalize c.efs.length = n2 at *
  generalize c.bks.length = n3 at *
  generalize c.entry = ent at *
  go_enter Tryd.func16, Tryd.ntmps16
  go_wp2_with (go_at_call 17; go_must (with_reducible refine (hK.out _ hB0.out).mono ?_); rintro e w1 ⟨rfl, hb1⟩)
  go_ret2
  exact ⟨rfl, hB0.out.trans (hb1.mono (by simp))⟩
set_option maxRecDepth 100000 in
set_option maxHeartbeats 4000000 in
theorem CSum_bad {w : World} {A0 A2 A3 : Option Addr} {c0 c2 c3 : Nat} {c : CartP} (h : IsC w A0 c0 A2 c2 A3 c3 c) (hok : ¬ OkC c) (he : c.efs.length < 4611686018427387904) (hb : c.bks.length < 4611686018427387904) :
    Calls Tryd.prog 26 #[crt A0 c0 A2 c2 A3 c3 c] w fun e w' => e = .returned (.tuple #[.int .u32 0, .int .i64 74]) ∧ Below w.heap.size w w' := by
  have hK := Aside0.mk (fun (W : World) (hb1 : Below w.heap.size w W) => Check (h.below hb1) he hb)
  have hc := chk_bad hok
  rw [hc] at hK
  clear h hok he hb hc
  unfold crt at hK ⊢
  have hB0 := Aside0.mk (below_alloc (Below.refl w.heap.size w) (.cells #[.slice A0 c.code.length c0, .int .u16 c.entry, .slice A2 c.efs.length c2, .slice A3 c.bks.length c3] 28))
  generalize c.code.length = n0 at *
  generalize c.efs.length = n2 at *
  generalize c.bks.length = n3 at *
  generalize c.entry = ent at *
  go_enter Tryd.func26, Tryd.ntmps26
  go_wp2_with (go_at_call 17; go_must (with_reducible refine (hK.out _ hB0.out).mono ?_); rintro e w1 ⟨rfl, hb1⟩)
  go_ret2
  exact ⟨rfl, hB0.out.trans (hb1.mono (by simp))⟩
set_option maxRecDepth 100000 in
set_option maxHeartbeats 4000000 in
theorem CSum_ok {w : World} {A0 A2 A3 : Option Addr} {c0 c2 c3 : Nat} {c : CartP} (hT : Tab w) (h : IsC w A0 c0 A2 c2 A3 c3 c) (hok : OkC c) (hwf : WfC c) :
    Calls Tryd.prog 26 #[crt A0 c0 A2 c2 A3 c3 c] w fun e w' => e = .returned (.tuple #[.int .u32 (sumI [bodyB c.entry (secs c)]), .int .i64 0]) ∧ Below w.heap.size w w' := by
  have hK := Aside0.mk (fun (W : World) (hb1 : Below w.heap.size w W) => Check (h.below hb1) (by have := hok.el; omega) (by have := bk_len hok.bs; omega))
  have hKB := Aside0.mk (fun (W : World) (hb1 : Below w.heap.size w W) => Body (h.below hb1) hok hwf)
  have hc := chk_ok hok
  rw [hc] at hK
  have hTT := Aside0.mk hT
  clear h hok hwf hc hT
  unfold crt at hK hKB ⊢
  have hB0 := Aside0.mk (below_alloc (Below.refl w.heap.size w) (.cells #[.slice A0 c.code.length c0, .int .u16 c.entry, .slice A2 c.efs.length c2, .slice A3 c.bks.length c3] 28))
  have hX := Aside0.mk (World.alloc_heap_new w (.cells #[.slice A0 c.code.length c0, .int .u16 c.entry, .slice A2 c.efs.length c2, .slice A3 c.bks.length c3] 28))
  obtain ⟨T, hTe⟩ : ∃ T, T = bodyB c.entry (secs c) := ⟨_, rfl⟩
  rw [← hTe] at hKB ⊢
  clear hTe
  generalize c.code.length = n0 at *
  generalize c.efs.length = n2 at *
  generalize c.bks.length = n3 at *
  generalize c.entry = ent at *
  go_enter Tryd.func26, Tryd.ntmps26
  go_wp2_with (first | (go_at_call 17; ((with_reducible refine (hK.out _ hB0.out).mono ?_); rintro e w1 ⟨rfl, hb1⟩; have hx1 := (hb1.block _ (by simp)).trans hX.out; have q0 : w1.cell? ⟨w.heap.size, 0, none⟩ = some (.slice A0 n0 c0) := (by simp [World.cell?, hx1]); have q1 : w1.cell? ⟨w.heap.size, 1, none⟩ = some (.int .u16 ent) := (by simp [World.cell?, hx1]); have q2 : w1.cell? ⟨w.heap.size, 2, none⟩ = some (.slice A2 n2 c2) := (by simp [World.cell?, hx1]); have q3 : w1.cell? ⟨w.heap.size, 3, none⟩ = some (.slice A3 n3 c3) := (by simp [World.cell?, hx1]); have hB1 := Aside0.mk (hB0.out.trans (hb1.mono (by simp))); clear hb1 hx1)) | (go_at_call 39; ((with_reducible refine (hKB.out _ hB1.out).mono ?_); rintro e w2 ⟨v, rfl, hR, hb2⟩; have hB2 := Aside0.mk (hB1.out.trans (hb2.mono hB1.out.size)); obtain ⟨A9, c9, rfl, hl9, hC9⟩ := Kd.R_reads hR; have kS := Aside0.mk (sum_one_call (hTT.out.below hB2.out) hl9 hC9); clear hR hb2 hl9 hC9)) | (go_at_call 18; ((with_reducible refine kS.out.mono ?_); rintro e w3 ⟨rfl, rfl⟩)))
  go_ret2
  exact ⟨rfl, below_alloc hB2.out _⟩
set_option maxRecDepth 100000 in
set_option maxHeartbeats 4000000 in
theorem Encode_ok {w : World} {A0 A2 A3 : Option Addr} {c0 c2 c3 : Nat} {c : CartP} (hT : Tab w) (h : IsC w A0 c0 A2 c2 A3 c3 c) (hok : OkC c) (hwf : WfC c) :
    Calls Tryd.prog 16 #[crt A0 c0 A2 c2 A3 c3 c] w fun e w' => ∃ v, e = .returned (.tuple #[v, .int .i64 0]) ∧ Kd.R (Kd.int .u8) 5 w' w.heap.size (fun _ => True) v (encB c) ∧ Below w.heap.size w w' := by
  have hK := Aside0.mk (fun (W : World) (hb1 : Below w.heap.size w W) => Check (h.below hb1) (by have := hok.el; omega) (by have := bk_len hok.bs; omega))
  have hKB := Aside0.mk (fun (W : World) (hb1 : Below w.heap.size w W) => Body (h.below hb1) hok hwf)
  have hc := chk_ok hok
  rw [hc] at hK
  have hTT := Aside0.mk hT
  have hbl := body_len c.entry (secs c)
  have hsl := secs_len18 hok
  have hsd := secs_dat hok
  clear h hok hwf hc hT
  unfold crt at hK hKB ⊢
  have hB0 := Aside0.mk (below_alloc (Below.refl w.heap.size w) (.cells #[.slice A0 c.code.length c0, .int .u16 c.entry, .slice A2 c.efs.length c2, .slice A3 c.bks.length c3] 28))
  have hX := Aside0.mk (World.alloc_heap_new w (.cells #[.slice A0 c.code.length c0, .int .u16 c.entry, .slice A2 c.efs.length c2, .slice A3 c.bks.length c3] 28))
  obtain ⟨T, hTe⟩ : ∃ T, T = bodyB c.entry (secs c) := ⟨_, rfl⟩
  have hE : Aside0 (encB c = T ++ wordB (sumI [T])) := ⟨by rw [hTe]; rfl⟩
  rw [← hTe] at hKB hbl
  have hTl : Aside0 (T.length ≤ 400000) := ⟨by omega⟩
  have hSb := sum_bd [T]
  obtain ⟨S, hS⟩ : ∃ S, S = sumI [T] := ⟨_, rfl⟩
  rw [← hS] at hE hSb
  have hSS := Aside0.mk hS
  have s0 := hSb.1
  have s1 : S ≤ 4294967295 := by have := hSb.2; omega
  obtain ⟨E, hEE⟩ : ∃ E, E = encB c := ⟨_, rfl⟩
  rw [← hEE] at hE ⊢
  clear hTe hbl hsl hsd hSb hS hEE
  generalize c.code.length = n0 at *
  generalize c.efs.length = n2 at *
  generalize c.bks.length = n3 at *
  generalize c.entry = ent at *
  go_enter Tryd.func16, Tryd.ntmps16
  go_wp2_with (first | (go_at_call 17; ((with_reducible refine (hK.out _ hB0.out).mono ?_); rintro e w1 ⟨rfl, hb1⟩; have hx1 := (hb1.block _ (by simp)).trans hX.out; have q0 : w1.cell? ⟨w.heap.size, 0, none⟩ = some (.slice A0 n0 c0) := (by simp [World.cell?, hx1]); have q1 : w1.cell? ⟨w.heap.size, 1, none⟩ = some (.int .u16 ent) := (by simp [World.cell?, hx1]); have q2 : w1.cell? ⟨w.heap.size, 2, none⟩ = some (.slice A2 n2 c2) := (by simp [World.cell?, hx1]); have q3 : w1.cell? ⟨w.heap.size, 3, none⟩ = some (.slice A3 n3 c3) := (by simp [World.cell?, hx1]); have hB1 := Aside0.mk (hB0.out.trans (hb1.mono (by simp))); have hlt1 : w.heap.size < w1.heap.size := (by have := hb1.size; simp at this; omega); have hBw := Aside0.mk (below_alloc hB1.out (.cells #[.slice none 0 0] 51)); have hI := Aside0.mk (IsW.new w1 w1.heap.size (Nat.le_refl _)); clear hb1 hx1)) | (go_at_call 39; ((with_reducible refine (hKB.out _ hBw.out).mono ?_); rintro e w2 ⟨v, rfl, hR, hb2⟩; have hB2 := Aside0.mk (hBw.out.trans (hb2.mono hBw.out.size)); have hI2 := Aside0.mk (hI.out.below hb2); obtain ⟨A9, c9, rfl, hl9, hC9⟩ := Kd.R_reads hR; have kY := Aside0.mk (Bytes (c := c9) hI2.out (Nat.le_of_lt hI2.out.lt) hC9 (by have := hTl.out; simp; omega)); have hR2 := Aside0.mk (Kd.R_mono (ok' := fun k => w1.heap.size + 1 ≤ k) (Kd.R_bound hR) (fun k hk => by have := hk.2.1; simp at this; exact this)); have hgs := (by have := hb2.size; simp at this; exact this : w1.heap.size + 1 ≤ w2.heap.size); clear hR hb2 hC9)) | (go_at_call 19; ((with_reducible refine kY.out.mono ?_); rintro e w3 ⟨rfl, hW, hF⟩; have hR3 := Kd.R_reads' (hF.row hR2.out (fun k hk _ hs => by rcases hs with e | e; omega; exact e)); have hB3 := Aside0.mk (hB2.out.trans (hF.below (B := w.heap.size) (by omega) (fun k hk hs => by rcases hs with e | e; omega; exact e))); have kS := Aside0.mk (sum_one_call (hTT.out.below hB3.out) hR3.2.1 hR3.2.2); rw [← hSS.out] at kS; have hI3 := Aside0.mk (hW.lit (.cells #[.slice A9 T.length c9] 22)); have hs3 := hF.size; clear hW hF hR3)) | (go_at_call 18; ((with_reducible refine kS.out.mono ?_); rintro e w4 ⟨rfl, rfl⟩)) | (go_at_call 22; ((with_reducible refine (Word S s0 s1 hI3.out (Nat.le_of_lt hI3.out.lt) (by have := hTl.out; simp; omega)).mono ?_); rintro e w5 ⟨rfl, hW, hF⟩; have hB5 := Aside0.mk ((below_alloc hB3.out _).trans (hF.below (B := w.heap.size) (by simp; omega) (fun k hk hs => by rcases hs with e | e | e; omega; exact e; omega))); have kD := Aside0.mk (Done hW (by have := hTl.out; simp; omega)); clear hW hF)) | (go_at_call 23; ((with_reducible refine kD.out.mono ?_); rintro e w6 ⟨v6, rfl, hR, hb6⟩)))
  go_ret2
  refine ⟨v6, rfl, ?_, hB5.out.trans (hb6.mono hB5.out.size)⟩
  have h9 := Kd.R_lower hR hB5.out.size
  rw [hE.out, ← word_eq S s0 s1]
  simpa using h9
end Go.Proofs.YtembdahclmffjaaDoor.Pk
/- A reader that stands within its bytes; cart.want. -/
namespace Go.Proofs.YtembdahclmffjaaDoor.Pk
open Go.RowKit Go.Proofs.YtembdahclmffjaaDoorW.PrintWords Go.Proofs.YtembdahclmffjaaDoorW.PrintLast Go.Proofs.YtembdahclmffjaaDoorW.PrintMore Go.Proofs.YtembdahclmffjaaDoor.Mem
set_option linter.unusedVariables false
set_option linter.unusedSimpArgs false
theorem take_in {xs : List Int} {n : Nat} (h : n ≤ xs.length) : takeL xs 0 (n : Int) = xs.take n ∧ leftL xs 0 (n : Int) = xs.drop n ∧ errL xs 0 (n : Int) = 0 := by
  have hc : (0 : Int) = 0 ∧ 0 ≤ (n : Int) ∧ (n : Int) ≤ xs.length := ⟨rfl, by omega, by omega⟩
  refine ⟨(if_pos hc).trans (by rw [Int.toNat_natCast]), (if_pos hc).trans (by rw [Int.toNat_natCast]), if_neg (fun h => h.2 hc.2)⟩
theorem allB_drop {b : List Int} (h : allB b) (p : Nat) : allB (b.drop p) := fun x hx => h x (List.mem_of_mem_drop hx)
theorem allB_take {b : List Int} (h : allB b) (p : Nat) : allB (b.take p) := fun x hx => h x (List.mem_of_mem_take hx)
theorem val1 {b : List Int} {p : Nat} (h : p + 1 ≤ b.length) : valI ((b.drop p).take 1) = b.getD p 0 := by
  rw [drop_getD (show p < b.length by omega)]
  simp [valI]
theorem val2 {b : List Int} {p : Nat} (h : p + 2 ≤ b.length) : valI ((b.drop p).take 2) = low2 b p := by
  rw [drop_getD (show p < b.length by omega), drop_getD (show p + 1 < b.length by omega)]
  simp [valI, low2]
theorem val4 {b : List Int} {p : Nat} (h : p + 4 ≤ b.length) : valI ((b.drop p).take 4) = low4 b p := by
  rw [drop_getD (show p < b.length by omega), drop_getD (show p + 1 < b.length by omega), drop_getD (show p + 1 + 1 < b.length by omega), drop_getD (show p + 1 + 1 + 1 < b.length by omega)]
  simp only [List.take_succ_cons, List.take_zero, valI, low4, Nat.add_assoc, Nat.reduceAdd]
  omega
/-- the reader at g has taken up p bytes of b -/
structure At (W : World) (B : Nat) (ok : Nat → Prop) (g : Nat) (b : List Int) (p : Nat) : Prop where
  r : IsR W B ok g (b.drop p) 0
  bb : allB b
  le : p ≤ b.length
section
variable {w : World} {B g p : Nat} {ok : Nat → Prop} {b : List Int}
theorem At.fr {W' : World} {S : Nat → Prop} (h : At w B ok g b p) (hf : Fr w W' S) (hg : ¬ S g) (hk : ∀ k, ok k → k < w.heap.size → ¬ S k) : At W' B ok g b p := ⟨h.r.fr hf hg hk, h.bb, h.le⟩
theorem At.below {W' : World} (h : At w B ok g b p) (hb : Below w.heap.size w W') : At W' B ok g b p := ⟨h.r.below hb, h.bb, h.le⟩
theorem At.byte (h : At w B ok g b p) (hp : p + 1 ≤ b.length) :
    Calls Tryd.prog 47 #[.pointer (some ⟨g, 0, none⟩)] w fun e w' => e = .returned (.int .u8 (b.getD p 0)) ∧ At w' B ok g b (p + 1) ∧ Fr w w' (fun k => k = g) := by
  obtain ⟨t1, t2, t3⟩ := take_in (xs := b.drop p) (n := 1) (by rw [List.length_drop]; omega)
  refine (RByte h.r).mono fun e w' ⟨he, hR, hF⟩ => ?_
  rw [show ((1 : Nat) : Int) = 1 from rfl] at t1 t2 t3
  rw [t2, t3, List.drop_drop] at hR
  have hB := allB_take (allB_drop h.bb p) 1
  have h9 := getB h.bb p
  unfold isB at h9
  rw [t1, or_val hB (by rw [List.length_take]; omega), val1 hp, Int.emod_eq_of_lt h9.1 h9.2] at he
  exact ⟨he, ⟨hR, h.bb, hp⟩, hF⟩
theorem At.cell (h : At w B ok g b p) (hp : p + 2 ≤ b.length) :
    Calls Tryd.prog 48 #[.pointer (some ⟨g, 0, none⟩)] w fun e w' => e = .returned (.int .u16 (low2 b p)) ∧ At w' B ok g b (p + 2) ∧ Fr w w' (fun k => k = g) := by
  obtain ⟨t1, t2, t3⟩ := take_in (xs := b.drop p) (n := 2) (by rw [List.length_drop]; omega)
  refine (RCell h.r).mono fun e w' ⟨he, hR, hF⟩ => ?_
  rw [show ((2 : Nat) : Int) = 2 from rfl] at t1 t2 t3
  rw [t2, t3, List.drop_drop] at hR
  have hB := allB_take (allB_drop h.bb p) 2
  have h9 := low2_bd h.bb p
  rw [t1, or_val hB (by rw [List.length_take]; omega), val2 hp, IntKind.wrap_u16, Int.emod_eq_of_lt h9.1 h9.2] at he
  exact ⟨he, ⟨hR, h.bb, hp⟩, hF⟩
theorem At.word (h : At w B ok g b p) (hp : p + 4 ≤ b.length) :
    Calls Tryd.prog 33 #[.pointer (some ⟨g, 0, none⟩)] w fun e w' => e = .returned (.int .u32 (low4 b p)) ∧ At w' B ok g b (p + 4) ∧ Fr w w' (fun k => k = g) := by
  obtain ⟨t1, t2, t3⟩ := take_in (xs := b.drop p) (n := 4) (by rw [List.length_drop]; omega)
  refine (RWord h.r).mono fun e w' ⟨he, hR, hF⟩ => ?_
  rw [show ((4 : Nat) : Int) = 4 from rfl] at t1 t2 t3
  rw [t2, t3, List.drop_drop] at hR
  have hB := allB_take (allB_drop h.bb p) 4
  rw [t1, or_val hB (by rw [List.length_take]; omega), val4 hp] at he
  exact ⟨he, ⟨hR, h.bb, hp⟩, hF⟩
theorem At.bytes (h : At w B ok g b p) (x : Int) (n : Nat) (hx : x = (n : Int)) (hp : p + n ≤ b.length) (hl : b.length ≤ 140737488351232) :
    Calls Tryd.prog 46 #[.pointer (some ⟨g, 0, none⟩), .int .i64 x] w fun e w' => ∃ v, e = .returned v ∧ Kd.R (Kd.int .u8) 5 w' w.heap.size (fun _ => True) v ((b.drop p).take n) ∧ At w' B ok g b (p + n) ∧ Fr w w' (fun k => k = g) := by
  subst hx
  obtain ⟨t1, t2, t3⟩ := take_in (xs := b.drop p) (n := n) (by rw [List.length_drop]; omega)
  refine (RBytes (n : Int) h.r (by rw [List.length_drop]; omega)).mono fun e w' ⟨v, he, hV, hR, hF⟩ => ?_
  rw [t2, t3, List.drop_drop] at hR
  rw [t1] at hV
  exact ⟨v, he, hV, ⟨hR, h.bb, hp⟩, hF⟩
end
set_option maxHeartbeats 1000000 in
theorem want_yes (er : Int) (w : World) : Calls Tryd.prog 31 #[.bool true, .int .i64 er] w fun e w' => e = .returned (.tuple #[]) ∧ w = w' := by
  go_enter Tryd.func31, Tryd.ntmps31
  go_wp2
  go_end0
  exact ⟨rfl, rfl⟩
/-- the panic of an error -/
def pnc (er : Int) : List PanicEntry := [{ v := .iface 29 (.int .i64 er), recovered := false }]
set_option maxHeartbeats 1000000 in
theorem want_no (er : Int) (w : World) : Calls Tryd.prog 31 #[.bool false, .int .i64 er] w fun e w' => e = .panicked (pnc er) ∧ w = w' := by
  go_enter Tryd.func31, Tryd.ntmps31
  go_wp2
  exact ⟨rfl, rfl, rfl⟩
end Go.Proofs.YtembdahclmffjaaDoor.Pk
/- cart.read: what its loops keep. -/
namespace Go.Proofs.YtembdahclmffjaaDoor.Pk
open Go.RowKit Go.Proofs.YtembdahclmffjaaDoorW.PrintWords Go.Proofs.YtembdahclmffjaaDoorW.PrintLast Go.Proofs.YtembdahclmffjaaDoorW.PrintMore Go.Proofs.YtembdahclmffjaaDoor.Mem
attribute [local go_sem] max2_int min2_int max_two min_two max_three min_three max_four min_four
set_option linter.unusedVariables false
set_option linter.unusedSimpArgs false
abbrev RB1 (W : World) (base : Nat) (v : Value) (xs : List Int) : Prop := Kd.R (Kd.int .u8) 5 W base (fun _ => True) v xs
/-- the banks' row: none, or a block of its own that is as great as its room -/
def Or3 (w : World) (base : Nat) (A3 : Option Addr) (c3 g3 n3 : Nat) : Prop := (A3 = none ∧ c3 = 0) ∨ (A3 = some ⟨g3, 0, none⟩ ∧ base ≤ g3 ∧ n3 ≤ c3 ∧ c3 ≤ maxLen ∧ ∃ cells, w.heap[g3]? = some (.cells cells 82 (0, 0)) ∧ cells.size = c3 * 2)
theorem Or3.fr {w w1 : World} {base c3 g3 n3 : Nat} {A3 : Option Addr} {S : Nat → Prop} (h : Or3 w base A3 c3 g3 n3) (hF : Fr w w1 S) (hS : ∀ k, k < w.heap.size → S k → k < base) : Or3 w1 base A3 c3 g3 n3 := by
  rcases h with h | ⟨h1, h2, h3, h4, cs, hc, h5⟩
  · exact .inl h
  · exact .inr ⟨h1, h2, h3, h4, cs, hF.heap hc (fun hs => by have := hS _ (heap_lt hc) hs; omega), h5⟩
/-- a cartridge whose rows are the call's own, from base on, apart from each other -/
structure OwnR (w : World) (base : Nat) (A0 : Option Addr) (c0 : Nat) (A2 : Option Addr) (c2 : Nat) (A3 : Option Addr) (c3 g3 : Nat) (V : Nat → Value) (c : CartP) : Prop where
  r0 : RB1 w base (.slice A0 c.code.length c0) c.code
  r2 : Kd.R kE 80 w base (fun _ => True) (.slice A2 c.efs.length c2) c.efs
  a3 : 0 < c.bks.length → A3 = some ⟨g3, 0, none⟩ ∧ base ≤ g3 ∧ ∃ cells, w.heap[g3]? = some (.cells cells 82 (0, 0))
  cells : ∀ k, k < c.bks.length → w.cell? ⟨g3, k * 2, none⟩ = some (.int .i64 (c.bks.getD k (0, [])).1) ∧ w.cell? ⟨g3, k * 2 + 1, none⟩ = some (V k)
  rows : ∀ k, k < c.bks.length → RB1 w base (V k) (c.bks.getD k (0, [])).2
  apart : ∀ k l q, k < c.bks.length → l < c.bks.length → k ≠ l → (V k).ownBlock = some q → (V l).ownBlock ≠ some q
  apart0 : ∀ k q, k < c.bks.length → (V k).ownBlock = some q → (Value.slice A0 c.code.length c0).ownBlock ≠ some q
  ow : Or3 w base A3 c3 g3 c.bks.length
structure Own (w : World) (B : Nat) (v : Value) (c : CartP) : Prop where
  ex : ∃ A0 c0 A2 c2 A3 c3 g3 V base, B ≤ base ∧ v = crt A0 c0 A2 c2 A3 c3 c ∧ IsC w A0 c0 A2 c2 A3 c3 c ∧ OwnR w base A0 c0 A2 c2 A3 c3 g3 V c
/-- what read comes to -/
def ReadPost (b : List Int) (w : World) (e : Ending) (w' : World) : Prop := Below w.heap.size w w' ∧ ((∃ er, decR b = (z0, er) ∧ er ≠ 0 ∧ e = .panicked (pnc er)) ∨ (∃ c v, decR b = (c, 0) ∧ e = .returned v ∧ Own w' w.heap.size v c))
theorem post_bad {b : List Int} {w w' : World} (hb : Below w.heap.size w w') (hT : ¬ TabOK b) : ReadPost b w (.panicked (pnc 72)) w' := ⟨hb, .inl ⟨72, if_pos hT, by decide, rfl⟩⟩
theorem post_bad6 {b : List Int} {w w' : World} (hb : Below w.heap.size w w') (hT : TabOK b) (h6 : siz b 1 % 6 ≠ 0) : ReadPost b w (.panicked (pnc 73)) w' := ⟨hb, .inl ⟨73, (if_neg (fun h => h hT)).trans (if_pos h6), by decide, rfl⟩⟩
theorem post_badC {b : List Int} {w w' : World} (hb : Below w.heap.size w w') (hT : TabOK b) (h6 : siz b 1 % 6 = 0) (hC : ¬ OkC (cartOf b)) : ReadPost b w (.panicked (pnc 73)) w' := ⟨hb, .inl ⟨73, (if_neg (fun h => h hT)).trans ((if_neg (fun h => h h6)).trans (if_pos hC)), by decide, rfl⟩⟩
theorem post_good {b : List Int} {w w' : World} {v : Value} (hb : Below w.heap.size w w') (hT : TabOK b) (h6 : siz b 1 % 6 = 0) (hC : OkC (cartOf b)) (hO : Own w' w.heap.size v (cartOf b)) : ReadPost b w (.returned v) w' := ⟨hb, .inr ⟨cartOf b, v, (if_neg (fun h => h hT)).trans ((if_neg (fun h => h h6)).trans (if_neg (fun h => h hC))), rfl, hO⟩⟩
/-- how far the table has been found right -/
def okT (b : List Int) (i : Nat) : Prop := ∀ j, j < i → entOK b j ∧ rgt b j
theorem okT_snoc {b : List Int} {i : Nat} (h : okT b i) (h1 : entOK b i) (h2 : rgt b i) : okT b (i + 1) := fun j hj => by
  by_cases e : j = i
  · rw [e]; exact ⟨h1, h2⟩
  · exact h j (by omega)
def lastI (b : List Int) (i : Nat) : Int := if i ≤ 2 then -1 else nmb b (i - 1)
def nbk (b : List Int) (i : Nat) : List BkT := (List.range (i - 2)).map fun j => (nmb b (j + 2), ([] : List Int))
theorem infoE : (Tryd.prog.info? 80).map (fun i => (i.zero, i.size, i.bytes)) = some (some (.agg #[(.int .u16 0), (.int .i64 0), (.int .i64 0)]), 3, 24) := by kernel_rfl
theorem infoBk : (Tryd.prog.info? 82).map (fun i => (i.zero, i.size, i.bytes)) = some (some (.agg #[(.int .i64 0), (.slice none 0 0)]), 2, 32) := by kernel_rfl
theorem infoI : (Tryd.prog.info? 3).map (fun i => (i.zero, i.size, i.bytes)) = some (some (.int .i64 0), 1, 8) := by kernel_rfl
theorem szE : kE.sz = 3 := rfl
theorem szB : kB.sz = 2 := rfl
/-- the state of read's loops: the reader at g, the cartridge at W, the result at R, all ahead of W as it was but the reader -/
structure T1 (w wr : World) (R W B : Nat) (ok : Nat → Prop) (g : Nat) (b : List Int) (p : Nat) (v8 v0 v2 v3 : Value) (L8 L0 : List Int) (L2 : List EfT) (L3 : List BkT) (ent : Int) : Prop where
  r : At wr B ok g b p
  r8 : Kd.R (Kd.int .i64) 3 wr (W + 1) (fun _ => True) v8 L8
  r0 : Kd.R (Kd.int .u8) 5 wr (W + 1) (fun _ => True) v0 L0
  r2 : Kd.R kE 80 wr (W + 1) (fun _ => True) v2 L2
  r3 : Kd.R kB 82 wr (W + 1) (fun _ => True) v3 L3
  bx : wr.heap[W]? = some (.cells #[v0, .int .u16 ent, v2, v3] 28 (0, 0))
  tx : wr.heap[R]? = some (.cells #[.slice none 0 0, .int .u16 0, .slice none 0 0, .slice none 0 0] 28 (0, 0))
  bel : Below w.heap.size w wr
  lo : w.heap.size ≤ R
  rg : R < g
  gw : g < W
  okk : ∀ k, ok k → R < k ∧ k < W
namespace T1
variable {w wr w1 : World} {R W B g p p' : Nat} {ok : Nat → Prop} {b : List Int} {v8 v0 v2 v3 v1 : Value} {L8 L8' L0 L0' : List Int} {L2 L2' : List EfT} {L3 L3' : List BkT} {ent : Int}
theorem lt (h : T1 w wr R W B ok g b p v8 v0 v2 v3 L8 L0 L2 L3 ent) : W < wr.heap.size := heap_lt h.bx
theorem cell (h : T1 w wr R W B ok g b p v8 v0 v2 v3 L8 L0 L2 L3 ent) (j : Nat) {u : Value} (hj : (#[v0, .int .u16 ent, v2, v3] : Array Value)[j]? = some u) : wr.cell? ⟨W, j, none⟩ = some u := by simp [World.cell?, h.bx, hj]
theorem frozen (h : T1 w wr R W B ok g b p v8 v0 v2 v3 L8 L0 L2 L3 ent) (j : Nat) : wr.frozen? ⟨W, j, none⟩ = false := by simp [World.frozen?, h.bx]
/-- the reader went on -/
theorem read (h : T1 w wr R W B ok g b p v8 v0 v2 v3 L8 L0 L2 L3 ent) (hA : At w1 B ok g b p') (hF : Fr wr w1 (fun k => k = g)) : T1 w w1 R W B ok g b p' v8 v0 v2 v3 L8 L0 L2 L3 ent := by
  have hgw := h.gw
  have hrg := h.rg
  have hlo := h.lo
  have row : ∀ {α : Type} {d : Kd α} {e : Nat} {v : Value} {xs : List α}, Kd.R d e wr (W + 1) (fun _ => True) v xs → Kd.R d e w1 (W + 1) (fun _ => True) v xs := fun hr =>
    Kd.R_mono (hF.row (Kd.R_mono (Kd.R_bound hr) (ok' := fun k => W + 1 ≤ k) (fun k hk => hk.2.1)) (fun k hk _ e => by omega)) (fun _ _ => trivial)
  exact ⟨hA, row h.r8, row h.r0, row h.r2, row h.r3, hF.heap h.bx (by omega), hF.heap h.tx (by omega), h.bel.trans (hF.below h.bel.size (fun k hk e => by omega)), h.lo, h.rg, h.gw, h.okk⟩
/-- new blocks -/
theorem below (h : T1 w wr R W B ok g b p v8 v0 v2 v3 L8 L0 L2 L3 ent) (hb : Below wr.heap.size wr w1) : T1 w w1 R W B ok g b p v8 v0 v2 v3 L8 L0 L2 L3 ent :=
  ⟨h.r.below hb, Kd.R_below h.r8 hb, Kd.R_below h.r0 hb, Kd.R_below h.r2 hb, Kd.R_below h.r3 hb, (hb.block _ h.lt).trans h.bx, (hb.block _ (heap_lt h.tx)).trans h.tx, h.bel.trans (hb.mono h.bel.size), h.lo, h.rg, h.gw, h.okk⟩
theorem drew (h : T1 w wr R W B ok g b p v8 v0 v2 v3 L8 L0 L2 L3 ent) : T1 w wr.drew R W B ok g b p v8 v0 v2 v3 L8 L0 L2 L3 ent := h.below (below_drew (Below.refl _ _))
/-- below W + 1 all stands -/
theorem under (h : T1 w wr R W B ok g b p v8 v0 v2 v3 L8 L0 L2 L3 ent) (hb : Below (W + 1) wr w1) : At w1 B ok g b p ∧ w1.heap[W]? = some (.cells #[v0, .int .u16 ent, v2, v3] 28 (0, 0)) ∧ w1.heap[R]? = some (.cells #[.slice none 0 0, .int .u16 0, .slice none 0 0, .slice none 0 0] 28 (0, 0)) ∧ Below w.heap.size w w1 := by
  have hF : Fr wr w1 (fun k => W + 1 ≤ k) := ⟨hb.os, hb.tape, hb.output, hb.size, fun k hk hn => hb.block k (by omega)⟩
  have hgw := h.gw
  have hrg := h.rg
  have hlo := h.lo
  refine ⟨h.r.fr hF (by omega) (fun k hk _ hs => by have := h.okk k hk; omega), (hb.block _ (by omega)).trans h.bx, (hb.block _ (by omega)).trans h.tx, h.bel.trans (hb.mono (by omega))⟩
/-- a size more -/
theorem app8 (h : T1 w wr R W B ok g b p v8 v0 v2 v3 L8 L0 L2 L3 ent) (hR : Kd.R (Kd.int .i64) 3 w1 (W + 1) (fun _ => True) v1 L8') (hb : Below (W + 1) wr w1) (hg : wr.grownBy w1 v8.ownBlock) : T1 w w1 R W B ok g b p v1 v0 v2 v3 L8' L0 L2 L3 ent := by
  obtain ⟨k1, k2, k3, k4⟩ := h.under hb
  exact ⟨k1, hR, Kd.R_over' h.r0 (Kd.R_typed h.r8) (by intro q hq; simp [Kd.int, Kd.scalar] at hq; rw [hq]; decide) hg, Kd.R_over' h.r2 (Kd.R_typed h.r8) (by intro q hq; simp [kE, Kd.pair, Kd.int, Kd.scalar] at hq; rw [hq]; decide) hg, Kd.R_over' h.r3 (Kd.R_typed h.r8) (by intro q hq; simp [kB, Kd.pair, Kd.slice, Kd.int, Kd.scalar] at hq; rcases hq with rfl | rfl <;> decide) hg, k2, k3, k4, h.lo, h.rg, h.gw, h.okk⟩
/-- a store into the cartridge -/
theorem put (h : At w1 B ok g b p) (h8 : Kd.R (Kd.int .i64) 3 w1 (W + 1) (fun _ => True) v8 L8) (h0 : Kd.R (Kd.int .u8) 5 w1 (W + 1) (fun _ => True) v0 L0) (h2 : Kd.R kE 80 w1 (W + 1) (fun _ => True) v2 L2) (h3 : Kd.R kB 82 w1 (W + 1) (fun _ => True) v3 L3) {c0 c2 c3 : Value} (hx : w1.heap[W]? = some (.cells #[c0, .int .u16 ent, c2, c3] 28 (0, 0))) (ht : w1.heap[R]? = some (.cells #[.slice none 0 0, .int .u16 0, .slice none 0 0, .slice none 0 0] 28 (0, 0))) (hb : Below w.heap.size w w1) (hlo : w.heap.size ≤ R) (hrg : R < g) (hgw : g < W) (hok : ∀ k, ok k → R < k ∧ k < W) (j : Nat) (u : Value) (hj : (#[c0, .int .u16 ent, c2, c3] : Array Value).setIfInBounds j u = #[v0, .int .u16 ent, v2, v3]) : T1 w (w1.setCell ⟨W, j, none⟩ u) R W B ok g b p v8 v0 v2 v3 L8 L0 L2 L3 ent := by
  have hF : Fr w1 (w1.setCell ⟨W, j, none⟩ u) (fun k => k = W) := (Fr.refl w1 (fun k => k = W)).setCell (p := ⟨W, j, none⟩) (fun _ => rfl) u
  have row : ∀ {α : Type} {d : Kd α} {e : Nat} {v : Value} {xs : List α}, Kd.R d e w1 (W + 1) (fun _ => True) v xs → Kd.R d e (w1.setCell ⟨W, j, none⟩ u) (W + 1) (fun _ => True) v xs := fun hr =>
    Kd.R_mono (hF.row (Kd.R_mono (Kd.R_bound hr) (ok' := fun k => W + 1 ≤ k) (fun k hk => hk.2.1)) (fun k hk _ e => by omega)) (fun _ _ => trivial)
  refine ⟨h.fr hF (by omega) (fun k hk _ e => by have := hok k hk; omega), row h8, row h0, row h2, row h3, ?_, hF.heap ht (by omega), hb.trans (hF.below hb.size (fun k hk e => by omega)), hlo, hrg, hgw, hok⟩
  obtain ⟨hlt, hk⟩ := Array.getElem?_eq_some_iff.1 hx
  show (w1.heap.modify W _)[W]? = _
  rw [Array.getElem?_eq_getElem (by rw [Array.size_modify]; exact hlt), Array.getElem_modify_self, hk]
  show some (Obj.cells ((#[c0, .int .u16 ent, c2, c3] : Array Value).setIfInBounds j u) _ _) = _
  rw [hj]
theorem app3 (h : T1 w wr R W B ok g b p v8 v0 v2 v3 L8 L0 L2 L3 ent) (hR : Kd.R kB 82 w1 (W + 1) (fun _ => True) v1 L3') (hb : Below (W + 1) wr w1) (hg : wr.grownBy w1 v3.ownBlock) : T1 w (w1.setCell ⟨W, 3, none⟩ v1) R W B ok g b p v8 v0 v2 v1 L8 L0 L2 L3' ent := by
  obtain ⟨k1, k2, k3, k4⟩ := h.under hb
  exact put k1 (Kd.R_over' h.r8 (Kd.R_typed h.r3) (by intro q hq; simp [Kd.int, Kd.scalar] at hq; rw [hq]; decide) hg) (Kd.R_over' h.r0 (Kd.R_typed h.r3) (by intro q hq; simp [Kd.int, Kd.scalar] at hq; rw [hq]; decide) hg) (Kd.R_over' h.r2 (Kd.R_typed h.r3) (by intro q hq; simp [kE, Kd.pair, Kd.int, Kd.scalar] at hq; rw [hq]; decide) hg) hR k2 k3 k4 h.lo h.rg h.gw h.okk 3 v1 rfl
theorem app2 (h : T1 w wr R W B ok g b p v8 v0 v2 v3 L8 L0 L2 L3 ent) (hR : Kd.R kE 80 w1 (W + 1) (fun _ => True) v1 L2') (hb : Below (W + 1) wr w1) (hg : wr.grownBy w1 v2.ownBlock) : T1 w (w1.setCell ⟨W, 2, none⟩ v1) R W B ok g b p v8 v0 v1 v3 L8 L0 L2' L3 ent := by
  obtain ⟨k1, k2, k3, k4⟩ := h.under hb
  exact put k1 (Kd.R_over' h.r8 (Kd.R_typed h.r2) (by intro q hq; simp [Kd.int, Kd.scalar] at hq; rw [hq]; decide) hg) (Kd.R_over' h.r0 (Kd.R_typed h.r2) (by intro q hq; simp [Kd.int, Kd.scalar] at hq; rw [hq]; decide) hg) hR (Kd.R_over' h.r3 (Kd.R_typed h.r2) (by intro q hq; simp [kB, Kd.pair, Kd.slice, Kd.int, Kd.scalar] at hq; rcases hq with rfl | rfl <;> decide) hg) k2 k3 k4 h.lo h.rg h.gw h.okk 2 v1 rfl
/-- the code is laid -/
theorem app0 (h : T1 w wr R W B ok g b p v8 v0 v2 v3 L8 L0 L2 L3 ent) (hR : Kd.R (Kd.int .u8) 5 wr (W + 1) (fun _ => True) v1 L0') : T1 w (wr.setCell ⟨W, 0, none⟩ v1) R W B ok g b p v8 v1 v2 v3 L8 L0' L2 L3 ent :=
  put h.r h.r8 hR h.r2 h.r3 h.bx h.tx h.bel h.lo h.rg h.gw h.okk 0 v1 rfl
/-- size j, read -/
theorem size {m c8 g8 : Nat} (h : T1 w wr R W B ok g b p (.slice (some ⟨g8, 0, none⟩) m c8) v0 v2 v3 L8 L0 L2 L3 ent) (j : Nat) (hj : j < m) : wr.cell? ⟨g8, j, none⟩ = some (.int .i64 (L8.getD j 0)) := by
  have hr := Kd.R_reads' h.r8
  have hC := hr.2.2
  obtain ⟨ad, e, hx⟩ := Kd.at_int hC (j : Int) (by omega) (by omega)
  injection e with e
  subst e
  rw [Int.toNat_natCast, add_plain] at hx
  rw [hx]
  unfold rd
  rw [Int.toNat_natCast]
/-- the cell and its mark, behind new rows -/
theorem cellU (h : T1 w wr R W B ok g b p v8 v0 v2 v3 L8 L0 L2 L3 ent) (hb : Below (W + 1) wr w1) (j : Nat) {u : Value} (hj : (#[v0, .int .u16 ent, v2, v3] : Array Value)[j]? = some u) : w1.cell? ⟨W, j, none⟩ = some u ∧ w1.frozen? ⟨W, j, none⟩ = false := by
  obtain ⟨_, k2, _, _⟩ := h.under hb
  exact ⟨by simp [World.cell?, k2, hj], by simp [World.frozen?, k2]⟩
end T1
theorem kB_mkM (w : World) (base : Nat) (ok : Nat → Prop) (D : Int) {v : Value} {d : List Int} (h : Kd.R (Kd.int .u8) 5 w base ok v d) : kB.M w base ok (D, d) [.int .i64 D, v] := ⟨[.int .i64 D], [v], rfl, rfl, ⟨v, rfl, h⟩⟩
theorem kE_mkM (w : World) (base : Nat) (ok : Nat → Prop) (x : EfT) : kE.M w base ok x [.int .u16 x.1, .int .i64 x.2.1, .int .i64 x.2.2] := ⟨[.int .u16 x.1], [.int .i64 x.2.1, .int .i64 x.2.2], rfl, rfl, ⟨[.int .i64 x.2.1], [.int .i64 x.2.2], rfl, rfl, rfl⟩⟩
/-- append of one bank, of one effect, of one number -/
theorem appBk {ops : Array Oper} {rest : List Oper} {o : Oper} {a : Act} {Q : Exit → Act → World → Prop} {W : World} (base : Nat) (hgd : o.guard = none) (s x : Operand)
    (ho : o.op = .call { callee := .builtin .append, args := #[s, x], argTypes := #[26, 26] })
    (v : Value) (xs : List BkT) (D : Int) (hs : a.eval s = v) (hx : a.eval x = .slice (some ⟨W.heap.size, 0, none⟩) 1 1) (HO : Kd.R kB 82 W base (fun _ => True) v xs) (hbase : base ≤ W.heap.size) (hl : (xs.length + 1) * 32 ≤ 140737488355328)
    (h : ∀ v1 w1, Kd.R kB 82 w1 base (fun _ => True) v1 (xs ++ [(D, [])]) → Below base W w1 → W.grownBy w1 v.ownBlock → wpList Tryd.prog ops Q rest (a.put o.dst v1) w1) :
    wpList Tryd.prog ops Q (o :: rest) a (W.alloc (.cells #[.int .i64 D, .slice none 0 0] 82)) :=
  Kd.R_append (P := Tryd.prog) kB (w0 := W) base hgd s x 26 82 (.agg #[(.int .i64 0), (.slice none 0 0)]) 32 ho Tryd.underlying26 (by rw [szB]; exact infoBk) (by rw [szB]; rfl) (by rw [szB]; decide) (by decide) v xs (D, []) [.int .i64 D, .slice none 0 0] (fun _ => True) (fun _ => False) hs hx (kB_mkM _ _ _ _ (Kd.R_nil _ _ _ _ _)) (fun k hk => hk.elim) (fun _ _ => trivial) HO (Below.refl _ _) hbase hl (fun v1 w1 hN hB hg _ => h v1 w1 hN hB hg)
theorem appI {ops : Array Oper} {rest : List Oper} {o : Oper} {a : Act} {Q : Exit → Act → World → Prop} {W : World} (base : Nat) (hgd : o.guard = none) (s x : Operand)
    (ho : o.op = .call { callee := .builtin .append, args := #[s, x], argTypes := #[96, 96] })
    (v : Value) (xs : List Int) (D : Int) (hs : a.eval s = v) (hx : a.eval x = .slice (some ⟨W.heap.size, 0, none⟩) 1 1) (HO : Kd.R (Kd.int .i64) 3 W base (fun _ => True) v xs) (hbase : base ≤ W.heap.size) (hl : (xs.length + 1) * 8 ≤ 140737488355328)
    (h : ∀ v1 w1, Kd.R (Kd.int .i64) 3 w1 base (fun _ => True) v1 (xs ++ [D]) → Below base W w1 → W.grownBy w1 v.ownBlock → wpList Tryd.prog ops Q rest (a.put o.dst v1) w1) :
    wpList Tryd.prog ops Q (o :: rest) a (W.alloc (.cells #[.int .i64 D] 3)) :=
  Kd.R_append (P := Tryd.prog) (Kd.int .i64) (w0 := W) base hgd s x 96 3 (.int .i64 0) 8 ho Tryd.underlying96 infoI rfl (by decide) (by decide) v xs D [.int .i64 D] (fun _ => True) (fun _ => False) hs hx rfl (fun k hk => hk.elim) (fun _ _ => trivial) HO (Below.refl _ _) hbase hl (fun v1 w1 hN hB hg _ => h v1 w1 hN hB hg)
theorem sizes_snoc (b : List Int) (i : Nat) : (List.range (i + 1)).map (siz b) = (List.range i).map (siz b) ++ [siz b i] := by rw [List.range_succ, List.map_append]; rfl
theorem nbk_snoc (b : List Int) {i : Nat} (h : 2 ≤ i) : nbk b (i + 1) = nbk b i ++ [(nmb b i, [])] := by
  obtain ⟨k, rfl⟩ : ∃ k, i = k + 2 := ⟨i - 2, by omega⟩
  unfold nbk
  rw [show k + 2 + 1 - 2 = k + 1 by omega, show k + 2 - 2 = k by omega, List.range_succ, List.map_append]; rfl
theorem efsOf_len : ∀ (k : Nat) (d : List Int), (efsOf k d).length = k
  | 0, _ => rfl
  | k + 1, d => by rw [efsOf, List.length_cons, efsOf_len k]
theorem efsOf_snoc : ∀ (k : Nat) (d : List Int), efsOf (k + 1) d = efsOf k d ++ [(low2 d (6 * k), low2 d (6 * k + 2), low2 d (6 * k + 4))]
  | 0, d => rfl
  | k + 1, d => by
    have h := efsOf_snoc k (d.drop 6)
    rw [efsOf, h, efsOf]
    simp only [low2_drop, List.cons_append]
    rw [show 6 + 6 * k = 6 * (k + 1) by omega, show 6 + (6 * k + 2) = 6 * (k + 1) + 2 by omega, show 6 + (6 * k + 4) = 6 * (k + 1) + 4 by omega]
theorem low2_take (d : List Int) (n i : Nat) (h : i + 1 < n) : low2 (d.take n) i = low2 d i := by
  unfold low2
  simp only [List.getD_eq_getElem?_getD, List.getElem?_take]
  rw [if_pos (by omega), if_pos h]
theorem nbk_two (b : List Int) {i : Nat} (h : i < 2) : nbk b (i + 1) = nbk b i := by
  unfold nbk
  rw [show i + 1 - 2 = 0 by omega, show i - 2 = 0 by omega]
end Go.Proofs.YtembdahclmffjaaDoor.Pk
/- cart.read: what its last loop keeps: each bank's bytes lie in a row of their own. -/
namespace Go.Proofs.YtembdahclmffjaaDoor.Pk
open Go.RowKit Go.Proofs.YtembdahclmffjaaDoorW.PrintWords Go.Proofs.YtembdahclmffjaaDoorW.PrintLast Go.Proofs.YtembdahclmffjaaDoorW.PrintMore Go.Proofs.YtembdahclmffjaaDoor.Mem
set_option linter.unusedVariables false
set_option linter.unusedSimpArgs false
theorem cellH {w : World} {g o t : Nat} {cs : Array Value} {fr : Nat × Nat} (h : w.heap[g]? = some (.cells cs t fr)) : w.cell? ⟨g, o, none⟩ = cs[o]? := by simp [World.cell?, h]
theorem setH {w : World} {g t : Nat} {cs : Array Value} {fr : Nat × Nat} (h : w.heap[g]? = some (.cells cs t fr)) (j : Nat) (v : Value) : (w.setCell ⟨g, j, none⟩ v).heap[g]? = some (.cells (cs.setIfInBounds j v) t fr) := by
  obtain ⟨hlt, hk⟩ := Array.getElem?_eq_some_iff.1 h
  show (w.heap.modify g _)[g]? = _
  rw [Array.getElem?_eq_getElem (by rw [Array.size_modify]; exact hlt), Array.getElem_modify_self, hk]
  rfl
theorem put4 {w : World} {g t : Nat} {x0 x1 x2 x3 : Value} {fr : Nat × Nat} (h : w.heap[g]? = some (.cells #[x0, x1, x2, x3] t fr)) (y0 y1 y2 y3 : Value) : ((((w.setCell ⟨g, 0, none⟩ y0).setCell ⟨g, 1, none⟩ y1).setCell ⟨g, 2, none⟩ y2).setCell ⟨g, 3, none⟩ y3).heap[g]? = some (.cells #[y0, y1, y2, y3] t fr) := setH (setH (setH (setH h 0 y0) 1 y1) 2 y2) 3 y3
theorem put4F (w : World) (g : Nat) (y0 y1 y2 y3 : Value) : Fr w ((((w.setCell ⟨g, 0, none⟩ y0).setCell ⟨g, 1, none⟩ y1).setCell ⟨g, 2, none⟩ y2).setCell ⟨g, 3, none⟩ y3) (fun k => k = g) :=
  ((((Fr.refl w (fun k => k = g)).setCell (p := ⟨g, 0, none⟩) (fun _ => rfl) y0).setCell (p := ⟨g, 1, none⟩) (fun _ => rfl) y1).setCell (p := ⟨g, 2, none⟩) (fun _ => rfl) y2).setCell (p := ⟨g, 3, none⟩) (fun _ => rfl) y3
structure T2 (w wr : World) (R W B : Nat) (ok : Nat → Prop) (g : Nat) (b : List Int) (p : Nat) (g8 m c8 : Nat) (v0 v2 : Value) (A3 : Option Addr) (n3 c3 g3 : Nat) (L0 : List Int) (L2 : List EfT) (V : Nat → Value) (j : Nat) (ent : Int) : Prop where
  r : At wr B ok g b p
  r8 : Kd.R (Kd.int .i64) 3 wr (W + 1) (fun _ => True) (.slice (some ⟨g8, 0, none⟩) m c8) ((List.range m).map (siz b))
  r0 : RB1 wr (W + 1) v0 L0
  r2 : Kd.R kE 80 wr (W + 1) (fun _ => True) v2 L2
  bx : wr.heap[W]? = some (.cells #[v0, .int .u16 ent, v2, .slice A3 n3 c3] 28 (0, 0))
  tx : wr.heap[R]? = some (.cells #[.slice none 0 0, .int .u16 0, .slice none 0 0, .slice none 0 0] 28 (0, 0))
  bel : Below w.heap.size w wr
  lo : w.heap.size ≤ R
  rg : R < g
  gw : g < W
  okk : ∀ k, ok k → R < k ∧ k < W
  n3m : n3 + 2 = m
  n3c : n3 ≤ c3
  a3 : 0 < n3 → A3 = some ⟨g3, 0, none⟩
  g3l : 0 < n3 → W + 1 ≤ g3
  typ : 0 < n3 → ∃ cells, wr.heap[g3]? = some (.cells cells 82 (0, 0))
  cells : ∀ k, k < n3 → wr.cell? ⟨g3, k * 2, none⟩ = some (.int .i64 (nmb b (k + 2))) ∧ wr.cell? ⟨g3, k * 2 + 1, none⟩ = some (V k)
  rows : ∀ k, k < j → RB1 wr (W + 1) (V k) (dat b (k + 2))
  apart : ∀ k l q, k < j → l < j → k ≠ l → (V k).ownBlock = some q → (V l).ownBlock ≠ some q
  apart0 : ∀ k q, k < j → (V k).ownBlock = some q → v0.ownBlock ≠ some q
  jn : j ≤ n3
  ow : Or3 wr (W + 1) A3 c3 g3 n3
namespace T2
variable {w wr w1 : World} {R W B g p p' g8 m c8 n3 c3 g3 j : Nat} {ok : Nat → Prop} {b : List Int} {v0 v2 : Value} {A3 : Option Addr} {L0 : List Int} {L2 : List EfT} {V : Nat → Value} {ent : Int}
theorem lt (h : T2 w wr R W B ok g b p g8 m c8 v0 v2 A3 n3 c3 g3 L0 L2 V j ent) : W < wr.heap.size := heap_lt h.bx
theorem cellB (h : T2 w wr R W B ok g b p g8 m c8 v0 v2 A3 n3 c3 g3 L0 L2 V j ent) (i : Nat) {u : Value} (hi : (#[v0, .int .u16 ent, v2, .slice A3 n3 c3] : Array Value)[i]? = some u) : wr.cell? ⟨W, i, none⟩ = some u := by simp [World.cell?, h.bx, hi]
/-- the reader went on, new blocks came up -/
theorem fr {S : Nat → Prop} (h : T2 w wr R W B ok g b p g8 m c8 v0 v2 A3 n3 c3 g3 L0 L2 V j ent) (hA : At w1 B ok g b p') (hF : Fr wr w1 S) (hS : ∀ k, k < wr.heap.size → S k → k = g) : T2 w w1 R W B ok g b p' g8 m c8 v0 v2 A3 n3 c3 g3 L0 L2 V j ent := by
  have hgw := h.gw
  have hrg := h.rg
  have hlo := h.lo
  have hF' : Fr wr w1 (fun k => k = g) := hF.mono hS
  have row : ∀ {α : Type} {d : Kd α} {e : Nat} {v : Value} {xs : List α}, Kd.R d e wr (W + 1) (fun _ => True) v xs → Kd.R d e w1 (W + 1) (fun _ => True) v xs := fun hr =>
    Kd.R_mono (hF'.row (Kd.R_mono (Kd.R_bound hr) (ok' := fun k => W + 1 ≤ k) (fun k hk => hk.2.1)) (fun k hk _ e => by omega)) (fun _ _ => trivial)
  have cel : ∀ {o : Nat} {u : Value}, 0 < n3 → wr.cell? ⟨g3, o, none⟩ = some u → w1.cell? ⟨g3, o, none⟩ = some u := fun hn hc =>
    (World.cell?_of_block (a := ⟨g3, _, none⟩) (hF'.block g3 (World.block_lt_of_cell? _ _ hc) (fun e => by have := h.g3l hn; omega))).trans hc
  exact ⟨hA, row h.r8, row h.r0, row h.r2, hF'.heap h.bx (by omega), hF'.heap h.tx (by omega), h.bel.trans (hF'.below h.bel.size (fun k hk e => by omega)), h.lo, h.rg, h.gw, h.okk, h.n3m, h.n3c, h.a3, h.g3l, fun hn => (by
    obtain ⟨cs, hc⟩ := h.typ hn
    exact ⟨cs, hF'.heap hc (fun e => by have := h.g3l hn; omega)⟩), fun k hk => ⟨cel (by omega) (h.cells k hk).1, cel (by omega) (h.cells k hk).2⟩, fun k hk => row (h.rows k hk), h.apart, h.apart0, h.jn, h.ow.fr hF' (fun k _ e => by omega)⟩
theorem read (h : T2 w wr R W B ok g b p g8 m c8 v0 v2 A3 n3 c3 g3 L0 L2 V j ent) (hA : At w1 B ok g b p') (hF : Fr wr w1 (fun k => k = g)) : T2 w w1 R W B ok g b p' g8 m c8 v0 v2 A3 n3 c3 g3 L0 L2 V j ent := h.fr hA hF (fun _ _ e => e)
theorem drew (h : T2 w wr R W B ok g b p g8 m c8 v0 v2 A3 n3 c3 g3 L0 L2 V j ent) : T2 w wr.drew R W B ok g b p g8 m c8 v0 v2 A3 n3 c3 g3 L0 L2 V j ent :=
  h.fr (h.r.below (below_drew (Below.refl _ _))) (Fr.of_below (below_drew (Below.refl _ _)) (fun _ => False)) (fun _ _ e => e.elim)
theorem held (h : T2 w wr R W B ok g b p g8 m c8 v0 v2 A3 n3 c3 g3 L0 L2 V j ent) (hj : j < n3) {sj : Int} (hs : siz b (j + 2) = sj) : wr.cell? ⟨W, 3, none⟩ = some (.slice A3 n3 c3) ∧ wr.cell? ⟨g8, 2 + j, none⟩ = some (.int .i64 sj) := by
  refine ⟨h.cellB 3 rfl, ?_⟩
  have hm := h.n3m
  obtain ⟨ad, e, hx⟩ := Kd.at_int (Kd.R_reads' h.r8).2.2 ((2 + j : Nat) : Int) (by omega) (by simp; omega)
  injection e with e
  subst e
  rw [Int.toNat_natCast, add_plain] at hx
  rw [hx]
  unfold rd
  rw [Int.toNat_natCast, getD_at _ _ (by simp; omega)]
  simp [Nat.add_comm 2 j, hs]
theorem slot (h : T2 w wr R W B ok g b p g8 m c8 v0 v2 A3 n3 c3 g3 L0 L2 V j ent) (hj : j < n3) : wr.cell? ⟨g3, j * 2 + 1, none⟩ = some (V j) ∧ wr.frozen? ⟨g3, j * 2 + 1, none⟩ = false := by
  obtain ⟨cs, hc⟩ := h.typ (by omega)
  exact ⟨(h.cells j hj).2, by simp [World.frozen?, hc]⟩
/-- a bank's bytes are laid -/
theorem lay (h : T2 w wr R W B ok g b p g8 m c8 v0 v2 A3 n3 c3 g3 L0 L2 V j ent) (hj : j < n3) {v5 : Value} {base : Nat} (hR : Kd.R (Kd.int .u8) 5 wr base (fun _ => True) v5 (dat b (j + 2))) (hb : W + 1 ≤ base) (hnew : ∀ k q, k < j → (V k).ownBlock = some q → q < base) (h0 : ∀ q, v0.ownBlock = some q → q < base) : T2 w (wr.setCell ⟨g3, j * 2 + 1, none⟩ v5) R W B ok g b p g8 m c8 v0 v2 A3 n3 c3 g3 L0 L2 (fun k => if k = j then v5 else V k) (j + 1) ent := by
  have hg3 := h.g3l (by omega)
  obtain ⟨cs, hc⟩ := h.typ (by omega)
  have hgw := h.gw
  have hrg := h.rg
  have hlo := h.lo
  have hF : Fr wr (wr.setCell ⟨g3, j * 2 + 1, none⟩ v5) (fun k => k = g3) := (Fr.refl wr (fun k => k = g3)).setCell (p := ⟨g3, j * 2 + 1, none⟩) (fun _ => rfl) v5
  have ob := Kd.R_base hR
  have hset : ∀ {v : Value} {xs : List Int} {bs : Nat}, Kd.R (Kd.int .u8) 5 wr bs (fun _ => True) v xs → Kd.R (Kd.int .u8) 5 (wr.setCell ⟨g3, j * 2 + 1, none⟩ v5) bs (fun _ => True) v xs := fun hr => Kd.R_set hr hc (by intro q hq; simp [Kd.int, Kd.scalar] at hq; rw [hq]; decide) _ _
  obtain ⟨hlt, hk⟩ := Array.getElem?_eq_some_iff.1 hc
  have hc1 : (wr.setCell ⟨g3, j * 2 + 1, none⟩ v5).heap[g3]? = some (.cells (cs.setIfInBounds (j * 2 + 1) v5) 82 (0, 0)) := by
    show (wr.heap.modify g3 _)[g3]? = _
    rw [Array.getElem?_eq_getElem (by rw [Array.size_modify]; exact hlt), Array.getElem_modify_self, hk]
    rfl
  have cof : ∀ {o : Nat} {u : Value}, wr.cell? ⟨g3, o, none⟩ = some u → cs[o]? = some u := fun hx => by simpa [World.cell?, hc] using hx
  refine ⟨h.r.fr hF (by omega) (fun k hk _ e => by have := h.okk k hk; omega), Kd.R_set h.r8 hc (by intro q hq; simp [Kd.int, Kd.scalar] at hq; rw [hq]; decide) _ _, hset h.r0, Kd.R_set h.r2 hc (by intro q hq; simp [kE, Kd.pair, Kd.int, Kd.scalar] at hq; rw [hq]; decide) _ _, hF.heap h.bx (by omega), hF.heap h.tx (by omega), h.bel.trans (hF.below h.bel.size (fun k hk e => by omega)), h.lo, h.rg, h.gw, h.okk, h.n3m, h.n3c, h.a3, h.g3l, fun _ => ⟨_, hc1⟩, fun k hkn => ?_, fun k hkj => ?_, fun k l q hkj hlj hne hq => ?_, fun k q hkj hq => ?_, by omega, ?_⟩
  · have h1 := cof (h.cells k hkn).1
    have h2 := cof (h.cells k hkn).2
    refine ⟨?_, ?_⟩
    · rw [cellH hc1, Array.getElem?_setIfInBounds, if_neg (show ¬ (j * 2 + 1 = k * 2) by omega)]
      exact h1
    · rw [cellH hc1, Array.getElem?_setIfInBounds]
      by_cases e : k = j
      · subst e
        rw [if_pos rfl, if_pos (Array.getElem?_eq_some_iff.1 h2).1]
        simp
      · rw [if_neg (show ¬ (j * 2 + 1 = k * 2 + 1) by omega)]
        rw [if_neg e]
        exact h2
  · by_cases e : k = j
    · subst e
      rw [if_pos rfl]
      exact Kd.R_lower (hset hR) hb
    · rw [if_neg e]
      exact hset (h.rows k (by omega))
  · by_cases e : k = j
    · rw [if_pos e] at hq
      rw [if_neg (by omega)]
      intro hl
      have := hnew l q (by omega) hl
      have := ob q hq
      omega
    · rw [if_neg e] at hq
      by_cases e2 : l = j
      · rw [if_pos e2]
        intro hl
        have := hnew k q (by omega) hq
        have := ob q hl
        omega
      · rw [if_neg e2]
        exact h.apart k l q (by omega) (by omega) hne hq
  · by_cases e : k = j
    · rw [if_pos e] at hq
      intro hl
      have := h0 q hl
      have := ob q hq
      omega
    · rw [if_neg e] at hq
      exact h.apart0 k q (by omega) hq
  · rcases h.ow with ⟨e1, e2⟩ | ⟨e1, e2, e3, e4, cs', hc', e5⟩
    · exact .inl ⟨e1, e2⟩
    · rw [hc] at hc'
      injection hc' with hc'
      injection hc' with hc'
      subst hc'
      exact .inr ⟨e1, e2, e3, e4, _, hc1, by rw [Array.size_setIfInBounds]; exact e5⟩
/-- the banks read as they should -/
theorem banks (h : T2 w wr R W B ok g b p g8 m c8 v0 v2 A3 n3 c3 g3 L0 L2 V n3 ent) : Kd.C kB wr A3 n3 ((List.range n3).map fun k => (nmb b (k + 2), dat b (k + 2))) := by
  have hm := h.n3m
  refine ⟨by simp, ?_, fun hn => ⟨⟨g3, 0, none⟩, h.a3 hn, fun k x hk => ?_⟩⟩
  · have := (Kd.R_reads' h.r8).2.2.2.1
    simp at this
    omega
  · rw [List.getElem?_map] at hk
    obtain ⟨y, hy, rfl⟩ := Option.map_eq_some_iff.1 hk
    obtain ⟨hkn, rfl⟩ := List.getElem?_eq_some_iff.1 hy
    simp only [List.length_range] at hkn
    simp only [List.getElem_range]
    obtain ⟨A, c, e, hl, hC⟩ := Kd.R_reads (h.rows k hkn)
    obtain ⟨q1, q2⟩ := h.cells k hkn
    refine ⟨[.int .i64 (nmb b (k + 2)), V k], rfl, ⟨[.int .i64 (nmb b (k + 2))], [V k], rfl, rfl, ⟨A, c, by rw [e], hl, hC⟩⟩, fun i u hu => ?_⟩
    rw [add_plain, szB]
    match i, hu with
    | 0, hu => simp at hu; subst hu; exact q1
    | 1, hu => simp at hu; subst hu; exact q2
    | i + 2, hu => simp at hu
end T2
theorem or3_of {w : World} {base n3 c3 : Nat} {A3 : Option Addr} {xs : List BkT} (h : Kd.R kB 82 w base (fun _ => True) (.slice A3 n3 c3) xs) : ∃ g3, Or3 w base A3 c3 g3 n3 := by
  have hn := (Kd.R_reads' h).1
  obtain ⟨_, inner, hown, _⟩ := h
  rcases hown.2 with ⟨e, _⟩ | ⟨g, cap, cur, e, hbg, hg, hnc, hcm, hcs, _⟩
  · injection e with e1 e2 e3
    exact ⟨0, .inl ⟨e1, e3⟩⟩
  · injection e with e1 e2 e3
    subst e1 e3
    refine ⟨g, .inr ⟨rfl, hbg, by omega, hcm, cur, hg, ?_⟩⟩
    rw [hcs]; rfl
/-- from the loop ahead of it -/
theorem T2.of {w wr : World} {R W B g p g8 m c8 : Nat} {ok : Nat → Prop} {b : List Int} {v0 v2 : Value} {A3 : Option Addr} {n3 c3 : Nat} {L0 : List Int} {L2 : List EfT} {ent : Int} (h : T1 w wr R W B ok g b p (.slice (some ⟨g8, 0, none⟩) m c8) v0 v2 (.slice A3 n3 c3) ((List.range m).map (siz b)) L0 L2 (nbk b m) ent) (hm : 2 ≤ m) : ∃ g3 V, T2 w wr R W B ok g b p g8 m c8 v0 v2 A3 n3 c3 g3 L0 L2 V 0 ent := by
  have hr := Kd.R_reads' h.r3
  have hn : n3 = m - 2 := by rw [hr.1]; simp [nbk]
  by_cases h0 : 0 < n3
  · obtain ⟨g3, cap, e, hb, hlt, cs, hc⟩ := Kd.R_form h.r3 (by rw [← hr.1]; exact h0)
    injection e with e1 e2 e3
    subst e1
    have hr3 := h.r3
    have hel : ∀ k, ∃ u, k < n3 → wr.cell? ⟨g3, k * 2, none⟩ = some (.int .i64 (nmb b (k + 2))) ∧ wr.cell? ⟨g3, k * 2 + 1, none⟩ = some u := fun k => by
      by_cases hk : k < n3
      · obtain ⟨c, hcl, hM, hcc, _⟩ := Kd.R_elem hr3 (0, []) (k : Int) (by omega) (by omega)
        rw [Int.toNat_natCast] at hM hcc
        have e9 : (nbk b m).getD k (0, []) = (nmb b (k + 2), []) := by rw [getD_at _ _ (by rw [← hr.1]; exact hk)]; simp [nbk]
        rw [e9] at hM
        obtain ⟨_, _, rfl, rfl, ⟨v, rfl, _⟩⟩ := hM
        rw [szB] at hcc
        exact ⟨v, fun _ => ⟨hcc 0 _ rfl, hcc 1 _ rfl⟩⟩
      · exact ⟨.slice none 0 0, fun h => absurd h hk⟩
    obtain ⟨V, hV⟩ := Classical.axiomOfChoice hel
    exact ⟨g3, V, h.r, h.r8, h.r0, h.r2, h.bx, h.tx, h.bel, h.lo, h.rg, h.gw, h.okk, by omega, hr.2.1, fun _ => rfl, fun _ => hb, fun _ => ⟨cs, hc⟩, fun k hk => hV k hk, fun k hk => by omega, fun k l q hk => by omega, fun k q hk => by omega, Nat.zero_le _, by
      obtain ⟨g', ho⟩ := or3_of hr3
      rcases ho with ⟨hh, _⟩ | ⟨hh, h2⟩
      · cases hh
      · injection hh with hh
        injection hh with hh
        subst hh
        exact .inr ⟨rfl, h2⟩⟩
  · obtain ⟨g', ho⟩ := or3_of h.r3
    exact ⟨g', fun _ => .slice none 0 0, h.r, h.r8, h.r0, h.r2, h.bx, h.tx, h.bel, h.lo, h.rg, h.gw, h.okk, by omega, hr.2.1, fun h => absurd h h0, fun h => absurd h h0, fun h => absurd h h0, fun k hk => by omega, fun k hk => by omega, fun k l q hk => by omega, fun k q hk => by omega, Nat.zero_le _, ho⟩
theorem OwnR.fr {w w1 : World} {base g3 c0 c2 c3 : Nat} {A0 A2 A3 : Option Addr} {V : Nat → Value} {c : CartP} {S : Nat → Prop} (h : OwnR w base A0 c0 A2 c2 A3 c3 g3 V c) (hF : Fr w w1 S) (hS : ∀ k, k < w.heap.size → S k → k < base) : OwnR w1 base A0 c0 A2 c2 A3 c3 g3 V c := by
  have row : ∀ {α : Type} {d : Kd α} {e : Nat} {v : Value} {xs : List α}, Kd.R d e w base (fun _ => True) v xs → Kd.R d e w1 base (fun _ => True) v xs := fun hr =>
    Kd.R_mono (hF.row (Kd.R_mono (Kd.R_bound hr) (ok' := fun k => base ≤ k) (fun k hk => hk.2.1)) (fun k hk hlt e => by have := hS k hlt e; omega)) (fun _ _ => trivial)
  refine ⟨row h.r0, row h.r2, fun hn => ?_, fun k hk => ?_, fun k hk => row (h.rows k hk), h.apart, h.apart0, h.ow.fr hF hS⟩
  · obtain ⟨e, hb, cs, hc⟩ := h.a3 hn
    exact ⟨e, hb, cs, hF.heap hc (fun hs => by have := hS _ (heap_lt hc) hs; omega)⟩
  · obtain ⟨e, hb, cs, hc⟩ := h.a3 (by omega)
    have hb9 := hF.block g3 (heap_lt hc) (fun hs => by have := hS _ (heap_lt hc) hs; omega)
    exact ⟨(World.cell?_of_block (a := ⟨g3, _, none⟩) hb9).trans (h.cells k hk).1, (World.cell?_of_block (a := ⟨g3, _, none⟩) hb9).trans (h.cells k hk).2⟩
theorem OwnR.isC {w : World} {base g3 c0 c2 c3 : Nat} {A0 A2 A3 : Option Addr} {V : Nat → Value} {c : CartP} (h : OwnR w base A0 c0 A2 c2 A3 c3 g3 V c) (hc : c.bks.length ≤ c3) (hm : c.bks.length ≤ 9223372036854775807) : IsC w A0 c0 A2 c2 A3 c3 c := by
  have h0 := Kd.R_reads' h.r0
  have h2 := Kd.R_reads' h.r2
  refine ⟨h0.2.2, h2.2.2, ⟨rfl, hm, fun hn => ⟨⟨g3, 0, none⟩, (h.a3 hn).1, fun k x hk => ?_⟩⟩, h0.2.1, h2.2.1, hc⟩
  obtain ⟨hkn, hx⟩ := List.getElem?_eq_some_iff.1 hk
  have ex : c.bks.getD k (0, []) = x := by rw [getD_at _ _ hkn]; exact hx
  obtain ⟨A, cc, e, hl, hC⟩ := Kd.R_reads (h.rows k hkn)
  obtain ⟨q1, q2⟩ := h.cells k hkn
  rw [ex] at e hl hC q1
  obtain ⟨num, d⟩ := x
  refine ⟨[.int .i64 num, V k], rfl, ⟨[.int .i64 num], [V k], rfl, rfl, ⟨A, cc, by rw [e], hl, hC⟩⟩, fun i u hu => ?_⟩
  rw [add_plain, szB]
  match i, hu with
  | 0, hu => simp at hu; subst hu; exact q1
  | 1, hu => simp at hu; subst hu; exact q2
  | i + 2, hu => simp at hu
/-- what the last loop leaves: a cartridge of the call's own -/
theorem T2.own {w wr : World} {R W B g p g8 m c8 n3 c3 g3 n0 c0 n2 c2 K2 : Nat} {ok : Nat → Prop} {b : List Int} {A0 A2 A3 : Option Addr} {V : Nat → Value} (h : T2 w wr R W B ok g b p g8 m c8 (.slice A0 n0 c0) (.slice A2 n2 c2) A3 n3 c3 g3 (dat b 0) (efsOf K2 (dat b 1)) V n3 (low2 b 6)) (hm : nS b = m) (hK : (siz b 1).toNat / 6 = K2) :
    crt A0 c0 A2 c2 A3 c3 (cartOf b) = .agg #[.slice A0 n0 c0, .int .u16 (low2 b 6), .slice A2 n2 c2, .slice A3 n3 c3] ∧ IsC wr A0 c0 A2 c2 A3 c3 (cartOf b) ∧ OwnR wr (W + 1) A0 c0 A2 c2 A3 c3 g3 V (cartOf b) := by
  have h0 := Kd.R_reads' h.r0
  have h2 := Kd.R_reads' h.r2
  have hn := h.n3m
  have eb : (cartOf b).bks = (List.range n3).map fun k => (nmb b (k + 2), dat b (k + 2)) := by
    show (List.range (nS b - 2)).map _ = _
    rw [hm, show m - 2 = n3 by omega]
  have ee : (cartOf b).efs = efsOf K2 (dat b 1) := by show efsOf ((siz b 1).toNat / 6) _ = _; rw [hK]
  have ec : (cartOf b).code = dat b 0 := rfl
  have ebl : (cartOf b).bks.length = n3 := by rw [eb]; simp
  have eg : ∀ k, k < n3 → (cartOf b).bks.getD k (0, []) = (nmb b (k + 2), dat b (k + 2)) := fun k hk => by rw [eb, getD_at _ _ (by simpa using hk)]; simp
  have hb := h.banks
  refine ⟨?_, ⟨?_, ?_, ?_, ?_, ?_, ?_⟩, ⟨?_, ?_, fun hx => ?_, fun k hk => ?_, fun k hk => ?_, fun k l q hk hl => ?_, fun k q hk => ?_, ?_⟩⟩
  · unfold crt
    rw [ebl, ee, ec, ← h2.1, ← h0.1]; rfl
  · rw [ec]; exact h0.2.2
  · rw [ee]; exact h2.2.2
  · rw [ebl, eb]; exact hb
  · rw [ec]; have := h0.1; have := h0.2.1; omega
  · rw [ee]; have := h2.1; have := h2.2.1; omega
  · rw [ebl]; exact h.n3c
  · rw [ec, ← h0.1]; exact h.r0
  · rw [ee, ← h2.1]; exact h.r2
  · rw [ebl] at hx; exact ⟨h.a3 hx, h.g3l hx, h.typ hx⟩
  · rw [ebl] at hk; rw [eg k hk]; exact h.cells k hk
  · rw [ebl] at hk; rw [eg k hk]; exact h.rows k hk
  · rw [ebl] at hk hl; exact h.apart k l q hk hl
  · rw [ebl] at hk; rw [ec, ← h0.1]; exact h.apart0 k q hk
  · rw [ebl]; exact h.ow
end Go.Proofs.YtembdahclmffjaaDoor.Pk
