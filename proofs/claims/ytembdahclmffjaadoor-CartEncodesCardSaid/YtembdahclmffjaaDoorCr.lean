/- Cartridges that were decoded are well formed; what the laws' walks keep. -/
import Derived.Test.YtembdahclmffjaaDoorKw
namespace Go.Proofs.YtembdahclmffjaaDoor.Pk
open Go.RowKit Go.Proofs.YtembdahclmffjaaDoorW.PrintWords Go.Proofs.YtembdahclmffjaaDoorW.PrintLast Go.Proofs.YtembdahclmffjaaDoorW.PrintMore Go.Proofs.YtembdahclmffjaaDoor.Mem
set_option linter.unusedVariables false
set_option linter.unusedSimpArgs false
theorem dat_B {b : List Int} (h : allB b) (j : Nat) : allB (dat b j) := allB_take (allB_drop h _) _
theorem efs_wf : ∀ (k : Nat) (d : List Int), allB d → ∀ x ∈ efsOf k d, 0 ≤ x.1 ∧ x.1 < 65536
  | 0, _, _, x, hx => by simp [efsOf] at hx
  | k + 1, d, h, x, hx => by
    rcases List.mem_cons.1 hx with rfl | hx
    · exact low2_bd h 0
    · exact efs_wf k (d.drop 6) (allB_drop h 6) x hx
theorem wf_cartOf {b : List Int} (h : allB b) : WfC (cartOf b) :=
  ⟨dat_B h 0, (low2_bd h 6).1, (low2_bd h 6).2, efs_wf _ _ (dat_B h 1), fun x hx => by
    obtain ⟨i, _, rfl⟩ := List.mem_map.1 hx
    exact dat_B h _⟩
theorem wf_back {r : List Int} {c : CartP} (hB : allB r) (h : decB r = (c, 0)) : WfC c := by
  rcases dec_err h with ⟨_, rfl⟩ | ⟨_, h2, _⟩
  · exact wf_cartOf (allB_take hB _)
  · omega
theorem dec_two (r : List Int) : (∃ c, decB r = (c, 0)) ∨ (∃ er, (decB r).2 = er ∧ 70 ≤ er ∧ er ≤ 73 ∧ (decB r).1 = z0) := by
  generalize hD : decB r = D
  obtain ⟨c, e⟩ := D
  rcases dec_err hD with ⟨rfl, _⟩ | ⟨rfl, h1, h2⟩
  · exact .inl ⟨c, rfl⟩
  · exact .inr ⟨e, rfl, h1, h2, rfl⟩
theorem Kn.row {w X : World} {A A' : Option Addr} {n n' k k' g : Nat} {x0 x1 x2 x3 : Value} {sb sb' : ByteArray} {b b' : List Int} {c : CartP} (h : Kn w A n k g x0 x1 x2 x3 sb b c X) (hn : n' = b'.length) (hs : strOfNums b' = sb') (hC : Kd.C (Kd.int .u8) X A' n' b') : Kn w A' n' k' g x0 x1 x2 x3 sb' b' c X :=
  ⟨h.bel, h.tab, hn, hs, hC, h.box, h.t⟩
theorem Kn.bx {w X : World} {A : Option Addr} {n k g g' : Nat} {x0 x1 x2 x3 y0 y1 y2 y3 : Value} {sb : ByteArray} {b : List Int} {c c' : CartP} (h : Kn w A n k g x0 x1 x2 x3 sb b c X) (hb : X.heap[g']? = some (.cells #[y0, y1, y2, y3] 28 (0, 0))) (ht : CtV X (.agg #[y0, y1, y2, y3]) c') : Kn w A n k g' y0 y1 y2 y3 sb b c' X :=
  ⟨h.bel, h.tab, h.hn, h.hs, h.C, hb, ht⟩
/-- a copy in new memory -/
theorem appE {ops : Array Oper} {Q : Exit → Act → World → Prop} {o : Oper} {rest : List Oper} {a : Act} {W : World} (ys : List Int) (A : Option Addr) (m c : Nat) (hgd : o.guard = none) (s x : Operand)
    (ho : o.op = .call { callee := .builtin .append, args := #[s, x], argTypes := #[22, 22] }) (hs : a.eval s = .slice (some ⟨W.heap.size, 0, none⟩) 0 0) (hx : a.eval x = .slice A m c)
    (hm : m = ys.length) (HR : Kd.C (Kd.int .u8) W A m ys) (hl : m ≤ 140737488355328)
    (h : ∀ A' n' k' w1, n' = ys.length → n' ≤ k' → Kd.C (Kd.int .u8) w1 A' n' ys → Below W.heap.size W w1 → wpList Tryd.prog ops Q rest (a.put o.dst (.slice A' n' k')) w1) : wpList Tryd.prog ops Q (o :: rest) a (W.alloc (.cells #[] 5)) := by
  obtain ⟨i0, hi, hz0, hz1, hz2⟩ := info_parts infoB
  have hb0 : Below W.heap.size W (W.alloc (.cells #[] 5)) := below_alloc (Below.refl _ _) _
  have hR0 : Kd.R (Kd.int .u8) 5 (W.alloc (.cells #[] 5)) W.heap.size (fun _ => True) (.slice (some ⟨W.heap.size, 0, none⟩) 0 0) ([] : List Int) := Kd.R_of_own (h1 := fun _ => rfl) (by have h2 := World.ownsRow_made W #[] (e := 5) (size := 1) 0 (Nat.le_refl _) (Nat.zero_le _) rfl; simpa [encs] using h2) (fun _ _ => trivial)
  refine appB (w0 := W) W.heap.size _ [] ys A m c hgd s x ho hs hx hR0 (Kd.C_below HR hb0) hb0 (by rw [World.size_alloc]; omega) (by simpa using hl) (fun v1 w1 h1 h2 => ?_)
  rw [List.nil_append] at h1
  obtain ⟨A', k', rfl, hk, hC⟩ := Kd.R_reads h1
  exact h A' _ k' w1 rfl hk hC h2
theorem cellB_B {x : Int} (h0 : 0 ≤ x) (h1 : x < 65536) : allB (cellB x) := fun y hy => by
  unfold isB
  simp only [cellB, List.mem_cons, List.not_mem_nil, or_false] at hy
  omega
theorem effB_B : ∀ (es : List EfT), (∀ x ∈ es, 0 ≤ x.1 ∧ x.1 < 65536 ∧ 0 ≤ x.2.1 ∧ x.2.1 ≤ 256 ∧ 0 ≤ x.2.2 ∧ x.2.2 ≤ 256) → allB (effB es)
  | [], _, y, hy => by simp [effB] at hy
  | x :: es, h, y, hy => by
    have hx := h x (List.mem_cons_self ..)
    simp only [effB, List.flatMap_cons, List.mem_append] at hy
    rcases hy with (hy | hy | hy) | hy
    · exact cellB_B hx.1 hx.2.1 y hy
    · exact cellB_B hx.2.2.1 (by omega) y hy
    · exact cellB_B hx.2.2.2.2.1 (by omega) y hy
    · exact effB_B es (fun z hz => h z (List.mem_cons_of_mem _ hz)) y hy
theorem tabB_B : ∀ (at_ : Int) (l : List ScT), (∀ s ∈ l, isB s.1 ∧ isB s.2.1) → allB (tabB at_ l)
  | _, [], _, y, hy => by simp [tabB] at hy
  | at_, s :: l, h, y, hy => by
    have hs := h s (List.mem_cons_self ..)
    simp only [tabB, List.mem_cons, List.mem_append] at hy
    rcases hy with rfl | rfl | hy | hy | hy
    · exact hs.1
    · exact hs.2
    · exact lowI_B 4 _ y hy
    · exact lowI_B 4 _ y hy
    · exact tabB_B _ l (fun z hz => h z (List.mem_cons_of_mem _ hz)) y hy
theorem isB0 : isB 0 := ⟨by decide, by decide⟩
theorem isB1 : isB 1 := ⟨by decide, by decide⟩
theorem isB2 : isB 2 := ⟨by decide, by decide⟩
theorem isB3 : isB 3 := ⟨by decide, by decide⟩
theorem encB_B {c : CartP} (hw : WfC c) (hok : OkC c) : allB (encB c) := by
  have hb := bk_len hok.bs
  have hmem : ∀ x ∈ c.bks, 0 ≤ x.1 ∧ x.1 ≤ 15 := fun x hx => by
    obtain ⟨i, hi, rfl⟩ := List.getElem_of_mem hx
    have h := hok.bs i hi
    unfold okB at h
    rw [List.getD_eq_getElem?_getD, List.getElem?_eq_getElem hi] at h
    exact ⟨h.1, h.2.1⟩
  have hme : ∀ x ∈ c.efs, 0 ≤ x.1 ∧ x.1 < 65536 ∧ 0 ≤ x.2.1 ∧ x.2.1 ≤ 256 ∧ 0 ≤ x.2.2 ∧ x.2.2 ≤ 256 := fun x hx => by
    have ha := hw.ats x hx
    obtain ⟨i, hi, rfl⟩ := List.getElem_of_mem hx
    have h := hok.es i hi
    unfold okE at h
    rw [List.getD_eq_getElem?_getD, List.getElem?_eq_getElem hi] at h
    exact ⟨ha.1, ha.2, h.1, h.2.1, h.2.2.1, h.2.2.2.1⟩
  have hs : ∀ s ∈ secs c, isB s.1 ∧ isB s.2.1 ∧ allB s.2.2 := fun s hs => by
    rcases List.mem_cons.1 hs with rfl | hs
    · exact ⟨isB1, isB0, hw.code⟩
    · rcases List.mem_cons.1 hs with rfl | hs
      · exact ⟨isB2, isB0, effB_B _ hme⟩
      · obtain ⟨b, hb, rfl⟩ := List.mem_map.1 hs
        have := hmem b hb
        exact ⟨isB3, ⟨this.1, Int.lt_of_le_of_lt this.2 (by decide)⟩, hw.bks b hb⟩
  have hl : (secs c).length ≤ 18 := by simp [secs]; omega
  intro y hy
  simp only [encB, bodyB, List.mem_append, List.mem_cons] at hy
  rcases hy with (hy | rfl | hy | hy | hy) | hy
  · simp only [magic, List.mem_cons, List.not_mem_nil, or_false] at hy
    unfold isB; omega
  · unfold isB; omega
  · exact cellB_B hw.e0 hw.e1 y hy
  · exact tabB_B _ _ (fun s h => ⟨(hs s h).1, (hs s h).2.1⟩) y hy
  · simp only [datB, List.mem_flatten, List.mem_map] at hy
    obtain ⟨l, ⟨s, h1, rfl⟩, h2⟩ := hy
    exact (hs s h1).2.2 y h2
  · exact lowI_B 4 _ y hy
end Go.Proofs.YtembdahclmffjaaDoor.Pk
