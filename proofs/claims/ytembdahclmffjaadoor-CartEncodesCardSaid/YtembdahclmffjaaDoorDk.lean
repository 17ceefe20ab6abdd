/- cart.Decode: the walk. -/
import Derived.Test.YtembdahclmffjaaDoorDe
import Derived.Test.YtembdahclmffjaaDoorDd
namespace Go.Proofs.YtembdahclmffjaaDoor.Pk
open Go.RowKit Go.Proofs.YtembdahclmffjaaDoorW.PrintWords Go.Proofs.YtembdahclmffjaaDoorW.PrintLast Go.Proofs.YtembdahclmffjaaDoorW.PrintMore Go.Proofs.YtembdahclmffjaaDoor.Mem
set_option linter.unusedVariables false
set_option linter.unusedSimpArgs false
def DecPost (b : List Int) (w : World) (e : Ending) (w' : World) : Prop := Below w.heap.size w w' ∧ ∃ v, e = .returned (.tuple #[v, .int .i64 (decB b).2]) ∧ ((decB b).2 = 0 → Own w' w.heap.size v (decB b).1) ∧ ((decB b).2 ≠ 0 → v = crt none 0 none 0 none 0 z0)
theorem dec_bad {b : List Int} {w w' : World} (er : Int) (h : decB b = (z0, er)) (hne : er ≠ 0) (hb : Below w.heap.size w w') : DecPost b w (.returned (.tuple #[.agg #[.slice none 0 0, .int .u16 0, .slice none 0 0, .slice none 0 0], .int .i64 er])) w' := by
  refine ⟨hb, _, by rw [h], ?_, ?_⟩
  · rw [h]; exact fun e => absurd e hne
  · exact fun _ => rfl
/-- the two result variables -/
structure Vars (w W : World) : Prop where
  bel : Below w.heap.size w W
  c : W.heap[w.heap.size]? = some (.cells #[.slice none 0 0, .int .u16 0, .slice none 0 0, .slice none 0 0] 28 (0, 0))
  e : W.heap[w.heap.size + 1]? = some (.cells #[.int .i64 0] 29 (0, 0))
theorem Vars.new (w : World) : Vars w ((w.alloc (.cells #[.slice none 0 0, .int .u16 0, .slice none 0 0, .slice none 0 0] 28)).alloc (.cells #[.int .i64 0] 29)) := by
  refine ⟨below_alloc (below_alloc (Below.refl _ _) _) _, ?_, ?_⟩
  · exact ((below_alloc (Below.refl _ _) _ : Below (w.alloc (.cells #[.slice none 0 0, .int .u16 0, .slice none 0 0, .slice none 0 0] 28)).heap.size _ _).block _ (by simp)).trans (World.alloc_heap_new w _)
  · have h := World.alloc_heap_new (w.alloc (.cells #[.slice none 0 0, .int .u16 0, .slice none 0 0, .slice none 0 0] 28)) (.cells #[.int .i64 0] 29)
    rw [World.size_alloc] at h
    exact h
theorem Vars.fr {w W W' : World} {S : Nat → Prop} (h : Vars w W) (hF : Fr W W' S) (hS : ∀ k, k < w.heap.size + 2 → ¬ S k) : Vars w W' :=
  ⟨h.bel.trans (hF.below h.bel.size (fun k hk => hS k (by omega))), hF.heap h.c (hS _ (by omega)), hF.heap h.e (hS _ (by omega))⟩
theorem Vars.below {w W W' : World} (h : Vars w W) (hb : Below W.heap.size W W') : Vars w W' := h.fr (Fr.of_below hb (fun _ => False)) (fun _ _ h => h)
theorem C_oneH {w : World} {A : Option Addr} {c L : Nat} {t : TypeId} {fr : Nat × Nat} {xs : List Int} (hh : w.heap[L]? = some (.cells #[.slice A xs.length c] t fr)) (hl : xs.length ≤ c) (hC : Kd.C (Kd.int .u8) w A xs.length xs) : Kd.C (Kd.slice 5 (Kd.int .u8)) w (some ⟨L, 0, none⟩) [xs].length [xs] := by
  refine ⟨rfl, by simp, fun hn => ⟨_, rfl, fun j p hj => ?_⟩⟩
  have hj0 : j = 0 := by
    have := (List.getElem?_eq_some_iff.1 hj).1
    simpa using this
  subst hj0
  simp at hj
  subst hj
  refine ⟨[.slice A xs.length c], rfl, ⟨A, c, rfl, hl, hC⟩, fun i u hu => ?_⟩
  have hi0 : i = 0 := by
    have := (List.getElem?_eq_some_iff.1 hu).1
    simpa using this
  subst hi0
  simp at hu
  subst hu
  rw [add_plain, cellH hh]
  rfl
/-- a call that panics, in a region that draws its order -/
theorem goesP_ {P : Program} {Q : Exit → Act → World → Prop} {ops : Array Oper} {oi : Oper} {N : Option Tmp} {a : Act} {w : World} {K : Act → World → Prop} {f : FuncId} {fn : Func} {as_ : Array Operand} {ts : Array TypeId} (hf : P.funcs[f]? = some fn) (hname : (fn.name == "runtime.NumGoroutine") = false) (hb : fn.body.isSome = true) (args : Array Value)
    (hw : Region.wanted oi (yielded ops a.tmps) = true) (hop : oi.op = .call { callee := .value (.func f), args := as_, argTypes := ts }) (hargs : as_.map a.eval = args)
    (h : Calls P f args w fun e w' => ∃ ch, e = .panicked ch ∧ Q (.panic ch) a w') : if Region.wanted oi (yielded ops a.tmps) = true then Oper.wp P oi a w K Q else K (a.put N undef) w := by
  rw [if_pos hw]
  have he := enters_ hf hname hb args w
  have hrun : (execOp a.eval oi).run P w = .ok (.enter f args) w := by
    unfold execOp
    simp [hop, resolve, Deferred.ofValue, invoke, Act.eval, hargs, he]
  unfold Oper.wp
  rw [hrun, Oper.upon_enter]
  refine h.mono fun e w'' hh => ?_
  obtain ⟨ch, rfl, hq⟩ := hh
  exact hq
abbrev dfr (w : World) : List Deferred := [{ target := .fn (.func 30) #[.pointer (some ⟨w.heap.size, 0, none⟩), .pointer (some ⟨w.heap.size + 1, 0, none⟩)], args := #[] }]
set_option maxHeartbeats 2000000 in
theorem door_bad {b : List Int} {w W : World} {tmps : Array Value} {er : Int} (hV : Vars w W) (hD : decB b = (z0, er)) (hne : er ≠ 0) (h2 : tmps[2]? = some (.pointer (some ⟨w.heap.size, 0, none⟩))) (h3 : tmps[3]? = some (.pointer (some ⟨w.heap.size + 1, 0, none⟩))) :
    bodyPostD Tryd.prog Tryd.f9 (DecPost b w) (.panic (pnc er)) { tmps := tmps, defers := dfr w } W := by
  refine leaves_cons (f := 30) (args := #[.pointer (some ⟨w.heap.size, 0, none⟩), .pointer (some ⟨w.heap.size + 1, 0, none⟩)]) (by simp) (by simp [go_sem]) ?_
  refine (catch_yes w.heap.size (w.heap.size + 1) er [] W hV.c hV.e (by omega)).mono ?_
  rintro e u' w'' ⟨rfl, rfl, hF, hp, hq⟩
  have y0 : w''.cell? ⟨w.heap.size, 0, none⟩ = some (.slice none 0 0) := (cellH hp).trans rfl
  have y1 : w''.cell? ⟨w.heap.size, 1, none⟩ = some (.int .u16 0) := (cellH hp).trans rfl
  have y2 : w''.cell? ⟨w.heap.size, 2, none⟩ = some (.slice none 0 0) := (cellH hp).trans rfl
  have y3 : w''.cell? ⟨w.heap.size, 3, none⟩ = some (.slice none 0 0) := (cellH hp).trans rfl
  have y4 : w''.cell? ⟨w.heap.size + 1, 0, none⟩ = some (.int .i64 er) := (cellH hq).trans rfl
  have hb : Below w.heap.size w w'' := hV.bel.trans (hF.below hV.bel.size (fun k hk e => by rcases e with e | e <;> omega))
  have hP := dec_bad er hD hne hb
  simp [Leaves, settle, results, Tryd.results9, go_sem, h2, h3, y0, y1, y2, y3, y4]
  exact hP
set_option maxRecDepth 100000 in
set_option maxHeartbeats 4000000 in
theorem Dec_short {w : World} {A : Option Addr} {c : Nat} {b : List Int} (h5 : b.length < 5) :
    Calls Tryd.prog 9 #[.slice A b.length c] w (DecPost b w) := by
  have hD : Aside0 (decB b = (z0, 70)) := ⟨if_pos (fun h => by omega)⟩
  obtain ⟨N, hN⟩ : ∃ N, N = b.length := ⟨_, rfl⟩
  rw [← hN] at h5 ⊢
  have hV := Aside0.mk (Vars.new w)
  have hmf : ∀ (fn : Fn) (first cap : Array Value) (w : World), (Instr.makeFunc fn first cap).run Tryd.prog w = .ok (.func fn first cap) w := fun _ _ _ _ => rfl
  have e1 : decide ((N : Int) ≥ 5) = false := decide_eq_false (by omega)
  clear hN
  go_enter_defers Tryd.func9, Tryd.ntmps9
  go_wp2_with (go_at_call 31; ((with_reducible refine (want_no 70 _).mono ?_); rintro e w5 ⟨rfl, rfl⟩))
  exact door_bad hV.out hD.out (by decide) rfl rfl
theorem str_back {xs : List Int} (h : allB xs) : ((strOfNums xs).toList).map (fun u => (u.toNat : Int)) = xs := by
  have e : (strOfNums xs).toList = xs.map (fun x => UInt8.ofNat x.toNat) := by simp [strOfNums]
  rw [e, List.map_map]
  refine (List.map_congr_left (fun x hx => ?_)).trans (List.map_id xs)
  have hb := h x hx
  unfold isB at hb
  simp only [Function.comp_apply, UInt8.toNat_ofNat', id_eq]
  omega
theorem str_magic {b : List Int} (h : allB b) (hl : 5 ≤ b.length) : ((strOfNums (b.take 4)).toList = [87, 73, 83, 80] ∧ b.getD 4 0 = 1) ↔ b.take 5 = magic := by
  have h4 := allB_take h 4
  have e5 : b.take 5 = b.take 4 ++ [b.getD 4 0] := by rw [List.take_succ_eq_append_getElem (by omega), getD_at _ _ (by omega)]
  have em : magic = [87, 73, 83, 80] ++ [1] := rfl
  have hb := str_back h4
  constructor
  · rintro ⟨h1, h2⟩
    rw [h1] at hb
    rw [e5, em, h2, ← hb]; rfl
  · intro h1
    rw [e5, em] at h1
    have h2 := List.append_inj h1 (by simp; omega)
    refine ⟨?_, by simpa using h2.2⟩
    rw [h2.1]
    decide +kernel
set_option maxRecDepth 100000 in
set_option maxHeartbeats 8000000 in
theorem Dec_head {w : World} {A : Option Addr} {c : Nat} {b : List Int} (hC : Kd.C (Kd.int .u8) w A b.length b) (hcl : b.length ≤ c) (hBb : allB b) (h5 : 5 ≤ b.length) (hl : b.length ≤ 140737488355328) (hbad : ¬ (b.take 5 = magic ∧ 12 ≤ b.length ∧ b.length ≤ 524288)) :
    Calls Tryd.prog 9 #[.slice A b.length c] w (DecPost b w) := by
  obtain ⟨i0, hi, _, hz1, _⟩ := info_parts infoB
  obtain ⟨ad, hA, _⟩ := Kd.at_int hC 0 (by omega) (by omega)
  subst hA
  have hmg := str_magic hBb h5
  have hV := Aside0.mk (Vars.new w)
  obtain ⟨V0, hV0⟩ : ∃ V0, V0 = (w.alloc (.cells #[.slice none 0 0, .int .u16 0, .slice none 0 0, .slice none 0 0] 28)).alloc (.cells #[.int .i64 0] 29) := ⟨_, rfl⟩
  have hbV : Below w.heap.size w V0 := by rw [hV0]; exact (Vars.new w).bel
  have hCV := Kd.C_below hC hbV
  obtain ⟨a4, e4, hx4⟩ := Kd.at_int hCV 4 (by omega) (by omega)
  injection e4 with e4
  subst e4
  rw [show ((4 : Int)).toNat = 4 from rfl, show rd b 4 = b.getD 4 0 from rfl] at hx4
  have hD1 : b.take 5 ≠ magic → decB b = (z0, 70) := fun h => if_pos (fun hh => h hh.2)
  have hD2 : b.take 5 = magic → ¬ (12 ≤ b.length ∧ b.length ≤ 524288) → decB b = (z0, 71) := fun h h2 => (if_neg (fun hn => hn ⟨h5, h⟩)).trans (if_pos (fun hh => h2 ⟨hh.1, hh.2.1⟩))
  have hconv := Kd.C_string (P := Tryd.prog) (c := c) Tryd.underlying22 Tryd.underlying5 Tryd.underlying9 (Kd.C_take hCV (m := 4) (by omega))
  rw [show (b.take 4).length = 4 by rw [List.length_take]; omega] at hconv
  obtain ⟨S4, hS4⟩ : ∃ S, strOfNums (b.take 4) = S := ⟨_, rfl⟩
  rw [hS4] at hmg hconv
  obtain ⟨X, hX⟩ : ∃ x, b.getD 4 0 = x := ⟨_, rfl⟩
  rw [hX] at hmg hx4
  obtain ⟨a5, e5, hx4w⟩ := Kd.at_int hC 4 (by omega) (by omega)
  injection e5 with e5
  subst e5
  rw [show ((4 : Int)).toNat = 4 from rfl, show rd b 4 = b.getD 4 0 from rfl, hX] at hx4w
  have ha4 : ad.add 4 = ⟨ad.block, ad.off + 4, none⟩ := by simp [Addr.add]
  rw [ha4] at hx4 hx4w
  have hlt4 := World.block_lt_of_cell? _ _ hx4w
  clear ha4
  obtain ⟨N, hN⟩ : ∃ N, N = b.length := ⟨_, rfl⟩
  rw [← hN] at h5 hl hcl hD2 hbad ⊢
  have hcut : ∀ W : World, (Instr.slice 22 (.slice (some ad) N c) none (some (.int .i64 4)) none).run Tryd.prog W = .ok (.slice (some ad) 4 c) W := fun W => cut_to (P := Tryd.prog) 22 5 .i64 Tryd.underlying22 hi (some ad) N c 4 (by omega) (by omega) hcl W
  have hmf : ∀ (fn : Fn) (first cap : Array Value) (w : World), (Instr.makeFunc fn first cap).run Tryd.prog w = .ok (.func fn first cap) w := fun _ _ _ _ => rfl
  have e1 : decide ((N : Int) ≥ 5) = true := decide_eq_true (by omega)
  rw [hV0] at hconv hx4
  have hmgg := Aside0.mk hmg
  have hd1 := Aside0.mk hD1
  have hd2 := Aside0.mk hD2
  have hbb := Aside0.mk hbad
  clear hN hC hcl hBb hbV hCV hS4 hX hmg hD1 hD2 hbad hi hz1 hV0
  obtain ⟨q1, hq1⟩ : ∃ q, (S4.toList == ([87, 73, 83, 80] : List UInt8)) = q := ⟨_, rfl⟩
  obtain ⟨q2, hq2⟩ : ∃ q, (X == 1) = q := ⟨_, rfl⟩
  have hqq1 := Aside0.mk hq1
  have hqq2 := Aside0.mk hq2
  by_cases hm : b.take 5 = magic
  · have hq : q1 = true ∧ q2 = true := by
      obtain ⟨h1, h2⟩ := hmgg.out.2 hm
      exact ⟨by rw [← hqq1.out, h1]; rfl, by rw [← hqq2.out, h2]; rfl⟩
    obtain ⟨rfl, rfl⟩ := hq
    have hdd := Aside0.mk (hd2.out hm (fun h => hbb.out ⟨hm, h⟩))
    have hmx := hm
    clear hm
    obtain ⟨q3, hq3⟩ : ∃ q, decide ((N : Int) ≤ 524288) = q := ⟨_, rfl⟩
    have hqq3 := Aside0.mk hq3
    have hmm := Aside0.mk hmx
    clear hmx
    cases q3
    all_goals
      go_enter_defers Tryd.func9, Tryd.ntmps9
      go_wp2_with (go_at_call 31; ((with_reducible refine (want_yes 70 _).mono ?_); rintro e w5 ⟨rfl, rfl⟩))
      all_goals (first | (exfalso; exact hbb.out ⟨hmm.out, by omega, by have := of_decide_eq_true hqq3.out; omega⟩) | (go_wp2_with (go_at_call 31; ((with_reducible refine (want_no 71 _).mono ?_); rintro e w5 ⟨rfl, rfl⟩)); exact door_bad hV.out hdd.out (by decide) rfl rfl))
  · have hdd := Aside0.mk (hd1.out hm)
    have hqf : Aside0 (q1 = false ∨ q2 = false) := ⟨by
      rcases q1 with _ | _
      · exact .inl rfl
      · rcases q2 with _ | _
        · exact .inr rfl
        · exact absurd (hmgg.out.1 ⟨eq_of_beq hqq1.out, eq_of_beq hqq2.out⟩) hm⟩
    clear hm
    cases q1
    all_goals cases q2
    all_goals
      first
      | (exfalso; rcases hqf.out with h | h <;> cases h; done)
      | (go_enter_defers Tryd.func9, Tryd.ntmps9
         go_wp2_with (go_at_call 31; ((with_reducible refine (want_no 70 _).mono ?_); rintro e w5 ⟨rfl, rfl⟩))
         exact door_bad hV.out hdd.out (by decide) rfl rfl)
end Go.Proofs.YtembdahclmffjaaDoor.Pk
