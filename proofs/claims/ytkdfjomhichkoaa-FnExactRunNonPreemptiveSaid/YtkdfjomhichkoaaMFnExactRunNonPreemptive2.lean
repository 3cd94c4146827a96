/- The law FnExactRunNonPreemptive for every input, part 2 of its proof: what the program's functions answer, and the plain law. No condition. -/
import Derived.Test.YtkdfjomhichkoaaMFnExactRunNonPreemptive1
-- Laid by a program of this work.
namespace Go.Proofs.Ytkdfjomhichkoaa.P
open Go.RowKit Go.Proofs.YtkdfjomhichkoaaW.PrintWords Go.Proofs.YtkdfjomhichkoaaW.PrintLast Go.Proofs.YtkdfjomhichkoaaW.PrintMore
attribute [local go_sem] max2_int min2_int max_two min_two max_three min_three max_four min_four   -- for this text's walks alone
set_option linter.unusedVariables false
set_option linter.unusedSimpArgs false

/-! ### impl_JobsLegal: function 48: by hand -/
/-- A legal release pattern. -/
def legB (l : List TaskT) (js : List JobT) : Bool := if ordB l js = true then (if spcB l js = true then !(js.any (lateB l)) else false) else false
theorem ordOk_at {l : List TaskT} {js : List JobT} (h : ordB l js = true) (i : Nat) (hi : i < js.length) : inRng l (jrd js i) = true ∧ relOk (jrd js i) = true := by
  unfold ordB at h
  rw [Bool.and_eq_true] at h
  have := allB_true h.1 i hi
  unfold ordOk at this
  rw [Bool.and_eq_true, Bool.and_eq_true, Bool.and_eq_true] at this
  exact ⟨this.1.1.1, this.1.1.2⟩
def impl_JobsLegal.f (l0 : List S88) (l1 : List S34) : Option Bool := (impl_SetValid.f l0).bind fun t => (if t = true then (if l0.length ≤ 1000000000 ∧ l1.length ≤ 1000000000 then (some (legB l0 l1)) else (none)) else (some false))
set_option maxHeartbeats 16000000 in
set_option maxRecDepth 100000 in
theorem impl_JobsLegal.calls (A0 : Option Addr) (c0 : Nat) (l0 : List S88) (A1 : Option Addr) (c1 : Nat) (l1 : List S34) (r : Bool) (w : World) (hr0 : Kd.C k88 w A0 l0.length l0) (hc0 : l0.length ≤ c0) (hr1 : Kd.C k34 w A1 l1.length l1) (hc1 : l1.length ≤ c1) (h : impl_JobsLegal.f l0 l1 = some r) :
    Calls Try.prog 48 #[.slice A0 l0.length c0, .slice A1 l1.length c1] w fun e w' => e = .returned (.bool r) ∧ Below w.heap.size w w' := by
  unfold impl_JobsLegal.f at h
  have hlen0 : l0.length ≤ 9223372036854775807 := hr0.2.1
  have HR0 := Aside0.mk hr0
  have HC0 := Aside0.mk hc0
  have HR1 := Aside0.mk hr1
  clear hr0 hc0 hr1 hc1
  cases hs : impl_SetValid.f l0 with
  | none => rw [hs] at h; simp at h
  | some t =>
    rw [hs] at h
    have HS := Aside0.mk hs
    clear hs
    have B0 := Aside0.mk (below_alloc (Below.refl w.heap.size w) (.cells #[.slice A0 l0.length c0] 23))
    cases t with
    | false =>
      simp at h
      subst h
      go_enter Try.func48, Try.ntmps48
      go_wp2_with (go_at_call 76; refine (impl_SetValid.calls A0 c0 l0 false _ (Kd.C_below HR0.out B0.out) HC0.out HS.out).mono ?_; rintro e w1 ⟨rfl, hb⟩; have HB := Aside0.mk (below_step B0.out hb); clear hb)
      go_ret
      exact ⟨rfl, HB.out⟩
    | true =>
      simp only [Option.bind_some, if_true] at h
      by_cases hl : l0.length ≤ 1000000000 ∧ l1.length ≤ 1000000000
      · rw [if_pos hl] at h
        obtain rfl := Option.some.inj h
        clear h
        obtain ⟨hl0, hl1⟩ := hl
        have cellB : ∀ W, Below (w.alloc (.cells #[.slice A0 l0.length c0] 23)).heap.size (w.alloc (.cells #[.slice A0 l0.length c0] 23)) W → W.cell? ⟨w.heap.size, 0, none⟩ = some (.slice A0 l0.length c0) := fun W hb => (hb.cell (p := ⟨w.heap.size, 0, none⟩) (by simp)).trans (by simp)
        have CB := Aside0.mk cellB
        clear cellB
        have HO := Aside0.mk (fun (W1 : World) (hb1 : Below (w.alloc (.cells #[.slice A0 l0.length c0] 23)).heap.size (w.alloc (.cells #[.slice A0 l0.length c0] 23)) W1) =>
          ordered_calls 92 #[.pointer (some ⟨w.heap.size, 0, none⟩)] (enters_of Try.func92 (by kernel_rfl) rfl) l0 A1 c1 l1 hl1 hl0 W1
            (fun W a hb h0 h1 => (jl1_calls A0 c0 l0 ⟨w.heap.size, 0, none⟩ a h0 h1 W (CB.out W (below_then hb1 hb1.size hb)) (Kd.C_below (Kd.C_below HR0.out B0.out) (below_then hb1 hb1.size hb))).mono fun e w' hh => ⟨hh.1, hh.2.out⟩) (Kd.C_below (Kd.C_below HR1.out B0.out) hb1))
        have HP := Aside0.mk (fun (hord : ordB l0 l1 = true) (W1 : World) (hb1 : Below (w.alloc (.cells #[.slice A0 l0.length c0] 23)).heap.size (w.alloc (.cells #[.slice A0 l0.length c0] 23)) W1) =>
          spaced_calls 94 95 #[.pointer (some ⟨w.heap.size, 0, none⟩)] (enters_of Try.func94 (by kernel_rfl) rfl) (enters_of Try.func95 (by kernel_rfl) rfl) (by decide) l0 A1 c1 l1 hl1
            (fun i hi => by have h1 := (ordOk_at hord i hi).1; unfold inRng at h1; have h1 := of_decide_eq_true h1; omega) (fun i hi => by have h1 := (ordOk_at hord i hi).2; unfold relOk at h1; exact of_decide_eq_true h1) hl0 W1
            (fun W j _ => (impl_release.calls j.f0 j.f1 j.f2 j.f3 _ W rfl).mono fun e w' hh => ⟨hh.1, hh.2⟩)
            (fun W a hb h0 h1 => (jl2_calls A0 c0 l0 ⟨w.heap.size, 0, none⟩ a h0 h1 W (CB.out W (below_then hb1 hb1.size hb)) (Kd.C_below (Kd.C_below HR0.out B0.out) (below_then hb1 hb1.size hb))).mono fun e w' hh => ⟨hh.1, hh.2.out⟩) (Kd.C_below (Kd.C_below HR1.out B0.out) hb1))
        have HL := Aside0.mk (fun (hord : ordB l0 l1 = true) (W1 : World) (hb1 : Below (w.alloc (.cells #[.slice A0 l0.length c0] 23)).heap.size (w.alloc (.cells #[.slice A0 l0.length c0] 23)) W1) =>
          anyJob_calls (lateB l0) 97 #[.pointer (some ⟨w.heap.size, 0, none⟩)] (enters_of Try.func97 (by kernel_rfl) rfl) A1 c1 l1 W1
            (fun W x hx hb => by
              obtain ⟨i, hi, rfl⟩ := List.getElem_of_mem hx
              have h1 := (ordOk_at hord i hi).1
              have e : jrd l1 i = l1[i] := by unfold jrd rd_T34; rw [List.getD_eq_getElem?_getD, Int.toNat_natCast, List.getElem?_eq_getElem hi]; rfl
              rw [e] at h1
              unfold inRng at h1
              have h1 := of_decide_eq_true h1
              exact jl3_calls A0 c0 l0 ⟨w.heap.size, 0, none⟩ l1[i] h1.1 (by omega) W (CB.out W (below_then hb1 hb1.size hb)) (Kd.C_below (Kd.C_below HR0.out B0.out) (below_then hb1 hb1.size hb))) (Kd.C_below (Kd.C_below HR1.out B0.out) hb1))
        unfold legB
        cases ho : ordB l0 l1 with
        | false =>
          rw [ho] at HO
          rw [if_neg (by simp)]
          clear ho HP HL
          go_enter Try.func48, Try.ntmps48
          go_wp2_with (first
            | (go_at_call 76; refine (impl_SetValid.calls A0 c0 l0 true _ (Kd.C_below HR0.out B0.out) HC0.out HS.out).mono ?_; rintro e w1 ⟨rfl, hb⟩; have HB := Aside0.mk hb; have hcell := CB.out w1 hb; clear hb)
            | (go_at_call 91; refine (HO.out _ HB.out).mono ?_; rintro e w2 ⟨rfl, hb⟩; have HB2 := Aside0.mk (below_then HB.out HB.out.size hb); have hcell2 := CB.out w2 HB2.out; clear hb))
          go_ret
          exact ⟨rfl, below_then B0.out B0.out.size HB2.out⟩
        | true =>
          rw [ho] at HO
          rw [if_pos rfl]
          have HP2 := Aside0.mk (HP.out ho)
          have HL2 := Aside0.mk (HL.out ho)
          clear ho HP HL
          cases hp : spcB l0 l1 with
          | false =>
            rw [hp] at HP2
            rw [if_neg (by simp)]
            clear hp
            go_enter Try.func48, Try.ntmps48
            go_wp2_with (first
              | (go_at_call 76; refine (impl_SetValid.calls A0 c0 l0 true _ (Kd.C_below HR0.out B0.out) HC0.out HS.out).mono ?_; rintro e w1 ⟨rfl, hb⟩; have HB := Aside0.mk hb; have hcell := CB.out w1 hb; clear hb)
              | (go_at_call 91; refine (HO.out _ HB.out).mono ?_; rintro e w2 ⟨rfl, hb⟩; have HB2 := Aside0.mk (below_then HB.out HB.out.size hb); have hcell2 := CB.out w2 HB2.out; clear hb)
              | (go_at_call 93; refine (HP2.out _ HB2.out).mono ?_; rintro e w3 ⟨rfl, hb⟩; have HB3 := Aside0.mk (below_then HB2.out HB2.out.size hb); have hcell3 := CB.out w3 HB3.out; clear hb))
            go_ret
            exact ⟨rfl, below_then B0.out B0.out.size HB3.out⟩
          | true =>
            rw [hp] at HP2
            rw [if_pos rfl]
            clear hp
            obtain ⟨v, hv⟩ : ∃ v, l1.any (lateB l0) = v := ⟨_, rfl⟩
            rw [hv] at HL2 ⊢
            clear hv
            go_enter Try.func48, Try.ntmps48
            go_wp2_with (first
              | (go_at_call 76; refine (impl_SetValid.calls A0 c0 l0 true _ (Kd.C_below HR0.out B0.out) HC0.out HS.out).mono ?_; rintro e w1 ⟨rfl, hb⟩; have HB := Aside0.mk hb; have hcell := CB.out w1 hb; clear hb)
              | (go_at_call 91; refine (HO.out _ HB.out).mono ?_; rintro e w2 ⟨rfl, hb⟩; have HB2 := Aside0.mk (below_then HB.out HB.out.size hb); have hcell2 := CB.out w2 HB2.out; clear hb)
              | (go_at_call 93; refine (HP2.out _ HB2.out).mono ?_; rintro e w3 ⟨rfl, hb⟩; have HB3 := Aside0.mk (below_then HB2.out HB2.out.size hb); have hcell3 := CB.out w3 HB3.out; clear hb)
              | (go_at_call 96; refine (HL2.out _ HB3.out).mono ?_; rintro e w4 ⟨rfl, hb⟩; have HB4 := Aside0.mk (below_then HB3.out HB3.out.size hb); clear hb))
            go_ret
            exact ⟨rfl, below_then B0.out B0.out.size HB4.out⟩
      · rw [if_neg hl] at h
        cases h

end Go.Proofs.Ytkdfjomhichkoaa.P
-- Laid by a program of this work.
namespace Go.Proofs.Ytkdfjomhichkoaa.P
open Go.RowKit Go.Proofs.YtkdfjomhichkoaaW.PrintWords Go.Proofs.YtkdfjomhichkoaaW.PrintLast Go.Proofs.YtkdfjomhichkoaaW.PrintMore
attribute [local go_sem] max2_int min2_int max_two min_two max_three min_three max_four min_four   -- for this text's walks alone
set_option linter.unusedVariables false
set_option linter.unusedSimpArgs false

/-! ### impl_RunNonPreemptive: function 12: by hand -/
def impl_RunNonPreemptive.f (l0 : List S88) (l1 : List S34) : Option (List Int × List Int) := (impl_JobsLegal.f l0 l1).bind fun t => (if t = true then (if l1.length ≤ 1000 then (some (simR (npD l1) l1)) else (none)) else (some ([], [])))
set_option maxHeartbeats 8000000 in
set_option maxRecDepth 100000 in
theorem impl_RunNonPreemptive.calls (A0 : Option Addr) (c0 : Nat) (l0 : List S88) (A1 : Option Addr) (c1 : Nat) (l1 : List S34) (r1 : List Int) (r2 : List Int) (w : World) (hr0 : Kd.C k88 w A0 l0.length l0) (hc0 : l0.length ≤ c0) (hr1 : Kd.C k34 w A1 l1.length l1) (hc1 : l1.length ≤ c1) (h : impl_RunNonPreemptive.f l0 l1 = some (r1, r2)) :
    Calls Try.prog 12 #[.slice A0 l0.length c0, .slice A1 l1.length c1] w fun e w' => ∃ v0_ v1_ : Value, e = .returned (.agg #[v0_, v1_]) ∧ Kd.R (Kd.int .i64) 3 w' w.heap.size (fun k_ => some k_ ≠ (v1_ : Value).ownBlock) v0_ r1 ∧ Kd.R (Kd.int .i64) 3 w' w.heap.size (fun k_ => some k_ ≠ (v0_ : Value).ownBlock) v1_ r2 ∧ Below w.heap.size w w' := by
  unfold impl_RunNonPreemptive.f at h
  have HR0 := Aside0.mk hr0
  have HC0 := Aside0.mk hc0
  have HR1 := Aside0.mk hr1
  have HC1 := Aside0.mk hc1
  clear hr0 hc0 hr1 hc1
  cases hs : impl_JobsLegal.f l0 l1 with
  | none => rw [hs] at h; simp at h
  | some t =>
    rw [hs] at h
    have HS := Aside0.mk hs
    clear hs
    have B0 := Aside0.mk (below_alloc (Below.refl w.heap.size w) (.cells #[.slice none 0 0, .slice none 0 0] 29))
    have K0 := Aside0.mk (blk_new w (.cells #[.slice none 0 0, .slice none 0 0] 29))
    cases t with
    | false =>
      simp at h
      obtain ⟨rfl, rfl⟩ := h
      go_enter Try.func12, Try.ntmps12
      go_wp2_with (go_at_call 48; refine (impl_JobsLegal.calls A0 c0 l0 A1 c1 l1 false _ (Kd.C_below HR0.out B0.out) HC0.out (Kd.C_below HR1.out B0.out) HC1.out HS.out).mono ?_; rintro e w1 ⟨rfl, hb⟩; have BK1 := blk_below K0.out hb; have r0 := (blk_cell BK1 0); have r1 := (blk_cell BK1 1); have f0 := blk_frozen BK1 0; have f1 := blk_frozen BK1 1; have BK := Aside0.mk BK1; have HB := Aside0.mk (below_step B0.out hb); clear hb BK1)
      refine bodyPost_ret (results_cell_row rfl _ _ w.heap.size 29 #[.slice none 0 0, .slice none 0 0] (0, 0) _ rfl (by first | exact BK.out | (refine blk_put (cs := #[.slice none 0 0, .slice none 0 0]) ?_ 1 _ rfl; refine blk_put (cs := #[.slice none 0 0, .slice none 0 0]) ?_ 0 _ rfl; exact BK.out)) Try.underlying29 rfl (by kernel_rfl)) rfl ?_
      exact ⟨_, _, rfl, Kd.R_nil _ _ _ _ _, Kd.R_nil _ _ _ _ _, by first | exact HB.out | exact (HB.out.setCell (Nat.le_refl _) _).setCell (Nat.le_refl _) _⟩
    | true =>
      simp only [Option.bind_some, if_true] at h
      by_cases hl : l1.length ≤ 1000
      · rw [if_pos hl] at h
        have h := Option.some.inj h
        have e1 := congrArg Prod.fst h
        have e2 := congrArg Prod.snd h
        simp only at e1 e2
        subst e1 e2
        clear h
        have S0 := Aside0.mk (show w.heap.size < (w.alloc (.cells #[.slice none 0 0, .slice none 0 0] 29)).heap.size by simp)
        have HSM := Aside0.mk (fun (W : World) (hb1 : Below (w.alloc (.cells #[.slice none 0 0, .slice none 0 0] 29)).heap.size (w.alloc (.cells #[.slice none 0 0, .slice none 0 0] 29)) W) => simulate_calls (npD l1) 50 #[] #[] (enters_of Try.func50 (by kernel_rfl) rfl) A1 c1 l1 W (Kd.C_below (Kd.C_below HR1.out B0.out) hb1) hl (npD_rng l1)
          (fun W2 g D cd dn t htl hb hM => np_calls g A1 c1 l1 D cd dn (t : Int) W2 hM))
        go_enter Try.func12, Try.ntmps12
        go_wp2_with (first
          | (go_at_call 48; refine (impl_JobsLegal.calls A0 c0 l0 A1 c1 l1 true _ (Kd.C_below HR0.out B0.out) HC0.out (Kd.C_below HR1.out B0.out) HC1.out HS.out).mono ?_; rintro e w1 ⟨rfl, hb⟩; have HB := Aside0.mk hb; have BK1 := Aside0.mk (blk_below K0.out hb); clear hb)
          | (go_at_call 49; refine (HSM.out w1 HB.out).mono ?_; rintro e w2 ⟨v0, v1, rfl, hR0, hR1, hb⟩; obtain ⟨X0, y0, ev⟩ := Kd.R_slice hR0; subst ev; obtain ⟨X1, y1, ev⟩ := Kd.R_slice hR1; subst ev; have H0 := Aside0.mk hR0; have H1 := Aside0.mk hR1; have S1 := Aside0.mk (Nat.lt_of_lt_of_le S0.out HB.out.size); have HB2 := Aside0.mk (below_then B0.out B0.out.size (below_then HB.out HB.out.size hb)); have BK2 := blk_below BK1.out hb; have r0 := (blk_cell BK2 0); have r1 := (blk_cell BK2 1); have f0 := blk_frozen BK2 0; have f1 := blk_frozen BK2 1; have BK := Aside0.mk BK2; clear hR0 hR1 hb BK2))
        refine bodyPost_ret (results_cell_row rfl _ _ w.heap.size 29 #[.slice X0 (simR (npD l1) l1).1.length y0, .slice X1 (simR (npD l1) l1).2.length y1] (0, 0) _ rfl (by refine blk_put (cs := #[.slice X0 (simR (npD l1) l1).1.length y0, .slice none 0 0]) ?_ 1 _ rfl; refine blk_put (cs := #[.slice none 0 0, .slice none 0 0]) ?_ 0 _ rfl; exact BK.out) Try.underlying29 rfl (by kernel_rfl)) rfl ?_
        exact ⟨_, _, rfl, Kd.R_lower (Kd.R_mono (R_cells2 S1.out H0.out _ _) (fun k hk => hk.2)) (Nat.le_of_lt S1.out), Kd.R_lower (Kd.R_mono (R_cells2 S1.out H1.out _ _) (fun k hk => hk.2)) (Nat.le_of_lt S1.out), (HB2.out.setCell (Nat.le_refl _) _).setCell (Nat.le_refl _) _⟩
      · rw [if_neg hl] at h
        cases h

end Go.Proofs.Ytkdfjomhichkoaa.P
-- Laid by a program of this work.
namespace Go.Proofs.Ytkdfjomhichkoaa.P
open Go.RowKit Go.Proofs.YtkdfjomhichkoaaW.PrintWords Go.Proofs.YtkdfjomhichkoaaW.PrintLast Go.Proofs.YtkdfjomhichkoaaW.PrintMore
attribute [local go_sem] max2_int min2_int max_two min_two max_three min_three max_four min_four   -- for this text's walks alone
set_option linter.unusedVariables false
set_option linter.unusedSimpArgs false

/-! ### spec_l1In: function 102 -/
def spec_l1In.f (a0 : Int) (a1 : Int) (a2 : Int) : Option (Bool) := if a0 ≥ a1 then (some (decide (a0 ≤ a2))) else (some false)
set_option maxHeartbeats 8000000 in
set_option maxRecDepth 100000 in
theorem spec_l1In.calls (a0 : Int) (a1 : Int) (a2 : Int) (r : Bool) (w : World) (h : spec_l1In.f a0 a1 a2 = some r) :
  Calls Try.prog 102 #[.int .i64 a0, .int .i64 a1, .int .i64 a2] w fun e w' => e = .returned (.bool r) ∧ Drawn0 w w' := by
 have H : (if a0 ≥ a1 then (some (decide (a0 ≤ a2))) else (some false)) = some r := h
 clear h
 by_cases c4 : a0 ≥ a1
 ·rw [if_pos c4] at H
  have c4b0 : decide (a1 ≤ a0) = true := decide_eq_true c4
  clear c4
  obtain rfl := Option.some.inj H
  go_enter Try.func102, Try.ntmps102
  go_wp2
  go_ret
  exact ⟨by first | rfl | (simp; done) | (simp [*]; done), by repeat (first | exact Drawn0.refl _ | apply Drawn0.step)⟩
 ·rw [if_neg c4] at H
  have c4b0 : decide (a1 ≤ a0) = false := decide_eq_false c4
  clear c4
  obtain rfl := Option.some.inj H
  go_enter Try.func102, Try.ntmps102
  go_wp2
  go_ret
  exact ⟨by first | rfl | (simp; done) | (simp [*]; done), by repeat (first | exact Drawn0.refl _ | apply Drawn0.step)⟩

end Go.Proofs.Ytkdfjomhichkoaa.P
-- Laid by a program of this work.
namespace Go.Proofs.Ytkdfjomhichkoaa.P
open Go.RowKit Go.Proofs.YtkdfjomhichkoaaW.PrintWords Go.Proofs.YtkdfjomhichkoaaW.PrintLast Go.Proofs.YtkdfjomhichkoaaW.PrintMore
attribute [local go_sem] max2_int min2_int max_two min_two max_three min_three max_four min_four   -- for this text's walks alone
set_option linter.unusedVariables false
set_option linter.unusedSimpArgs false

/-! ### spec_TaskValid: function 90 -/
def spec_TaskValid.f (a0_0 : Int) (a0_1 : Int) (a0_2 : Int) : Option (Bool) := (spec_l1In.f a0_0 1 8).bind fun t203 => (if t203 = true then ((spec_l1In.f a0_1 a0_0 a0_2).bind fun t204 => (if t204 = true then ((spec_l1In.f a0_2 1 12).bind fun t205 => (some t205)) else (some false))) else (some false))
set_option maxHeartbeats 8000000 in
set_option maxRecDepth 100000 in
theorem spec_TaskValid.calls (a0_0 : Int) (a0_1 : Int) (a0_2 : Int) (r : Bool) (w : World) (h : spec_TaskValid.f a0_0 a0_1 a0_2 = some r) :
  Calls Try.prog 90 #[.agg #[.int .i64 a0_0, .int .i64 a0_1, .int .i64 a0_2]] w fun e w' => e = .returned (.bool r) ∧ Below w.heap.size w w' := by
 have hu88 := Try.underlying88
 have HB := Aside0.mk (Below.refl w.heap.size w)
 have H : ((spec_l1In.f a0_0 1 8).bind fun t203 => (if t203 = true then ((spec_l1In.f a0_1 a0_0 a0_2).bind fun t204 => (if t204 = true then ((spec_l1In.f a0_2 1 12).bind fun t205 => (some t205)) else (some false))) else (some false))) = some r := h
 clear h
 replace H := Option.bind_eq_some_iff.mp H
 obtain ⟨t203, A20, H⟩ := H
 replace H : (if t203 = true then ((spec_l1In.f a0_1 a0_0 a0_2).bind fun t204 => (if t204 = true then ((spec_l1In.f a0_2 1 12).bind fun t205 => (some t205)) else (some false))) else (some false)) = some r := H
 have A2 := Aside0.mk A20
 clear A20
 by_cases c3 : t203 = true
 ·subst c3
  have H1 : ((spec_l1In.f a0_1 a0_0 a0_2).bind fun t204 => (if t204 = true then ((spec_l1In.f a0_2 1 12).bind fun t205 => (some t205)) else (some false))) = some r := by rw [if_pos rfl] at H; exact H
  clear H
  have H := H1
  clear H1
  replace H := Option.bind_eq_some_iff.mp H
  obtain ⟨t204, A40, H⟩ := H
  replace H : (if t204 = true then ((spec_l1In.f a0_2 1 12).bind fun t205 => (some t205)) else (some false)) = some r := H
  have A4 := Aside0.mk A40
  clear A40
  by_cases c5 : t204 = true
  ·subst c5
   have H1 : ((spec_l1In.f a0_2 1 12).bind fun t205 => (some t205)) = some r := by rw [if_pos rfl] at H; exact H
   clear H
   have H := H1
   clear H1
   replace H := Option.bind_eq_some_iff.mp H
   obtain ⟨t205, A60, H⟩ := H
   replace H : (some t205) = some r := H
   have A6 := Aside0.mk A60
   clear A60
   obtain rfl := Option.some.inj H
   go_enter Try.func90, Try.ntmps90
   go_wp2_with (first | ((with_reducible refine gate_dst (N := 1) rfl ?_); refine box_event ?hg (N := 1) ?hd (cs := #[.int .i64 a0_0, .int .i64 a0_1, .int .i64 a0_2]) (t := 88) ?hr ?_; (case hd => rfl); (case hg => rfl); (case hr => first | (go_simp; done) | (go_simp; rfl)); intro gb202 hg w7 hbox hb; have n0_ := Aside0.mk (below_step (by repeat (first | (with_reducible first | exact HB.out | apply below_alloc | apply pw_below_drewN | apply below_drew1) | exact HB.out)) hb); have n1_ := Aside0.mk (hbox); have n2_ := Aside0.mk ((by rw [hg]; exact (below_size (by repeat (first | (with_reducible first | exact HB.out | apply below_alloc | apply pw_below_drewN | apply below_drew1) | exact HB.out))) : w.heap.size ≤ gb202)); have n3_ := Aside0.mk ((by rw [hg]; exact (below_size (by repeat (first | (with_reducible first | exact HB.out | apply below_alloc | apply pw_below_drewN | apply below_drew1) | exact HB.out))) : w.heap.size ≤ gb202)); clear HB; have HB := n0_; have BK202 := n1_; have GW202 := n2_; have GE202 := n3_; clear n0_ n1_ n2_ n3_; clear hb hbox hg; have hcz8_0 : w7.cell? ⟨gb202, 0, none⟩ = some (.int .i64 a0_0) := (blk_cell BK202.out 0).trans rfl; have hcz8_1 : w7.cell? ⟨gb202, 1, none⟩ = some (.int .i64 a0_1) := (blk_cell BK202.out 1).trans rfl; have hcz8_2 : w7.cell? ⟨gb202, 2, none⟩ = some (.int .i64 a0_2) := (blk_cell BK202.out 2).trans rfl; have hfz8_0 := blk_frozen BK202.out 0; have hfz8_1 := blk_frozen BK202.out 1; have hfz8_2 := blk_frozen BK202.out 2) | ((with_reducible refine gate_callee (f := 102) rfl ?_); refine goesL_ (some 5) rfl rfl Try.func102 (by kernel_rfl) rfl #[.int .i64 a0_0, .int .i64 1, .int .i64 8] rfl (by (try simp only [List.map_toArray, List.map_cons, List.map_nil]); first | done | rfl | (simp only [List.length_drop, List.length_take]; rfl)) ?_; (with_reducible refine (spec_l1In.calls a0_0 1 8 true _ A2.out).mono ?_); rintro e w' ⟨rfl, ⟨nd, rfl⟩⟩; refine ⟨_, rfl, ?_⟩) | (go_at_call 102; (with_reducible refine (spec_l1In.calls a0_1 a0_0 a0_2 true _ A4.out).mono ?_); rintro e w' ⟨rfl, ⟨nd, rfl⟩⟩) | (go_at_call 102; (with_reducible refine (spec_l1In.calls a0_2 1 12 t205 _ A6.out).mono ?_); rintro e w' ⟨rfl, ⟨nd, rfl⟩⟩))
   go_ret
   exact ⟨by first | rfl | (simp [errW_none, errW_some] <;> rfl) | (simp [*, errW_none, errW_some] <;> rfl), by repeat (first | (with_reducible first | exact HB.out | apply below_alloc | apply pw_below_drewN | apply below_drew1 | refine below_set ?_ GE202.out) | exact HB.out)⟩
  ·replace c5 := Bool.eq_false_iff.mpr c5
   subst c5
   have H1 : (some false) = some r := by rw [if_neg (show ¬ (false = true) by decide)] at H; exact H
   clear H
   have H := H1
   clear H1
   obtain rfl := Option.some.inj H
   go_enter Try.func90, Try.ntmps90
   go_wp2_with (first | ((with_reducible refine gate_dst (N := 1) rfl ?_); refine box_event ?hg (N := 1) ?hd (cs := #[.int .i64 a0_0, .int .i64 a0_1, .int .i64 a0_2]) (t := 88) ?hr ?_; (case hd => rfl); (case hg => rfl); (case hr => first | (go_simp; done) | (go_simp; rfl)); intro gb202 hg w9 hbox hb; have n0_ := Aside0.mk (below_step (by repeat (first | (with_reducible first | exact HB.out | apply below_alloc | apply pw_below_drewN | apply below_drew1) | exact HB.out)) hb); have n1_ := Aside0.mk (hbox); have n2_ := Aside0.mk ((by rw [hg]; exact (below_size (by repeat (first | (with_reducible first | exact HB.out | apply below_alloc | apply pw_below_drewN | apply below_drew1) | exact HB.out))) : w.heap.size ≤ gb202)); have n3_ := Aside0.mk ((by rw [hg]; exact (below_size (by repeat (first | (with_reducible first | exact HB.out | apply below_alloc | apply pw_below_drewN | apply below_drew1) | exact HB.out))) : w.heap.size ≤ gb202)); clear HB; have HB := n0_; have BK202 := n1_; have GW202 := n2_; have GE202 := n3_; clear n0_ n1_ n2_ n3_; clear hb hbox hg; have hcz10_0 : w9.cell? ⟨gb202, 0, none⟩ = some (.int .i64 a0_0) := (blk_cell BK202.out 0).trans rfl; have hcz10_1 : w9.cell? ⟨gb202, 1, none⟩ = some (.int .i64 a0_1) := (blk_cell BK202.out 1).trans rfl; have hcz10_2 : w9.cell? ⟨gb202, 2, none⟩ = some (.int .i64 a0_2) := (blk_cell BK202.out 2).trans rfl; have hfz10_0 := blk_frozen BK202.out 0; have hfz10_1 := blk_frozen BK202.out 1; have hfz10_2 := blk_frozen BK202.out 2) | ((with_reducible refine gate_callee (f := 102) rfl ?_); refine goesL_ (some 5) rfl rfl Try.func102 (by kernel_rfl) rfl #[.int .i64 a0_0, .int .i64 1, .int .i64 8] rfl (by (try simp only [List.map_toArray, List.map_cons, List.map_nil]); first | done | rfl | (simp only [List.length_drop, List.length_take]; rfl)) ?_; (with_reducible refine (spec_l1In.calls a0_0 1 8 true _ A2.out).mono ?_); rintro e w' ⟨rfl, ⟨nd, rfl⟩⟩; refine ⟨_, rfl, ?_⟩) | (go_at_call 102; (with_reducible refine (spec_l1In.calls a0_1 a0_0 a0_2 false _ A4.out).mono ?_); rintro e w' ⟨rfl, ⟨nd, rfl⟩⟩))
   go_ret
   exact ⟨by first | rfl | (simp [errW_none, errW_some] <;> rfl) | (simp [*, errW_none, errW_some] <;> rfl), by repeat (first | (with_reducible first | exact HB.out | apply below_alloc | apply pw_below_drewN | apply below_drew1 | refine below_set ?_ GE202.out) | exact HB.out)⟩
 ·replace c3 := Bool.eq_false_iff.mpr c3
  subst c3
  have H1 : (some false) = some r := by rw [if_neg (show ¬ (false = true) by decide)] at H; exact H
  clear H
  have H := H1
  clear H1
  obtain rfl := Option.some.inj H
  go_enter Try.func90, Try.ntmps90
  go_wp2_with (first | ((with_reducible refine gate_dst (N := 1) rfl ?_); refine box_event ?hg (N := 1) ?hd (cs := #[.int .i64 a0_0, .int .i64 a0_1, .int .i64 a0_2]) (t := 88) ?hr ?_; (case hd => rfl); (case hg => rfl); (case hr => first | (go_simp; done) | (go_simp; rfl)); intro gb202 hg w11 hbox hb; have n0_ := Aside0.mk (below_step (by repeat (first | (with_reducible first | exact HB.out | apply below_alloc | apply pw_below_drewN | apply below_drew1) | exact HB.out)) hb); have n1_ := Aside0.mk (hbox); have n2_ := Aside0.mk ((by rw [hg]; exact (below_size (by repeat (first | (with_reducible first | exact HB.out | apply below_alloc | apply pw_below_drewN | apply below_drew1) | exact HB.out))) : w.heap.size ≤ gb202)); have n3_ := Aside0.mk ((by rw [hg]; exact (below_size (by repeat (first | (with_reducible first | exact HB.out | apply below_alloc | apply pw_below_drewN | apply below_drew1) | exact HB.out))) : w.heap.size ≤ gb202)); clear HB; have HB := n0_; have BK202 := n1_; have GW202 := n2_; have GE202 := n3_; clear n0_ n1_ n2_ n3_; clear hb hbox hg; have hcz12_0 : w11.cell? ⟨gb202, 0, none⟩ = some (.int .i64 a0_0) := (blk_cell BK202.out 0).trans rfl; have hcz12_1 : w11.cell? ⟨gb202, 1, none⟩ = some (.int .i64 a0_1) := (blk_cell BK202.out 1).trans rfl; have hcz12_2 : w11.cell? ⟨gb202, 2, none⟩ = some (.int .i64 a0_2) := (blk_cell BK202.out 2).trans rfl; have hfz12_0 := blk_frozen BK202.out 0; have hfz12_1 := blk_frozen BK202.out 1; have hfz12_2 := blk_frozen BK202.out 2) | ((with_reducible refine gate_callee (f := 102) rfl ?_); refine goesL_ (some 5) rfl rfl Try.func102 (by kernel_rfl) rfl #[.int .i64 a0_0, .int .i64 1, .int .i64 8] rfl (by (try simp only [List.map_toArray, List.map_cons, List.map_nil]); first | done | rfl | (simp only [List.length_drop, List.length_take]; rfl)) ?_; (with_reducible refine (spec_l1In.calls a0_0 1 8 false _ A2.out).mono ?_); rintro e w' ⟨rfl, ⟨nd, rfl⟩⟩; refine ⟨_, rfl, ?_⟩))
  go_ret
  exact ⟨by first | rfl | (simp [errW_none, errW_some] <;> rfl) | (simp [*, errW_none, errW_some] <;> rfl), by repeat (first | (with_reducible first | exact HB.out | apply below_alloc | apply pw_below_drewN | apply below_drew1 | refine below_set ?_ GE202.out) | exact HB.out)⟩

end Go.Proofs.Ytkdfjomhichkoaa.P
-- Laid by a program of this work.
namespace Go.Proofs.Ytkdfjomhichkoaa.P
open Go.RowKit Go.Proofs.YtkdfjomhichkoaaW.PrintWords Go.Proofs.YtkdfjomhichkoaaW.PrintLast Go.Proofs.YtkdfjomhichkoaaW.PrintMore
attribute [local go_sem] max2_int min2_int max_two min_two max_three min_three max_four min_four   -- for this text's walks alone
set_option linter.unusedVariables false
set_option linter.unusedSimpArgs false

/-! ### spec_SetValid: function 46 -/
def spec_SetValid.l0 : Nat → List (S88) → Int → Option (Bool)
 | 0, _, _ => none
 | k + 1, x0, x3 => if x3 < (x0.length : Int) then (if 0 ≤ x3 then ((spec_TaskValid.f ((rd_T88 x0 x3).f0) ((rd_T88 x0 x3).f1) ((rd_T88 x0 x3).f2)).bind fun t207 => (if t207 = true then (spec_SetValid.l0 k x0 (wrap64 (x3 + 1))) else (some false))) else (none)) else (some (decide ((x0.length : Int) ≤ 5)))
def spec_SetValid.f (k : Nat) (l0 : List (S88)) : Option (Bool) := spec_SetValid.l0 k l0 0
theorem spec_SetValid.mono_l : ∀ k, (∀ y0 y1, LeO (spec_SetValid.l0 k y0 y1) (spec_SetValid.l0 (k + 1) y0 y1))
 | 0 => fun _ _ r h => by simp [spec_SetValid.l0] at h
 | k + 1 => by
  have ih0 := spec_SetValid.mono_l k
  ·intro y0 y1
   unfold spec_SetValid.l0
   repeat' first
   | (with_reducible exact ih0 _ _)
   | (with_reducible exact LeO.refl _)
   | (with_reducible exact LeO.none _)
   | (with_reducible refine LeO.ite ?_ ?_)
   | (with_reducible refine LeO.bind ?_ (fun _ => ?_))
   | exact ih0 _ _
   | exact LeO.none _
   | refine LeO.ite ?_ ?_
   | refine LeO.bind ?_ (fun _ => ?_)
theorem spec_SetValid.mono : ∀ a0 k, LeO (spec_SetValid.f k a0) (spec_SetValid.f (k + 1) a0) := by
 intro a0 k
 have ih0 := spec_SetValid.mono_l k
 unfold spec_SetValid.f
 repeat' first
   | (with_reducible exact ih0 _ _)
   | (with_reducible exact LeO.refl _)
   | (with_reducible exact LeO.none _)
   | (with_reducible refine LeO.ite ?_ ?_)
   | (with_reducible refine LeO.bind ?_ (fun _ => ?_))
   | exact ih0 _ _
   | exact LeO.none _
   | refine LeO.ite ?_ ?_
   | refine LeO.bind ?_ (fun _ => ?_)
set_option maxHeartbeats 8000000 in
set_option maxRecDepth 100000 in
theorem spec_SetValid.calls (k : Nat) (A0 : Option Addr) (c0 : Nat) (l0 : List (S88)) (r : Bool) (w : World) (hr0 : Kd.C k88 w A0 l0.length l0) (hc0 : l0.length ≤ c0) (h : spec_SetValid.f k l0 = some r) :
  Calls Try.prog 46 #[.slice A0 l0.length c0] w fun e w' => e = .returned (.bool r) ∧ Below w.heap.size w w' := by
 have hu88 := Try.underlying88
 have HR0 := Aside0.mk hr0
 have HC0 := Aside0.mk hc0
 clear hr0 hc0
 have HB := Aside0.mk (Below.refl w.heap.size w)
 have H : (spec_SetValid.l0 k l0 0) = some r := h
 clear h
 have H' := Aside0.mk H
 clear H
 go_enter Try.func46, Try.ntmps46
 go_wp2
 go_loopg [3] k (fun kq v3 w' => ∃ (x3_1 : Int), v3 = .int .i64 x3_1 ∧ Aside0 (spec_SetValid.l0 kq l0 x3_1 = some r) ∧ Aside0 (kq ≤ k) ∧ Aside0 (Below w.heap.size w w'))
 case atStart => exact ⟨(0), (by first | rfl | (simp; done) | (simp [*]; done)), H', ⟨Nat.le_refl _⟩, ⟨by repeat (first | (with_reducible first | exact HB.out | apply below_alloc | apply pw_below_drewN | apply below_drew1) | exact HB.out)⟩⟩
 case round =>
  clear H'
  obtain ⟨x3_1, rfl, HA, HK1, HB⟩ := hrel
  cases gk with
  | zero => exact absurd HA.out (by simp [spec_SetValid.l0])
  | succ k1 =>
   have H := HA.out
   clear HA
   simp only [spec_SetValid.l0] at H
   by_cases c2 : x3_1 < (l0.length : Int)
   ·rw [if_pos c2] at H
    have c2b0 : decide (x3_1 < (l0.length : Int)) = true := decide_eq_true c2
    clear c2
    by_cases c3 : 0 ≤ x3_1
    ·rw [if_pos c3] at H
     have c3b0 : decide (0 ≤ x3_1) = true := decide_eq_true c3
     clear c3
     replace H := Option.bind_eq_some_iff.mp H
     obtain ⟨t207, A40, H⟩ := H
     replace H : (if t207 = true then (spec_SetValid.l0 k1 l0 (wrap64 (x3_1 + 1))) else (some false)) = some r := H
     have A4 := Aside0.mk A40
     clear A40
     by_cases c5 : t207 = true
     ·subst c5
      have H1 : (spec_SetValid.l0 k1 l0 (wrap64 (x3_1 + 1))) = some r := by rw [if_pos rfl] at H; exact H
      clear H
      have H := H1
      clear H1
      have H' := Aside0.mk H
      clear H
      have p206 : 0 ≤ (x3_1 : Int) := of_decide_eq_true (by first | (with_reducible assumption) | assumption)
      have q206 : x3_1 < (l0.length : Int) := of_decide_eq_true (by first | (with_reducible assumption) | assumption)
      obtain ⟨ad206, e206, hx206_0, hx206_1, hx206_2⟩ := at_T88 HR0.out x3_1 p206 q206
      cases e206
      replace hx206_0 := (HB.out.cell (World.block_lt_of_cell? w _ hx206_0)).trans hx206_0
      replace hx206_1 := (HB.out.cell (World.block_lt_of_cell? w _ hx206_1)).trans hx206_1
      replace hx206_2 := (HB.out.cell (World.block_lt_of_cell? w _ hx206_2)).trans hx206_2
      replace p206 := eq_true p206
      replace q206 := eq_true q206
      go_wp2_with (first | ((with_reducible refine gate_callee (f := 90) rfl ?_); refine goesL_ (some 14) rfl rfl Try.func90 (by kernel_rfl) rfl #[.agg #[.int .i64 ((rd_T88 l0 x3_1).f0), .int .i64 ((rd_T88 l0 x3_1).f1), .int .i64 ((rd_T88 l0 x3_1).f2)]] rfl (by (try simp only [List.map_toArray, List.map_cons, List.map_nil]); first | done | rfl | (simp only [List.length_drop, List.length_take]; rfl)) ?_; (with_reducible refine (spec_TaskValid.calls ((rd_T88 l0 x3_1).f0) ((rd_T88 l0 x3_1).f1) ((rd_T88 l0 x3_1).f2) true _ A4.out).mono ?_); rintro e w6 ⟨rfl, hb⟩; refine ⟨_, rfl, ?_⟩; have n0_ := Aside0.mk (below_step (by repeat (first | (with_reducible first | exact HB.out | apply below_alloc | apply pw_below_drewN | apply below_drew1) | exact HB.out)) hb); clear HB; have HB := n0_; clear n0_; (try clear hb); (try clear hb2); (try clear hk); (try clear hi)))
      go_roundg k1
      case measure => have := HK1.out; omega
      case rel => exact ⟨(wrap64 (x3_1 + 1)), (by first | rfl | (simp; done) | (simp [*]; done)), H', ⟨by have := HK1.out; omega⟩, ⟨by repeat (first | (with_reducible first | exact HB.out | apply below_alloc | apply pw_below_drewN | apply below_drew1) | exact HB.out)⟩⟩
     ·replace c5 := Bool.eq_false_iff.mpr c5
      subst c5
      have H1 : (some false) = some r := by rw [if_neg (show ¬ (false = true) by decide)] at H; exact H
      clear H
      have H := H1
      clear H1
      obtain rfl := Option.some.inj H
      have p206 : 0 ≤ (x3_1 : Int) := of_decide_eq_true (by first | (with_reducible assumption) | assumption)
      have q206 : x3_1 < (l0.length : Int) := of_decide_eq_true (by first | (with_reducible assumption) | assumption)
      obtain ⟨ad206, e206, hx206_0, hx206_1, hx206_2⟩ := at_T88 HR0.out x3_1 p206 q206
      cases e206
      replace hx206_0 := (HB.out.cell (World.block_lt_of_cell? w _ hx206_0)).trans hx206_0
      replace hx206_1 := (HB.out.cell (World.block_lt_of_cell? w _ hx206_1)).trans hx206_1
      replace hx206_2 := (HB.out.cell (World.block_lt_of_cell? w _ hx206_2)).trans hx206_2
      replace p206 := eq_true p206
      replace q206 := eq_true q206
      go_wp2_with (first | ((with_reducible refine gate_callee (f := 90) rfl ?_); refine goesL_ (some 14) rfl rfl Try.func90 (by kernel_rfl) rfl #[.agg #[.int .i64 ((rd_T88 l0 x3_1).f0), .int .i64 ((rd_T88 l0 x3_1).f1), .int .i64 ((rd_T88 l0 x3_1).f2)]] rfl (by (try simp only [List.map_toArray, List.map_cons, List.map_nil]); first | done | rfl | (simp only [List.length_drop, List.length_take]; rfl)) ?_; (with_reducible refine (spec_TaskValid.calls ((rd_T88 l0 x3_1).f0) ((rd_T88 l0 x3_1).f1) ((rd_T88 l0 x3_1).f2) false _ A4.out).mono ?_); rintro e w7 ⟨rfl, hb⟩; refine ⟨_, rfl, ?_⟩; have n0_ := Aside0.mk (below_step (by repeat (first | (with_reducible first | exact HB.out | apply below_alloc | apply pw_below_drewN | apply below_drew1) | exact HB.out)) hb); clear HB; have HB := n0_; clear n0_; (try clear hb); (try clear hb2); (try clear hk); (try clear hi)))
      go_ret
      exact ⟨by first | rfl | (simp [errW_none, errW_some] <;> rfl) | (simp [*, errW_none, errW_some] <;> rfl), by repeat (first | (with_reducible first | exact HB.out | apply below_alloc | apply pw_below_drewN | apply below_drew1) | exact HB.out)⟩
    ·rw [if_neg c3] at H
     exact absurd H (by simp)
   ·rw [if_neg c2] at H
    have c2b0 : decide (x3_1 < (l0.length : Int)) = false := decide_eq_false c2
    clear c2
    obtain rfl := Option.some.inj H
    go_wp2
    go_ret
    exact ⟨by first | rfl | (simp [errW_none, errW_some] <;> rfl) | (simp [*, errW_none, errW_some] <;> rfl), by repeat (first | (with_reducible first | exact HB.out | apply below_alloc | apply pw_below_drewN | apply below_drew1) | exact HB.out)⟩

end Go.Proofs.Ytkdfjomhichkoaa.P
-- Laid by a program of this work.
namespace Go.Proofs.Ytkdfjomhichkoaa.P
open Go.RowKit Go.Proofs.YtkdfjomhichkoaaW.PrintWords Go.Proofs.YtkdfjomhichkoaaW.PrintLast Go.Proofs.YtkdfjomhichkoaaW.PrintMore
attribute [local go_sem] max2_int min2_int max_two min_two max_three min_three max_four min_four   -- for this text's walks alone
set_option linter.unusedVariables false
set_option linter.unusedSimpArgs false

/-! ### spec_JobsLegal: function 56 -/
mutual
def spec_JobsLegal.j0 : Nat → List (S88) → List (S34) → Bool → Option (Bool)
 | 0, _, _, _ => none
 | k + 1, x0, x1, x16 => if x16 = true then (some false) else (if 0 ≤ (x0.length : Int) then (if ((x0.length : Int) : Int).toNat ≤ 35184372088832 then (spec_JobsLegal.l0 k x0 x1 (List.replicate ((x0.length : Int) : Int).toNat 0) 0) else (none)) else (none))
def spec_JobsLegal.l0 : Nat → List (S88) → List (S34) → List Int → Int → Option (Bool)
 | 0, _, _, _, _ => none
 | k + 1, x0, x1, x5, x6 => if x6 < (x1.length : Int) then (if 0 ≤ x6 then ((spec_l1In.f ((rd_T34 x1 x6).f0) 0 (wrap64 ((x0.length : Int) - 1))).bind fun t318 => (if t318 = true then ((spec_l1In.f ((rd_T34 x1 x6).f1) 0 119).bind fun t319 => (spec_JobsLegal.j2 k x0 x1 x5 x6 (!t319) ((rd_T34 x1 x6).f0) ((rd_T34 x1 x6).f1) ((rd_T34 x1 x6).f2) ((rd_T34 x1 x6).f3))) else (spec_JobsLegal.j2 k x0 x1 x5 x6 true ((rd_T34 x1 x6).f0) ((rd_T34 x1 x6).f1) ((rd_T34 x1 x6).f2) ((rd_T34 x1 x6).f3)))) else (none)) else (some true)
def spec_JobsLegal.j2 : Nat → List (S88) → List (S34) → List Int → Int → Bool → Int → Int → Int → Int → Option (Bool)
 | 0, _, _, _, _, _, _, _, _, _ => none
 | k + 1, x0, x1, x5, x6, x42, x318000, x318001, x318002, x318003 => if x42 = true then (some false) else (if 0 ≤ x318000 then (if x318000 < (x0.length : Int) then (if x318000 < (x5.length : Int) then (if x318001 < (rd x5 x318000) then (spec_JobsLegal.j3 k x0 x1 x5 x6 true x318000 x318001 x318002 x318003 ((rd_T88 x0 x318000).f0) ((rd_T88 x0 x318000).f1) ((rd_T88 x0 x318000).f2)) else (if x318002 = (wrap64 (x318001 + ((rd_T88 x0 x318000).f1))) then ((spec_l1In.f x318003 1 ((rd_T88 x0 x318000).f0)).bind fun t323 => (spec_JobsLegal.j3 k x0 x1 x5 x6 (!t323) x318000 x318001 x318002 x318003 ((rd_T88 x0 x318000).f0) ((rd_T88 x0 x318000).f1) ((rd_T88 x0 x318000).f2))) else (spec_JobsLegal.j3 k x0 x1 x5 x6 true x318000 x318001 x318002 x318003 ((rd_T88 x0 x318000).f0) ((rd_T88 x0 x318000).f1) ((rd_T88 x0 x318000).f2)))) else (none)) else (none)) else (none))
def spec_JobsLegal.j3 : Nat → List (S88) → List (S34) → List Int → Int → Bool → Int → Int → Int → Int → Int → Int → Int → Option (Bool)
 | 0, _, _, _, _, _, _, _, _, _, _, _, _ => none
 | k + 1, x0, x1, x5, x6, x73, x318000, x318001, x318002, x318003, x322000, x322001, x322002 => if x73 = true then (some false) else (if x6 > 0 then (if 0 ≤ (wrap64 (x6 - 1)) then (if (wrap64 (x6 - 1)) < (x1.length : Int) then (if ((rd_T34 x1 (wrap64 (x6 - 1))).f1) > x318001 then (some false) else (if ((rd_T34 x1 (wrap64 (x6 - 1))).f1) = x318001 then (if ((rd_T34 x1 (wrap64 (x6 - 1))).f0) ≥ x318000 then (some false) else (if 0 ≤ x318000 then (if x318000 < (x5.length : Int) then (spec_JobsLegal.l0 k x0 x1 (x5.set (x318000 : Int).toNat (wrap64 (x318001 + x322002))) (wrap64 (x6 + 1))) else (none)) else (none))) else (if 0 ≤ x318000 then (if x318000 < (x5.length : Int) then (spec_JobsLegal.l0 k x0 x1 (x5.set (x318000 : Int).toNat (wrap64 (x318001 + x322002))) (wrap64 (x6 + 1))) else (none)) else (none)))) else (none)) else (none)) else (if 0 ≤ x318000 then (if x318000 < (x5.length : Int) then (spec_JobsLegal.l0 k x0 x1 (x5.set (x318000 : Int).toNat (wrap64 (x318001 + x322002))) (wrap64 (x6 + 1))) else (none)) else (none)))
end
def spec_JobsLegal.f (k : Nat) (l0 : List (S88)) (l1 : List (S34)) : Option (Bool) := (spec_SetValid.f k l0).bind fun t312 => (if t312 = true then (spec_JobsLegal.j0 k l0 l1 (decide ((l1.length : Int) > 60))) else (spec_JobsLegal.j0 k l0 l1 true))
theorem spec_JobsLegal.mono_l : ∀ k, (∀ y0 y1 y2, LeO (spec_JobsLegal.j0 k y0 y1 y2) (spec_JobsLegal.j0 (k + 1) y0 y1 y2)) ∧ (∀ y0 y1 y2 y3, LeO (spec_JobsLegal.l0 k y0 y1 y2 y3) (spec_JobsLegal.l0 (k + 1) y0 y1 y2 y3)) ∧ (∀ y0 y1 y2 y3 y4 y5 y6 y7 y8, LeO (spec_JobsLegal.j2 k y0 y1 y2 y3 y4 y5 y6 y7 y8) (spec_JobsLegal.j2 (k + 1) y0 y1 y2 y3 y4 y5 y6 y7 y8)) ∧ (∀ y0 y1 y2 y3 y4 y5 y6 y7 y8 y9 y10 y11, LeO (spec_JobsLegal.j3 k y0 y1 y2 y3 y4 y5 y6 y7 y8 y9 y10 y11) (spec_JobsLegal.j3 (k + 1) y0 y1 y2 y3 y4 y5 y6 y7 y8 y9 y10 y11))
 | 0 => ⟨fun _ _ _ r h => by simp [spec_JobsLegal.j0] at h, fun _ _ _ _ r h => by simp [spec_JobsLegal.l0] at h, fun _ _ _ _ _ _ _ _ _ r h => by simp [spec_JobsLegal.j2] at h, fun _ _ _ _ _ _ _ _ _ _ _ _ r h => by simp [spec_JobsLegal.j3] at h⟩
 | k + 1 => by
  obtain ⟨ih0, ih1, ih2, ih3⟩ := spec_JobsLegal.mono_l k
  refine ⟨?_, ?_, ?_, ?_⟩
  ·intro y0 y1 y2
   unfold spec_JobsLegal.j0
   repeat' first
   | (with_reducible exact ih0 _ _ _)
   | (with_reducible exact ih1 _ _ _ _)
   | (with_reducible exact ih2 _ _ _ _ _ _ _ _ _)
   | (with_reducible exact ih3 _ _ _ _ _ _ _ _ _ _ _ _)
   | (with_reducible exact spec_SetValid.mono _ _)
   | (with_reducible exact LeO.refl _)
   | (with_reducible exact LeO.none _)
   | (with_reducible refine LeO.ite ?_ ?_)
   | (with_reducible refine LeO.bind ?_ (fun _ => ?_))
   | exact ih0 _ _ _
   | exact ih1 _ _ _ _
   | exact ih2 _ _ _ _ _ _ _ _ _
   | exact ih3 _ _ _ _ _ _ _ _ _ _ _ _
   | exact spec_SetValid.mono _ _
   | exact LeO.none _
   | refine LeO.ite ?_ ?_
   | refine LeO.bind ?_ (fun _ => ?_)
  ·intro y0 y1 y2 y3
   unfold spec_JobsLegal.l0
   repeat' first
   | (with_reducible exact ih0 _ _ _)
   | (with_reducible exact ih1 _ _ _ _)
   | (with_reducible exact ih2 _ _ _ _ _ _ _ _ _)
   | (with_reducible exact ih3 _ _ _ _ _ _ _ _ _ _ _ _)
   | (with_reducible exact spec_SetValid.mono _ _)
   | (with_reducible exact LeO.refl _)
   | (with_reducible exact LeO.none _)
   | (with_reducible refine LeO.ite ?_ ?_)
   | (with_reducible refine LeO.bind ?_ (fun _ => ?_))
   | exact ih0 _ _ _
   | exact ih1 _ _ _ _
   | exact ih2 _ _ _ _ _ _ _ _ _
   | exact ih3 _ _ _ _ _ _ _ _ _ _ _ _
   | exact spec_SetValid.mono _ _
   | exact LeO.none _
   | refine LeO.ite ?_ ?_
   | refine LeO.bind ?_ (fun _ => ?_)
  ·intro y0 y1 y2 y3 y4 y5 y6 y7 y8
   unfold spec_JobsLegal.j2
   repeat' first
   | (with_reducible exact ih0 _ _ _)
   | (with_reducible exact ih1 _ _ _ _)
   | (with_reducible exact ih2 _ _ _ _ _ _ _ _ _)
   | (with_reducible exact ih3 _ _ _ _ _ _ _ _ _ _ _ _)
   | (with_reducible exact spec_SetValid.mono _ _)
   | (with_reducible exact LeO.refl _)
   | (with_reducible exact LeO.none _)
   | (with_reducible refine LeO.ite ?_ ?_)
   | (with_reducible refine LeO.bind ?_ (fun _ => ?_))
   | exact ih0 _ _ _
   | exact ih1 _ _ _ _
   | exact ih2 _ _ _ _ _ _ _ _ _
   | exact ih3 _ _ _ _ _ _ _ _ _ _ _ _
   | exact spec_SetValid.mono _ _
   | exact LeO.none _
   | refine LeO.ite ?_ ?_
   | refine LeO.bind ?_ (fun _ => ?_)
  ·intro y0 y1 y2 y3 y4 y5 y6 y7 y8 y9 y10 y11
   unfold spec_JobsLegal.j3
   repeat' first
   | (with_reducible exact ih0 _ _ _)
   | (with_reducible exact ih1 _ _ _ _)
   | (with_reducible exact ih2 _ _ _ _ _ _ _ _ _)
   | (with_reducible exact ih3 _ _ _ _ _ _ _ _ _ _ _ _)
   | (with_reducible exact spec_SetValid.mono _ _)
   | (with_reducible exact LeO.refl _)
   | (with_reducible exact LeO.none _)
   | (with_reducible refine LeO.ite ?_ ?_)
   | (with_reducible refine LeO.bind ?_ (fun _ => ?_))
   | exact ih0 _ _ _
   | exact ih1 _ _ _ _
   | exact ih2 _ _ _ _ _ _ _ _ _
   | exact ih3 _ _ _ _ _ _ _ _ _ _ _ _
   | exact spec_SetValid.mono _ _
   | exact LeO.none _
   | refine LeO.ite ?_ ?_
   | refine LeO.bind ?_ (fun _ => ?_)
theorem spec_JobsLegal.mono : ∀ a0 a1 k, LeO (spec_JobsLegal.f k a0 a1) (spec_JobsLegal.f (k + 1) a0 a1) := by
 intro a0 a1 k
 obtain ⟨ih0, ih1, ih2, ih3⟩ := spec_JobsLegal.mono_l k
 unfold spec_JobsLegal.f
 repeat' first
   | (with_reducible exact ih0 _ _ _)
   | (with_reducible exact ih1 _ _ _ _)
   | (with_reducible exact ih2 _ _ _ _ _ _ _ _ _)
   | (with_reducible exact ih3 _ _ _ _ _ _ _ _ _ _ _ _)
   | (with_reducible exact spec_SetValid.mono _ _)
   | (with_reducible exact LeO.refl _)
   | (with_reducible exact LeO.none _)
   | (with_reducible refine LeO.ite ?_ ?_)
   | (with_reducible refine LeO.bind ?_ (fun _ => ?_))
   | exact ih0 _ _ _
   | exact ih1 _ _ _ _
   | exact ih2 _ _ _ _ _ _ _ _ _
   | exact ih3 _ _ _ _ _ _ _ _ _ _ _ _
   | exact spec_SetValid.mono _ _
   | exact LeO.none _
   | refine LeO.ite ?_ ?_
   | refine LeO.bind ?_ (fun _ => ?_)
set_option maxHeartbeats 8000000 in
set_option maxRecDepth 100000 in
theorem spec_JobsLegal.calls (k : Nat) (A0 : Option Addr) (c0 : Nat) (l0 : List (S88)) (A1 : Option Addr) (c1 : Nat) (l1 : List (S34)) (r : Bool) (w : World) (hr0 : Kd.C k88 w A0 l0.length l0) (hc0 : l0.length ≤ c0) (hr1 : Kd.C k34 w A1 l1.length l1) (hc1 : l1.length ≤ c1) (h : spec_JobsLegal.f k l0 l1 = some r) :
  Calls Try.prog 56 #[.slice A0 l0.length c0, .slice A1 l1.length c1] w fun e w' => e = .returned (.bool r) ∧ Below w.heap.size w w' := by
 have hu34 := Try.underlying34
 have hu88 := Try.underlying88
 have HR0 := Aside0.mk hr0
 have HC0 := Aside0.mk hc0
 clear hr0 hc0
 have HR1 := Aside0.mk hr1
 have HC1 := Aside0.mk hc1
 clear hr1 hc1
 have HB := Aside0.mk (Below.refl w.heap.size w)
 have H : ((spec_SetValid.f k l0).bind fun t312 => (if t312 = true then (spec_JobsLegal.j0 k l0 l1 (decide ((l1.length : Int) > 60))) else (spec_JobsLegal.j0 k l0 l1 true))) = some r := h
 clear h
 have HC3 := Aside0.mk H
 clear H
 go_enter Try.func56, Try.ntmps56
 go_upto_region 1 with (fail)
 repeat (go_quiet (fail); go_upto_region 1 with (fail))
 go_cut [16] (fun v16 wc => ∃ (kq : Nat) (x16_2 : Bool), v16 = .bool x16_2 ∧ Aside0 (spec_JobsLegal.j0 kq l0 l1 x16_2 = some r) ∧ Aside0 (kq ≤ k) ∧ Aside0 (Below w.heap.size w wc))
 case first =>
  have H := HC3.out
  clear HC3
  replace H := Option.bind_eq_some_iff.mp H
  obtain ⟨t312, A40, H⟩ := H
  replace H : (if t312 = true then (spec_JobsLegal.j0 k l0 l1 (decide ((l1.length : Int) > 60))) else (spec_JobsLegal.j0 k l0 l1 true)) = some r := H
  have A4 := Aside0.mk A40
  clear A40
  by_cases c5 : t312 = true
  ·subst c5
   have H1 : (spec_JobsLegal.j0 k l0 l1 (decide ((l1.length : Int) > 60))) = some r := by rw [if_pos rfl] at H; exact H
   clear H
   have H := H1
   clear H1
   have H' := Aside0.mk H
   clear H
   go_wp2_with (first | (go_at_call 46; (with_reducible refine (spec_SetValid.calls k _ _ l0 true _ ?side1 ?side2 A4.out).mono ?_); (case side1 => repeat (first | exact (Kd.C_below HR0.out HB.out) | (with_reducible refine Kd.C_alloc ?_ _) | (with_reducible refine Kd.C_drewN ?_ _) | (with_reducible refine Kd.C_drew ?_))); (case side2 => exact HC0.out); rintro e w6 ⟨rfl, hb⟩; have n0_ := Aside0.mk (below_step (by repeat (first | (with_reducible first | exact HB.out | apply below_alloc | apply pw_below_drewN | apply below_drew1) | exact HB.out)) hb); clear HB; have HB := n0_; clear n0_; (try clear hb); (try clear hb2); (try clear hk); (try clear hi)))
   repeat (go_quiet (first | (go_at_call 46; (with_reducible refine (spec_SetValid.calls k _ _ l0 true _ ?side1 ?side2 A4.out).mono ?_); (case side1 => repeat (first | exact (Kd.C_below HR0.out HB.out) | (with_reducible refine Kd.C_alloc ?_ _) | (with_reducible refine Kd.C_drewN ?_ _) | (with_reducible refine Kd.C_drew ?_))); (case side2 => exact HC0.out); rintro e w6 ⟨rfl, hb⟩; have n0_ := Aside0.mk (below_step (by repeat (first | (with_reducible first | exact HB.out | apply below_alloc | apply pw_below_drewN | apply below_drew1) | exact HB.out)) hb); clear HB; have HB := n0_; clear n0_; (try clear hb); (try clear hb2); (try clear hk); (try clear hi))); try go_wp2_with (first | (go_at_call 46; (with_reducible refine (spec_SetValid.calls k _ _ l0 true _ ?side1 ?side2 A4.out).mono ?_); (case side1 => repeat (first | exact (Kd.C_below HR0.out HB.out) | (with_reducible refine Kd.C_alloc ?_ _) | (with_reducible refine Kd.C_drewN ?_ _) | (with_reducible refine Kd.C_drew ?_))); (case side2 => exact HC0.out); rintro e w6 ⟨rfl, hb⟩; have n0_ := Aside0.mk (below_step (by repeat (first | (with_reducible first | exact HB.out | apply below_alloc | apply pw_below_drewN | apply below_drew1) | exact HB.out)) hb); clear HB; have HB := n0_; clear n0_; (try clear hb); (try clear hb2); (try clear hk); (try clear hi))))
   go_meet
   case rel => exact ⟨_, (decide ((l1.length : Int) > 60)), (by first | rfl | (simp; done) | (simp [*]; done)), H', ⟨by first | omega | exact Nat.le_refl _⟩, ⟨by repeat (first | (with_reducible first | exact HB.out | apply below_alloc | apply pw_below_drewN | apply below_drew1) | exact HB.out)⟩⟩
  ·replace c5 := Bool.eq_false_iff.mpr c5
   subst c5
   have H1 : (spec_JobsLegal.j0 k l0 l1 true) = some r := by rw [if_neg (show ¬ (false = true) by decide)] at H; exact H
   clear H
   have H := H1
   clear H1
   have H' := Aside0.mk H
   clear H
   go_wp2_with (first | (go_at_call 46; (with_reducible refine (spec_SetValid.calls k _ _ l0 false _ ?side1 ?side2 A4.out).mono ?_); (case side1 => repeat (first | exact (Kd.C_below HR0.out HB.out) | (with_reducible refine Kd.C_alloc ?_ _) | (with_reducible refine Kd.C_drewN ?_ _) | (with_reducible refine Kd.C_drew ?_))); (case side2 => exact HC0.out); rintro e w7 ⟨rfl, hb⟩; have n0_ := Aside0.mk (below_step (by repeat (first | (with_reducible first | exact HB.out | apply below_alloc | apply pw_below_drewN | apply below_drew1) | exact HB.out)) hb); clear HB; have HB := n0_; clear n0_; (try clear hb); (try clear hb2); (try clear hk); (try clear hi)))
   repeat (go_quiet (first | (go_at_call 46; (with_reducible refine (spec_SetValid.calls k _ _ l0 false _ ?side1 ?side2 A4.out).mono ?_); (case side1 => repeat (first | exact (Kd.C_below HR0.out HB.out) | (with_reducible refine Kd.C_alloc ?_ _) | (with_reducible refine Kd.C_drewN ?_ _) | (with_reducible refine Kd.C_drew ?_))); (case side2 => exact HC0.out); rintro e w7 ⟨rfl, hb⟩; have n0_ := Aside0.mk (below_step (by repeat (first | (with_reducible first | exact HB.out | apply below_alloc | apply pw_below_drewN | apply below_drew1) | exact HB.out)) hb); clear HB; have HB := n0_; clear n0_; (try clear hb); (try clear hb2); (try clear hk); (try clear hi))); try go_wp2_with (first | (go_at_call 46; (with_reducible refine (spec_SetValid.calls k _ _ l0 false _ ?side1 ?side2 A4.out).mono ?_); (case side1 => repeat (first | exact (Kd.C_below HR0.out HB.out) | (with_reducible refine Kd.C_alloc ?_ _) | (with_reducible refine Kd.C_drewN ?_ _) | (with_reducible refine Kd.C_drew ?_))); (case side2 => exact HC0.out); rintro e w7 ⟨rfl, hb⟩; have n0_ := Aside0.mk (below_step (by repeat (first | (with_reducible first | exact HB.out | apply below_alloc | apply pw_below_drewN | apply below_drew1) | exact HB.out)) hb); clear HB; have HB := n0_; clear n0_; (try clear hb); (try clear hb2); (try clear hk); (try clear hi))))
   go_meet
   case rel => exact ⟨_, (true), (by first | rfl | (simp; done) | (simp [*]; done)), H', ⟨by first | omega | exact Nat.le_refl _⟩, ⟨by repeat (first | (with_reducible first | exact HB.out | apply below_alloc | apply pw_below_drewN | apply below_drew1) | exact HB.out)⟩⟩
 case rest =>
  clear HC3
  try clear c1
  try clear p2
  try clear c5
  obtain ⟨kq, x16_2, rfl, HA, HJ2, HB⟩ := hcut
  cases kq with
  | zero => exact absurd HA.out (by simp [spec_JobsLegal.j0])
  | succ kj2 =>
   have H := HA.out
   clear HA
   simp only [spec_JobsLegal.j0] at H
   by_cases c8 : x16_2 = true
   ·subst c8
    have H1 : (some false) = some r := by rw [if_pos rfl] at H; exact H
    clear H
    have H := H1
    clear H1
    obtain rfl := Option.some.inj H
    go_wp2
    repeat (go_quiet (fail); try go_wp2)
    go_ret
    exact ⟨by first | rfl | (simp [errW_none, errW_some] <;> rfl) | (simp [*, errW_none, errW_some] <;> rfl), by repeat (first | (with_reducible first | exact HB.out | apply below_alloc | apply pw_below_drewN | apply below_drew1) | exact HB.out)⟩
   ·replace c8 := Bool.eq_false_iff.mpr c8
    subst c8
    have H1 : (if 0 ≤ (l0.length : Int) then (if ((l0.length : Int) : Int).toNat ≤ 35184372088832 then (spec_JobsLegal.l0 kj2 l0 l1 (List.replicate ((l0.length : Int) : Int).toNat 0) 0) else (none)) else (none)) = some r := by rw [if_neg (show ¬ (false = true) by decide)] at H; exact H
    clear H
    have H := H1
    clear H1
    by_cases c9 : 0 ≤ (l0.length : Int)
    ·rw [if_pos c9] at H
     have c9b0 := eq_true c9
     have c9b1 : decide (0 ≤ (l0.length : Int)) = true := decide_eq_true c9
     clear c9
     by_cases c10 : ((l0.length : Int) : Int).toNat ≤ 35184372088832
     ·rw [if_pos c10] at H
      have c10b0 := eq_true c10
      have c10b1 : decide (((l0.length : Int) : Int).toNat ≤ 35184372088832) = true := decide_eq_true c10
      clear c10
      obtain ⟨y313, hy313⟩ : ∃ y_ : List Int, y_ = (List.replicate ((l0.length : Int) : Int).toNat 0) := ⟨_, rfl⟩
      replace H : (spec_JobsLegal.l0 kj2 l0 l1 y313 0) = some r := by first | (rw [hy313]; with_reducible exact H) | (have H2_ := (Option.bind_some _ _).symm.trans H; rw [hy313]; with_reducible exact H2_) | (have H2_ := (Option.bind_some _ _).symm.trans H; with_reducible exact H2_) | with_reducible exact H | (rw [hy313]; exact H) | exact H
      have Ny313 := Aside0.mk hy313
      clear hy313
      have H' := Aside0.mk H
      clear H
      go_wp2_with (first | ((with_reducible refine gate_dst (N := 19) rfl ?_); (try (refine gate_guard (by rfl) ?_; dsimp only)); refine Kd.R_make (Kd.int .i64) _ 3 rfl (N := 19) rfl 27 _ _ rfl (l0.length : Int) rfl rfl Try.underlying27 (.int .i64 0) 8 info3 rfl (by decide) (by omega) 0 (ok := fun _ => True) (okp := fun _ => True) rfl (fun _ hk => hk) trivial (of_decide_eq_true (by first | (with_reducible assumption) | assumption)) (Nat.le_trans (Nat.mul_le_mul_right _ (of_decide_eq_true (by first | (with_reducible assumption) | assumption) : (l0.length : Int).toNat ≤ 35184372088832)) (by omega)) (Below.refl _ _) (Nat.le_refl _) ?_; intro v314 w11 ho12 hb hg_ hnew_; clear hg_ hnew_; (first | rw [← Ny313.out] at ho12 | (simp only [Int.reduceToNat] at ho12; rw [← Ny313.out] at ho12)); have n0_ := Aside0.mk (Kd.R_lower ho12 (below_size (by repeat (first | (with_reducible first | exact HB.out | apply below_alloc | apply pw_below_drewN | apply below_drew1) | exact HB.out)))); have n1_ := Aside0.mk (below_step (by repeat (first | (with_reducible first | exact HB.out | apply below_alloc | apply pw_below_drewN | apply below_drew1) | exact HB.out)) hb); clear HB; have HO315 := n0_; have HB := n1_; clear n0_ n1_; clear hb ho12))
      repeat (go_quiet (first | ((with_reducible refine gate_dst (N := 19) rfl ?_); (try (refine gate_guard (by rfl) ?_; dsimp only)); refine Kd.R_make (Kd.int .i64) _ 3 rfl (N := 19) rfl 27 _ _ rfl (l0.length : Int) rfl rfl Try.underlying27 (.int .i64 0) 8 info3 rfl (by decide) (by omega) 0 (ok := fun _ => True) (okp := fun _ => True) rfl (fun _ hk => hk) trivial (of_decide_eq_true (by first | (with_reducible assumption) | assumption)) (Nat.le_trans (Nat.mul_le_mul_right _ (of_decide_eq_true (by first | (with_reducible assumption) | assumption) : (l0.length : Int).toNat ≤ 35184372088832)) (by omega)) (Below.refl _ _) (Nat.le_refl _) ?_; intro v314 w11 ho12 hb hg_ hnew_; clear hg_ hnew_; (first | rw [← Ny313.out] at ho12 | (simp only [Int.reduceToNat] at ho12; rw [← Ny313.out] at ho12)); have n0_ := Aside0.mk (Kd.R_lower ho12 (below_size (by repeat (first | (with_reducible first | exact HB.out | apply below_alloc | apply pw_below_drewN | apply below_drew1) | exact HB.out)))); have n1_ := Aside0.mk (below_step (by repeat (first | (with_reducible first | exact HB.out | apply below_alloc | apply pw_below_drewN | apply below_drew1) | exact HB.out)) hb); clear HB; have HO315 := n0_; have HB := n1_; clear n0_ n1_; clear hb ho12)); try go_wp2_with (first | ((with_reducible refine gate_dst (N := 19) rfl ?_); (try (refine gate_guard (by rfl) ?_; dsimp only)); refine Kd.R_make (Kd.int .i64) _ 3 rfl (N := 19) rfl 27 _ _ rfl (l0.length : Int) rfl rfl Try.underlying27 (.int .i64 0) 8 info3 rfl (by decide) (by omega) 0 (ok := fun _ => True) (okp := fun _ => True) rfl (fun _ hk => hk) trivial (of_decide_eq_true (by first | (with_reducible assumption) | assumption)) (Nat.le_trans (Nat.mul_le_mul_right _ (of_decide_eq_true (by first | (with_reducible assumption) | assumption) : (l0.length : Int).toNat ≤ 35184372088832)) (by omega)) (Below.refl _ _) (Nat.le_refl _) ?_; intro v314 w11 ho12 hb hg_ hnew_; clear hg_ hnew_; (first | rw [← Ny313.out] at ho12 | (simp only [Int.reduceToNat] at ho12; rw [← Ny313.out] at ho12)); have n0_ := Aside0.mk (Kd.R_lower ho12 (below_size (by repeat (first | (with_reducible first | exact HB.out | apply below_alloc | apply pw_below_drewN | apply below_drew1) | exact HB.out)))); have n1_ := Aside0.mk (below_step (by repeat (first | (with_reducible first | exact HB.out | apply below_alloc | apply pw_below_drewN | apply below_drew1) | exact HB.out)) hb); clear HB; have HO315 := n0_; have HB := n1_; clear n0_ n1_; clear hb ho12)))
      go_loopg [6] kj2 (fun kq v6 w' => ∃ (x5_2 : List Int) (x6_2 : Int), v6 = .int .i64 x6_2 ∧ Aside0 (spec_JobsLegal.l0 kq l0 l1 x5_2 x6_2 = some r) ∧ Aside0 (kq ≤ kj2) ∧ Aside0 (Kd.R (Kd.int .i64) 3 w' w.heap.size (fun _ => True) v314 x5_2) ∧ Aside0 (Below w.heap.size w w'))
      case atStart => exact ⟨(y313), (0), (by first | rfl | (simp; done) | (simp [*]; done)), H', ⟨Nat.le_refl _⟩, ⟨by (with_reducible repeat (first | apply Kd.R_alloc | apply Kd.R_drewN | apply Kd.R_drew)); exact HO315.out⟩, ⟨by repeat (first | (with_reducible first | exact HB.out | apply below_alloc | apply pw_below_drewN | apply below_drew1) | exact HB.out)⟩⟩
      case round =>
       clear H'
       try clear c1
       try clear p2
       try clear c5
       try clear c8
       try clear c9
       try clear c9b0
       try clear c9b1
       try clear c10
       try clear c10b0
       try clear c10b1
       try clear p2
       obtain ⟨x5_2, x6_2, rfl, HA, HK2, HO_5, HB⟩ := hrel
       cases gk with
       | zero => exact absurd HA.out (by simp [spec_JobsLegal.l0])
       | succ k2 =>
        have H := HA.out
        clear HA
        simp only [spec_JobsLegal.l0] at H
        by_cases c13 : x6_2 < (l1.length : Int)
        ·rw [if_pos c13] at H
         have c13b0 : decide (x6_2 < (l1.length : Int)) = true := decide_eq_true c13
         clear c13
         by_cases c14 : 0 ≤ x6_2
         ·rw [if_pos c14] at H
          have c14b0 : decide (0 ≤ x6_2) = true := decide_eq_true c14
          clear c14
          have HC15 := Aside0.mk H
          clear H
          have p316 : 0 ≤ (x6_2 : Int) := of_decide_eq_true (by first | (with_reducible assumption) | assumption)
          have q316 : x6_2 < (l1.length : Int) := of_decide_eq_true (by first | (with_reducible assumption) | assumption)
          obtain ⟨ad316, e316, hx316_0, hx316_1, hx316_2, hx316_3⟩ := at_T34 HR1.out x6_2 p316 q316
          cases e316
          replace hx316_0 := (HB.out.cell (World.block_lt_of_cell? w _ hx316_0)).trans hx316_0
          replace hx316_1 := (HB.out.cell (World.block_lt_of_cell? w _ hx316_1)).trans hx316_1
          replace hx316_2 := (HB.out.cell (World.block_lt_of_cell? w _ hx316_2)).trans hx316_2
          replace hx316_3 := (HB.out.cell (World.block_lt_of_cell? w _ hx316_3)).trans hx316_3
          replace p316 := eq_true p316
          replace q316 := eq_true q316
          go_upto_region 8 with (first | ((with_reducible refine gate_dst (N := 7) rfl ?_); (try (refine gate_guard (by rfl) ?_; dsimp only)); refine box_event ?hg (N := 7) ?hd (cs := #[.int .i64 0, .int .i64 0, .int .i64 0, .int .i64 0]) (t := 34) ?hr ?_; (case hd => rfl); (case hg => rfl); (case hr => first | (go_simp; done) | (go_simp; rfl)); intro gb317 hg w16 hbox hb; have n0_ := Aside0.mk (Kd.R_below (by (with_reducible repeat (first | apply Kd.R_alloc | apply Kd.R_drewN | apply Kd.R_drew)); exact HO_5.out) hb); have n1_ := Aside0.mk (below_step (by repeat (first | (with_reducible first | exact HB.out | apply below_alloc | apply pw_below_drewN | apply below_drew1) | exact HB.out)) hb); have n2_ := Aside0.mk (hbox); have n3_ := Aside0.mk ((by rw [hg]; exact (below_size (by repeat (first | (with_reducible first | exact HB.out | apply below_alloc | apply pw_below_drewN | apply below_drew1) | exact HB.out))) : w.heap.size ≤ gb317)); have n4_ := Aside0.mk ((by rw [hg]; exact (below_size (by repeat (first | (with_reducible first | exact HB.out | apply below_alloc | apply pw_below_drewN | apply below_drew1) | exact HB.out))) : w.heap.size ≤ gb317)); clear HO_5; clear HB; have HO_5 := n0_; have HB := n1_; have BK317 := n2_; have GW317 := n3_; have GE317 := n4_; clear n0_ n1_ n2_ n3_ n4_; clear hb hbox hg; have hcz17_0 : w16.cell? ⟨gb317, 0, none⟩ = some (.int .i64 0) := (blk_cell BK317.out 0).trans rfl; have hcz17_1 : w16.cell? ⟨gb317, 1, none⟩ = some (.int .i64 0) := (blk_cell BK317.out 1).trans rfl; have hcz17_2 : w16.cell? ⟨gb317, 2, none⟩ = some (.int .i64 0) := (blk_cell BK317.out 2).trans rfl; have hcz17_3 : w16.cell? ⟨gb317, 3, none⟩ = some (.int .i64 0) := (blk_cell BK317.out 3).trans rfl; have hfz17_0 := blk_frozen BK317.out 0; have hfz17_1 := blk_frozen BK317.out 1; have hfz17_2 := blk_frozen BK317.out 2; have hfz17_3 := blk_frozen BK317.out 3))
          repeat (go_quiet (first | ((with_reducible refine gate_dst (N := 7) rfl ?_); (try (refine gate_guard (by rfl) ?_; dsimp only)); refine box_event ?hg (N := 7) ?hd (cs := #[.int .i64 0, .int .i64 0, .int .i64 0, .int .i64 0]) (t := 34) ?hr ?_; (case hd => rfl); (case hg => rfl); (case hr => first | (go_simp; done) | (go_simp; rfl)); intro gb317 hg w16 hbox hb; have n0_ := Aside0.mk (Kd.R_below (by (with_reducible repeat (first | apply Kd.R_alloc | apply Kd.R_drewN | apply Kd.R_drew)); exact HO_5.out) hb); have n1_ := Aside0.mk (below_step (by repeat (first | (with_reducible first | exact HB.out | apply below_alloc | apply pw_below_drewN | apply below_drew1) | exact HB.out)) hb); have n2_ := Aside0.mk (hbox); have n3_ := Aside0.mk ((by rw [hg]; exact (below_size (by repeat (first | (with_reducible first | exact HB.out | apply below_alloc | apply pw_below_drewN | apply below_drew1) | exact HB.out))) : w.heap.size ≤ gb317)); have n4_ := Aside0.mk ((by rw [hg]; exact (below_size (by repeat (first | (with_reducible first | exact HB.out | apply below_alloc | apply pw_below_drewN | apply below_drew1) | exact HB.out))) : w.heap.size ≤ gb317)); clear HO_5; clear HB; have HO_5 := n0_; have HB := n1_; have BK317 := n2_; have GW317 := n3_; have GE317 := n4_; clear n0_ n1_ n2_ n3_ n4_; clear hb hbox hg; have hcz17_0 : w16.cell? ⟨gb317, 0, none⟩ = some (.int .i64 0) := (blk_cell BK317.out 0).trans rfl; have hcz17_1 : w16.cell? ⟨gb317, 1, none⟩ = some (.int .i64 0) := (blk_cell BK317.out 1).trans rfl; have hcz17_2 : w16.cell? ⟨gb317, 2, none⟩ = some (.int .i64 0) := (blk_cell BK317.out 2).trans rfl; have hcz17_3 : w16.cell? ⟨gb317, 3, none⟩ = some (.int .i64 0) := (blk_cell BK317.out 3).trans rfl; have hfz17_0 := blk_frozen BK317.out 0; have hfz17_1 := blk_frozen BK317.out 1; have hfz17_2 := blk_frozen BK317.out 2; have hfz17_3 := blk_frozen BK317.out 3)); go_upto_region 8 with (first | ((with_reducible refine gate_dst (N := 7) rfl ?_); (try (refine gate_guard (by rfl) ?_; dsimp only)); refine box_event ?hg (N := 7) ?hd (cs := #[.int .i64 0, .int .i64 0, .int .i64 0, .int .i64 0]) (t := 34) ?hr ?_; (case hd => rfl); (case hg => rfl); (case hr => first | (go_simp; done) | (go_simp; rfl)); intro gb317 hg w16 hbox hb; have n0_ := Aside0.mk (Kd.R_below (by (with_reducible repeat (first | apply Kd.R_alloc | apply Kd.R_drewN | apply Kd.R_drew)); exact HO_5.out) hb); have n1_ := Aside0.mk (below_step (by repeat (first | (with_reducible first | exact HB.out | apply below_alloc | apply pw_below_drewN | apply below_drew1) | exact HB.out)) hb); have n2_ := Aside0.mk (hbox); have n3_ := Aside0.mk ((by rw [hg]; exact (below_size (by repeat (first | (with_reducible first | exact HB.out | apply below_alloc | apply pw_below_drewN | apply below_drew1) | exact HB.out))) : w.heap.size ≤ gb317)); have n4_ := Aside0.mk ((by rw [hg]; exact (below_size (by repeat (first | (with_reducible first | exact HB.out | apply below_alloc | apply pw_below_drewN | apply below_drew1) | exact HB.out))) : w.heap.size ≤ gb317)); clear HO_5; clear HB; have HO_5 := n0_; have HB := n1_; have BK317 := n2_; have GW317 := n3_; have GE317 := n4_; clear n0_ n1_ n2_ n3_ n4_; clear hb hbox hg; have hcz17_0 : w16.cell? ⟨gb317, 0, none⟩ = some (.int .i64 0) := (blk_cell BK317.out 0).trans rfl; have hcz17_1 : w16.cell? ⟨gb317, 1, none⟩ = some (.int .i64 0) := (blk_cell BK317.out 1).trans rfl; have hcz17_2 : w16.cell? ⟨gb317, 2, none⟩ = some (.int .i64 0) := (blk_cell BK317.out 2).trans rfl; have hcz17_3 : w16.cell? ⟨gb317, 3, none⟩ = some (.int .i64 0) := (blk_cell BK317.out 3).trans rfl; have hfz17_0 := blk_frozen BK317.out 0; have hfz17_1 := blk_frozen BK317.out 1; have hfz17_2 := blk_frozen BK317.out 2; have hfz17_3 := blk_frozen BK317.out 3)))
          (try simp only [Act.put, List.setIfInBounds_toArray, List.set_cons_zero, List.set_cons_succ])
          go_cut [42] (fun v42 wc => ∃ (kq : Nat) (x42_14 : Bool), v42 = .bool x42_14 ∧ Aside0 (spec_JobsLegal.j2 kq l0 l1 x5_2 x6_2 x42_14 ((rd_T34 l1 x6_2).f0) ((rd_T34 l1 x6_2).f1) ((rd_T34 l1 x6_2).f2) ((rd_T34 l1 x6_2).f3) = some r) ∧ Aside0 (kq ≤ k2) ∧ Aside0 (Kd.R (Kd.int .i64) 3 wc w.heap.size (fun _ => True) v314 x5_2) ∧ Aside0 (wc.heap[gb317]? = some (.cells #[.int .i64 ((rd_T34 l1 x6_2).f0), .int .i64 ((rd_T34 l1 x6_2).f1), .int .i64 ((rd_T34 l1 x6_2).f2), .int .i64 ((rd_T34 l1 x6_2).f3)] 34 (0, 0))) ∧ Aside0 (Below w.heap.size w wc))
          case first =>
           have H := HC15.out
           clear HC15
           replace H := Option.bind_eq_some_iff.mp H
           obtain ⟨t318, A180, H⟩ := H
           replace H : (if t318 = true then ((spec_l1In.f ((rd_T34 l1 x6_2).f1) 0 119).bind fun t319 => (spec_JobsLegal.j2 k2 l0 l1 x5_2 x6_2 (!t319) ((rd_T34 l1 x6_2).f0) ((rd_T34 l1 x6_2).f1) ((rd_T34 l1 x6_2).f2) ((rd_T34 l1 x6_2).f3))) else (spec_JobsLegal.j2 k2 l0 l1 x5_2 x6_2 true ((rd_T34 l1 x6_2).f0) ((rd_T34 l1 x6_2).f1) ((rd_T34 l1 x6_2).f2) ((rd_T34 l1 x6_2).f3))) = some r := H
           have A18 := Aside0.mk A180
           clear A180
           by_cases c19 : t318 = true
           ·subst c19
            have H1 : ((spec_l1In.f ((rd_T34 l1 x6_2).f1) 0 119).bind fun t319 => (spec_JobsLegal.j2 k2 l0 l1 x5_2 x6_2 (!t319) ((rd_T34 l1 x6_2).f0) ((rd_T34 l1 x6_2).f1) ((rd_T34 l1 x6_2).f2) ((rd_T34 l1 x6_2).f3))) = some r := by rw [if_pos rfl] at H; exact H
            clear H
            have H := H1
            clear H1
            replace H := Option.bind_eq_some_iff.mp H
            obtain ⟨t319, A200, H⟩ := H
            replace H : (spec_JobsLegal.j2 k2 l0 l1 x5_2 x6_2 (!t319) ((rd_T34 l1 x6_2).f0) ((rd_T34 l1 x6_2).f1) ((rd_T34 l1 x6_2).f2) ((rd_T34 l1 x6_2).f3)) = some r := H
            have A20 := Aside0.mk A200
            clear A200
            have H' := Aside0.mk H
            clear H
            have hcz21_0 : w16.cell? ⟨gb317, 0, none⟩ = some (.int .i64 0) := (blk_cell BK317.out 0).trans rfl
            have hcz21_1 : w16.cell? ⟨gb317, 1, none⟩ = some (.int .i64 0) := (blk_cell BK317.out 1).trans rfl
            have hcz21_2 : w16.cell? ⟨gb317, 2, none⟩ = some (.int .i64 0) := (blk_cell BK317.out 2).trans rfl
            have hcz21_3 : w16.cell? ⟨gb317, 3, none⟩ = some (.int .i64 0) := (blk_cell BK317.out 3).trans rfl
            have hfz21_0 := blk_frozen BK317.out 0
            have hfz21_1 := blk_frozen BK317.out 1
            have hfz21_2 := blk_frozen BK317.out 2
            have hfz21_3 := blk_frozen BK317.out 3
            go_wp2_with (first | (go_at_call 102; (with_reducible refine (spec_l1In.calls ((rd_T34 l1 x6_2).f0) 0 (wrap64 ((l0.length : Int) - 1)) true _ A18.out).mono ?_); rintro e w' ⟨rfl, ⟨nd, rfl⟩⟩; (try first | exact ⟨rfl, _, World.drewN_drewN _ _ _⟩ | exact ⟨rfl, _, Eq.trans (World.drewN_drewN _ _ _) (congrArg (World.drewN _) (Nat.add_assoc _ _ _))⟩)) | (go_at_call 102; (with_reducible refine (spec_l1In.calls ((rd_T34 l1 x6_2).f1) 0 119 t319 _ A20.out).mono ?_); rintro e w' ⟨rfl, ⟨nd, rfl⟩⟩; (try first | exact ⟨rfl, _, World.drewN_drewN _ _ _⟩ | exact ⟨rfl, _, Eq.trans (World.drewN_drewN _ _ _) (congrArg (World.drewN _) (Nat.add_assoc _ _ _))⟩)))
            repeat (go_quiet (first | (go_at_call 102; (with_reducible refine (spec_l1In.calls ((rd_T34 l1 x6_2).f0) 0 (wrap64 ((l0.length : Int) - 1)) true _ A18.out).mono ?_); rintro e w' ⟨rfl, ⟨nd, rfl⟩⟩; (try first | exact ⟨rfl, _, World.drewN_drewN _ _ _⟩ | exact ⟨rfl, _, Eq.trans (World.drewN_drewN _ _ _) (congrArg (World.drewN _) (Nat.add_assoc _ _ _))⟩)) | (go_at_call 102; (with_reducible refine (spec_l1In.calls ((rd_T34 l1 x6_2).f1) 0 119 t319 _ A20.out).mono ?_); rintro e w' ⟨rfl, ⟨nd, rfl⟩⟩; (try first | exact ⟨rfl, _, World.drewN_drewN _ _ _⟩ | exact ⟨rfl, _, Eq.trans (World.drewN_drewN _ _ _) (congrArg (World.drewN _) (Nat.add_assoc _ _ _))⟩))); try go_wp2_with (first | (go_at_call 102; (with_reducible refine (spec_l1In.calls ((rd_T34 l1 x6_2).f0) 0 (wrap64 ((l0.length : Int) - 1)) true _ A18.out).mono ?_); rintro e w' ⟨rfl, ⟨nd, rfl⟩⟩; (try first | exact ⟨rfl, _, World.drewN_drewN _ _ _⟩ | exact ⟨rfl, _, Eq.trans (World.drewN_drewN _ _ _) (congrArg (World.drewN _) (Nat.add_assoc _ _ _))⟩)) | (go_at_call 102; (with_reducible refine (spec_l1In.calls ((rd_T34 l1 x6_2).f1) 0 119 t319 _ A20.out).mono ?_); rintro e w' ⟨rfl, ⟨nd, rfl⟩⟩; (try first | exact ⟨rfl, _, World.drewN_drewN _ _ _⟩ | exact ⟨rfl, _, Eq.trans (World.drewN_drewN _ _ _) (congrArg (World.drewN _) (Nat.add_assoc _ _ _))⟩))))
            go_meet
            case rel => exact ⟨_, (!t319), (by first | rfl | (simp; done) | (simp [*]; done)), H', ⟨by have := HJ2.out; have := HK2.out; first | omega | exact Nat.le_refl _⟩, ⟨by (with_reducible repeat (first | apply Kd.R_alloc | apply Kd.R_drewN | apply Kd.R_drew)); exact Kd.R_mono (Kd.R_far (p := ⟨gb317, 3, none⟩) (Kd.R_far (p := ⟨gb317, 2, none⟩) (Kd.R_far (p := ⟨gb317, 1, none⟩) (Kd.R_far (p := ⟨gb317, 0, none⟩) (Kd.R_types HO_5.out BK317.out (by decide)) (fun _ hk => hk.2) (.int .i64 ((rd_T34 l1 x6_2).f0))) (fun _ hk => hk.2) (.int .i64 ((rd_T34 l1 x6_2).f1))) (fun _ hk => hk.2) (.int .i64 ((rd_T34 l1 x6_2).f2))) (fun _ hk => hk.2) (.int .i64 ((rd_T34 l1 x6_2).f3))) (fun _ hk => trivial)⟩, ⟨by (with_reducible repeat (first | refine blk_drewN ?_ _ | refine blk_drew ?_ | refine blk_alloc ?_ _)); refine blk_put (cs := #[.int .i64 ((rd_T34 l1 x6_2).f0), .int .i64 ((rd_T34 l1 x6_2).f1), .int .i64 ((rd_T34 l1 x6_2).f2), .int .i64 0]) ?_ 3 _ rfl; (with_reducible repeat (first | refine blk_drewN ?_ _ | refine blk_drew ?_ | refine blk_alloc ?_ _)); refine blk_put (cs := #[.int .i64 ((rd_T34 l1 x6_2).f0), .int .i64 ((rd_T34 l1 x6_2).f1), .int .i64 0, .int .i64 0]) ?_ 2 _ rfl; (with_reducible repeat (first | refine blk_drewN ?_ _ | refine blk_drew ?_ | refine blk_alloc ?_ _)); refine blk_put (cs := #[.int .i64 ((rd_T34 l1 x6_2).f0), .int .i64 0, .int .i64 0, .int .i64 0]) ?_ 1 _ rfl; (with_reducible repeat (first | refine blk_drewN ?_ _ | refine blk_drew ?_ | refine blk_alloc ?_ _)); refine blk_put (cs := #[.int .i64 0, .int .i64 0, .int .i64 0, .int .i64 0]) ?_ 0 _ rfl; (with_reducible repeat (first | refine blk_drewN ?_ _ | refine blk_drew ?_ | refine blk_alloc ?_ _)); exact BK317.out⟩, ⟨by repeat (first | (with_reducible first | exact HB.out | apply below_alloc | apply pw_below_drewN | apply below_drew1 | refine below_set ?_ GE317.out) | exact HB.out)⟩⟩
           ·replace c19 := Bool.eq_false_iff.mpr c19
            subst c19
            have H1 : (spec_JobsLegal.j2 k2 l0 l1 x5_2 x6_2 true ((rd_T34 l1 x6_2).f0) ((rd_T34 l1 x6_2).f1) ((rd_T34 l1 x6_2).f2) ((rd_T34 l1 x6_2).f3)) = some r := by rw [if_neg (show ¬ (false = true) by decide)] at H; exact H
            clear H
            have H := H1
            clear H1
            have H' := Aside0.mk H
            clear H
            have hcz22_0 : w16.cell? ⟨gb317, 0, none⟩ = some (.int .i64 0) := (blk_cell BK317.out 0).trans rfl
            have hcz22_1 : w16.cell? ⟨gb317, 1, none⟩ = some (.int .i64 0) := (blk_cell BK317.out 1).trans rfl
            have hcz22_2 : w16.cell? ⟨gb317, 2, none⟩ = some (.int .i64 0) := (blk_cell BK317.out 2).trans rfl
            have hcz22_3 : w16.cell? ⟨gb317, 3, none⟩ = some (.int .i64 0) := (blk_cell BK317.out 3).trans rfl
            have hfz22_0 := blk_frozen BK317.out 0
            have hfz22_1 := blk_frozen BK317.out 1
            have hfz22_2 := blk_frozen BK317.out 2
            have hfz22_3 := blk_frozen BK317.out 3
            go_wp2_with (first | (go_at_call 102; (with_reducible refine (spec_l1In.calls ((rd_T34 l1 x6_2).f0) 0 (wrap64 ((l0.length : Int) - 1)) false _ A18.out).mono ?_); rintro e w' ⟨rfl, ⟨nd, rfl⟩⟩; (try first | exact ⟨rfl, _, World.drewN_drewN _ _ _⟩ | exact ⟨rfl, _, Eq.trans (World.drewN_drewN _ _ _) (congrArg (World.drewN _) (Nat.add_assoc _ _ _))⟩)))
            repeat (go_quiet (first | (go_at_call 102; (with_reducible refine (spec_l1In.calls ((rd_T34 l1 x6_2).f0) 0 (wrap64 ((l0.length : Int) - 1)) false _ A18.out).mono ?_); rintro e w' ⟨rfl, ⟨nd, rfl⟩⟩; (try first | exact ⟨rfl, _, World.drewN_drewN _ _ _⟩ | exact ⟨rfl, _, Eq.trans (World.drewN_drewN _ _ _) (congrArg (World.drewN _) (Nat.add_assoc _ _ _))⟩))); try go_wp2_with (first | (go_at_call 102; (with_reducible refine (spec_l1In.calls ((rd_T34 l1 x6_2).f0) 0 (wrap64 ((l0.length : Int) - 1)) false _ A18.out).mono ?_); rintro e w' ⟨rfl, ⟨nd, rfl⟩⟩; (try first | exact ⟨rfl, _, World.drewN_drewN _ _ _⟩ | exact ⟨rfl, _, Eq.trans (World.drewN_drewN _ _ _) (congrArg (World.drewN _) (Nat.add_assoc _ _ _))⟩))))
            go_meet
            case rel => exact ⟨_, (true), (by first | rfl | (simp; done) | (simp [*]; done)), H', ⟨by have := HJ2.out; have := HK2.out; first | omega | exact Nat.le_refl _⟩, ⟨by (with_reducible repeat (first | apply Kd.R_alloc | apply Kd.R_drewN | apply Kd.R_drew)); exact Kd.R_mono (Kd.R_far (p := ⟨gb317, 3, none⟩) (Kd.R_far (p := ⟨gb317, 2, none⟩) (Kd.R_far (p := ⟨gb317, 1, none⟩) (Kd.R_far (p := ⟨gb317, 0, none⟩) (Kd.R_types HO_5.out BK317.out (by decide)) (fun _ hk => hk.2) (.int .i64 ((rd_T34 l1 x6_2).f0))) (fun _ hk => hk.2) (.int .i64 ((rd_T34 l1 x6_2).f1))) (fun _ hk => hk.2) (.int .i64 ((rd_T34 l1 x6_2).f2))) (fun _ hk => hk.2) (.int .i64 ((rd_T34 l1 x6_2).f3))) (fun _ hk => trivial)⟩, ⟨by (with_reducible repeat (first | refine blk_drewN ?_ _ | refine blk_drew ?_ | refine blk_alloc ?_ _)); refine blk_put (cs := #[.int .i64 ((rd_T34 l1 x6_2).f0), .int .i64 ((rd_T34 l1 x6_2).f1), .int .i64 ((rd_T34 l1 x6_2).f2), .int .i64 0]) ?_ 3 _ rfl; (with_reducible repeat (first | refine blk_drewN ?_ _ | refine blk_drew ?_ | refine blk_alloc ?_ _)); refine blk_put (cs := #[.int .i64 ((rd_T34 l1 x6_2).f0), .int .i64 ((rd_T34 l1 x6_2).f1), .int .i64 0, .int .i64 0]) ?_ 2 _ rfl; (with_reducible repeat (first | refine blk_drewN ?_ _ | refine blk_drew ?_ | refine blk_alloc ?_ _)); refine blk_put (cs := #[.int .i64 ((rd_T34 l1 x6_2).f0), .int .i64 0, .int .i64 0, .int .i64 0]) ?_ 1 _ rfl; (with_reducible repeat (first | refine blk_drewN ?_ _ | refine blk_drew ?_ | refine blk_alloc ?_ _)); refine blk_put (cs := #[.int .i64 0, .int .i64 0, .int .i64 0, .int .i64 0]) ?_ 0 _ rfl; (with_reducible repeat (first | refine blk_drewN ?_ _ | refine blk_drew ?_ | refine blk_alloc ?_ _)); exact BK317.out⟩, ⟨by repeat (first | (with_reducible first | exact HB.out | apply below_alloc | apply pw_below_drewN | apply below_drew1 | refine below_set ?_ GE317.out) | exact HB.out)⟩⟩
          case rest =>
           clear HC15
           try clear c1
           try clear p2
           try clear p3
           try clear q3
           try clear hx3
           try clear c5
           try clear p6
           try clear c8
           try clear c9
           try clear c9b0
           try clear c9b1
           try clear c10
           try clear c10b0
           try clear c10b1
           try clear c13
           try clear c13b0
           try clear c14
           try clear c14b0
           try clear c19
           try clear hcz17_0
           try clear hcz17_1
           try clear hcz17_2
           try clear hcz17_3
           try clear hcz21_0
           try clear hcz21_1
           try clear hcz21_2
           try clear hcz21_3
           try clear hcz22_0
           try clear hcz22_1
           try clear hcz22_2
           try clear hcz22_3
           try clear hfz17_0
           try clear hfz17_1
           try clear hfz17_2
           try clear hfz17_3
           try clear hfz21_0
           try clear hfz21_1
           try clear hfz21_2
           try clear hfz21_3
           try clear hfz22_0
           try clear hfz22_1
           try clear hfz22_2
           try clear hfz22_3
           try clear hx316_0
           try clear hx316_1
           try clear hx316_2
           try clear hx316_3
           try clear p2
           try clear p316
           try clear q316
           obtain ⟨kq, x42_14, rfl, HA, HJ14, HO_5, BK317, HB⟩ := hcut
           cases kq with
           | zero => exact absurd HA.out (by simp [spec_JobsLegal.j2])
           | succ kj14 =>
            have H := HA.out
            clear HA
            simp only [spec_JobsLegal.j2] at H
            by_cases c23 : x42_14 = true
            ·subst c23
             have H1 : (some false) = some r := by rw [if_pos rfl] at H; exact H
             clear H
             have H := H1
             clear H1
             obtain rfl := Option.some.inj H
             go_wp2
             repeat (go_quiet (fail); try go_wp2)
             go_ret
             exact ⟨by first | rfl | (simp [errW_none, errW_some] <;> rfl) | (simp [*, errW_none, errW_some] <;> rfl), by repeat (first | (with_reducible first | exact HB.out | apply below_alloc | apply pw_below_drewN | apply below_drew1 | refine below_set ?_ GE317.out) | exact HB.out)⟩
            ·replace c23 := Bool.eq_false_iff.mpr c23
             subst c23
             have H1 : (if 0 ≤ ((rd_T34 l1 x6_2).f0) then (if ((rd_T34 l1 x6_2).f0) < (l0.length : Int) then (if ((rd_T34 l1 x6_2).f0) < (x5_2.length : Int) then (if ((rd_T34 l1 x6_2).f1) < (rd x5_2 ((rd_T34 l1 x6_2).f0)) then (spec_JobsLegal.j3 kj14 l0 l1 x5_2 x6_2 true ((rd_T34 l1 x6_2).f0) ((rd_T34 l1 x6_2).f1) ((rd_T34 l1 x6_2).f2) ((rd_T34 l1 x6_2).f3) ((rd_T88 l0 ((rd_T34 l1 x6_2).f0)).f0) ((rd_T88 l0 ((rd_T34 l1 x6_2).f0)).f1) ((rd_T88 l0 ((rd_T34 l1 x6_2).f0)).f2)) else (if ((rd_T34 l1 x6_2).f2) = (wrap64 (((rd_T34 l1 x6_2).f1) + ((rd_T88 l0 ((rd_T34 l1 x6_2).f0)).f1))) then ((spec_l1In.f ((rd_T34 l1 x6_2).f3) 1 ((rd_T88 l0 ((rd_T34 l1 x6_2).f0)).f0)).bind fun t323 => (spec_JobsLegal.j3 kj14 l0 l1 x5_2 x6_2 (!t323) ((rd_T34 l1 x6_2).f0) ((rd_T34 l1 x6_2).f1) ((rd_T34 l1 x6_2).f2) ((rd_T34 l1 x6_2).f3) ((rd_T88 l0 ((rd_T34 l1 x6_2).f0)).f0) ((rd_T88 l0 ((rd_T34 l1 x6_2).f0)).f1) ((rd_T88 l0 ((rd_T34 l1 x6_2).f0)).f2))) else (spec_JobsLegal.j3 kj14 l0 l1 x5_2 x6_2 true ((rd_T34 l1 x6_2).f0) ((rd_T34 l1 x6_2).f1) ((rd_T34 l1 x6_2).f2) ((rd_T34 l1 x6_2).f3) ((rd_T88 l0 ((rd_T34 l1 x6_2).f0)).f0) ((rd_T88 l0 ((rd_T34 l1 x6_2).f0)).f1) ((rd_T88 l0 ((rd_T34 l1 x6_2).f0)).f2)))) else (none)) else (none)) else (none)) = some r := by rw [if_neg (show ¬ (false = true) by decide)] at H; exact H
             clear H
             have H := H1
             clear H1
             by_cases c24 : 0 ≤ ((rd_T34 l1 x6_2).f0)
             ·rw [if_pos c24] at H
              have c24b0 : decide (0 ≤ ((rd_T34 l1 x6_2).f0)) = true := decide_eq_true c24
              clear c24
              by_cases c25 : ((rd_T34 l1 x6_2).f0) < (l0.length : Int)
              ·rw [if_pos c25] at H
               have c25b0 : decide (((rd_T34 l1 x6_2).f0) < (l0.length : Int)) = true := decide_eq_true c25
               clear c25
               have HC26 := Aside0.mk H
               clear H
               have hcz27_0 : wc.cell? ⟨gb317, 0, none⟩ = some (.int .i64 ((rd_T34 l1 x6_2).f0)) := (blk_cell BK317.out 0).trans rfl
               have hcz27_1 : wc.cell? ⟨gb317, 1, none⟩ = some (.int .i64 ((rd_T34 l1 x6_2).f1)) := (blk_cell BK317.out 1).trans rfl
               have hcz27_2 : wc.cell? ⟨gb317, 2, none⟩ = some (.int .i64 ((rd_T34 l1 x6_2).f2)) := (blk_cell BK317.out 2).trans rfl
               have hcz27_3 : wc.cell? ⟨gb317, 3, none⟩ = some (.int .i64 ((rd_T34 l1 x6_2).f3)) := (blk_cell BK317.out 3).trans rfl
               have hfz27_0 := blk_frozen BK317.out 0
               have hfz27_1 := blk_frozen BK317.out 1
               have hfz27_2 := blk_frozen BK317.out 2
               have hfz27_3 := blk_frozen BK317.out 3
               have p320 : 0 ≤ (((rd_T34 l1 x6_2).f0) : Int) := of_decide_eq_true (by first | (with_reducible assumption) | assumption)
               have q320 : ((rd_T34 l1 x6_2).f0) < (l0.length : Int) := of_decide_eq_true (by first | (with_reducible assumption) | assumption)
               obtain ⟨ad320, e320, hx320_0, hx320_1, hx320_2⟩ := at_T88 HR0.out ((rd_T34 l1 x6_2).f0) p320 q320
               cases e320
               replace hx320_0 := (HB.out.cell (World.block_lt_of_cell? w _ hx320_0)).trans hx320_0
               replace hx320_1 := (HB.out.cell (World.block_lt_of_cell? w _ hx320_1)).trans hx320_1
               replace hx320_2 := (HB.out.cell (World.block_lt_of_cell? w _ hx320_2)).trans hx320_2
               replace p320 := eq_true p320
               replace q320 := eq_true q320
               go_upto_region 11 with (first | ((with_reducible refine gate_dst (N := 8) rfl ?_); (try (refine gate_guard (by rfl) ?_; dsimp only)); refine box_event ?hg (N := 8) ?hd (cs := #[.int .i64 0, .int .i64 0, .int .i64 0]) (t := 88) ?hr ?_; (case hd => rfl); (case hg => rfl); (case hr => first | (go_simp; done) | (go_simp; rfl)); intro gb321 hg w28 hbox hb; have n0_ := Aside0.mk (Kd.R_below (by (with_reducible repeat (first | apply Kd.R_alloc | apply Kd.R_drewN | apply Kd.R_drew)); exact HO_5.out) hb); have n1_ := Aside0.mk (blk_below (g := gb317) (o := .cells #[.int .i64 ((rd_T34 l1 x6_2).f0), .int .i64 ((rd_T34 l1 x6_2).f1), .int .i64 ((rd_T34 l1 x6_2).f2), .int .i64 ((rd_T34 l1 x6_2).f3)] 34 (0, 0)) (by (with_reducible repeat (first | refine blk_drewN ?_ _ | refine blk_drew ?_ | refine blk_alloc ?_ _)); exact BK317.out) hb); have n2_ := Aside0.mk (below_step (by repeat (first | (with_reducible first | exact HB.out | apply below_alloc | apply pw_below_drewN | apply below_drew1 | refine below_set ?_ GE317.out) | exact HB.out)) hb); have n3_ := Aside0.mk (hbox); have n4_ := Aside0.mk ((by rw [hg]; exact (below_size (by repeat (first | (with_reducible first | exact HB.out | apply below_alloc | apply pw_below_drewN | apply below_drew1 | refine below_set ?_ GE317.out) | exact HB.out))) : w.heap.size ≤ gb321)); have n5_ := Aside0.mk ((by rw [hg]; exact (below_size (by repeat (first | (with_reducible first | exact HB.out | apply below_alloc | apply pw_below_drewN | apply below_drew1 | refine below_set ?_ GE317.out) | exact HB.out))) : w.heap.size ≤ gb321)); have n6_ := Aside0.mk ((by rw [hg]; exact Nat.ne_of_lt (blk_lt (g := gb317) (o := .cells #[.int .i64 ((rd_T34 l1 x6_2).f0), .int .i64 ((rd_T34 l1 x6_2).f1), .int .i64 ((rd_T34 l1 x6_2).f2), .int .i64 ((rd_T34 l1 x6_2).f3)] 34 (0, 0)) (by (with_reducible repeat (first | refine blk_drewN ?_ _ | refine blk_drew ?_ | refine blk_alloc ?_ _)); exact BK317.out)) : gb317 ≠ gb321)); have n7_ := Aside0.mk ((by rw [hg]; exact Nat.ne_of_gt (blk_lt (g := gb317) (o := .cells #[.int .i64 ((rd_T34 l1 x6_2).f0), .int .i64 ((rd_T34 l1 x6_2).f1), .int .i64 ((rd_T34 l1 x6_2).f2), .int .i64 ((rd_T34 l1 x6_2).f3)] 34 (0, 0)) (by (with_reducible repeat (first | refine blk_drewN ?_ _ | refine blk_drew ?_ | refine blk_alloc ?_ _)); exact BK317.out)) : gb321 ≠ gb317)); clear HO_5; clear BK317; clear HB; have HO_5 := n0_; have BK317 := n1_; have HB := n2_; have BK321 := n3_; have GW321 := n4_; have GE321 := n5_; have NB317_321 := n6_; have NB321_317 := n7_; clear n0_ n1_ n2_ n3_ n4_ n5_ n6_ n7_; clear hb hbox hg; have hnb29 := NB321_317.out; have hnc29 := NB317_321.out; have hcz30_0 : w28.cell? ⟨gb321, 0, none⟩ = some (.int .i64 0) := (blk_cell BK321.out 0).trans rfl; have hcz30_1 : w28.cell? ⟨gb321, 1, none⟩ = some (.int .i64 0) := (blk_cell BK321.out 1).trans rfl; have hcz30_2 : w28.cell? ⟨gb321, 2, none⟩ = some (.int .i64 0) := (blk_cell BK321.out 2).trans rfl; have hfz30_0 := blk_frozen BK321.out 0; have hfz30_1 := blk_frozen BK321.out 1; have hfz30_2 := blk_frozen BK321.out 2))
               repeat (go_quiet (first | ((with_reducible refine gate_dst (N := 8) rfl ?_); (try (refine gate_guard (by rfl) ?_; dsimp only)); refine box_event ?hg (N := 8) ?hd (cs := #[.int .i64 0, .int .i64 0, .int .i64 0]) (t := 88) ?hr ?_; (case hd => rfl); (case hg => rfl); (case hr => first | (go_simp; done) | (go_simp; rfl)); intro gb321 hg w28 hbox hb; have n0_ := Aside0.mk (Kd.R_below (by (with_reducible repeat (first | apply Kd.R_alloc | apply Kd.R_drewN | apply Kd.R_drew)); exact HO_5.out) hb); have n1_ := Aside0.mk (blk_below (g := gb317) (o := .cells #[.int .i64 ((rd_T34 l1 x6_2).f0), .int .i64 ((rd_T34 l1 x6_2).f1), .int .i64 ((rd_T34 l1 x6_2).f2), .int .i64 ((rd_T34 l1 x6_2).f3)] 34 (0, 0)) (by (with_reducible repeat (first | refine blk_drewN ?_ _ | refine blk_drew ?_ | refine blk_alloc ?_ _)); exact BK317.out) hb); have n2_ := Aside0.mk (below_step (by repeat (first | (with_reducible first | exact HB.out | apply below_alloc | apply pw_below_drewN | apply below_drew1 | refine below_set ?_ GE317.out) | exact HB.out)) hb); have n3_ := Aside0.mk (hbox); have n4_ := Aside0.mk ((by rw [hg]; exact (below_size (by repeat (first | (with_reducible first | exact HB.out | apply below_alloc | apply pw_below_drewN | apply below_drew1 | refine below_set ?_ GE317.out) | exact HB.out))) : w.heap.size ≤ gb321)); have n5_ := Aside0.mk ((by rw [hg]; exact (below_size (by repeat (first | (with_reducible first | exact HB.out | apply below_alloc | apply pw_below_drewN | apply below_drew1 | refine below_set ?_ GE317.out) | exact HB.out))) : w.heap.size ≤ gb321)); have n6_ := Aside0.mk ((by rw [hg]; exact Nat.ne_of_lt (blk_lt (g := gb317) (o := .cells #[.int .i64 ((rd_T34 l1 x6_2).f0), .int .i64 ((rd_T34 l1 x6_2).f1), .int .i64 ((rd_T34 l1 x6_2).f2), .int .i64 ((rd_T34 l1 x6_2).f3)] 34 (0, 0)) (by (with_reducible repeat (first | refine blk_drewN ?_ _ | refine blk_drew ?_ | refine blk_alloc ?_ _)); exact BK317.out)) : gb317 ≠ gb321)); have n7_ := Aside0.mk ((by rw [hg]; exact Nat.ne_of_gt (blk_lt (g := gb317) (o := .cells #[.int .i64 ((rd_T34 l1 x6_2).f0), .int .i64 ((rd_T34 l1 x6_2).f1), .int .i64 ((rd_T34 l1 x6_2).f2), .int .i64 ((rd_T34 l1 x6_2).f3)] 34 (0, 0)) (by (with_reducible repeat (first | refine blk_drewN ?_ _ | refine blk_drew ?_ | refine blk_alloc ?_ _)); exact BK317.out)) : gb321 ≠ gb317)); clear HO_5; clear BK317; clear HB; have HO_5 := n0_; have BK317 := n1_; have HB := n2_; have BK321 := n3_; have GW321 := n4_; have GE321 := n5_; have NB317_321 := n6_; have NB321_317 := n7_; clear n0_ n1_ n2_ n3_ n4_ n5_ n6_ n7_; clear hb hbox hg; have hnb29 := NB321_317.out; have hnc29 := NB317_321.out; have hcz30_0 : w28.cell? ⟨gb321, 0, none⟩ = some (.int .i64 0) := (blk_cell BK321.out 0).trans rfl; have hcz30_1 : w28.cell? ⟨gb321, 1, none⟩ = some (.int .i64 0) := (blk_cell BK321.out 1).trans rfl; have hcz30_2 : w28.cell? ⟨gb321, 2, none⟩ = some (.int .i64 0) := (blk_cell BK321.out 2).trans rfl; have hfz30_0 := blk_frozen BK321.out 0; have hfz30_1 := blk_frozen BK321.out 1; have hfz30_2 := blk_frozen BK321.out 2)); go_upto_region 11 with (first | ((with_reducible refine gate_dst (N := 8) rfl ?_); (try (refine gate_guard (by rfl) ?_; dsimp only)); refine box_event ?hg (N := 8) ?hd (cs := #[.int .i64 0, .int .i64 0, .int .i64 0]) (t := 88) ?hr ?_; (case hd => rfl); (case hg => rfl); (case hr => first | (go_simp; done) | (go_simp; rfl)); intro gb321 hg w28 hbox hb; have n0_ := Aside0.mk (Kd.R_below (by (with_reducible repeat (first | apply Kd.R_alloc | apply Kd.R_drewN | apply Kd.R_drew)); exact HO_5.out) hb); have n1_ := Aside0.mk (blk_below (g := gb317) (o := .cells #[.int .i64 ((rd_T34 l1 x6_2).f0), .int .i64 ((rd_T34 l1 x6_2).f1), .int .i64 ((rd_T34 l1 x6_2).f2), .int .i64 ((rd_T34 l1 x6_2).f3)] 34 (0, 0)) (by (with_reducible repeat (first | refine blk_drewN ?_ _ | refine blk_drew ?_ | refine blk_alloc ?_ _)); exact BK317.out) hb); have n2_ := Aside0.mk (below_step (by repeat (first | (with_reducible first | exact HB.out | apply below_alloc | apply pw_below_drewN | apply below_drew1 | refine below_set ?_ GE317.out) | exact HB.out)) hb); have n3_ := Aside0.mk (hbox); have n4_ := Aside0.mk ((by rw [hg]; exact (below_size (by repeat (first | (with_reducible first | exact HB.out | apply below_alloc | apply pw_below_drewN | apply below_drew1 | refine below_set ?_ GE317.out) | exact HB.out))) : w.heap.size ≤ gb321)); have n5_ := Aside0.mk ((by rw [hg]; exact (below_size (by repeat (first | (with_reducible first | exact HB.out | apply below_alloc | apply pw_below_drewN | apply below_drew1 | refine below_set ?_ GE317.out) | exact HB.out))) : w.heap.size ≤ gb321)); have n6_ := Aside0.mk ((by rw [hg]; exact Nat.ne_of_lt (blk_lt (g := gb317) (o := .cells #[.int .i64 ((rd_T34 l1 x6_2).f0), .int .i64 ((rd_T34 l1 x6_2).f1), .int .i64 ((rd_T34 l1 x6_2).f2), .int .i64 ((rd_T34 l1 x6_2).f3)] 34 (0, 0)) (by (with_reducible repeat (first | refine blk_drewN ?_ _ | refine blk_drew ?_ | refine blk_alloc ?_ _)); exact BK317.out)) : gb317 ≠ gb321)); have n7_ := Aside0.mk ((by rw [hg]; exact Nat.ne_of_gt (blk_lt (g := gb317) (o := .cells #[.int .i64 ((rd_T34 l1 x6_2).f0), .int .i64 ((rd_T34 l1 x6_2).f1), .int .i64 ((rd_T34 l1 x6_2).f2), .int .i64 ((rd_T34 l1 x6_2).f3)] 34 (0, 0)) (by (with_reducible repeat (first | refine blk_drewN ?_ _ | refine blk_drew ?_ | refine blk_alloc ?_ _)); exact BK317.out)) : gb321 ≠ gb317)); clear HO_5; clear BK317; clear HB; have HO_5 := n0_; have BK317 := n1_; have HB := n2_; have BK321 := n3_; have GW321 := n4_; have GE321 := n5_; have NB317_321 := n6_; have NB321_317 := n7_; clear n0_ n1_ n2_ n3_ n4_ n5_ n6_ n7_; clear hb hbox hg; have hnb29 := NB321_317.out; have hnc29 := NB317_321.out; have hcz30_0 : w28.cell? ⟨gb321, 0, none⟩ = some (.int .i64 0) := (blk_cell BK321.out 0).trans rfl; have hcz30_1 : w28.cell? ⟨gb321, 1, none⟩ = some (.int .i64 0) := (blk_cell BK321.out 1).trans rfl; have hcz30_2 : w28.cell? ⟨gb321, 2, none⟩ = some (.int .i64 0) := (blk_cell BK321.out 2).trans rfl; have hfz30_0 := blk_frozen BK321.out 0; have hfz30_1 := blk_frozen BK321.out 1; have hfz30_2 := blk_frozen BK321.out 2)))
               (try simp only [Act.put, List.setIfInBounds_toArray, List.set_cons_zero, List.set_cons_succ])
               go_cut [73] (fun v73 wc => ∃ (kq : Nat) (x73_25 : Bool), v73 = .bool x73_25 ∧ Aside0 (spec_JobsLegal.j3 kq l0 l1 x5_2 x6_2 x73_25 ((rd_T34 l1 x6_2).f0) ((rd_T34 l1 x6_2).f1) ((rd_T34 l1 x6_2).f2) ((rd_T34 l1 x6_2).f3) ((rd_T88 l0 ((rd_T34 l1 x6_2).f0)).f0) ((rd_T88 l0 ((rd_T34 l1 x6_2).f0)).f1) ((rd_T88 l0 ((rd_T34 l1 x6_2).f0)).f2) = some r) ∧ Aside0 (kq ≤ kj14) ∧ Aside0 (Kd.R (Kd.int .i64) 3 wc w.heap.size (fun _ => True) v314 x5_2) ∧ Aside0 (wc.heap[gb317]? = some (.cells #[.int .i64 ((rd_T34 l1 x6_2).f0), .int .i64 ((rd_T34 l1 x6_2).f1), .int .i64 ((rd_T34 l1 x6_2).f2), .int .i64 ((rd_T34 l1 x6_2).f3)] 34 (0, 0))) ∧ Aside0 (wc.heap[gb321]? = some (.cells #[.int .i64 ((rd_T88 l0 ((rd_T34 l1 x6_2).f0)).f0), .int .i64 ((rd_T88 l0 ((rd_T34 l1 x6_2).f0)).f1), .int .i64 ((rd_T88 l0 ((rd_T34 l1 x6_2).f0)).f2)] 88 (0, 0))) ∧ Aside0 (Below w.heap.size w wc))
               case first =>
                have H := HC26.out
                clear HC26
                by_cases c31 : ((rd_T34 l1 x6_2).f0) < (x5_2.length : Int)
                ·rw [if_pos c31] at H
                 have c31b0 : decide (((rd_T34 l1 x6_2).f0) < (x5_2.length : Int)) = true := decide_eq_true c31
                 clear c31
                 (first | rw [c31b0] | (simp only [i64_w, i32_w]; rw [c31b0]) | skip)
                 by_cases c32 : ((rd_T34 l1 x6_2).f1) < (rd x5_2 ((rd_T34 l1 x6_2).f0))
                 ·rw [if_pos c32] at H
                  have c32b0 : decide (((rd_T34 l1 x6_2).f1) < (rd x5_2 ((rd_T34 l1 x6_2).f0))) = true := decide_eq_true c32
                  clear c32
                  have H' := Aside0.mk H
                  clear H
                  have hnb33 := NB317_321.out
                  have hnc33 := NB321_317.out
                  have hcz34_0 : w28.cell? ⟨gb317, 0, none⟩ = some (.int .i64 ((rd_T34 l1 x6_2).f0)) := (blk_cell BK317.out 0).trans rfl
                  have hcz34_1 : w28.cell? ⟨gb317, 1, none⟩ = some (.int .i64 ((rd_T34 l1 x6_2).f1)) := (blk_cell BK317.out 1).trans rfl
                  have hcz34_2 : w28.cell? ⟨gb317, 2, none⟩ = some (.int .i64 ((rd_T34 l1 x6_2).f2)) := (blk_cell BK317.out 2).trans rfl
                  have hcz34_3 : w28.cell? ⟨gb317, 3, none⟩ = some (.int .i64 ((rd_T34 l1 x6_2).f3)) := (blk_cell BK317.out 3).trans rfl
                  have hfz34_0 := blk_frozen BK317.out 0
                  have hfz34_1 := blk_frozen BK317.out 1
                  have hfz34_2 := blk_frozen BK317.out 2
                  have hfz34_3 := blk_frozen BK317.out 3
                  obtain ⟨Ao35, co35, eo35⟩ := Kd.R_slice HO_5.out
                  subst eo35
                  have p322 : 0 ≤ (((rd_T34 l1 x6_2).f0) : Int) := of_decide_eq_true (by first | (with_reducible assumption) | assumption)
                  have q322 : ((rd_T34 l1 x6_2).f0) < (x5_2.length : Int) := of_decide_eq_true (by first | (with_reducible assumption) | assumption)
                  obtain ⟨ad322, e322, hx322_0⟩ := Kd.at_int (Kd.R_reads' HO_5.out).2.2 ((rd_T34 l1 x6_2).f0) p322 q322
                  cases e322
                  have hn322_0 : ad322.block ≠ gb321 := Kd.own_blk (Kd.R_ne HO_5.out BK321.out (by decide))
                  have hn322_1 : ad322.block ≠ gb321 := Kd.own_blk (Kd.R_ne HO_5.out BK321.out (by decide))
                  have hn322_2 : ad322.block ≠ gb321 := Kd.own_blk (Kd.R_ne HO_5.out BK321.out (by decide))
                  replace hx322_0 := (cell_far (p := ⟨gb321, 0, none⟩) (by first | (rw [add_block]; exact hn322_0) | (show (Addr.add _ _).block ≠ _; rw [add_block]; exact hn322_0) | exact hn322_0) (.int .i64 ((rd_T88 l0 ((rd_T34 l1 x6_2).f0)).f0))).trans hx322_0
                  replace hx322_0 := (cell_far (p := ⟨gb321, 1, none⟩) (by first | (rw [add_block]; exact hn322_1) | (show (Addr.add _ _).block ≠ _; rw [add_block]; exact hn322_1) | exact hn322_1) (.int .i64 ((rd_T88 l0 ((rd_T34 l1 x6_2).f0)).f1))).trans hx322_0
                  replace hx322_0 := (cell_far (p := ⟨gb321, 2, none⟩) (by first | (rw [add_block]; exact hn322_2) | (show (Addr.add _ _).block ≠ _; rw [add_block]; exact hn322_2) | exact hn322_2) (.int .i64 ((rd_T88 l0 ((rd_T34 l1 x6_2).f0)).f2))).trans hx322_0
                  (try have hy322_0 := fun (n_ : Nat) => (show (((((w28.drewN n_).setCell ⟨gb321, 0, none⟩ (.int .i64 ((rd_T88 l0 ((rd_T34 l1 x6_2).f0)).f0))).setCell ⟨gb321, 1, none⟩ (.int .i64 ((rd_T88 l0 ((rd_T34 l1 x6_2).f0)).f1))).setCell ⟨gb321, 2, none⟩ (.int .i64 ((rd_T88 l0 ((rd_T34 l1 x6_2).f0)).f2)))).cell? _ = some _ from hx322_0))
                  clear hn322_0
                  clear hn322_1
                  clear hn322_2
                  replace p322 := eq_true p322
                  replace q322 := eq_true q322
                  go_wp2
                  repeat (go_quiet (fail); try go_wp2)
                  go_meet
                  case rel => exact ⟨_, (true), (by first | rfl | (simp; done) | (simp [*]; done)), H', ⟨by have := HJ2.out; have := HK2.out; have := HJ14.out; first | omega | exact Nat.le_refl _⟩, ⟨by (with_reducible repeat (first | apply Kd.R_alloc | apply Kd.R_drewN | apply Kd.R_drew)); exact Kd.R_mono (Kd.R_far (p := ⟨gb321, 2, none⟩) (Kd.R_far (p := ⟨gb321, 1, none⟩) (Kd.R_far (p := ⟨gb321, 0, none⟩) (Kd.R_types HO_5.out BK321.out (by decide)) (fun _ hk => hk.2) (.int .i64 ((rd_T88 l0 ((rd_T34 l1 x6_2).f0)).f0))) (fun _ hk => hk.2) (.int .i64 ((rd_T88 l0 ((rd_T34 l1 x6_2).f0)).f1))) (fun _ hk => hk.2) (.int .i64 ((rd_T88 l0 ((rd_T34 l1 x6_2).f0)).f2))) (fun _ hk => trivial)⟩, ⟨by (with_reducible repeat (first | refine blk_drewN ?_ _ | refine blk_drew ?_ | refine blk_alloc ?_ _)); refine blk_far ?_ NB317_321.out _; (with_reducible repeat (first | refine blk_drewN ?_ _ | refine blk_drew ?_ | refine blk_alloc ?_ _)); refine blk_far ?_ NB317_321.out _; (with_reducible repeat (first | refine blk_drewN ?_ _ | refine blk_drew ?_ | refine blk_alloc ?_ _)); refine blk_far ?_ NB317_321.out _; (with_reducible repeat (first | refine blk_drewN ?_ _ | refine blk_drew ?_ | refine blk_alloc ?_ _)); exact BK317.out⟩, ⟨by (with_reducible repeat (first | refine blk_drewN ?_ _ | refine blk_drew ?_ | refine blk_alloc ?_ _)); refine blk_put (cs := #[.int .i64 ((rd_T88 l0 ((rd_T34 l1 x6_2).f0)).f0), .int .i64 ((rd_T88 l0 ((rd_T34 l1 x6_2).f0)).f1), .int .i64 0]) ?_ 2 _ rfl; (with_reducible repeat (first | refine blk_drewN ?_ _ | refine blk_drew ?_ | refine blk_alloc ?_ _)); refine blk_put (cs := #[.int .i64 ((rd_T88 l0 ((rd_T34 l1 x6_2).f0)).f0), .int .i64 0, .int .i64 0]) ?_ 1 _ rfl; (with_reducible repeat (first | refine blk_drewN ?_ _ | refine blk_drew ?_ | refine blk_alloc ?_ _)); refine blk_put (cs := #[.int .i64 0, .int .i64 0, .int .i64 0]) ?_ 0 _ rfl; (with_reducible repeat (first | refine blk_drewN ?_ _ | refine blk_drew ?_ | refine blk_alloc ?_ _)); exact BK321.out⟩, ⟨by repeat (first | (with_reducible first | exact HB.out | apply below_alloc | apply pw_below_drewN | apply below_drew1 | refine below_set ?_ GE317.out | refine below_set ?_ GE321.out) | exact HB.out)⟩⟩
                 ·rw [if_neg c32] at H
                  have c32b0 : decide (((rd_T34 l1 x6_2).f1) < (rd x5_2 ((rd_T34 l1 x6_2).f0))) = false := decide_eq_false c32
                  clear c32
                  by_cases c36 : ((rd_T34 l1 x6_2).f2) = (wrap64 (((rd_T34 l1 x6_2).f1) + ((rd_T88 l0 ((rd_T34 l1 x6_2).f0)).f1)))
                  ·rw [if_pos c36] at H
                   have c36b0 : (((rd_T34 l1 x6_2).f2) == (wrap64 (((rd_T34 l1 x6_2).f1) + ((rd_T88 l0 ((rd_T34 l1 x6_2).f0)).f1)))) = true := beq_iff_eq.mpr c36
                   have c36b1 : (((rd_T34 l1 x6_2).f2) != (wrap64 (((rd_T34 l1 x6_2).f1) + ((rd_T88 l0 ((rd_T34 l1 x6_2).f0)).f1)))) = false := bne_eq_false_iff_eq.mpr c36
                   clear c36
                   replace H := Option.bind_eq_some_iff.mp H
                   obtain ⟨t323, A370, H⟩ := H
                   replace H : (spec_JobsLegal.j3 kj14 l0 l1 x5_2 x6_2 (!t323) ((rd_T34 l1 x6_2).f0) ((rd_T34 l1 x6_2).f1) ((rd_T34 l1 x6_2).f2) ((rd_T34 l1 x6_2).f3) ((rd_T88 l0 ((rd_T34 l1 x6_2).f0)).f0) ((rd_T88 l0 ((rd_T34 l1 x6_2).f0)).f1) ((rd_T88 l0 ((rd_T34 l1 x6_2).f0)).f2)) = some r := H
                   have A37 := Aside0.mk A370
                   clear A370
                   have H' := Aside0.mk H
                   clear H
                   have hnb38 := NB317_321.out
                   have hnc38 := NB321_317.out
                   have hcz39_0 : w28.cell? ⟨gb317, 0, none⟩ = some (.int .i64 ((rd_T34 l1 x6_2).f0)) := (blk_cell BK317.out 0).trans rfl
                   have hcz39_1 : w28.cell? ⟨gb317, 1, none⟩ = some (.int .i64 ((rd_T34 l1 x6_2).f1)) := (blk_cell BK317.out 1).trans rfl
                   have hcz39_2 : w28.cell? ⟨gb317, 2, none⟩ = some (.int .i64 ((rd_T34 l1 x6_2).f2)) := (blk_cell BK317.out 2).trans rfl
                   have hcz39_3 : w28.cell? ⟨gb317, 3, none⟩ = some (.int .i64 ((rd_T34 l1 x6_2).f3)) := (blk_cell BK317.out 3).trans rfl
                   have hfz39_0 := blk_frozen BK317.out 0
                   have hfz39_1 := blk_frozen BK317.out 1
                   have hfz39_2 := blk_frozen BK317.out 2
                   have hfz39_3 := blk_frozen BK317.out 3
                   obtain ⟨Ao40, co40, eo40⟩ := Kd.R_slice HO_5.out
                   subst eo40
                   have p322 : 0 ≤ (((rd_T34 l1 x6_2).f0) : Int) := of_decide_eq_true (by first | (with_reducible assumption) | assumption)
                   have q322 : ((rd_T34 l1 x6_2).f0) < (x5_2.length : Int) := of_decide_eq_true (by first | (with_reducible assumption) | assumption)
                   obtain ⟨ad322, e322, hx322_0⟩ := Kd.at_int (Kd.R_reads' HO_5.out).2.2 ((rd_T34 l1 x6_2).f0) p322 q322
                   cases e322
                   have hn322_0 : ad322.block ≠ gb321 := Kd.own_blk (Kd.R_ne HO_5.out BK321.out (by decide))
                   have hn322_1 : ad322.block ≠ gb321 := Kd.own_blk (Kd.R_ne HO_5.out BK321.out (by decide))
                   have hn322_2 : ad322.block ≠ gb321 := Kd.own_blk (Kd.R_ne HO_5.out BK321.out (by decide))
                   replace hx322_0 := (cell_far (p := ⟨gb321, 0, none⟩) (by first | (rw [add_block]; exact hn322_0) | (show (Addr.add _ _).block ≠ _; rw [add_block]; exact hn322_0) | exact hn322_0) (.int .i64 ((rd_T88 l0 ((rd_T34 l1 x6_2).f0)).f0))).trans hx322_0
                   replace hx322_0 := (cell_far (p := ⟨gb321, 1, none⟩) (by first | (rw [add_block]; exact hn322_1) | (show (Addr.add _ _).block ≠ _; rw [add_block]; exact hn322_1) | exact hn322_1) (.int .i64 ((rd_T88 l0 ((rd_T34 l1 x6_2).f0)).f1))).trans hx322_0
                   replace hx322_0 := (cell_far (p := ⟨gb321, 2, none⟩) (by first | (rw [add_block]; exact hn322_2) | (show (Addr.add _ _).block ≠ _; rw [add_block]; exact hn322_2) | exact hn322_2) (.int .i64 ((rd_T88 l0 ((rd_T34 l1 x6_2).f0)).f2))).trans hx322_0
                   (try have hy322_0 := fun (n_ : Nat) => (show (((((w28.drewN n_).setCell ⟨gb321, 0, none⟩ (.int .i64 ((rd_T88 l0 ((rd_T34 l1 x6_2).f0)).f0))).setCell ⟨gb321, 1, none⟩ (.int .i64 ((rd_T88 l0 ((rd_T34 l1 x6_2).f0)).f1))).setCell ⟨gb321, 2, none⟩ (.int .i64 ((rd_T88 l0 ((rd_T34 l1 x6_2).f0)).f2)))).cell? _ = some _ from hx322_0))
                   clear hn322_0
                   clear hn322_1
                   clear hn322_2
                   replace p322 := eq_true p322
                   replace q322 := eq_true q322
                   have hcz41_0 : w28.cell? ⟨gb321, 0, none⟩ = some (.int .i64 0) := (blk_cell BK321.out 0).trans rfl
                   have hcz41_1 : w28.cell? ⟨gb321, 1, none⟩ = some (.int .i64 0) := (blk_cell BK321.out 1).trans rfl
                   have hcz41_2 : w28.cell? ⟨gb321, 2, none⟩ = some (.int .i64 0) := (blk_cell BK321.out 2).trans rfl
                   have hfz41_0 := blk_frozen BK321.out 0
                   have hfz41_1 := blk_frozen BK321.out 1
                   have hfz41_2 := blk_frozen BK321.out 2
                   go_wp2_with (first | (go_at_call 102; (with_reducible refine (spec_l1In.calls ((rd_T34 l1 x6_2).f3) 1 ((rd_T88 l0 ((rd_T34 l1 x6_2).f0)).f0) t323 _ A37.out).mono ?_); rintro e w' ⟨rfl, ⟨nd, rfl⟩⟩; (try first | exact ⟨rfl, _, World.drewN_drewN _ _ _⟩ | exact ⟨rfl, _, Eq.trans (World.drewN_drewN _ _ _) (congrArg (World.drewN _) (Nat.add_assoc _ _ _))⟩)))
                   repeat (go_quiet (first | (go_at_call 102; (with_reducible refine (spec_l1In.calls ((rd_T34 l1 x6_2).f3) 1 ((rd_T88 l0 ((rd_T34 l1 x6_2).f0)).f0) t323 _ A37.out).mono ?_); rintro e w' ⟨rfl, ⟨nd, rfl⟩⟩; (try first | exact ⟨rfl, _, World.drewN_drewN _ _ _⟩ | exact ⟨rfl, _, Eq.trans (World.drewN_drewN _ _ _) (congrArg (World.drewN _) (Nat.add_assoc _ _ _))⟩))); try go_wp2_with (first | (go_at_call 102; (with_reducible refine (spec_l1In.calls ((rd_T34 l1 x6_2).f3) 1 ((rd_T88 l0 ((rd_T34 l1 x6_2).f0)).f0) t323 _ A37.out).mono ?_); rintro e w' ⟨rfl, ⟨nd, rfl⟩⟩; (try first | exact ⟨rfl, _, World.drewN_drewN _ _ _⟩ | exact ⟨rfl, _, Eq.trans (World.drewN_drewN _ _ _) (congrArg (World.drewN _) (Nat.add_assoc _ _ _))⟩))))
                   go_meet
                   case rel => exact ⟨_, (!t323), (by first | rfl | (simp; done) | (simp [*]; done)), H', ⟨by have := HJ2.out; have := HK2.out; have := HJ14.out; first | omega | exact Nat.le_refl _⟩, ⟨by (with_reducible repeat (first | apply Kd.R_alloc | apply Kd.R_drewN | apply Kd.R_drew)); exact Kd.R_mono (Kd.R_far (p := ⟨gb321, 2, none⟩) (Kd.R_far (p := ⟨gb321, 1, none⟩) (Kd.R_far (p := ⟨gb321, 0, none⟩) (Kd.R_types HO_5.out BK321.out (by decide)) (fun _ hk => hk.2) (.int .i64 ((rd_T88 l0 ((rd_T34 l1 x6_2).f0)).f0))) (fun _ hk => hk.2) (.int .i64 ((rd_T88 l0 ((rd_T34 l1 x6_2).f0)).f1))) (fun _ hk => hk.2) (.int .i64 ((rd_T88 l0 ((rd_T34 l1 x6_2).f0)).f2))) (fun _ hk => trivial)⟩, ⟨by (with_reducible repeat (first | refine blk_drewN ?_ _ | refine blk_drew ?_ | refine blk_alloc ?_ _)); refine blk_far ?_ NB317_321.out _; (with_reducible repeat (first | refine blk_drewN ?_ _ | refine blk_drew ?_ | refine blk_alloc ?_ _)); refine blk_far ?_ NB317_321.out _; (with_reducible repeat (first | refine blk_drewN ?_ _ | refine blk_drew ?_ | refine blk_alloc ?_ _)); refine blk_far ?_ NB317_321.out _; (with_reducible repeat (first | refine blk_drewN ?_ _ | refine blk_drew ?_ | refine blk_alloc ?_ _)); exact BK317.out⟩, ⟨by (with_reducible repeat (first | refine blk_drewN ?_ _ | refine blk_drew ?_ | refine blk_alloc ?_ _)); refine blk_put (cs := #[.int .i64 ((rd_T88 l0 ((rd_T34 l1 x6_2).f0)).f0), .int .i64 ((rd_T88 l0 ((rd_T34 l1 x6_2).f0)).f1), .int .i64 0]) ?_ 2 _ rfl; (with_reducible repeat (first | refine blk_drewN ?_ _ | refine blk_drew ?_ | refine blk_alloc ?_ _)); refine blk_put (cs := #[.int .i64 ((rd_T88 l0 ((rd_T34 l1 x6_2).f0)).f0), .int .i64 0, .int .i64 0]) ?_ 1 _ rfl; (with_reducible repeat (first | refine blk_drewN ?_ _ | refine blk_drew ?_ | refine blk_alloc ?_ _)); refine blk_put (cs := #[.int .i64 0, .int .i64 0, .int .i64 0]) ?_ 0 _ rfl; (with_reducible repeat (first | refine blk_drewN ?_ _ | refine blk_drew ?_ | refine blk_alloc ?_ _)); exact BK321.out⟩, ⟨by repeat (first | (with_reducible first | exact HB.out | apply below_alloc | apply pw_below_drewN | apply below_drew1 | refine below_set ?_ GE317.out | refine below_set ?_ GE321.out) | exact HB.out)⟩⟩
                  ·rw [if_neg c36] at H
                   have c36b0 : (((rd_T34 l1 x6_2).f2) == (wrap64 (((rd_T34 l1 x6_2).f1) + ((rd_T88 l0 ((rd_T34 l1 x6_2).f0)).f1)))) = false := beq_eq_false_iff_ne.mpr c36
                   have c36b1 : (((rd_T34 l1 x6_2).f2) != (wrap64 (((rd_T34 l1 x6_2).f1) + ((rd_T88 l0 ((rd_T34 l1 x6_2).f0)).f1)))) = true := bne_iff_ne.mpr c36
                   have H' := Aside0.mk H
                   clear H
                   have hnb42 := NB317_321.out
                   have hnc42 := NB321_317.out
                   have hcz43_0 : w28.cell? ⟨gb317, 0, none⟩ = some (.int .i64 ((rd_T34 l1 x6_2).f0)) := (blk_cell BK317.out 0).trans rfl
                   have hcz43_1 : w28.cell? ⟨gb317, 1, none⟩ = some (.int .i64 ((rd_T34 l1 x6_2).f1)) := (blk_cell BK317.out 1).trans rfl
                   have hcz43_2 : w28.cell? ⟨gb317, 2, none⟩ = some (.int .i64 ((rd_T34 l1 x6_2).f2)) := (blk_cell BK317.out 2).trans rfl
                   have hcz43_3 : w28.cell? ⟨gb317, 3, none⟩ = some (.int .i64 ((rd_T34 l1 x6_2).f3)) := (blk_cell BK317.out 3).trans rfl
                   have hfz43_0 := blk_frozen BK317.out 0
                   have hfz43_1 := blk_frozen BK317.out 1
                   have hfz43_2 := blk_frozen BK317.out 2
                   have hfz43_3 := blk_frozen BK317.out 3
                   obtain ⟨Ao44, co44, eo44⟩ := Kd.R_slice HO_5.out
                   subst eo44
                   have p322 : 0 ≤ (((rd_T34 l1 x6_2).f0) : Int) := of_decide_eq_true (by first | (with_reducible assumption) | assumption)
                   have q322 : ((rd_T34 l1 x6_2).f0) < (x5_2.length : Int) := of_decide_eq_true (by first | (with_reducible assumption) | assumption)
                   obtain ⟨ad322, e322, hx322_0⟩ := Kd.at_int (Kd.R_reads' HO_5.out).2.2 ((rd_T34 l1 x6_2).f0) p322 q322
                   cases e322
                   have hn322_0 : ad322.block ≠ gb321 := Kd.own_blk (Kd.R_ne HO_5.out BK321.out (by decide))
                   have hn322_1 : ad322.block ≠ gb321 := Kd.own_blk (Kd.R_ne HO_5.out BK321.out (by decide))
                   have hn322_2 : ad322.block ≠ gb321 := Kd.own_blk (Kd.R_ne HO_5.out BK321.out (by decide))
                   replace hx322_0 := (cell_far (p := ⟨gb321, 0, none⟩) (by first | (rw [add_block]; exact hn322_0) | (show (Addr.add _ _).block ≠ _; rw [add_block]; exact hn322_0) | exact hn322_0) (.int .i64 ((rd_T88 l0 ((rd_T34 l1 x6_2).f0)).f0))).trans hx322_0
                   replace hx322_0 := (cell_far (p := ⟨gb321, 1, none⟩) (by first | (rw [add_block]; exact hn322_1) | (show (Addr.add _ _).block ≠ _; rw [add_block]; exact hn322_1) | exact hn322_1) (.int .i64 ((rd_T88 l0 ((rd_T34 l1 x6_2).f0)).f1))).trans hx322_0
                   replace hx322_0 := (cell_far (p := ⟨gb321, 2, none⟩) (by first | (rw [add_block]; exact hn322_2) | (show (Addr.add _ _).block ≠ _; rw [add_block]; exact hn322_2) | exact hn322_2) (.int .i64 ((rd_T88 l0 ((rd_T34 l1 x6_2).f0)).f2))).trans hx322_0
                   (try have hy322_0 := fun (n_ : Nat) => (show (((((w28.drewN n_).setCell ⟨gb321, 0, none⟩ (.int .i64 ((rd_T88 l0 ((rd_T34 l1 x6_2).f0)).f0))).setCell ⟨gb321, 1, none⟩ (.int .i64 ((rd_T88 l0 ((rd_T34 l1 x6_2).f0)).f1))).setCell ⟨gb321, 2, none⟩ (.int .i64 ((rd_T88 l0 ((rd_T34 l1 x6_2).f0)).f2)))).cell? _ = some _ from hx322_0))
                   clear hn322_0
                   clear hn322_1
                   clear hn322_2
                   replace p322 := eq_true p322
                   replace q322 := eq_true q322
                   have hcz45_0 : w28.cell? ⟨gb321, 0, none⟩ = some (.int .i64 0) := (blk_cell BK321.out 0).trans rfl
                   have hcz45_1 : w28.cell? ⟨gb321, 1, none⟩ = some (.int .i64 0) := (blk_cell BK321.out 1).trans rfl
                   have hcz45_2 : w28.cell? ⟨gb321, 2, none⟩ = some (.int .i64 0) := (blk_cell BK321.out 2).trans rfl
                   have hfz45_0 := blk_frozen BK321.out 0
                   have hfz45_1 := blk_frozen BK321.out 1
                   have hfz45_2 := blk_frozen BK321.out 2
                   go_wp2
                   repeat (go_quiet (fail); try go_wp2)
                   go_meet
                   case rel => exact ⟨_, (true), (by first | rfl | (simp; done) | (simp [*]; done)), H', ⟨by have := HJ2.out; have := HK2.out; have := HJ14.out; first | omega | exact Nat.le_refl _⟩, ⟨by (with_reducible repeat (first | apply Kd.R_alloc | apply Kd.R_drewN | apply Kd.R_drew)); exact Kd.R_mono (Kd.R_far (p := ⟨gb321, 2, none⟩) (Kd.R_far (p := ⟨gb321, 1, none⟩) (Kd.R_far (p := ⟨gb321, 0, none⟩) (Kd.R_types HO_5.out BK321.out (by decide)) (fun _ hk => hk.2) (.int .i64 ((rd_T88 l0 ((rd_T34 l1 x6_2).f0)).f0))) (fun _ hk => hk.2) (.int .i64 ((rd_T88 l0 ((rd_T34 l1 x6_2).f0)).f1))) (fun _ hk => hk.2) (.int .i64 ((rd_T88 l0 ((rd_T34 l1 x6_2).f0)).f2))) (fun _ hk => trivial)⟩, ⟨by (with_reducible repeat (first | refine blk_drewN ?_ _ | refine blk_drew ?_ | refine blk_alloc ?_ _)); refine blk_far ?_ NB317_321.out _; (with_reducible repeat (first | refine blk_drewN ?_ _ | refine blk_drew ?_ | refine blk_alloc ?_ _)); refine blk_far ?_ NB317_321.out _; (with_reducible repeat (first | refine blk_drewN ?_ _ | refine blk_drew ?_ | refine blk_alloc ?_ _)); refine blk_far ?_ NB317_321.out _; (with_reducible repeat (first | refine blk_drewN ?_ _ | refine blk_drew ?_ | refine blk_alloc ?_ _)); exact BK317.out⟩, ⟨by (with_reducible repeat (first | refine blk_drewN ?_ _ | refine blk_drew ?_ | refine blk_alloc ?_ _)); refine blk_put (cs := #[.int .i64 ((rd_T88 l0 ((rd_T34 l1 x6_2).f0)).f0), .int .i64 ((rd_T88 l0 ((rd_T34 l1 x6_2).f0)).f1), .int .i64 0]) ?_ 2 _ rfl; (with_reducible repeat (first | refine blk_drewN ?_ _ | refine blk_drew ?_ | refine blk_alloc ?_ _)); refine blk_put (cs := #[.int .i64 ((rd_T88 l0 ((rd_T34 l1 x6_2).f0)).f0), .int .i64 0, .int .i64 0]) ?_ 1 _ rfl; (with_reducible repeat (first | refine blk_drewN ?_ _ | refine blk_drew ?_ | refine blk_alloc ?_ _)); refine blk_put (cs := #[.int .i64 0, .int .i64 0, .int .i64 0]) ?_ 0 _ rfl; (with_reducible repeat (first | refine blk_drewN ?_ _ | refine blk_drew ?_ | refine blk_alloc ?_ _)); exact BK321.out⟩, ⟨by repeat (first | (with_reducible first | exact HB.out | apply below_alloc | apply pw_below_drewN | apply below_drew1 | refine below_set ?_ GE317.out | refine below_set ?_ GE321.out) | exact HB.out)⟩⟩
                ·rw [if_neg c31] at H
                 exact absurd H (by simp)
               case rest =>
                clear HC26
                try clear c1
                try clear c2
                try clear p2
                try clear c3
                try clear p3
                try clear q3
                try clear hx3
                try clear c4
                try clear c5
                try clear p6
                try clear c8
                try clear c9
                try clear c9b0
                try clear c9b1
                try clear c10
                try clear c10b0
                try clear c10b1
                try clear c13
                try clear c13b0
                try clear c14
                try clear c14b0
                try clear c19
                try clear c23
                try clear c24
                try clear c24b0
                try clear c25
                try clear c25b0
                try clear c29
                try clear c31
                try clear c31b0
                try clear p31
                try clear q31
                try clear hx31
                try clear c32
                try clear c32b0
                try clear p32
                try clear q32
                try clear hx32
                try clear c33
                try clear c36
                try clear c36b0
                try clear c36b1
                try clear c38
                try clear c42
                try clear hcz17_0
                try clear hcz17_1
                try clear hcz17_2
                try clear hcz17_3
                try clear hcz21_0
                try clear hcz21_1
                try clear hcz21_2
                try clear hcz21_3
                try clear hcz22_0
                try clear hcz22_1
                try clear hcz22_2
                try clear hcz22_3
                try clear hcz27_0
                try clear hcz27_1
                try clear hcz27_2
                try clear hcz27_3
                try clear hcz30_0
                try clear hcz30_1
                try clear hcz30_2
                try clear hcz34_0
                try clear hcz34_1
                try clear hcz34_2
                try clear hcz34_3
                try clear hcz39_0
                try clear hcz39_1
                try clear hcz39_2
                try clear hcz39_3
                try clear hcz41_0
                try clear hcz41_1
                try clear hcz41_2
                try clear hcz43_0
                try clear hcz43_1
                try clear hcz43_2
                try clear hcz43_3
                try clear hcz45_0
                try clear hcz45_1
                try clear hcz45_2
                try clear hfz17_0
                try clear hfz17_1
                try clear hfz17_2
                try clear hfz17_3
                try clear hfz21_0
                try clear hfz21_1
                try clear hfz21_2
                try clear hfz21_3
                try clear hfz22_0
                try clear hfz22_1
                try clear hfz22_2
                try clear hfz22_3
                try clear hfz27_0
                try clear hfz27_1
                try clear hfz27_2
                try clear hfz27_3
                try clear hfz30_0
                try clear hfz30_1
                try clear hfz30_2
                try clear hfz34_0
                try clear hfz34_1
                try clear hfz34_2
                try clear hfz34_3
                try clear hfz39_0
                try clear hfz39_1
                try clear hfz39_2
                try clear hfz39_3
                try clear hfz41_0
                try clear hfz41_1
                try clear hfz41_2
                try clear hfz43_0
                try clear hfz43_1
                try clear hfz43_2
                try clear hfz43_3
                try clear hfz45_0
                try clear hfz45_1
                try clear hfz45_2
                try clear hx316_0
                try clear hx316_1
                try clear hx316_2
                try clear hx316_3
                try clear hx320_0
                try clear hx320_1
                try clear hx320_2
                try clear hx322_0
                try clear p2
                try clear p3
                try clear p316
                try clear p320
                try clear p322
                try clear p6
                try clear q3
                try clear q316
                try clear q320
                try clear q322
                obtain ⟨kq, x73_25, rfl, HA, HJ25, HO_5, BK317, BK321, HB⟩ := hcut
                cases kq with
                | zero => exact absurd HA.out (by simp [spec_JobsLegal.j3])
                | succ kj25 =>
                 have H := HA.out
                 clear HA
                 simp only [spec_JobsLegal.j3] at H
                 by_cases c46 : x73_25 = true
                 ·subst c46
                  have H1 : (some false) = some r := by rw [if_pos rfl] at H; exact H
                  clear H
                  have H := H1
                  clear H1
                  obtain rfl := Option.some.inj H
                  go_wp2
                  repeat (go_quiet (fail); try go_wp2)
                  go_ret
                  exact ⟨by first | rfl | (simp [errW_none, errW_some] <;> rfl) | (simp [*, errW_none, errW_some] <;> rfl), by repeat (first | (with_reducible first | exact HB.out | apply below_alloc | apply pw_below_drewN | apply below_drew1 | refine below_set ?_ GE317.out | refine below_set ?_ GE321.out) | exact HB.out)⟩
                 ·replace c46 := Bool.eq_false_iff.mpr c46
                  subst c46
                  have H1 : (if x6_2 > 0 then (if 0 ≤ (wrap64 (x6_2 - 1)) then (if (wrap64 (x6_2 - 1)) < (l1.length : Int) then (if ((rd_T34 l1 (wrap64 (x6_2 - 1))).f1) > ((rd_T34 l1 x6_2).f1) then (some false) else (if ((rd_T34 l1 (wrap64 (x6_2 - 1))).f1) = ((rd_T34 l1 x6_2).f1) then (if ((rd_T34 l1 (wrap64 (x6_2 - 1))).f0) ≥ ((rd_T34 l1 x6_2).f0) then (some false) else (if 0 ≤ ((rd_T34 l1 x6_2).f0) then (if ((rd_T34 l1 x6_2).f0) < (x5_2.length : Int) then (spec_JobsLegal.l0 kj25 l0 l1 (x5_2.set (((rd_T34 l1 x6_2).f0) : Int).toNat (wrap64 (((rd_T34 l1 x6_2).f1) + ((rd_T88 l0 ((rd_T34 l1 x6_2).f0)).f2)))) (wrap64 (x6_2 + 1))) else (none)) else (none))) else (if 0 ≤ ((rd_T34 l1 x6_2).f0) then (if ((rd_T34 l1 x6_2).f0) < (x5_2.length : Int) then (spec_JobsLegal.l0 kj25 l0 l1 (x5_2.set (((rd_T34 l1 x6_2).f0) : Int).toNat (wrap64 (((rd_T34 l1 x6_2).f1) + ((rd_T88 l0 ((rd_T34 l1 x6_2).f0)).f2)))) (wrap64 (x6_2 + 1))) else (none)) else (none)))) else (none)) else (none)) else (if 0 ≤ ((rd_T34 l1 x6_2).f0) then (if ((rd_T34 l1 x6_2).f0) < (x5_2.length : Int) then (spec_JobsLegal.l0 kj25 l0 l1 (x5_2.set (((rd_T34 l1 x6_2).f0) : Int).toNat (wrap64 (((rd_T34 l1 x6_2).f1) + ((rd_T88 l0 ((rd_T34 l1 x6_2).f0)).f2)))) (wrap64 (x6_2 + 1))) else (none)) else (none))) = some r := by rw [if_neg (show ¬ (false = true) by decide)] at H; exact H
                  clear H
                  have H := H1
                  clear H1
                  by_cases c47 : x6_2 > 0
                  ·rw [if_pos c47] at H
                   have c47b0 : decide (0 < x6_2) = true := decide_eq_true c47
                   clear c47
                   obtain ⟨ji48, hji48⟩ : ∃ j_ : Int, (wrap64 (x6_2 - 1)) = j_ := ⟨_, rfl⟩
                   replace H : (if 0 ≤ (ji48) then (if (ji48) < (l1.length : Int) then (if ((rd_T34 l1 (ji48)).f1) > ((rd_T34 l1 x6_2).f1) then (some false) else (if ((rd_T34 l1 (ji48)).f1) = ((rd_T34 l1 x6_2).f1) then (if ((rd_T34 l1 (ji48)).f0) ≥ ((rd_T34 l1 x6_2).f0) then (some false) else (if 0 ≤ ((rd_T34 l1 x6_2).f0) then (if ((rd_T34 l1 x6_2).f0) < (x5_2.length : Int) then (spec_JobsLegal.l0 kj25 l0 l1 (x5_2.set (((rd_T34 l1 x6_2).f0) : Int).toNat (wrap64 (((rd_T34 l1 x6_2).f1) + ((rd_T88 l0 ((rd_T34 l1 x6_2).f0)).f2)))) (wrap64 (x6_2 + 1))) else (none)) else (none))) else (if 0 ≤ ((rd_T34 l1 x6_2).f0) then (if ((rd_T34 l1 x6_2).f0) < (x5_2.length : Int) then (spec_JobsLegal.l0 kj25 l0 l1 (x5_2.set (((rd_T34 l1 x6_2).f0) : Int).toNat (wrap64 (((rd_T34 l1 x6_2).f1) + ((rd_T88 l0 ((rd_T34 l1 x6_2).f0)).f2)))) (wrap64 (x6_2 + 1))) else (none)) else (none)))) else (none)) else (none)) = some r := by first | (rw [hji48] at H; exact H) | (simp only [hji48] at H ⊢; exact H)
                   have hji48w : (IntKind.i64.wrap (x6_2 - 1)) = ji48 := (i64_w _).trans hji48
                   by_cases c49 : 0 ≤ (ji48)
                   ·rw [if_pos c49] at H
                    have c49b0 : decide (0 ≤ (ji48)) = true := decide_eq_true c49
                    clear c49
                    by_cases c50 : (ji48) < (l1.length : Int)
                    ·rw [if_pos c50] at H
                     have c50b0 : decide ((ji48) < (l1.length : Int)) = true := decide_eq_true c50
                     clear c50
                     by_cases c51 : ((rd_T34 l1 (ji48)).f1) > ((rd_T34 l1 x6_2).f1)
                     ·rw [if_pos c51] at H
                      have c51b0 : decide (((rd_T34 l1 x6_2).f1) < ((rd_T34 l1 (ji48)).f1)) = true := decide_eq_true c51
                      clear c51
                      obtain rfl := Option.some.inj H
                      have p324 : 0 ≤ ((ji48) : Int) := of_decide_eq_true (by first | (with_reducible assumption) | assumption)
                      have q324 : (ji48) < (l1.length : Int) := of_decide_eq_true (by first | (with_reducible assumption) | assumption)
                      obtain ⟨ad324, e324, hx324_0, hx324_1, hx324_2, hx324_3⟩ := at_T34 HR1.out (ji48) p324 q324
                      obtain rfl : ad316 = ad324 := (by injection e324)
                      replace hx324_0 := (HB.out.cell (World.block_lt_of_cell? w _ hx324_0)).trans hx324_0
                      replace hx324_1 := (HB.out.cell (World.block_lt_of_cell? w _ hx324_1)).trans hx324_1
                      replace hx324_2 := (HB.out.cell (World.block_lt_of_cell? w _ hx324_2)).trans hx324_2
                      replace hx324_3 := (HB.out.cell (World.block_lt_of_cell? w _ hx324_3)).trans hx324_3
                      replace p324 := eq_true p324
                      replace q324 := eq_true q324
                      have hnb52 := NB317_321.out
                      have hnc52 := NB321_317.out
                      have hcz53_0 : wc.cell? ⟨gb317, 0, none⟩ = some (.int .i64 ((rd_T34 l1 x6_2).f0)) := (blk_cell BK317.out 0).trans rfl
                      have hcz53_1 : wc.cell? ⟨gb317, 1, none⟩ = some (.int .i64 ((rd_T34 l1 x6_2).f1)) := (blk_cell BK317.out 1).trans rfl
                      have hcz53_2 : wc.cell? ⟨gb317, 2, none⟩ = some (.int .i64 ((rd_T34 l1 x6_2).f2)) := (blk_cell BK317.out 2).trans rfl
                      have hcz53_3 : wc.cell? ⟨gb317, 3, none⟩ = some (.int .i64 ((rd_T34 l1 x6_2).f3)) := (blk_cell BK317.out 3).trans rfl
                      have hfz53_0 := blk_frozen BK317.out 0
                      have hfz53_1 := blk_frozen BK317.out 1
                      have hfz53_2 := blk_frozen BK317.out 2
                      have hfz53_3 := blk_frozen BK317.out 3
                      go_wp2
                      repeat (go_quiet (fail); try go_wp2)
                      go_ret
                      exact ⟨by first | rfl | (simp [errW_none, errW_some] <;> rfl) | (simp only [← hji48]; first | rfl | (simp [errW_none, errW_some] <;> rfl)) | (simp [*, errW_none, errW_some] <;> rfl), by repeat (first | (with_reducible first | exact HB.out | apply below_alloc | apply pw_below_drewN | apply below_drew1 | refine below_set ?_ GE317.out | refine below_set ?_ GE321.out) | exact HB.out)⟩
                     ·rw [if_neg c51] at H
                      have c51b0 : decide (((rd_T34 l1 x6_2).f1) < ((rd_T34 l1 (ji48)).f1)) = false := decide_eq_false c51
                      clear c51
                      by_cases c54 : ((rd_T34 l1 (ji48)).f1) = ((rd_T34 l1 x6_2).f1)
                      ·rw [if_pos c54] at H
                       have c54b0 : (((rd_T34 l1 (ji48)).f1) == ((rd_T34 l1 x6_2).f1)) = true := beq_iff_eq.mpr c54
                       have c54b1 : (((rd_T34 l1 (ji48)).f1) != ((rd_T34 l1 x6_2).f1)) = false := bne_eq_false_iff_eq.mpr c54
                       clear c54
                       by_cases c55 : ((rd_T34 l1 (ji48)).f0) ≥ ((rd_T34 l1 x6_2).f0)
                       ·rw [if_pos c55] at H
                        have c55b0 : decide (((rd_T34 l1 x6_2).f0) ≤ ((rd_T34 l1 (ji48)).f0)) = true := decide_eq_true c55
                        clear c55
                        obtain rfl := Option.some.inj H
                        have p324 : 0 ≤ ((ji48) : Int) := of_decide_eq_true (by first | (with_reducible assumption) | assumption)
                        have q324 : (ji48) < (l1.length : Int) := of_decide_eq_true (by first | (with_reducible assumption) | assumption)
                        obtain ⟨ad324, e324, hx324_0, hx324_1, hx324_2, hx324_3⟩ := at_T34 HR1.out (ji48) p324 q324
                        obtain rfl : ad316 = ad324 := (by injection e324)
                        replace hx324_0 := (HB.out.cell (World.block_lt_of_cell? w _ hx324_0)).trans hx324_0
                        replace hx324_1 := (HB.out.cell (World.block_lt_of_cell? w _ hx324_1)).trans hx324_1
                        replace hx324_2 := (HB.out.cell (World.block_lt_of_cell? w _ hx324_2)).trans hx324_2
                        replace hx324_3 := (HB.out.cell (World.block_lt_of_cell? w _ hx324_3)).trans hx324_3
                        replace p324 := eq_true p324
                        replace q324 := eq_true q324
                        have hnb56 := NB317_321.out
                        have hnc56 := NB321_317.out
                        have hcz57_0 : wc.cell? ⟨gb317, 0, none⟩ = some (.int .i64 ((rd_T34 l1 x6_2).f0)) := (blk_cell BK317.out 0).trans rfl
                        have hcz57_1 : wc.cell? ⟨gb317, 1, none⟩ = some (.int .i64 ((rd_T34 l1 x6_2).f1)) := (blk_cell BK317.out 1).trans rfl
                        have hcz57_2 : wc.cell? ⟨gb317, 2, none⟩ = some (.int .i64 ((rd_T34 l1 x6_2).f2)) := (blk_cell BK317.out 2).trans rfl
                        have hcz57_3 : wc.cell? ⟨gb317, 3, none⟩ = some (.int .i64 ((rd_T34 l1 x6_2).f3)) := (blk_cell BK317.out 3).trans rfl
                        have hfz57_0 := blk_frozen BK317.out 0
                        have hfz57_1 := blk_frozen BK317.out 1
                        have hfz57_2 := blk_frozen BK317.out 2
                        have hfz57_3 := blk_frozen BK317.out 3
                        have p325 : 0 ≤ ((ji48) : Int) := of_decide_eq_true (by first | (with_reducible assumption) | assumption)
                        have q325 : (ji48) < (l1.length : Int) := of_decide_eq_true (by first | (with_reducible assumption) | assumption)
                        obtain ⟨ad325, e325, hx325_0, hx325_1, hx325_2, hx325_3⟩ := at_T34 HR1.out (ji48) p325 q325
                        obtain rfl : ad316 = ad325 := (by injection e325)
                        replace hx325_0 := (HB.out.cell (World.block_lt_of_cell? w _ hx325_0)).trans hx325_0
                        replace hx325_1 := (HB.out.cell (World.block_lt_of_cell? w _ hx325_1)).trans hx325_1
                        replace hx325_2 := (HB.out.cell (World.block_lt_of_cell? w _ hx325_2)).trans hx325_2
                        replace hx325_3 := (HB.out.cell (World.block_lt_of_cell? w _ hx325_3)).trans hx325_3
                        replace p325 := eq_true p325
                        replace q325 := eq_true q325
                        have p326 : 0 ≤ ((ji48) : Int) := of_decide_eq_true (by first | (with_reducible assumption) | assumption)
                        have q326 : (ji48) < (l1.length : Int) := of_decide_eq_true (by first | (with_reducible assumption) | assumption)
                        obtain ⟨ad326, e326, hx326_0, hx326_1, hx326_2, hx326_3⟩ := at_T34 HR1.out (ji48) p326 q326
                        obtain rfl : ad316 = ad326 := (by injection e326)
                        replace hx326_0 := (HB.out.cell (World.block_lt_of_cell? w _ hx326_0)).trans hx326_0
                        replace hx326_1 := (HB.out.cell (World.block_lt_of_cell? w _ hx326_1)).trans hx326_1
                        replace hx326_2 := (HB.out.cell (World.block_lt_of_cell? w _ hx326_2)).trans hx326_2
                        replace hx326_3 := (HB.out.cell (World.block_lt_of_cell? w _ hx326_3)).trans hx326_3
                        replace p326 := eq_true p326
                        replace q326 := eq_true q326
                        go_wp2
                        repeat (go_quiet (fail); try go_wp2)
                        go_ret
                        exact ⟨by first | rfl | (simp [errW_none, errW_some] <;> rfl) | (simp only [← hji48]; first | rfl | (simp [errW_none, errW_some] <;> rfl)) | (simp [*, errW_none, errW_some] <;> rfl), by repeat (first | (with_reducible first | exact HB.out | apply below_alloc | apply pw_below_drewN | apply below_drew1 | refine below_set ?_ GE317.out | refine below_set ?_ GE321.out) | exact HB.out)⟩
                       ·rw [if_neg c55] at H
                        have c55b0 : decide (((rd_T34 l1 x6_2).f0) ≤ ((rd_T34 l1 (ji48)).f0)) = false := decide_eq_false c55
                        clear c55
                        by_cases c58 : 0 ≤ ((rd_T34 l1 x6_2).f0)
                        ·rw [if_pos c58] at H
                         have c58b0 : decide (0 ≤ ((rd_T34 l1 x6_2).f0)) = true := decide_eq_true c58
                         clear c58
                         by_cases c59 : ((rd_T34 l1 x6_2).f0) < (x5_2.length : Int)
                         ·rw [if_pos c59] at H
                          have c59b0 : decide (((rd_T34 l1 x6_2).f0) < (x5_2.length : Int)) = true := decide_eq_true c59
                          clear c59
                          obtain ⟨y327, hy327⟩ : ∃ y_ : List Int, y_ = (x5_2.set (((rd_T34 l1 x6_2).f0) : Int).toNat (wrap64 (((rd_T34 l1 x6_2).f1) + ((rd_T88 l0 ((rd_T34 l1 x6_2).f0)).f2)))) := ⟨_, rfl⟩
                          replace H : (spec_JobsLegal.l0 kj25 l0 l1 y327 (wrap64 (x6_2 + 1))) = some r := by first | (rw [hy327]; with_reducible exact H) | (have H2_ := (Option.bind_some _ _).symm.trans H; rw [hy327]; with_reducible exact H2_) | (have H2_ := (Option.bind_some _ _).symm.trans H; with_reducible exact H2_) | with_reducible exact H | (rw [hy327]; exact H) | exact H
                          have Ny327 := Aside0.mk hy327
                          clear hy327
                          have H' := Aside0.mk H
                          clear H
                          have p324 : 0 ≤ ((ji48) : Int) := of_decide_eq_true (by first | (with_reducible assumption) | assumption)
                          have q324 : (ji48) < (l1.length : Int) := of_decide_eq_true (by first | (with_reducible assumption) | assumption)
                          obtain ⟨ad324, e324, hx324_0, hx324_1, hx324_2, hx324_3⟩ := at_T34 HR1.out (ji48) p324 q324
                          obtain rfl : ad316 = ad324 := (by injection e324)
                          replace hx324_0 := (HB.out.cell (World.block_lt_of_cell? w _ hx324_0)).trans hx324_0
                          replace hx324_1 := (HB.out.cell (World.block_lt_of_cell? w _ hx324_1)).trans hx324_1
                          replace hx324_2 := (HB.out.cell (World.block_lt_of_cell? w _ hx324_2)).trans hx324_2
                          replace hx324_3 := (HB.out.cell (World.block_lt_of_cell? w _ hx324_3)).trans hx324_3
                          replace p324 := eq_true p324
                          replace q324 := eq_true q324
                          have hnb61 := NB317_321.out
                          have hnc61 := NB321_317.out
                          have hcz62_0 : wc.cell? ⟨gb317, 0, none⟩ = some (.int .i64 ((rd_T34 l1 x6_2).f0)) := (blk_cell BK317.out 0).trans rfl
                          have hcz62_1 : wc.cell? ⟨gb317, 1, none⟩ = some (.int .i64 ((rd_T34 l1 x6_2).f1)) := (blk_cell BK317.out 1).trans rfl
                          have hcz62_2 : wc.cell? ⟨gb317, 2, none⟩ = some (.int .i64 ((rd_T34 l1 x6_2).f2)) := (blk_cell BK317.out 2).trans rfl
                          have hcz62_3 : wc.cell? ⟨gb317, 3, none⟩ = some (.int .i64 ((rd_T34 l1 x6_2).f3)) := (blk_cell BK317.out 3).trans rfl
                          have hfz62_0 := blk_frozen BK317.out 0
                          have hfz62_1 := blk_frozen BK317.out 1
                          have hfz62_2 := blk_frozen BK317.out 2
                          have hfz62_3 := blk_frozen BK317.out 3
                          have p325 : 0 ≤ ((ji48) : Int) := of_decide_eq_true (by first | (with_reducible assumption) | assumption)
                          have q325 : (ji48) < (l1.length : Int) := of_decide_eq_true (by first | (with_reducible assumption) | assumption)
                          obtain ⟨ad325, e325, hx325_0, hx325_1, hx325_2, hx325_3⟩ := at_T34 HR1.out (ji48) p325 q325
                          obtain rfl : ad316 = ad325 := (by injection e325)
                          replace hx325_0 := (HB.out.cell (World.block_lt_of_cell? w _ hx325_0)).trans hx325_0
                          replace hx325_1 := (HB.out.cell (World.block_lt_of_cell? w _ hx325_1)).trans hx325_1
                          replace hx325_2 := (HB.out.cell (World.block_lt_of_cell? w _ hx325_2)).trans hx325_2
                          replace hx325_3 := (HB.out.cell (World.block_lt_of_cell? w _ hx325_3)).trans hx325_3
                          replace p325 := eq_true p325
                          replace q325 := eq_true q325
                          have p326 : 0 ≤ ((ji48) : Int) := of_decide_eq_true (by first | (with_reducible assumption) | assumption)
                          have q326 : (ji48) < (l1.length : Int) := of_decide_eq_true (by first | (with_reducible assumption) | assumption)
                          obtain ⟨ad326, e326, hx326_0, hx326_1, hx326_2, hx326_3⟩ := at_T34 HR1.out (ji48) p326 q326
                          obtain rfl : ad316 = ad326 := (by injection e326)
                          replace hx326_0 := (HB.out.cell (World.block_lt_of_cell? w _ hx326_0)).trans hx326_0
                          replace hx326_1 := (HB.out.cell (World.block_lt_of_cell? w _ hx326_1)).trans hx326_1
                          replace hx326_2 := (HB.out.cell (World.block_lt_of_cell? w _ hx326_2)).trans hx326_2
                          replace hx326_3 := (HB.out.cell (World.block_lt_of_cell? w _ hx326_3)).trans hx326_3
                          replace p326 := eq_true p326
                          replace q326 := eq_true q326
                          have hcz63_0 : wc.cell? ⟨gb321, 0, none⟩ = some (.int .i64 ((rd_T88 l0 ((rd_T34 l1 x6_2).f0)).f0)) := (blk_cell BK321.out 0).trans rfl
                          have hcz63_1 : wc.cell? ⟨gb321, 1, none⟩ = some (.int .i64 ((rd_T88 l0 ((rd_T34 l1 x6_2).f0)).f1)) := (blk_cell BK321.out 1).trans rfl
                          have hcz63_2 : wc.cell? ⟨gb321, 2, none⟩ = some (.int .i64 ((rd_T88 l0 ((rd_T34 l1 x6_2).f0)).f2)) := (blk_cell BK321.out 2).trans rfl
                          have hfz63_0 := blk_frozen BK321.out 0
                          have hfz63_1 := blk_frozen BK321.out 1
                          have hfz63_2 := blk_frozen BK321.out 2
                          have p60 : 0 ≤ (((rd_T34 l1 x6_2).f0) : Int) := of_decide_eq_true (by first | (with_reducible assumption) | assumption)
                          have q60 : (((rd_T34 l1 x6_2).f0) : Int) < ((x5_2.length : Int) : Int) := of_decide_eq_true (by first | (with_reducible assumption) | assumption)
                          obtain ⟨go60, co60, eo60, gb60, gl60, cl60, HG60⟩ := Kd.R_form HO_5.out (by omega)
                          (first | cases eo60 | (injection eo60 with ea_ en_ ec_; (first | subst ea_ | (injection ea_ with ea_; subst ea_)); subst ec_; clear en_))
                          have GB60 := Aside0.mk gb60
                          have GG60 := Aside0.mk HG60
                          clear gb60 gl60 HG60
                          obtain ⟨hx60_0, hf60_0⟩ := Kd.R_celln 0 HO_5.out (((rd_T34 l1 x6_2).f0) : Int) p60 q60
                          replace p60 := eq_true p60
                          replace q60 := eq_true q60
                          have HP64 := Kd.R_putg HO_5.out (((rd_T34 l1 x6_2).f0) : Int) (wrap64 (((rd_T34 l1 x6_2).f1) + ((rd_T88 l0 ((rd_T34 l1 x6_2).f0)).f2)))
                          go_wp2_with (first | ((with_reducible refine gate_store (t := 3) (p := 117) rfl ?_); (try (rw [drewN_self wc]; generalize hq_ : World.drewN wc _ = wc; have n0_ := Aside0.mk (Kd.R_at hq_ HO_5.out); have n1_ := Aside0.mk (blk_at hq_ BK317.out); have n2_ := Aside0.mk (blk_at hq_ BK321.out); have n3_ := Aside0.mk (below_at hq_ HB.out); clear hq_ HO_5 BK317 BK321 HB; have HO_5 := n0_; have BK317 := n1_; have BK321 := n2_; have HB := n3_; clear n0_ n1_ n2_ n3_; (try (have HP64 := Kd.R_putg HO_5.out (((rd_T34 l1 x6_2).f0) : Int) (wrap64 (((rd_T34 l1 x6_2).f1) + ((rd_T88 l0 ((rd_T34 l1 x6_2).f0)).f2))))))); refine store_event (t := 3) (p := 117) (v := ?vo_w65) (w1 := (wc.setCell ⟨go60, (((rd_T34 l1 x6_2).f0) : Int).toNat, none⟩ (.int .i64 (wrap64 (((rd_T34 l1 x6_2).f1) + ((rd_T88 l0 ((rd_T34 l1 x6_2).f0)).f2)))))) ?hg ?ho ?hn ?hr ?_; (case ho => rfl); (case hg => rfl); (case hn => rfl); (case hr => first | (go_simp; done) | (go_simp; rfl)); intro w65 hw; have hg : wc.grownBy w65 (some go60) := (by rw [hw]; exact HP64.2); have hp_ : Kd.R (Kd.int .i64) 3 w65 w.heap.size (fun _ => True) (.slice (some ⟨go60, 0, none⟩) x5_2.length co60) y327 := (by rw [hw, Ny327.out]; exact HP64.1); clear HP64; have n0_ := Aside0.mk (hp_); have n1_ := Aside0.mk (blk_grown (g := gb317) (o := .cells #[.int .i64 ((rd_T34 l1 x6_2).f0), .int .i64 ((rd_T34 l1 x6_2).f1), .int .i64 ((rd_T34 l1 x6_2).f2), .int .i64 ((rd_T34 l1 x6_2).f3)] 34 (0, 0)) (by (with_reducible repeat (first | refine blk_drewN ?_ _ | refine blk_drew ?_ | refine blk_alloc ?_ _)); exact BK317.out) hg (Kd.R_ne HO_5.out BK317.out (by decide))); have n2_ := Aside0.mk (blk_grown (g := gb321) (o := .cells #[.int .i64 ((rd_T88 l0 ((rd_T34 l1 x6_2).f0)).f0), .int .i64 ((rd_T88 l0 ((rd_T34 l1 x6_2).f0)).f1), .int .i64 ((rd_T88 l0 ((rd_T34 l1 x6_2).f0)).f2)] 88 (0, 0)) (by (with_reducible repeat (first | refine blk_drewN ?_ _ | refine blk_drew ?_ | refine blk_alloc ?_ _)); exact BK321.out) hg (Kd.R_ne HO_5.out BK321.out (by decide))); have n3_ := Aside0.mk ((by rw [hw]; exact below_set (HB.out) GB60.out : Below w.heap.size w w65)); clear HO_5; clear BK317; clear BK321; clear HB; have HO_5 := n0_; have BK317 := n1_; have BK321 := n2_; have HB := n3_; clear n0_ n1_ n2_ n3_; clear hg hw hp_))
                          repeat (go_quiet (first | ((with_reducible refine gate_store (t := 3) (p := 117) rfl ?_); (try (rw [drewN_self wc]; generalize hq_ : World.drewN wc _ = wc; have n0_ := Aside0.mk (Kd.R_at hq_ HO_5.out); have n1_ := Aside0.mk (blk_at hq_ BK317.out); have n2_ := Aside0.mk (blk_at hq_ BK321.out); have n3_ := Aside0.mk (below_at hq_ HB.out); clear hq_ HO_5 BK317 BK321 HB; have HO_5 := n0_; have BK317 := n1_; have BK321 := n2_; have HB := n3_; clear n0_ n1_ n2_ n3_; (try (have HP64 := Kd.R_putg HO_5.out (((rd_T34 l1 x6_2).f0) : Int) (wrap64 (((rd_T34 l1 x6_2).f1) + ((rd_T88 l0 ((rd_T34 l1 x6_2).f0)).f2))))))); refine store_event (t := 3) (p := 117) (v := ?vo_w65) (w1 := (wc.setCell ⟨go60, (((rd_T34 l1 x6_2).f0) : Int).toNat, none⟩ (.int .i64 (wrap64 (((rd_T34 l1 x6_2).f1) + ((rd_T88 l0 ((rd_T34 l1 x6_2).f0)).f2)))))) ?hg ?ho ?hn ?hr ?_; (case ho => rfl); (case hg => rfl); (case hn => rfl); (case hr => first | (go_simp; done) | (go_simp; rfl)); intro w65 hw; have hg : wc.grownBy w65 (some go60) := (by rw [hw]; exact HP64.2); have hp_ : Kd.R (Kd.int .i64) 3 w65 w.heap.size (fun _ => True) (.slice (some ⟨go60, 0, none⟩) x5_2.length co60) y327 := (by rw [hw, Ny327.out]; exact HP64.1); clear HP64; have n0_ := Aside0.mk (hp_); have n1_ := Aside0.mk (blk_grown (g := gb317) (o := .cells #[.int .i64 ((rd_T34 l1 x6_2).f0), .int .i64 ((rd_T34 l1 x6_2).f1), .int .i64 ((rd_T34 l1 x6_2).f2), .int .i64 ((rd_T34 l1 x6_2).f3)] 34 (0, 0)) (by (with_reducible repeat (first | refine blk_drewN ?_ _ | refine blk_drew ?_ | refine blk_alloc ?_ _)); exact BK317.out) hg (Kd.R_ne HO_5.out BK317.out (by decide))); have n2_ := Aside0.mk (blk_grown (g := gb321) (o := .cells #[.int .i64 ((rd_T88 l0 ((rd_T34 l1 x6_2).f0)).f0), .int .i64 ((rd_T88 l0 ((rd_T34 l1 x6_2).f0)).f1), .int .i64 ((rd_T88 l0 ((rd_T34 l1 x6_2).f0)).f2)] 88 (0, 0)) (by (with_reducible repeat (first | refine blk_drewN ?_ _ | refine blk_drew ?_ | refine blk_alloc ?_ _)); exact BK321.out) hg (Kd.R_ne HO_5.out BK321.out (by decide))); have n3_ := Aside0.mk ((by rw [hw]; exact below_set (HB.out) GB60.out : Below w.heap.size w w65)); clear HO_5; clear BK317; clear BK321; clear HB; have HO_5 := n0_; have BK317 := n1_; have BK321 := n2_; have HB := n3_; clear n0_ n1_ n2_ n3_; clear hg hw hp_)); try go_wp2_with (first | ((with_reducible refine gate_store (t := 3) (p := 117) rfl ?_); (try (rw [drewN_self wc]; generalize hq_ : World.drewN wc _ = wc; have n0_ := Aside0.mk (Kd.R_at hq_ HO_5.out); have n1_ := Aside0.mk (blk_at hq_ BK317.out); have n2_ := Aside0.mk (blk_at hq_ BK321.out); have n3_ := Aside0.mk (below_at hq_ HB.out); clear hq_ HO_5 BK317 BK321 HB; have HO_5 := n0_; have BK317 := n1_; have BK321 := n2_; have HB := n3_; clear n0_ n1_ n2_ n3_; (try (have HP64 := Kd.R_putg HO_5.out (((rd_T34 l1 x6_2).f0) : Int) (wrap64 (((rd_T34 l1 x6_2).f1) + ((rd_T88 l0 ((rd_T34 l1 x6_2).f0)).f2))))))); refine store_event (t := 3) (p := 117) (v := ?vo_w65) (w1 := (wc.setCell ⟨go60, (((rd_T34 l1 x6_2).f0) : Int).toNat, none⟩ (.int .i64 (wrap64 (((rd_T34 l1 x6_2).f1) + ((rd_T88 l0 ((rd_T34 l1 x6_2).f0)).f2)))))) ?hg ?ho ?hn ?hr ?_; (case ho => rfl); (case hg => rfl); (case hn => rfl); (case hr => first | (go_simp; done) | (go_simp; rfl)); intro w65 hw; have hg : wc.grownBy w65 (some go60) := (by rw [hw]; exact HP64.2); have hp_ : Kd.R (Kd.int .i64) 3 w65 w.heap.size (fun _ => True) (.slice (some ⟨go60, 0, none⟩) x5_2.length co60) y327 := (by rw [hw, Ny327.out]; exact HP64.1); clear HP64; have n0_ := Aside0.mk (hp_); have n1_ := Aside0.mk (blk_grown (g := gb317) (o := .cells #[.int .i64 ((rd_T34 l1 x6_2).f0), .int .i64 ((rd_T34 l1 x6_2).f1), .int .i64 ((rd_T34 l1 x6_2).f2), .int .i64 ((rd_T34 l1 x6_2).f3)] 34 (0, 0)) (by (with_reducible repeat (first | refine blk_drewN ?_ _ | refine blk_drew ?_ | refine blk_alloc ?_ _)); exact BK317.out) hg (Kd.R_ne HO_5.out BK317.out (by decide))); have n2_ := Aside0.mk (blk_grown (g := gb321) (o := .cells #[.int .i64 ((rd_T88 l0 ((rd_T34 l1 x6_2).f0)).f0), .int .i64 ((rd_T88 l0 ((rd_T34 l1 x6_2).f0)).f1), .int .i64 ((rd_T88 l0 ((rd_T34 l1 x6_2).f0)).f2)] 88 (0, 0)) (by (with_reducible repeat (first | refine blk_drewN ?_ _ | refine blk_drew ?_ | refine blk_alloc ?_ _)); exact BK321.out) hg (Kd.R_ne HO_5.out BK321.out (by decide))); have n3_ := Aside0.mk ((by rw [hw]; exact below_set (HB.out) GB60.out : Below w.heap.size w w65)); clear HO_5; clear BK317; clear BK321; clear HB; have HO_5 := n0_; have BK317 := n1_; have BK321 := n2_; have HB := n3_; clear n0_ n1_ n2_ n3_; clear hg hw hp_)))
                          go_roundg kj25
                          case measure => have := HJ2.out; have := HK2.out; have := HJ14.out; have := HJ25.out; omega
                          case rel => exact ⟨(y327), (wrap64 (x6_2 + 1)), (by first | rfl | (simp; done) | (simp [*]; done)), H', ⟨by have := HJ2.out; have := HK2.out; have := HJ14.out; have := HJ25.out; omega⟩, ⟨by first | ((with_reducible repeat (first | apply Kd.R_alloc | apply Kd.R_drewN | apply Kd.R_drew)); exact HO_5.out) | (rw [Ny327.out]; exact (Kd.R_putg (Kd.R_drewN HO_5.out _) _ _).1) | (rw [Ny327.out]; exact (Kd.R_putg HO_5.out _ _).1)⟩, ⟨by first | exact below_set (pw_below_drewN HB.out _) GB60.out | exact below_set HB.out GB60.out | (repeat (first | (with_reducible first | exact HB.out | apply below_alloc | apply pw_below_drewN | apply below_drew1 | refine below_set ?_ GE317.out | refine below_set ?_ GE321.out) | exact HB.out))⟩⟩
                         ·rw [if_neg c59] at H
                          exact absurd H (by simp)
                        ·rw [if_neg c58] at H
                         exact absurd H (by simp)
                      ·rw [if_neg c54] at H
                       have c54b0 : (((rd_T34 l1 (ji48)).f1) == ((rd_T34 l1 x6_2).f1)) = false := beq_eq_false_iff_ne.mpr c54
                       have c54b1 : (((rd_T34 l1 (ji48)).f1) != ((rd_T34 l1 x6_2).f1)) = true := bne_iff_ne.mpr c54
                       by_cases c66 : 0 ≤ ((rd_T34 l1 x6_2).f0)
                       ·rw [if_pos c66] at H
                        have c66b0 : decide (0 ≤ ((rd_T34 l1 x6_2).f0)) = true := decide_eq_true c66
                        clear c66
                        by_cases c67 : ((rd_T34 l1 x6_2).f0) < (x5_2.length : Int)
                        ·rw [if_pos c67] at H
                         have c67b0 : decide (((rd_T34 l1 x6_2).f0) < (x5_2.length : Int)) = true := decide_eq_true c67
                         clear c67
                         obtain ⟨y328, hy328⟩ : ∃ y_ : List Int, y_ = (x5_2.set (((rd_T34 l1 x6_2).f0) : Int).toNat (wrap64 (((rd_T34 l1 x6_2).f1) + ((rd_T88 l0 ((rd_T34 l1 x6_2).f0)).f2)))) := ⟨_, rfl⟩
                         replace H : (spec_JobsLegal.l0 kj25 l0 l1 y328 (wrap64 (x6_2 + 1))) = some r := by first | (rw [hy328]; with_reducible exact H) | (have H2_ := (Option.bind_some _ _).symm.trans H; rw [hy328]; with_reducible exact H2_) | (have H2_ := (Option.bind_some _ _).symm.trans H; with_reducible exact H2_) | with_reducible exact H | (rw [hy328]; exact H) | exact H
                         have Ny328 := Aside0.mk hy328
                         clear hy328
                         have H' := Aside0.mk H
                         clear H
                         have p324 : 0 ≤ ((ji48) : Int) := of_decide_eq_true (by first | (with_reducible assumption) | assumption)
                         have q324 : (ji48) < (l1.length : Int) := of_decide_eq_true (by first | (with_reducible assumption) | assumption)
                         obtain ⟨ad324, e324, hx324_0, hx324_1, hx324_2, hx324_3⟩ := at_T34 HR1.out (ji48) p324 q324
                         obtain rfl : ad316 = ad324 := (by injection e324)
                         replace hx324_0 := (HB.out.cell (World.block_lt_of_cell? w _ hx324_0)).trans hx324_0
                         replace hx324_1 := (HB.out.cell (World.block_lt_of_cell? w _ hx324_1)).trans hx324_1
                         replace hx324_2 := (HB.out.cell (World.block_lt_of_cell? w _ hx324_2)).trans hx324_2
                         replace hx324_3 := (HB.out.cell (World.block_lt_of_cell? w _ hx324_3)).trans hx324_3
                         replace p324 := eq_true p324
                         replace q324 := eq_true q324
                         have hnb69 := NB317_321.out
                         have hnc69 := NB321_317.out
                         have hcz70_0 : wc.cell? ⟨gb317, 0, none⟩ = some (.int .i64 ((rd_T34 l1 x6_2).f0)) := (blk_cell BK317.out 0).trans rfl
                         have hcz70_1 : wc.cell? ⟨gb317, 1, none⟩ = some (.int .i64 ((rd_T34 l1 x6_2).f1)) := (blk_cell BK317.out 1).trans rfl
                         have hcz70_2 : wc.cell? ⟨gb317, 2, none⟩ = some (.int .i64 ((rd_T34 l1 x6_2).f2)) := (blk_cell BK317.out 2).trans rfl
                         have hcz70_3 : wc.cell? ⟨gb317, 3, none⟩ = some (.int .i64 ((rd_T34 l1 x6_2).f3)) := (blk_cell BK317.out 3).trans rfl
                         have hfz70_0 := blk_frozen BK317.out 0
                         have hfz70_1 := blk_frozen BK317.out 1
                         have hfz70_2 := blk_frozen BK317.out 2
                         have hfz70_3 := blk_frozen BK317.out 3
                         have p325 : 0 ≤ ((ji48) : Int) := of_decide_eq_true (by first | (with_reducible assumption) | assumption)
                         have q325 : (ji48) < (l1.length : Int) := of_decide_eq_true (by first | (with_reducible assumption) | assumption)
                         obtain ⟨ad325, e325, hx325_0, hx325_1, hx325_2, hx325_3⟩ := at_T34 HR1.out (ji48) p325 q325
                         obtain rfl : ad316 = ad325 := (by injection e325)
                         replace hx325_0 := (HB.out.cell (World.block_lt_of_cell? w _ hx325_0)).trans hx325_0
                         replace hx325_1 := (HB.out.cell (World.block_lt_of_cell? w _ hx325_1)).trans hx325_1
                         replace hx325_2 := (HB.out.cell (World.block_lt_of_cell? w _ hx325_2)).trans hx325_2
                         replace hx325_3 := (HB.out.cell (World.block_lt_of_cell? w _ hx325_3)).trans hx325_3
                         replace p325 := eq_true p325
                         replace q325 := eq_true q325
                         have hcz71_0 : wc.cell? ⟨gb321, 0, none⟩ = some (.int .i64 ((rd_T88 l0 ((rd_T34 l1 x6_2).f0)).f0)) := (blk_cell BK321.out 0).trans rfl
                         have hcz71_1 : wc.cell? ⟨gb321, 1, none⟩ = some (.int .i64 ((rd_T88 l0 ((rd_T34 l1 x6_2).f0)).f1)) := (blk_cell BK321.out 1).trans rfl
                         have hcz71_2 : wc.cell? ⟨gb321, 2, none⟩ = some (.int .i64 ((rd_T88 l0 ((rd_T34 l1 x6_2).f0)).f2)) := (blk_cell BK321.out 2).trans rfl
                         have hfz71_0 := blk_frozen BK321.out 0
                         have hfz71_1 := blk_frozen BK321.out 1
                         have hfz71_2 := blk_frozen BK321.out 2
                         have p68 : 0 ≤ (((rd_T34 l1 x6_2).f0) : Int) := of_decide_eq_true (by first | (with_reducible assumption) | assumption)
                         have q68 : (((rd_T34 l1 x6_2).f0) : Int) < ((x5_2.length : Int) : Int) := of_decide_eq_true (by first | (with_reducible assumption) | assumption)
                         obtain ⟨go68, co68, eo68, gb68, gl68, cl68, HG68⟩ := Kd.R_form HO_5.out (by omega)
                         (first | cases eo68 | (injection eo68 with ea_ en_ ec_; (first | subst ea_ | (injection ea_ with ea_; subst ea_)); subst ec_; clear en_))
                         have GB68 := Aside0.mk gb68
                         have GG68 := Aside0.mk HG68
                         clear gb68 gl68 HG68
                         obtain ⟨hx68_0, hf68_0⟩ := Kd.R_celln 0 HO_5.out (((rd_T34 l1 x6_2).f0) : Int) p68 q68
                         replace p68 := eq_true p68
                         replace q68 := eq_true q68
                         have HP72 := Kd.R_putg HO_5.out (((rd_T34 l1 x6_2).f0) : Int) (wrap64 (((rd_T34 l1 x6_2).f1) + ((rd_T88 l0 ((rd_T34 l1 x6_2).f0)).f2)))
                         go_wp2_with (first | ((with_reducible refine gate_store (t := 3) (p := 117) rfl ?_); (try (rw [drewN_self wc]; generalize hq_ : World.drewN wc _ = wc; have n0_ := Aside0.mk (Kd.R_at hq_ HO_5.out); have n1_ := Aside0.mk (blk_at hq_ BK317.out); have n2_ := Aside0.mk (blk_at hq_ BK321.out); have n3_ := Aside0.mk (below_at hq_ HB.out); clear hq_ HO_5 BK317 BK321 HB; have HO_5 := n0_; have BK317 := n1_; have BK321 := n2_; have HB := n3_; clear n0_ n1_ n2_ n3_; (try (have HP72 := Kd.R_putg HO_5.out (((rd_T34 l1 x6_2).f0) : Int) (wrap64 (((rd_T34 l1 x6_2).f1) + ((rd_T88 l0 ((rd_T34 l1 x6_2).f0)).f2))))))); refine store_event (t := 3) (p := 117) (v := ?vo_w73) (w1 := (wc.setCell ⟨go68, (((rd_T34 l1 x6_2).f0) : Int).toNat, none⟩ (.int .i64 (wrap64 (((rd_T34 l1 x6_2).f1) + ((rd_T88 l0 ((rd_T34 l1 x6_2).f0)).f2)))))) ?hg ?ho ?hn ?hr ?_; (case ho => rfl); (case hg => rfl); (case hn => rfl); (case hr => first | (go_simp; done) | (go_simp; rfl)); intro w73 hw; have hg : wc.grownBy w73 (some go68) := (by rw [hw]; exact HP72.2); have hp_ : Kd.R (Kd.int .i64) 3 w73 w.heap.size (fun _ => True) (.slice (some ⟨go68, 0, none⟩) x5_2.length co68) y328 := (by rw [hw, Ny328.out]; exact HP72.1); clear HP72; have n0_ := Aside0.mk (hp_); have n1_ := Aside0.mk (blk_grown (g := gb317) (o := .cells #[.int .i64 ((rd_T34 l1 x6_2).f0), .int .i64 ((rd_T34 l1 x6_2).f1), .int .i64 ((rd_T34 l1 x6_2).f2), .int .i64 ((rd_T34 l1 x6_2).f3)] 34 (0, 0)) (by (with_reducible repeat (first | refine blk_drewN ?_ _ | refine blk_drew ?_ | refine blk_alloc ?_ _)); exact BK317.out) hg (Kd.R_ne HO_5.out BK317.out (by decide))); have n2_ := Aside0.mk (blk_grown (g := gb321) (o := .cells #[.int .i64 ((rd_T88 l0 ((rd_T34 l1 x6_2).f0)).f0), .int .i64 ((rd_T88 l0 ((rd_T34 l1 x6_2).f0)).f1), .int .i64 ((rd_T88 l0 ((rd_T34 l1 x6_2).f0)).f2)] 88 (0, 0)) (by (with_reducible repeat (first | refine blk_drewN ?_ _ | refine blk_drew ?_ | refine blk_alloc ?_ _)); exact BK321.out) hg (Kd.R_ne HO_5.out BK321.out (by decide))); have n3_ := Aside0.mk ((by rw [hw]; exact below_set (HB.out) GB68.out : Below w.heap.size w w73)); clear HO_5; clear BK317; clear BK321; clear HB; have HO_5 := n0_; have BK317 := n1_; have BK321 := n2_; have HB := n3_; clear n0_ n1_ n2_ n3_; clear hg hw hp_))
                         repeat (go_quiet (first | ((with_reducible refine gate_store (t := 3) (p := 117) rfl ?_); (try (rw [drewN_self wc]; generalize hq_ : World.drewN wc _ = wc; have n0_ := Aside0.mk (Kd.R_at hq_ HO_5.out); have n1_ := Aside0.mk (blk_at hq_ BK317.out); have n2_ := Aside0.mk (blk_at hq_ BK321.out); have n3_ := Aside0.mk (below_at hq_ HB.out); clear hq_ HO_5 BK317 BK321 HB; have HO_5 := n0_; have BK317 := n1_; have BK321 := n2_; have HB := n3_; clear n0_ n1_ n2_ n3_; (try (have HP72 := Kd.R_putg HO_5.out (((rd_T34 l1 x6_2).f0) : Int) (wrap64 (((rd_T34 l1 x6_2).f1) + ((rd_T88 l0 ((rd_T34 l1 x6_2).f0)).f2))))))); refine store_event (t := 3) (p := 117) (v := ?vo_w73) (w1 := (wc.setCell ⟨go68, (((rd_T34 l1 x6_2).f0) : Int).toNat, none⟩ (.int .i64 (wrap64 (((rd_T34 l1 x6_2).f1) + ((rd_T88 l0 ((rd_T34 l1 x6_2).f0)).f2)))))) ?hg ?ho ?hn ?hr ?_; (case ho => rfl); (case hg => rfl); (case hn => rfl); (case hr => first | (go_simp; done) | (go_simp; rfl)); intro w73 hw; have hg : wc.grownBy w73 (some go68) := (by rw [hw]; exact HP72.2); have hp_ : Kd.R (Kd.int .i64) 3 w73 w.heap.size (fun _ => True) (.slice (some ⟨go68, 0, none⟩) x5_2.length co68) y328 := (by rw [hw, Ny328.out]; exact HP72.1); clear HP72; have n0_ := Aside0.mk (hp_); have n1_ := Aside0.mk (blk_grown (g := gb317) (o := .cells #[.int .i64 ((rd_T34 l1 x6_2).f0), .int .i64 ((rd_T34 l1 x6_2).f1), .int .i64 ((rd_T34 l1 x6_2).f2), .int .i64 ((rd_T34 l1 x6_2).f3)] 34 (0, 0)) (by (with_reducible repeat (first | refine blk_drewN ?_ _ | refine blk_drew ?_ | refine blk_alloc ?_ _)); exact BK317.out) hg (Kd.R_ne HO_5.out BK317.out (by decide))); have n2_ := Aside0.mk (blk_grown (g := gb321) (o := .cells #[.int .i64 ((rd_T88 l0 ((rd_T34 l1 x6_2).f0)).f0), .int .i64 ((rd_T88 l0 ((rd_T34 l1 x6_2).f0)).f1), .int .i64 ((rd_T88 l0 ((rd_T34 l1 x6_2).f0)).f2)] 88 (0, 0)) (by (with_reducible repeat (first | refine blk_drewN ?_ _ | refine blk_drew ?_ | refine blk_alloc ?_ _)); exact BK321.out) hg (Kd.R_ne HO_5.out BK321.out (by decide))); have n3_ := Aside0.mk ((by rw [hw]; exact below_set (HB.out) GB68.out : Below w.heap.size w w73)); clear HO_5; clear BK317; clear BK321; clear HB; have HO_5 := n0_; have BK317 := n1_; have BK321 := n2_; have HB := n3_; clear n0_ n1_ n2_ n3_; clear hg hw hp_)); try go_wp2_with (first | ((with_reducible refine gate_store (t := 3) (p := 117) rfl ?_); (try (rw [drewN_self wc]; generalize hq_ : World.drewN wc _ = wc; have n0_ := Aside0.mk (Kd.R_at hq_ HO_5.out); have n1_ := Aside0.mk (blk_at hq_ BK317.out); have n2_ := Aside0.mk (blk_at hq_ BK321.out); have n3_ := Aside0.mk (below_at hq_ HB.out); clear hq_ HO_5 BK317 BK321 HB; have HO_5 := n0_; have BK317 := n1_; have BK321 := n2_; have HB := n3_; clear n0_ n1_ n2_ n3_; (try (have HP72 := Kd.R_putg HO_5.out (((rd_T34 l1 x6_2).f0) : Int) (wrap64 (((rd_T34 l1 x6_2).f1) + ((rd_T88 l0 ((rd_T34 l1 x6_2).f0)).f2))))))); refine store_event (t := 3) (p := 117) (v := ?vo_w73) (w1 := (wc.setCell ⟨go68, (((rd_T34 l1 x6_2).f0) : Int).toNat, none⟩ (.int .i64 (wrap64 (((rd_T34 l1 x6_2).f1) + ((rd_T88 l0 ((rd_T34 l1 x6_2).f0)).f2)))))) ?hg ?ho ?hn ?hr ?_; (case ho => rfl); (case hg => rfl); (case hn => rfl); (case hr => first | (go_simp; done) | (go_simp; rfl)); intro w73 hw; have hg : wc.grownBy w73 (some go68) := (by rw [hw]; exact HP72.2); have hp_ : Kd.R (Kd.int .i64) 3 w73 w.heap.size (fun _ => True) (.slice (some ⟨go68, 0, none⟩) x5_2.length co68) y328 := (by rw [hw, Ny328.out]; exact HP72.1); clear HP72; have n0_ := Aside0.mk (hp_); have n1_ := Aside0.mk (blk_grown (g := gb317) (o := .cells #[.int .i64 ((rd_T34 l1 x6_2).f0), .int .i64 ((rd_T34 l1 x6_2).f1), .int .i64 ((rd_T34 l1 x6_2).f2), .int .i64 ((rd_T34 l1 x6_2).f3)] 34 (0, 0)) (by (with_reducible repeat (first | refine blk_drewN ?_ _ | refine blk_drew ?_ | refine blk_alloc ?_ _)); exact BK317.out) hg (Kd.R_ne HO_5.out BK317.out (by decide))); have n2_ := Aside0.mk (blk_grown (g := gb321) (o := .cells #[.int .i64 ((rd_T88 l0 ((rd_T34 l1 x6_2).f0)).f0), .int .i64 ((rd_T88 l0 ((rd_T34 l1 x6_2).f0)).f1), .int .i64 ((rd_T88 l0 ((rd_T34 l1 x6_2).f0)).f2)] 88 (0, 0)) (by (with_reducible repeat (first | refine blk_drewN ?_ _ | refine blk_drew ?_ | refine blk_alloc ?_ _)); exact BK321.out) hg (Kd.R_ne HO_5.out BK321.out (by decide))); have n3_ := Aside0.mk ((by rw [hw]; exact below_set (HB.out) GB68.out : Below w.heap.size w w73)); clear HO_5; clear BK317; clear BK321; clear HB; have HO_5 := n0_; have BK317 := n1_; have BK321 := n2_; have HB := n3_; clear n0_ n1_ n2_ n3_; clear hg hw hp_)))
                         go_roundg kj25
                         case measure => have := HJ2.out; have := HK2.out; have := HJ14.out; have := HJ25.out; omega
                         case rel => exact ⟨(y328), (wrap64 (x6_2 + 1)), (by first | rfl | (simp; done) | (simp [*]; done)), H', ⟨by have := HJ2.out; have := HK2.out; have := HJ14.out; have := HJ25.out; omega⟩, ⟨by first | ((with_reducible repeat (first | apply Kd.R_alloc | apply Kd.R_drewN | apply Kd.R_drew)); exact HO_5.out) | (rw [Ny328.out]; exact (Kd.R_putg (Kd.R_drewN HO_5.out _) _ _).1) | (rw [Ny328.out]; exact (Kd.R_putg HO_5.out _ _).1)⟩, ⟨by first | exact below_set (pw_below_drewN HB.out _) GB68.out | exact below_set HB.out GB68.out | (repeat (first | (with_reducible first | exact HB.out | apply below_alloc | apply pw_below_drewN | apply below_drew1 | refine below_set ?_ GE317.out | refine below_set ?_ GE321.out) | exact HB.out))⟩⟩
                        ·rw [if_neg c67] at H
                         exact absurd H (by simp)
                       ·rw [if_neg c66] at H
                        exact absurd H (by simp)
                    ·rw [if_neg c50] at H
                     exact absurd H (by simp)
                   ·rw [if_neg c49] at H
                    exact absurd H (by simp)
                  ·rw [if_neg c47] at H
                   have c47b0 : decide (0 < x6_2) = false := decide_eq_false c47
                   clear c47
                   by_cases c74 : 0 ≤ ((rd_T34 l1 x6_2).f0)
                   ·rw [if_pos c74] at H
                    have c74b0 : decide (0 ≤ ((rd_T34 l1 x6_2).f0)) = true := decide_eq_true c74
                    clear c74
                    by_cases c75 : ((rd_T34 l1 x6_2).f0) < (x5_2.length : Int)
                    ·rw [if_pos c75] at H
                     have c75b0 : decide (((rd_T34 l1 x6_2).f0) < (x5_2.length : Int)) = true := decide_eq_true c75
                     clear c75
                     obtain ⟨y329, hy329⟩ : ∃ y_ : List Int, y_ = (x5_2.set (((rd_T34 l1 x6_2).f0) : Int).toNat (wrap64 (((rd_T34 l1 x6_2).f1) + ((rd_T88 l0 ((rd_T34 l1 x6_2).f0)).f2)))) := ⟨_, rfl⟩
                     replace H : (spec_JobsLegal.l0 kj25 l0 l1 y329 (wrap64 (x6_2 + 1))) = some r := by first | (rw [hy329]; with_reducible exact H) | (have H2_ := (Option.bind_some _ _).symm.trans H; rw [hy329]; with_reducible exact H2_) | (have H2_ := (Option.bind_some _ _).symm.trans H; with_reducible exact H2_) | with_reducible exact H | (rw [hy329]; exact H) | exact H
                     have Ny329 := Aside0.mk hy329
                     clear hy329
                     have H' := Aside0.mk H
                     clear H
                     have hnb77 := NB317_321.out
                     have hnc77 := NB321_317.out
                     have hcz78_0 : wc.cell? ⟨gb317, 0, none⟩ = some (.int .i64 ((rd_T34 l1 x6_2).f0)) := (blk_cell BK317.out 0).trans rfl
                     have hcz78_1 : wc.cell? ⟨gb317, 1, none⟩ = some (.int .i64 ((rd_T34 l1 x6_2).f1)) := (blk_cell BK317.out 1).trans rfl
                     have hcz78_2 : wc.cell? ⟨gb317, 2, none⟩ = some (.int .i64 ((rd_T34 l1 x6_2).f2)) := (blk_cell BK317.out 2).trans rfl
                     have hcz78_3 : wc.cell? ⟨gb317, 3, none⟩ = some (.int .i64 ((rd_T34 l1 x6_2).f3)) := (blk_cell BK317.out 3).trans rfl
                     have hfz78_0 := blk_frozen BK317.out 0
                     have hfz78_1 := blk_frozen BK317.out 1
                     have hfz78_2 := blk_frozen BK317.out 2
                     have hfz78_3 := blk_frozen BK317.out 3
                     have hcz79_0 : wc.cell? ⟨gb321, 0, none⟩ = some (.int .i64 ((rd_T88 l0 ((rd_T34 l1 x6_2).f0)).f0)) := (blk_cell BK321.out 0).trans rfl
                     have hcz79_1 : wc.cell? ⟨gb321, 1, none⟩ = some (.int .i64 ((rd_T88 l0 ((rd_T34 l1 x6_2).f0)).f1)) := (blk_cell BK321.out 1).trans rfl
                     have hcz79_2 : wc.cell? ⟨gb321, 2, none⟩ = some (.int .i64 ((rd_T88 l0 ((rd_T34 l1 x6_2).f0)).f2)) := (blk_cell BK321.out 2).trans rfl
                     have hfz79_0 := blk_frozen BK321.out 0
                     have hfz79_1 := blk_frozen BK321.out 1
                     have hfz79_2 := blk_frozen BK321.out 2
                     have p76 : 0 ≤ (((rd_T34 l1 x6_2).f0) : Int) := of_decide_eq_true (by first | (with_reducible assumption) | assumption)
                     have q76 : (((rd_T34 l1 x6_2).f0) : Int) < ((x5_2.length : Int) : Int) := of_decide_eq_true (by first | (with_reducible assumption) | assumption)
                     obtain ⟨go76, co76, eo76, gb76, gl76, cl76, HG76⟩ := Kd.R_form HO_5.out (by omega)
                     (first | cases eo76 | (injection eo76 with ea_ en_ ec_; (first | subst ea_ | (injection ea_ with ea_; subst ea_)); subst ec_; clear en_))
                     have GB76 := Aside0.mk gb76
                     have GG76 := Aside0.mk HG76
                     clear gb76 gl76 HG76
                     obtain ⟨hx76_0, hf76_0⟩ := Kd.R_celln 0 HO_5.out (((rd_T34 l1 x6_2).f0) : Int) p76 q76
                     replace p76 := eq_true p76
                     replace q76 := eq_true q76
                     have HP80 := Kd.R_putg HO_5.out (((rd_T34 l1 x6_2).f0) : Int) (wrap64 (((rd_T34 l1 x6_2).f1) + ((rd_T88 l0 ((rd_T34 l1 x6_2).f0)).f2)))
                     go_wp2_with (first | ((with_reducible refine gate_store (t := 3) (p := 117) rfl ?_); (try (rw [drewN_self wc]; generalize hq_ : World.drewN wc _ = wc; have n0_ := Aside0.mk (Kd.R_at hq_ HO_5.out); have n1_ := Aside0.mk (blk_at hq_ BK317.out); have n2_ := Aside0.mk (blk_at hq_ BK321.out); have n3_ := Aside0.mk (below_at hq_ HB.out); clear hq_ HO_5 BK317 BK321 HB; have HO_5 := n0_; have BK317 := n1_; have BK321 := n2_; have HB := n3_; clear n0_ n1_ n2_ n3_; (try (have HP80 := Kd.R_putg HO_5.out (((rd_T34 l1 x6_2).f0) : Int) (wrap64 (((rd_T34 l1 x6_2).f1) + ((rd_T88 l0 ((rd_T34 l1 x6_2).f0)).f2))))))); refine store_event (t := 3) (p := 117) (v := ?vo_w81) (w1 := (wc.setCell ⟨go76, (((rd_T34 l1 x6_2).f0) : Int).toNat, none⟩ (.int .i64 (wrap64 (((rd_T34 l1 x6_2).f1) + ((rd_T88 l0 ((rd_T34 l1 x6_2).f0)).f2)))))) ?hg ?ho ?hn ?hr ?_; (case ho => rfl); (case hg => rfl); (case hn => rfl); (case hr => first | (go_simp; done) | (go_simp; rfl)); intro w81 hw; have hg : wc.grownBy w81 (some go76) := (by rw [hw]; exact HP80.2); have hp_ : Kd.R (Kd.int .i64) 3 w81 w.heap.size (fun _ => True) (.slice (some ⟨go76, 0, none⟩) x5_2.length co76) y329 := (by rw [hw, Ny329.out]; exact HP80.1); clear HP80; have n0_ := Aside0.mk (hp_); have n1_ := Aside0.mk (blk_grown (g := gb317) (o := .cells #[.int .i64 ((rd_T34 l1 x6_2).f0), .int .i64 ((rd_T34 l1 x6_2).f1), .int .i64 ((rd_T34 l1 x6_2).f2), .int .i64 ((rd_T34 l1 x6_2).f3)] 34 (0, 0)) (by (with_reducible repeat (first | refine blk_drewN ?_ _ | refine blk_drew ?_ | refine blk_alloc ?_ _)); exact BK317.out) hg (Kd.R_ne HO_5.out BK317.out (by decide))); have n2_ := Aside0.mk (blk_grown (g := gb321) (o := .cells #[.int .i64 ((rd_T88 l0 ((rd_T34 l1 x6_2).f0)).f0), .int .i64 ((rd_T88 l0 ((rd_T34 l1 x6_2).f0)).f1), .int .i64 ((rd_T88 l0 ((rd_T34 l1 x6_2).f0)).f2)] 88 (0, 0)) (by (with_reducible repeat (first | refine blk_drewN ?_ _ | refine blk_drew ?_ | refine blk_alloc ?_ _)); exact BK321.out) hg (Kd.R_ne HO_5.out BK321.out (by decide))); have n3_ := Aside0.mk ((by rw [hw]; exact below_set (HB.out) GB76.out : Below w.heap.size w w81)); clear HO_5; clear BK317; clear BK321; clear HB; have HO_5 := n0_; have BK317 := n1_; have BK321 := n2_; have HB := n3_; clear n0_ n1_ n2_ n3_; clear hg hw hp_))
                     repeat (go_quiet (first | ((with_reducible refine gate_store (t := 3) (p := 117) rfl ?_); (try (rw [drewN_self wc]; generalize hq_ : World.drewN wc _ = wc; have n0_ := Aside0.mk (Kd.R_at hq_ HO_5.out); have n1_ := Aside0.mk (blk_at hq_ BK317.out); have n2_ := Aside0.mk (blk_at hq_ BK321.out); have n3_ := Aside0.mk (below_at hq_ HB.out); clear hq_ HO_5 BK317 BK321 HB; have HO_5 := n0_; have BK317 := n1_; have BK321 := n2_; have HB := n3_; clear n0_ n1_ n2_ n3_; (try (have HP80 := Kd.R_putg HO_5.out (((rd_T34 l1 x6_2).f0) : Int) (wrap64 (((rd_T34 l1 x6_2).f1) + ((rd_T88 l0 ((rd_T34 l1 x6_2).f0)).f2))))))); refine store_event (t := 3) (p := 117) (v := ?vo_w81) (w1 := (wc.setCell ⟨go76, (((rd_T34 l1 x6_2).f0) : Int).toNat, none⟩ (.int .i64 (wrap64 (((rd_T34 l1 x6_2).f1) + ((rd_T88 l0 ((rd_T34 l1 x6_2).f0)).f2)))))) ?hg ?ho ?hn ?hr ?_; (case ho => rfl); (case hg => rfl); (case hn => rfl); (case hr => first | (go_simp; done) | (go_simp; rfl)); intro w81 hw; have hg : wc.grownBy w81 (some go76) := (by rw [hw]; exact HP80.2); have hp_ : Kd.R (Kd.int .i64) 3 w81 w.heap.size (fun _ => True) (.slice (some ⟨go76, 0, none⟩) x5_2.length co76) y329 := (by rw [hw, Ny329.out]; exact HP80.1); clear HP80; have n0_ := Aside0.mk (hp_); have n1_ := Aside0.mk (blk_grown (g := gb317) (o := .cells #[.int .i64 ((rd_T34 l1 x6_2).f0), .int .i64 ((rd_T34 l1 x6_2).f1), .int .i64 ((rd_T34 l1 x6_2).f2), .int .i64 ((rd_T34 l1 x6_2).f3)] 34 (0, 0)) (by (with_reducible repeat (first | refine blk_drewN ?_ _ | refine blk_drew ?_ | refine blk_alloc ?_ _)); exact BK317.out) hg (Kd.R_ne HO_5.out BK317.out (by decide))); have n2_ := Aside0.mk (blk_grown (g := gb321) (o := .cells #[.int .i64 ((rd_T88 l0 ((rd_T34 l1 x6_2).f0)).f0), .int .i64 ((rd_T88 l0 ((rd_T34 l1 x6_2).f0)).f1), .int .i64 ((rd_T88 l0 ((rd_T34 l1 x6_2).f0)).f2)] 88 (0, 0)) (by (with_reducible repeat (first | refine blk_drewN ?_ _ | refine blk_drew ?_ | refine blk_alloc ?_ _)); exact BK321.out) hg (Kd.R_ne HO_5.out BK321.out (by decide))); have n3_ := Aside0.mk ((by rw [hw]; exact below_set (HB.out) GB76.out : Below w.heap.size w w81)); clear HO_5; clear BK317; clear BK321; clear HB; have HO_5 := n0_; have BK317 := n1_; have BK321 := n2_; have HB := n3_; clear n0_ n1_ n2_ n3_; clear hg hw hp_)); try go_wp2_with (first | ((with_reducible refine gate_store (t := 3) (p := 117) rfl ?_); (try (rw [drewN_self wc]; generalize hq_ : World.drewN wc _ = wc; have n0_ := Aside0.mk (Kd.R_at hq_ HO_5.out); have n1_ := Aside0.mk (blk_at hq_ BK317.out); have n2_ := Aside0.mk (blk_at hq_ BK321.out); have n3_ := Aside0.mk (below_at hq_ HB.out); clear hq_ HO_5 BK317 BK321 HB; have HO_5 := n0_; have BK317 := n1_; have BK321 := n2_; have HB := n3_; clear n0_ n1_ n2_ n3_; (try (have HP80 := Kd.R_putg HO_5.out (((rd_T34 l1 x6_2).f0) : Int) (wrap64 (((rd_T34 l1 x6_2).f1) + ((rd_T88 l0 ((rd_T34 l1 x6_2).f0)).f2))))))); refine store_event (t := 3) (p := 117) (v := ?vo_w81) (w1 := (wc.setCell ⟨go76, (((rd_T34 l1 x6_2).f0) : Int).toNat, none⟩ (.int .i64 (wrap64 (((rd_T34 l1 x6_2).f1) + ((rd_T88 l0 ((rd_T34 l1 x6_2).f0)).f2)))))) ?hg ?ho ?hn ?hr ?_; (case ho => rfl); (case hg => rfl); (case hn => rfl); (case hr => first | (go_simp; done) | (go_simp; rfl)); intro w81 hw; have hg : wc.grownBy w81 (some go76) := (by rw [hw]; exact HP80.2); have hp_ : Kd.R (Kd.int .i64) 3 w81 w.heap.size (fun _ => True) (.slice (some ⟨go76, 0, none⟩) x5_2.length co76) y329 := (by rw [hw, Ny329.out]; exact HP80.1); clear HP80; have n0_ := Aside0.mk (hp_); have n1_ := Aside0.mk (blk_grown (g := gb317) (o := .cells #[.int .i64 ((rd_T34 l1 x6_2).f0), .int .i64 ((rd_T34 l1 x6_2).f1), .int .i64 ((rd_T34 l1 x6_2).f2), .int .i64 ((rd_T34 l1 x6_2).f3)] 34 (0, 0)) (by (with_reducible repeat (first | refine blk_drewN ?_ _ | refine blk_drew ?_ | refine blk_alloc ?_ _)); exact BK317.out) hg (Kd.R_ne HO_5.out BK317.out (by decide))); have n2_ := Aside0.mk (blk_grown (g := gb321) (o := .cells #[.int .i64 ((rd_T88 l0 ((rd_T34 l1 x6_2).f0)).f0), .int .i64 ((rd_T88 l0 ((rd_T34 l1 x6_2).f0)).f1), .int .i64 ((rd_T88 l0 ((rd_T34 l1 x6_2).f0)).f2)] 88 (0, 0)) (by (with_reducible repeat (first | refine blk_drewN ?_ _ | refine blk_drew ?_ | refine blk_alloc ?_ _)); exact BK321.out) hg (Kd.R_ne HO_5.out BK321.out (by decide))); have n3_ := Aside0.mk ((by rw [hw]; exact below_set (HB.out) GB76.out : Below w.heap.size w w81)); clear HO_5; clear BK317; clear BK321; clear HB; have HO_5 := n0_; have BK317 := n1_; have BK321 := n2_; have HB := n3_; clear n0_ n1_ n2_ n3_; clear hg hw hp_)))
                     go_roundg kj25
                     case measure => have := HJ2.out; have := HK2.out; have := HJ14.out; have := HJ25.out; omega
                     case rel => exact ⟨(y329), (wrap64 (x6_2 + 1)), (by first | rfl | (simp; done) | (simp [*]; done)), H', ⟨by have := HJ2.out; have := HK2.out; have := HJ14.out; have := HJ25.out; omega⟩, ⟨by first | ((with_reducible repeat (first | apply Kd.R_alloc | apply Kd.R_drewN | apply Kd.R_drew)); exact HO_5.out) | (rw [Ny329.out]; exact (Kd.R_putg (Kd.R_drewN HO_5.out _) _ _).1) | (rw [Ny329.out]; exact (Kd.R_putg HO_5.out _ _).1)⟩, ⟨by first | exact below_set (pw_below_drewN HB.out _) GB76.out | exact below_set HB.out GB76.out | (repeat (first | (with_reducible first | exact HB.out | apply below_alloc | apply pw_below_drewN | apply below_drew1 | refine below_set ?_ GE317.out | refine below_set ?_ GE321.out) | exact HB.out))⟩⟩
                    ·rw [if_neg c75] at H
                     exact absurd H (by simp)
                   ·rw [if_neg c74] at H
                    exact absurd H (by simp)
              ·rw [if_neg c25] at H
               exact absurd H (by simp)
             ·rw [if_neg c24] at H
              exact absurd H (by simp)
         ·rw [if_neg c14] at H
          exact absurd H (by simp)
        ·rw [if_neg c13] at H
         have c13b0 : decide (x6_2 < (l1.length : Int)) = false := decide_eq_false c13
         clear c13
         obtain rfl := Option.some.inj H
         go_wp2
         repeat (go_quiet (fail); try go_wp2)
         go_ret
         exact ⟨by first | rfl | (simp [errW_none, errW_some] <;> rfl) | (simp [*, errW_none, errW_some] <;> rfl), by repeat (first | (with_reducible first | exact HB.out | apply below_alloc | apply pw_below_drewN | apply below_drew1) | exact HB.out)⟩
     ·rw [if_neg c10] at H
      exact absurd H (by simp)
    ·rw [if_neg c9] at H
     exact absurd H (by simp)

end Go.Proofs.Ytkdfjomhichkoaa.P
-- Laid by a program of this work.
namespace Go.Proofs.Ytkdfjomhichkoaa.P
open Go.RowKit Go.Proofs.YtkdfjomhichkoaaW.PrintWords Go.Proofs.YtkdfjomhichkoaaW.PrintLast Go.Proofs.YtkdfjomhichkoaaW.PrintMore
attribute [local go_sem] max2_int min2_int max_two min_two max_three min_three max_four min_four   -- for this text's walks alone
set_option linter.unusedVariables false
set_option linter.unusedSimpArgs false

/-! ### spec_l3Deadlines: function 57 -/
def spec_l3Deadlines.l0 : Nat → List (S34) → List Int → Int → Option (List Int)
 | 0, _, _, _ => none
 | k + 1, x0, x3, x4 => if x4 < (x0.length : Int) then (if 0 ≤ x4 then (if x3.length < 17592186044416 then (spec_l3Deadlines.l0 k x0 (x3 ++ [(rd_T34 x0 x4).f2]) (wrap64 (x4 + 1))) else (none)) else (none)) else (some x3)
def spec_l3Deadlines.f (k : Nat) (l0 : List (S34)) : Option (List Int) := spec_l3Deadlines.l0 k l0 (([] : List Int)) 0
theorem spec_l3Deadlines.mono_l : ∀ k, (∀ y0 y1 y2, LeO (spec_l3Deadlines.l0 k y0 y1 y2) (spec_l3Deadlines.l0 (k + 1) y0 y1 y2))
 | 0 => fun _ _ _ r h => by simp [spec_l3Deadlines.l0] at h
 | k + 1 => by
  have ih0 := spec_l3Deadlines.mono_l k
  ·intro y0 y1 y2
   unfold spec_l3Deadlines.l0
   repeat' first
   | (with_reducible exact ih0 _ _ _)
   | (with_reducible exact LeO.refl _)
   | (with_reducible exact LeO.none _)
   | (with_reducible refine LeO.ite ?_ ?_)
   | (with_reducible refine LeO.bind ?_ (fun _ => ?_))
   | exact ih0 _ _ _
   | exact LeO.none _
   | refine LeO.ite ?_ ?_
   | refine LeO.bind ?_ (fun _ => ?_)
theorem spec_l3Deadlines.mono : ∀ a0 k, LeO (spec_l3Deadlines.f k a0) (spec_l3Deadlines.f (k + 1) a0) := by
 intro a0 k
 have ih0 := spec_l3Deadlines.mono_l k
 unfold spec_l3Deadlines.f
 repeat' first
   | (with_reducible exact ih0 _ _ _)
   | (with_reducible exact LeO.refl _)
   | (with_reducible exact LeO.none _)
   | (with_reducible refine LeO.ite ?_ ?_)
   | (with_reducible refine LeO.bind ?_ (fun _ => ?_))
   | exact ih0 _ _ _
   | exact LeO.none _
   | refine LeO.ite ?_ ?_
   | refine LeO.bind ?_ (fun _ => ?_)
set_option maxHeartbeats 8000000 in
set_option maxRecDepth 100000 in
theorem spec_l3Deadlines.calls (k : Nat) (A0 : Option Addr) (c0 : Nat) (l0 : List (S34)) (r : List Int) (w : World) (hr0 : Kd.C k34 w A0 l0.length l0) (hc0 : l0.length ≤ c0) (h : spec_l3Deadlines.f k l0 = some r) :
  Calls Try.prog 57 #[.slice A0 l0.length c0] w fun e w' => ∃ v0_ : Value, e = .returned (v0_) ∧ Kd.R (Kd.int .i64) 3 w' w.heap.size (fun _ => True) v0_ r ∧ Below w.heap.size w w' := by
 have HR0 := Aside0.mk hr0
 have HC0 := Aside0.mk hc0
 clear hr0 hc0
 have HB := Aside0.mk (Below.refl w.heap.size w)
 have H : (spec_l3Deadlines.l0 k l0 (([] : List Int)) 0) = some r := h
 clear h
 obtain ⟨y330, hy330⟩ : ∃ y_ : List Int, y_ = (([] : List Int)) := ⟨_, rfl⟩
 replace H : (spec_l3Deadlines.l0 k l0 y330 0) = some r := by first | (rw [hy330]; with_reducible exact H) | (have H2_ := (Option.bind_some _ _).symm.trans H; rw [hy330]; with_reducible exact H2_) | (have H2_ := (Option.bind_some _ _).symm.trans H; with_reducible exact H2_) | with_reducible exact H | (rw [hy330]; exact H) | exact H
 have Ny330 := Aside0.mk hy330
 clear hy330
 have H' := Aside0.mk H
 clear H
 go_enter Try.func57, Try.ntmps57
 go_wp2_with (first | ((with_reducible refine gate_dst (N := 5) rfl ?_); refine Kd.R_lit (Kd.int .i64) _ 3 ?hg (N := 5) ?hd (xs := ([] : List Int)) (inner := []) (ok := fun _ => True) (okp := fun _ => True) ?hr ?hp (fun _ hk => hk) trivial (Below.refl _ _) (Nat.le_refl _) (by simp) ?_; (case hd => rfl); (case hg => rfl); (case hr => first | (go_simp; done) | (go_simp; rfl)); (case hp => exact (Reps.none _ _)); intro v331 w2 ho3 hb hg_ hnew_; clear hg_ hnew_; (first | rw [← Ny330.out] at ho3 | (simp only [Int.reduceToNat] at ho3; rw [← Ny330.out] at ho3)); have n0_ := Aside0.mk (Kd.R_lower ho3 (below_size (by repeat (first | (with_reducible first | exact HB.out | apply below_alloc | apply pw_below_drewN | apply below_drew1) | exact HB.out)))); have n1_ := Aside0.mk (below_step (by repeat (first | (with_reducible first | exact HB.out | apply below_alloc | apply pw_below_drewN | apply below_drew1) | exact HB.out)) hb); clear HB; have HO332 := n0_; have HB := n1_; clear n0_ n1_; clear hb ho3))
 go_loopg [3, 4] k (fun kq v3 v4 w' => ∃ (x3_1 : List Int) (x4_1 : Int), v4 = .int .i64 x4_1 ∧ Aside0 (spec_l3Deadlines.l0 kq l0 x3_1 x4_1 = some r) ∧ Aside0 (kq ≤ k) ∧ Aside0 (Kd.R (Kd.int .i64) 3 w' w.heap.size (fun _ => True) v3 x3_1) ∧ Aside0 (Below w.heap.size w w'))
 case atStart => exact ⟨(y330), (0), (by first | rfl | (simp; done) | (simp [*]; done)), H', ⟨Nat.le_refl _⟩, ⟨by (with_reducible repeat (first | apply Kd.R_alloc | apply Kd.R_drewN | apply Kd.R_drew)); exact HO332.out⟩, ⟨by repeat (first | (with_reducible first | exact HB.out | apply below_alloc | apply pw_below_drewN | apply below_drew1) | exact HB.out)⟩⟩
 case round =>
  clear H'
  try clear p2
  obtain ⟨x3_1, x4_1, rfl, HA, HK1, HO_3, HB⟩ := hrel
  cases gk with
  | zero => exact absurd HA.out (by simp [spec_l3Deadlines.l0])
  | succ k1 =>
   have H := HA.out
   clear HA
   simp only [spec_l3Deadlines.l0] at H
   by_cases c4 : x4_1 < (l0.length : Int)
   ·rw [if_pos c4] at H
    have c4b0 : decide (x4_1 < (l0.length : Int)) = true := decide_eq_true c4
    clear c4
    by_cases c5 : 0 ≤ x4_1
    ·rw [if_pos c5] at H
     have c5b0 : decide (0 ≤ x4_1) = true := decide_eq_true c5
     clear c5
     by_cases c6 : x3_1.length < 17592186044416
     ·rw [if_pos c6] at H
      have LMc6 := Aside0.mk c6
      clear c6
      obtain ⟨y334, hy334⟩ : ∃ y_ : List Int, y_ = (x3_1 ++ [(rd_T34 l0 x4_1).f2]) := ⟨_, rfl⟩
      replace H : (spec_l3Deadlines.l0 k1 l0 y334 (wrap64 (x4_1 + 1))) = some r := by first | (rw [hy334]; with_reducible exact H) | (have H2_ := (Option.bind_some _ _).symm.trans H; rw [hy334]; with_reducible exact H2_) | (have H2_ := (Option.bind_some _ _).symm.trans H; with_reducible exact H2_) | with_reducible exact H | (rw [hy334]; exact H) | exact H
      have Ny334 := Aside0.mk hy334
      clear hy334
      have H' := Aside0.mk H
      clear H
      have p333 : 0 ≤ (x4_1 : Int) := of_decide_eq_true (by first | (with_reducible assumption) | assumption)
      have q333 : x4_1 < (l0.length : Int) := of_decide_eq_true (by first | (with_reducible assumption) | assumption)
      obtain ⟨ad333, e333, hx333_0, hx333_1, hx333_2, hx333_3⟩ := at_T34 HR0.out x4_1 p333 q333
      cases e333
      replace hx333_0 := (HB.out.cell (World.block_lt_of_cell? w _ hx333_0)).trans hx333_0
      replace hx333_1 := (HB.out.cell (World.block_lt_of_cell? w _ hx333_1)).trans hx333_1
      replace hx333_2 := (HB.out.cell (World.block_lt_of_cell? w _ hx333_2)).trans hx333_2
      replace hx333_3 := (HB.out.cell (World.block_lt_of_cell? w _ hx333_3)).trans hx333_3
      replace p333 := eq_true p333
      replace q333 := eq_true q333
      go_wp2_with (first | ((with_reducible refine gate_builtin (b := .append) (xs := #[.tmp 12, .tmp 18]) rfl ?_); at_builtin; refine Kd.R_append (Kd.int .i64) (w0 := w) w.heap.size rfl (.tmp 12) (.tmp 18) 27 3 (.int .i64 0) 8 rfl Try.underlying27 info3 rfl (by decide) (by omega) u3 x3_1 ((rd_T34 l0 x4_1).f2) [.int .i64 ((rd_T34 l0 x4_1).f2)] (fun _ => True) (fun _ => False) rfl rfl ?aP (fun _ hk => hk.elim) ?aF ?aO ?aB ?aS ?aL ?_; (case aP => exact rfl); (case aB => exact (by repeat (first | (with_reducible first | exact HB.out | apply below_alloc | apply pw_below_drewN | apply below_drew1) | exact HB.out))); (case aF => exact (fun _ _ => trivial)); (case aO => exact (by (with_reducible repeat (first | apply Kd.R_alloc | apply Kd.R_drewN | apply Kd.R_drew)); exact HO_3.out)); (case aS => exact (below_size (by repeat (first | (with_reducible first | exact HB.out | apply below_alloc | apply pw_below_drewN | apply below_drew1) | exact HB.out)))); (case aL => have := LMc6.out; omega); intro v335 w7 ho hb hg hat; rw [← Ny334.out] at ho; have n0_ := Aside0.mk (hb); have n1_ := Aside0.mk (ho); clear HB; clear HO_3; have HB := n0_; have HO336 := n1_; clear n0_ n1_; clear ho hb hg hat))
      go_roundg k1
      case measure => have := HK1.out; omega
      case rel => exact ⟨(y334), (wrap64 (x4_1 + 1)), (by first | rfl | (simp; done) | (simp [*]; done)), H', ⟨by have := HK1.out; omega⟩, ⟨by (with_reducible repeat (first | apply Kd.R_alloc | apply Kd.R_drewN | apply Kd.R_drew)); exact HO336.out⟩, ⟨by repeat (first | (with_reducible first | exact HB.out | apply below_alloc | apply pw_below_drewN | apply below_drew1) | exact HB.out)⟩⟩
     ·rw [if_neg c6] at H
      exact absurd H (by simp)
    ·rw [if_neg c5] at H
     exact absurd H (by simp)
   ·rw [if_neg c4] at H
    have c4b0 : decide (x4_1 < (l0.length : Int)) = false := decide_eq_false c4
    clear c4
    obtain rfl := Option.some.inj H
    go_wp2
    go_ret
    exact ⟨_, by first | rfl | (simp [errW_none, errW_some] <;> rfl) | (simp [*, errW_none, errW_some] <;> rfl), by (with_reducible repeat (first | apply Kd.R_alloc | apply Kd.R_drewN | apply Kd.R_drew)); exact HO_3.out, by repeat (first | (with_reducible first | exact HB.out | apply below_alloc | apply pw_below_drewN | apply below_drew1) | exact HB.out)⟩

end Go.Proofs.Ytkdfjomhichkoaa.P
-- Laid by a program of this work.
namespace Go.Proofs.Ytkdfjomhichkoaa.P
open Go.RowKit Go.Proofs.YtkdfjomhichkoaaW.PrintWords Go.Proofs.YtkdfjomhichkoaaW.PrintLast Go.Proofs.YtkdfjomhichkoaaW.PrintMore
attribute [local go_sem] max2_int min2_int max_two min_two max_three min_three max_four min_four   -- for this text's walks alone
set_option linter.unusedVariables false
set_option linter.unusedSimpArgs false

/-! ### spec_l3Best: function 58 -/
def spec_l3Best.l0 : Nat → List (S34) → List Int → List Int → Int → Int → Int → Option (Int)
 | 0, _, _, _, _, _, _ => none
 | k + 1, x0, x1, x2, x3, x9, x10 => if x10 < (x0.length : Int) then (if 0 ≤ x10 then (if ((rd_T34 x0 x10).f1) ≤ x3 then (if x10 < (x1.length : Int) then (if (rd x1 x10) > 0 then (if x9 < 0 then (spec_l3Best.l0 k x0 x1 x2 x3 x10 (wrap64 (x10 + 1))) else (if x10 < (x2.length : Int) then (if 0 ≤ x9 then (if x9 < (x2.length : Int) then (if (rd x2 x10) < (rd x2 x9) then (spec_l3Best.l0 k x0 x1 x2 x3 x10 (wrap64 (x10 + 1))) else (spec_l3Best.l0 k x0 x1 x2 x3 x9 (wrap64 (x10 + 1)))) else (none)) else (none)) else (none))) else (spec_l3Best.l0 k x0 x1 x2 x3 x9 (wrap64 (x10 + 1)))) else (none)) else (spec_l3Best.l0 k x0 x1 x2 x3 x9 (wrap64 (x10 + 1)))) else (none)) else (some x9)
def spec_l3Best.f (k : Nat) (l0 : List (S34)) (l1 : List Int) (l2 : List Int) (a3 : Int) : Option (Int) := spec_l3Best.l0 k l0 l1 l2 a3 (-1) 0
theorem spec_l3Best.mono_l : ∀ k, (∀ y0 y1 y2 y3 y4 y5, LeO (spec_l3Best.l0 k y0 y1 y2 y3 y4 y5) (spec_l3Best.l0 (k + 1) y0 y1 y2 y3 y4 y5))
 | 0 => fun _ _ _ _ _ _ r h => by simp [spec_l3Best.l0] at h
 | k + 1 => by
  have ih0 := spec_l3Best.mono_l k
  ·intro y0 y1 y2 y3 y4 y5
   unfold spec_l3Best.l0
   repeat' first
   | (with_reducible exact ih0 _ _ _ _ _ _)
   | (with_reducible exact LeO.refl _)
   | (with_reducible exact LeO.none _)
   | (with_reducible refine LeO.ite ?_ ?_)
   | (with_reducible refine LeO.bind ?_ (fun _ => ?_))
   | exact ih0 _ _ _ _ _ _
   | exact LeO.none _
   | refine LeO.ite ?_ ?_
   | refine LeO.bind ?_ (fun _ => ?_)
theorem spec_l3Best.mono : ∀ a0 a1 a2 a3 k, LeO (spec_l3Best.f k a0 a1 a2 a3) (spec_l3Best.f (k + 1) a0 a1 a2 a3) := by
 intro a0 a1 a2 a3 k
 have ih0 := spec_l3Best.mono_l k
 unfold spec_l3Best.f
 repeat' first
   | (with_reducible exact ih0 _ _ _ _ _ _)
   | (with_reducible exact LeO.refl _)
   | (with_reducible exact LeO.none _)
   | (with_reducible refine LeO.ite ?_ ?_)
   | (with_reducible refine LeO.bind ?_ (fun _ => ?_))
   | exact ih0 _ _ _ _ _ _
   | exact LeO.none _
   | refine LeO.ite ?_ ?_
   | refine LeO.bind ?_ (fun _ => ?_)
set_option maxHeartbeats 8000000 in
set_option maxRecDepth 100000 in
theorem spec_l3Best.calls (k : Nat) (A0 : Option Addr) (c0 : Nat) (l0 : List (S34)) (A1 : Option Addr) (c1 : Nat) (l1 : List Int) (A2 : Option Addr) (c2 : Nat) (l2 : List Int) (a3 : Int) (r : Int) (w : World) (hr0 : Kd.C k34 w A0 l0.length l0) (hc0 : l0.length ≤ c0) (hr1 : Kd.C (Kd.int .i64) w A1 l1.length l1) (hc1 : l1.length ≤ c1) (hr2 : Kd.C (Kd.int .i64) w A2 l2.length l2) (hc2 : l2.length ≤ c2) (h : spec_l3Best.f k l0 l1 l2 a3 = some r) :
  Calls Try.prog 58 #[.slice A0 l0.length c0, .slice A1 l1.length c1, .slice A2 l2.length c2, .int .i64 a3] w fun e w' => e = .returned (.int .i64 r) ∧ Drawn0 w w' := by
 have HR0 := Aside0.mk hr0
 have HC0 := Aside0.mk hc0
 clear hr0 hc0
 have HR1 := Aside0.mk hr1
 have HC1 := Aside0.mk hc1
 clear hr1 hc1
 have HR2 := Aside0.mk hr2
 have HC2 := Aside0.mk hc2
 clear hr2 hc2
 have H : (spec_l3Best.l0 k l0 l1 l2 a3 (-1) 0) = some r := h
 clear h
 have H' := Aside0.mk H
 clear H
 go_enter Try.func58, Try.ntmps58
 go_wp2
 repeat (go_quiet (fail); try go_wp2)
 go_loopg [9, 10] k (fun kq v9 v10 w' => ∃ (x9_1 : Int) (x10_1 : Int), v9 = .int .i64 x9_1 ∧ v10 = .int .i64 x10_1 ∧ Aside0 (spec_l3Best.l0 kq l0 l1 l2 a3 x9_1 x10_1 = some r) ∧ Aside0 (kq ≤ k) ∧ Drawn0 w w')
 case atStart => exact ⟨((-1)), (0), (by first | rfl | (simp; done) | (simp [*]; done)), (by first | rfl | (simp; done) | (simp [*]; done)), H', ⟨Nat.le_refl _⟩, by repeat (first | exact Drawn0.refl _ | apply Drawn0.step)⟩
 case round =>
  clear H'
  try clear c1
  try clear c2
  try clear p2
  obtain ⟨x9_1, x10_1, rfl, rfl, HA, HK1, ⟨m1, rfl⟩⟩ := hrel
  cases gk with
  | zero => exact absurd HA.out (by simp [spec_l3Best.l0])
  | succ k1 =>
   have H := HA.out
   clear HA
   simp only [spec_l3Best.l0] at H
   by_cases c5 : x10_1 < (l0.length : Int)
   ·rw [if_pos c5] at H
    have c5b0 : decide (x10_1 < (l0.length : Int)) = true := decide_eq_true c5
    clear c5
    by_cases c6 : 0 ≤ x10_1
    ·rw [if_pos c6] at H
     have c6b0 : decide (0 ≤ x10_1) = true := decide_eq_true c6
     clear c6
     by_cases c7 : ((rd_T34 l0 x10_1).f1) ≤ a3
     ·rw [if_pos c7] at H
      have c7b0 : decide (((rd_T34 l0 x10_1).f1) ≤ a3) = true := decide_eq_true c7
      clear c7
      by_cases c8 : x10_1 < (l1.length : Int)
      ·rw [if_pos c8] at H
       have c8b0 : decide (x10_1 < (l1.length : Int)) = true := decide_eq_true c8
       clear c8
       by_cases c9 : (rd l1 x10_1) > 0
       ·rw [if_pos c9] at H
        have c9b0 : decide (0 < (rd l1 x10_1)) = true := decide_eq_true c9
        clear c9
        by_cases c10 : x9_1 < 0
        ·rw [if_pos c10] at H
         have c10b0 : decide (x9_1 < 0) = true := decide_eq_true c10
         clear c10
         have H' := Aside0.mk H
         clear H
         have p337 : 0 ≤ (x10_1 : Int) := of_decide_eq_true (by first | (with_reducible assumption) | assumption)
         have q337 : x10_1 < (l0.length : Int) := of_decide_eq_true (by first | (with_reducible assumption) | assumption)
         obtain ⟨ad337, e337, hx337_0, hx337_1, hx337_2, hx337_3⟩ := at_T34 HR0.out x10_1 p337 q337
         cases e337
         replace p337 := eq_true p337
         replace q337 := eq_true q337
         have p338 : 0 ≤ (x10_1 : Int) := of_decide_eq_true (by first | (with_reducible assumption) | assumption)
         have q338 : x10_1 < (l1.length : Int) := of_decide_eq_true (by first | (with_reducible assumption) | assumption)
         obtain ⟨ad338, e338, hx338_0⟩ := Kd.at_int HR1.out x10_1 p338 q338
         cases e338
         replace p338 := eq_true p338
         replace q338 := eq_true q338
         go_wp2
         repeat (go_quiet (fail); try go_wp2)
         go_roundg k1
         case measure => have := HK1.out; omega
         case rel => exact ⟨(x10_1), (wrap64 (x10_1 + 1)), (by first | rfl | (simp; done) | (simp [*]; done)), (by first | rfl | (simp; done) | (simp [*]; done)), H', ⟨by have := HK1.out; omega⟩, by repeat (first | exact Drawn0.refl _ | apply Drawn0.step)⟩
        ·rw [if_neg c10] at H
         have c10b0 : decide (x9_1 < 0) = false := decide_eq_false c10
         clear c10
         by_cases c11 : x10_1 < (l2.length : Int)
         ·rw [if_pos c11] at H
          have c11b0 : decide (x10_1 < (l2.length : Int)) = true := decide_eq_true c11
          clear c11
          by_cases c12 : 0 ≤ x9_1
          ·rw [if_pos c12] at H
           have c12b0 : decide (0 ≤ x9_1) = true := decide_eq_true c12
           clear c12
           by_cases c13 : x9_1 < (l2.length : Int)
           ·rw [if_pos c13] at H
            have c13b0 : decide (x9_1 < (l2.length : Int)) = true := decide_eq_true c13
            clear c13
            by_cases c14 : (rd l2 x10_1) < (rd l2 x9_1)
            ·rw [if_pos c14] at H
             have c14b0 : decide ((rd l2 x10_1) < (rd l2 x9_1)) = true := decide_eq_true c14
             clear c14
             have H' := Aside0.mk H
             clear H
             have p337 : 0 ≤ (x10_1 : Int) := of_decide_eq_true (by first | (with_reducible assumption) | assumption)
             have q337 : x10_1 < (l0.length : Int) := of_decide_eq_true (by first | (with_reducible assumption) | assumption)
             obtain ⟨ad337, e337, hx337_0, hx337_1, hx337_2, hx337_3⟩ := at_T34 HR0.out x10_1 p337 q337
             cases e337
             replace p337 := eq_true p337
             replace q337 := eq_true q337
             have p338 : 0 ≤ (x10_1 : Int) := of_decide_eq_true (by first | (with_reducible assumption) | assumption)
             have q338 : x10_1 < (l1.length : Int) := of_decide_eq_true (by first | (with_reducible assumption) | assumption)
             obtain ⟨ad338, e338, hx338_0⟩ := Kd.at_int HR1.out x10_1 p338 q338
             cases e338
             replace p338 := eq_true p338
             replace q338 := eq_true q338
             have p339 : 0 ≤ (x10_1 : Int) := of_decide_eq_true (by first | (with_reducible assumption) | assumption)
             have q339 : x10_1 < (l2.length : Int) := of_decide_eq_true (by first | (with_reducible assumption) | assumption)
             obtain ⟨ad339, e339, hx339_0⟩ := Kd.at_int HR2.out x10_1 p339 q339
             cases e339
             replace p339 := eq_true p339
             replace q339 := eq_true q339
             have p340 : 0 ≤ (x9_1 : Int) := of_decide_eq_true (by first | (with_reducible assumption) | assumption)
             have q340 : x9_1 < (l2.length : Int) := of_decide_eq_true (by first | (with_reducible assumption) | assumption)
             obtain ⟨ad340, e340, hx340_0⟩ := Kd.at_int HR2.out x9_1 p340 q340
             obtain rfl : ad339 = ad340 := (by injection e340)
             replace p340 := eq_true p340
             replace q340 := eq_true q340
             go_wp2
             repeat (go_quiet (fail); try go_wp2)
             go_roundg k1
             case measure => have := HK1.out; omega
             case rel => exact ⟨(x10_1), (wrap64 (x10_1 + 1)), (by first | rfl | (simp; done) | (simp [*]; done)), (by first | rfl | (simp; done) | (simp [*]; done)), H', ⟨by have := HK1.out; omega⟩, by repeat (first | exact Drawn0.refl _ | apply Drawn0.step)⟩
            ·rw [if_neg c14] at H
             have c14b0 : decide ((rd l2 x10_1) < (rd l2 x9_1)) = false := decide_eq_false c14
             clear c14
             have H' := Aside0.mk H
             clear H
             have p337 : 0 ≤ (x10_1 : Int) := of_decide_eq_true (by first | (with_reducible assumption) | assumption)
             have q337 : x10_1 < (l0.length : Int) := of_decide_eq_true (by first | (with_reducible assumption) | assumption)
             obtain ⟨ad337, e337, hx337_0, hx337_1, hx337_2, hx337_3⟩ := at_T34 HR0.out x10_1 p337 q337
             cases e337
             replace p337 := eq_true p337
             replace q337 := eq_true q337
             have p338 : 0 ≤ (x10_1 : Int) := of_decide_eq_true (by first | (with_reducible assumption) | assumption)
             have q338 : x10_1 < (l1.length : Int) := of_decide_eq_true (by first | (with_reducible assumption) | assumption)
             obtain ⟨ad338, e338, hx338_0⟩ := Kd.at_int HR1.out x10_1 p338 q338
             cases e338
             replace p338 := eq_true p338
             replace q338 := eq_true q338
             have p339 : 0 ≤ (x10_1 : Int) := of_decide_eq_true (by first | (with_reducible assumption) | assumption)
             have q339 : x10_1 < (l2.length : Int) := of_decide_eq_true (by first | (with_reducible assumption) | assumption)
             obtain ⟨ad339, e339, hx339_0⟩ := Kd.at_int HR2.out x10_1 p339 q339
             cases e339
             replace p339 := eq_true p339
             replace q339 := eq_true q339
             have p340 : 0 ≤ (x9_1 : Int) := of_decide_eq_true (by first | (with_reducible assumption) | assumption)
             have q340 : x9_1 < (l2.length : Int) := of_decide_eq_true (by first | (with_reducible assumption) | assumption)
             obtain ⟨ad340, e340, hx340_0⟩ := Kd.at_int HR2.out x9_1 p340 q340
             obtain rfl : ad339 = ad340 := (by injection e340)
             replace p340 := eq_true p340
             replace q340 := eq_true q340
             go_wp2
             repeat (go_quiet (fail); try go_wp2)
             go_roundg k1
             case measure => have := HK1.out; omega
             case rel => exact ⟨(x9_1), (wrap64 (x10_1 + 1)), (by first | rfl | (simp; done) | (simp [*]; done)), (by first | rfl | (simp; done) | (simp [*]; done)), H', ⟨by have := HK1.out; omega⟩, by repeat (first | exact Drawn0.refl _ | apply Drawn0.step)⟩
           ·rw [if_neg c13] at H
            exact absurd H (by simp)
          ·rw [if_neg c12] at H
           exact absurd H (by simp)
         ·rw [if_neg c11] at H
          exact absurd H (by simp)
       ·rw [if_neg c9] at H
        have c9b0 : decide (0 < (rd l1 x10_1)) = false := decide_eq_false c9
        clear c9
        have H' := Aside0.mk H
        clear H
        have p337 : 0 ≤ (x10_1 : Int) := of_decide_eq_true (by first | (with_reducible assumption) | assumption)
        have q337 : x10_1 < (l0.length : Int) := of_decide_eq_true (by first | (with_reducible assumption) | assumption)
        obtain ⟨ad337, e337, hx337_0, hx337_1, hx337_2, hx337_3⟩ := at_T34 HR0.out x10_1 p337 q337
        cases e337
        replace p337 := eq_true p337
        replace q337 := eq_true q337
        have p338 : 0 ≤ (x10_1 : Int) := of_decide_eq_true (by first | (with_reducible assumption) | assumption)
        have q338 : x10_1 < (l1.length : Int) := of_decide_eq_true (by first | (with_reducible assumption) | assumption)
        obtain ⟨ad338, e338, hx338_0⟩ := Kd.at_int HR1.out x10_1 p338 q338
        cases e338
        replace p338 := eq_true p338
        replace q338 := eq_true q338
        go_wp2
        repeat (go_quiet (fail); try go_wp2)
        go_roundg k1
        case measure => have := HK1.out; omega
        case rel => exact ⟨(x9_1), (wrap64 (x10_1 + 1)), (by first | rfl | (simp; done) | (simp [*]; done)), (by first | rfl | (simp; done) | (simp [*]; done)), H', ⟨by have := HK1.out; omega⟩, by repeat (first | exact Drawn0.refl _ | apply Drawn0.step)⟩
      ·rw [if_neg c8] at H
       exact absurd H (by simp)
     ·rw [if_neg c7] at H
      have c7b0 : decide (((rd_T34 l0 x10_1).f1) ≤ a3) = false := decide_eq_false c7
      clear c7
      have H' := Aside0.mk H
      clear H
      have p337 : 0 ≤ (x10_1 : Int) := of_decide_eq_true (by first | (with_reducible assumption) | assumption)
      have q337 : x10_1 < (l0.length : Int) := of_decide_eq_true (by first | (with_reducible assumption) | assumption)
      obtain ⟨ad337, e337, hx337_0, hx337_1, hx337_2, hx337_3⟩ := at_T34 HR0.out x10_1 p337 q337
      cases e337
      replace p337 := eq_true p337
      replace q337 := eq_true q337
      go_wp2
      repeat (go_quiet (fail); try go_wp2)
      go_roundg k1
      case measure => have := HK1.out; omega
      case rel => exact ⟨(x9_1), (wrap64 (x10_1 + 1)), (by first | rfl | (simp; done) | (simp [*]; done)), (by first | rfl | (simp; done) | (simp [*]; done)), H', ⟨by have := HK1.out; omega⟩, by repeat (first | exact Drawn0.refl _ | apply Drawn0.step)⟩
    ·rw [if_neg c6] at H
     exact absurd H (by simp)
   ·rw [if_neg c5] at H
    have c5b0 : decide (x10_1 < (l0.length : Int)) = false := decide_eq_false c5
    clear c5
    obtain rfl := Option.some.inj H
    go_wp2
    repeat (go_quiet (fail); try go_wp2)
    go_ret
    exact ⟨by first | rfl | (simp; done) | (simp [*]; done), by repeat (first | exact Drawn0.refl _ | apply Drawn0.step)⟩

end Go.Proofs.Ytkdfjomhichkoaa.P
