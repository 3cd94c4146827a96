/- The law FnUnitCosts for every input, part 7 of its proof: what the program's functions answer, and the plain law. No condition. -/
import Derived.Test.YtkdfjomhichkoaaMFnUnitCosts1
import Derived.Test.YtkdfjomhichkoaaMFnUnitCosts2
import Derived.Test.YtkdfjomhichkoaaMFnUnitCosts3
import Derived.Test.YtkdfjomhichkoaaMFnUnitCosts4
import Derived.Test.YtkdfjomhichkoaaMFnUnitCosts5
import Derived.Test.YtkdfjomhichkoaaMFnUnitCosts6
import Derived.SizedLaws
import Derived.ChangeSlices
import Derived.ChangeArms
import Derived.WideShapes
import Derived.Deep.Slices
import Derived.OpenShut
import Derived.Test.YtkdfjomhichkoaaRows
import Derived.JoinedOf
import Derived.KernelRfl
import Derived.WalkKit
import Derived.ProofKit
import Derived.ShutString
import Derived.ChangeOld
import Derived.Below
/- The reference's test of a release pattern is the plain one. Condition: the rows are not too long. -/
namespace Go.Proofs.Ytkdfjomhichkoaa.Leg
open Go.RowKit Go.Proofs.Ytkdfjomhichkoaa.P Go.Proofs.Ytkdfjomhichkoaa.Base Go.Proofs.Ytkdfjomhichkoaa.Gen Go.Proofs.Ytkdfjomhichkoaa.Alive Go.Proofs.Ytkdfjomhichkoaa.Set Go.Proofs.Ytkdfjomhichkoaa.Tm Go.Proofs.Ytkdfjomhichkoaa.Edf Go.Proofs.Ytkdfjomhichkoaa.Sim Go.Proofs.Ytkdfjomhichkoaa.Jobs Go.Proofs.YtkdfjomhichkoaaW.PrintWords Go.Proofs.YtkdfjomhichkoaaW.PrintLast
/-- The row of the next releases that are allowed. -/
def nx (l : List Task) (js : List Job) (i : Nat) (k : Nat) : Int := match lastOf js i (k : Int) with
  | none => 0
  | some b => b + (tk l (k : Int)).f2
theorem rjI (js : List Job) (i : Nat) : rd_T34 js (i : Int) = rj js i := rfl
theorem tkI (l : List Task) (i : Int) : rd_T88 l i = tk l i := rfl
theorem spec_jl (l : List Task) (js : List Job) (hl : l.length ≤ 2097152) (hj : js.length ≤ 2097152) : Ev (fun k => spec_JobsLegal.f k l js) (decide (JL l js)) := by
  unfold spec_JobsLegal.f
  refine Ev.bind (sset_ev l hl) ?_
  have bad : ¬ JL l js → Ev (fun k => spec_JobsLegal.j0 k l js true) (decide (JL l js)) := fun h => by
    rw [decide_eq_false h]
    exact Ev.step (f := fun _ => some false) (fun k => by simp [spec_JobsLegal.j0]) (Ev.now _)
  by_cases hs : SetOk l
  · simp only [decide_eq_true hs, if_true]
    by_cases h60 : js.length ≤ 60
    · have hno : ¬ (js.length : Int) > 60 := by omega
      rw [decide_eq_false hno]
      have hl5 := hs.1
      have loop : ∀ d i (y : List Int), i + d = js.length → (∀ p, p < i → One l js p) → y.length = l.length → (∀ k : Nat, k < l.length → rd y (k : Int) = nx l js i k) → Ev (fun k => spec_JobsLegal.l0 k l js y (i : Int)) (decide (JL l js)) := by
        intro d
        induction d with
        | zero =>
          intro i y hi hp _ _
          rw [decide_eq_true (show JL l js from ⟨hs, h60, fun p hpl => hp p (by omega)⟩)]
          refine Ev.step (f := fun _ => some true) (fun k => ?_) (Ev.now _)
          simp only [spec_JobsLegal.l0]
          rw [if_neg (by omega)]
        | succ d ih =>
          intro i y hi hp hy hr
          have hil : i < js.length := by omega
          -- the ways out
          have out : ¬ One l js i → decide (JL l js) = false := fun h => decide_eq_false (fun hh => h (hh.2.2 i hil))
          have no2 : ¬ One l js i → ∀ a b c e, Ev (fun k => spec_JobsLegal.j2 k l js y (i : Int) true a b c e) (decide (JL l js)) := fun h a b c e => by
            rw [out h]
            exact Ev.step (f := fun _ => some false) (fun k => by simp [spec_JobsLegal.j2]) (Ev.now _)
          have no3 : ¬ One l js i → ∀ a b c e u v z, Ev (fun k => spec_JobsLegal.j3 k l js y (i : Int) true a b c e u v z) (decide (JL l js)) := fun h a b c e u v z => by
            rw [out h]
            exact Ev.step (f := fun _ => some false) (fun k => by simp [spec_JobsLegal.j3]) (Ev.now _)
          have w1 : wrap64 ((l.length : Int) - 1) = (l.length : Int) - 1 := w64 (by omega) (by omega)
          by_cases h1 : 0 ≤ (rj js i).f0 ∧ (rj js i).f0 ≤ (l.length : Int) - 1
          · by_cases h2 : 0 ≤ (rj js i).f1 ∧ (rj js i).f1 ≤ 119
            · have ht := tk_ok hs (rj js i).f0 h1.1 (by omega)
              obtain ⟨q, hq⟩ : ∃ q : Nat, (rj js i).f0 = (q : Int) := ⟨(rj js i).f0.toNat, by omega⟩
              have hql : q < l.length := by omega
              have hnx := hr q hql
              have hlast := lastOf_sp js (q : Int) i
              -- the distance
              have dist : (rj js i).f1 < rd y (q : Int) ↔ ¬ ∀ p, p < i → (rj js p).f0 = (rj js i).f0 → (rj js p).f1 + (tk l (rj js i).f0).f2 ≤ (rj js i).f1 := by
                rw [hnx, hq]
                unfold nx
                rcases hlast with ⟨h3, h4⟩ | ⟨p, h3, h4, h5, h6⟩
                · rw [h3]
                  simp only
                  constructor
                  · intro h7; omega
                  · intro h7
                    exact absurd (fun p hp2 he => absurd he (h4 p hp2)) h7
                · rw [h5]
                  simp only
                  constructor
                  · intro h7 h8
                    have := h8 p h3 h4; omega
                  · intro h7
                    apply Classical.byContradiction
                    intro h8
                    refine h7 (fun p2 hp2 he => ?_)
                    have h9 : p2 ≤ p := by
                      apply Classical.byContradiction
                      intro hc
                      exact h6 p2 (by omega) hp2 he
                    have := mono_rel (l := l) (n := i) (fun a ha => one_loc (hp a ha)) p p2 h9 h3
                    omega
              have step2 : Ev (fun k => spec_JobsLegal.j2 k l js y (i : Int) false (rj js i).f0 (rj js i).f1 (rj js i).f2 (rj js i).f3) (decide (JL l js)) := by
                have go : ∀ b : Bool, (b = true → ¬ One l js i) → (b = false → (1 ≤ (rj js i).f3 ∧ (rj js i).f3 ≤ (tk l (rj js i).f0).f0) ∧ (rj js i).f2 = (rj js i).f1 + (tk l (rj js i).f0).f1 ∧ ∀ p, p < i → (rj js p).f0 = (rj js i).f0 → (rj js p).f1 + (tk l (rj js i).f0).f2 ≤ (rj js i).f1) →
                    Ev (fun k => spec_JobsLegal.j3 k l js y (i : Int) b (rj js i).f0 (rj js i).f1 (rj js i).f2 (rj js i).f3 (tk l (rj js i).f0).f0 (tk l (rj js i).f0).f1 (tk l (rj js i).f0).f2) (decide (JL l js)) := by
                  intro b hb1 hb2
                  cases b with
                  | true => exact no3 (hb1 rfl) _ _ _ _ _ _ _
                  | false =>
                    obtain ⟨h3, h4, h5⟩ := hb2 rfl
                    have fin : One l js i → Ev (fun k => spec_JobsLegal.l0 k l js (y.set q ((rj js i).f1 + (tk l (rj js i).f0).f2)) (wrap64 ((i : Int) + 1))) (decide (JL l js)) := by
                      intro hone
                      rw [show wrap64 ((i : Int) + 1) = ((i + 1 : Nat) : Int) by rw [w64 (by omega) (by omega)]; omega]
                      refine ih (i + 1) _ (by omega) (fun p hp2 => ?_) (by rw [List.length_set]; exact hy) (fun k hk => ?_)
                      · by_cases e : p = i
                        · subst e; exact hone
                        · exact hp p (by omega)
                      · unfold nx
                        rw [lastOf]
                        have ej : jrd js i = rj js i := rfl
                        rw [ej]
                        by_cases e : k = q
                        · subst e
                          rw [rd_set_eq _ _ _ (by omega), if_pos hq, hq]
                        · rw [rd_set_ne _ _ _ _ e, if_neg (by omega), hr k hk]
                          rfl
                    have hset : wrap64 ((rj js i).f1 + (tk l (rj js i).f0).f2) = (rj js i).f1 + (tk l (rj js i).f0).f2 := w64 (by omega) (by omega)
                    have htn : (rj js i).f0.toNat = q := by omega
                    by_cases h0 : i = 0
                    · refine Ev.step (fun k => ?_) (fin ⟨by omega, h2, h3, h4, fun h => by omega, h5⟩)
                      simp only [spec_JobsLegal.j3]
                      rw [if_neg (by simp), if_neg (by omega), if_pos (by omega), if_pos (by omega), hset, htn]
                    · have e1 : wrap64 ((i : Int) - 1) = ((i - 1 : Nat) : Int) := by rw [w64 (by omega) (by omega)]; omega
                      by_cases h6 : (rj js (i - 1)).f1 > (rj js i).f1
                      · have hn : ¬ One l js i := fun h => by have := h.2.2.2.2.1 (by omega); omega
                        rw [out hn]
                        refine Ev.step (f := fun _ => some false) (fun k => ?_) (Ev.now _)
                        simp only [spec_JobsLegal.j3]
                        rw [if_neg (by simp), if_pos (by omega), e1, if_pos (by omega), if_pos (by omega), rjI, if_pos h6]
                      · by_cases h7 : (rj js (i - 1)).f1 = (rj js i).f1
                        · by_cases h8 : (rj js (i - 1)).f0 ≥ (rj js i).f0
                          · have hn : ¬ One l js i := fun h => by have := h.2.2.2.2.1 (by omega); omega
                            rw [out hn]
                            refine Ev.step (f := fun _ => some false) (fun k => ?_) (Ev.now _)
                            simp only [spec_JobsLegal.j3]
                            rw [if_neg (by simp), if_pos (by omega), e1, if_pos (by omega), if_pos (by omega), rjI, if_neg h6, if_pos h7, if_pos h8]
                          · refine Ev.step (fun k => ?_) (fin ⟨by omega, h2, h3, h4, fun _ => Or.inr ⟨h7, by omega⟩, h5⟩)
                            simp only [spec_JobsLegal.j3]
                            rw [if_neg (by simp), if_pos (by omega), e1, if_pos (by omega), if_pos (by omega), rjI, if_neg h6, if_pos h7, if_neg h8, if_pos (by omega), if_pos (by omega), hset, htn]
                        · refine Ev.step (fun k => ?_) (fin ⟨by omega, h2, h3, h4, fun _ => Or.inl (by omega), h5⟩)
                          simp only [spec_JobsLegal.j3]
                          rw [if_neg (by simp), if_pos (by omega), e1, if_pos (by omega), if_pos (by omega), rjI, if_neg h6, if_neg h7, if_pos (by omega), if_pos (by omega), hset, htn]
                have hwd : wrap64 ((rj js i).f1 + (tk l (rj js i).f0).f1) = (rj js i).f1 + (tk l (rj js i).f0).f1 := w64 (by omega) (by omega)
                by_cases h3 : (rj js i).f1 < rd y (rj js i).f0
                · refine Ev.step (fun k => ?_) (go true (fun _ h => ?_) (fun h => by cases h))
                  · simp only [spec_JobsLegal.j2]
                    rw [if_neg (by simp), if_pos (by omega), if_pos (by omega), if_pos (by omega), if_pos h3]
                    rfl
                  · rw [hq] at h3
                    exact dist.1 h3 h.2.2.2.2.2
                · have h3' : ∀ p, p < i → (rj js p).f0 = (rj js i).f0 → (rj js p).f1 + (tk l (rj js i).f0).f2 ≤ (rj js i).f1 := by
                    apply Classical.byContradiction
                    intro hc
                    exact h3 (by rw [hq]; exact dist.2 hc)
                  by_cases h4 : (rj js i).f2 = (rj js i).f1 + (tk l (rj js i).f0).f1
                  · by_cases h5 : 1 ≤ (rj js i).f3 ∧ (rj js i).f3 ≤ (tk l (rj js i).f0).f0
                    · refine Ev.step (fun k => ?_) (go false (fun h => by cases h) (fun _ => ⟨h5, h4, h3'⟩))
                      simp only [spec_JobsLegal.j2]
                      rw [if_neg (by simp), if_pos (by omega), if_pos (by omega), if_pos (by omega), if_neg h3, tkI, hwd, if_pos h4, l1In_f, decide_eq_true h5]
                      rfl
                    · refine Ev.step (fun k => ?_) (go true (fun _ h => h5 h.2.2.1) (fun h => by cases h))
                      simp only [spec_JobsLegal.j2]
                      rw [if_neg (by simp), if_pos (by omega), if_pos (by omega), if_pos (by omega), if_neg h3, tkI, hwd, if_pos h4, l1In_f, decide_eq_false h5]
                      rfl
                  · refine Ev.step (fun k => ?_) (go true (fun _ h => h4 h.2.2.2.1) (fun h => by cases h))
                    simp only [spec_JobsLegal.j2]
                    rw [if_neg (by simp), if_pos (by omega), if_pos (by omega), if_pos (by omega), if_neg h3, tkI, hwd, if_neg h4]
              refine Ev.step (fun k => ?_) step2
              simp only [spec_JobsLegal.l0]
              rw [if_pos (by omega), if_pos (by omega), rjI, w1, l1In_f, decide_eq_true h1]
              simp only [Option.bind_some, if_true]
              rw [l1In_f, decide_eq_true h2]
              rfl
            · refine Ev.step (fun k => ?_) (no2 (fun h => h2 h.2.1) (rj js i).f0 (rj js i).f1 (rj js i).f2 (rj js i).f3)
              simp only [spec_JobsLegal.l0]
              rw [if_pos (by omega), if_pos (by omega), rjI, w1, l1In_f, decide_eq_true h1]
              simp only [Option.bind_some, if_true]
              rw [l1In_f, decide_eq_false h2]
              rfl
          · refine Ev.step (fun k => ?_) (no2 (fun h => h1 (by have := h.1; omega)) (rj js i).f0 (rj js i).f1 (rj js i).f2 (rj js i).f3)
            simp only [spec_JobsLegal.l0]
            rw [if_pos (by omega), if_pos (by omega), rjI, w1, l1In_f, decide_eq_false h1]
            rfl
      refine Ev.step (fun k => ?_) (loop js.length 0 (List.replicate l.length 0) (by omega) (fun p h => by omega) (by simp) (fun k hk => ?_))
      · simp only [spec_JobsLegal.j0]
        rw [if_neg (by simp), if_pos (by omega), if_pos (by rw [Int.toNat_natCast]; omega), Int.toNat_natCast]
        rfl
      · rw [rd_at _ k (by simpa using hk), List.getElem_replicate]
        rfl
    · rw [decide_eq_true (show (js.length : Int) > 60 by omega)]
      exact bad (fun h => h60 h.2.1)
  · simp only [decide_eq_false hs]
    exact bad (fun h => hs h.1)
end Go.Proofs.Ytkdfjomhichkoaa.Leg
/- The runs of the program and of the reference are the plain schedules: earliest deadline first, and without preemption. Condition: the rows are not too long. -/
namespace Go.Proofs.Ytkdfjomhichkoaa.Npr
open Go.RowKit Go.Proofs.Ytkdfjomhichkoaa.P Go.Proofs.Ytkdfjomhichkoaa.Base Go.Proofs.Ytkdfjomhichkoaa.Gen Go.Proofs.Ytkdfjomhichkoaa.Alive Go.Proofs.Ytkdfjomhichkoaa.Set Go.Proofs.Ytkdfjomhichkoaa.Tm Go.Proofs.Ytkdfjomhichkoaa.Edf Go.Proofs.Ytkdfjomhichkoaa.Sim Go.Proofs.Ytkdfjomhichkoaa.Jobs Go.Proofs.Ytkdfjomhichkoaa.Leg Go.Proofs.Ytkdfjomhichkoaa.Nps Go.Proofs.YtkdfjomhichkoaaW.PrintWords Go.Proofs.YtkdfjomhichkoaaW.PrintLast
noncomputable def RN (l : List Task) (js : List Job) : List Int × List Int := if JL l js then sch js (npp js) else ([], [])
noncomputable def RE (l : List Task) (js : List Job) : List Int × List Int := if JL l js then sch js (edfp js) else ([], [])
theorem impl_rn (l : List Task) (js : List Job) (hl : l.length ≤ 1000000) (hj : js.length ≤ 1000000) : impl_RunNonPreemptive.f l js = some (RN l js) := by
  unfold impl_RunNonPreemptive.f RN
  rw [impl_jl l js (by omega) (by omega)]
  simp only [Option.bind_some]
  by_cases h : JL l js
  · rw [decide_eq_true h, if_pos rfl, if_pos (by have := h.2.1; omega), if_pos h, np_sim h]
  · rw [decide_eq_false h, if_neg (by simp), if_neg h]
theorem impl_re (l : List Task) (js : List Job) (hl : l.length ≤ 1000000) (hj : js.length ≤ 1000000) : impl_RunEdf.f l js = some (RE l js) := by
  unfold impl_RunEdf.f RE
  rw [impl_jl l js (by omega) (by omega)]
  simp only [Option.bind_some]
  by_cases h : JL l js
  · rw [decide_eq_true h, if_pos rfl, if_pos (by have := h.2.1; omega), if_pos h, edf_sim h]
  · rw [decide_eq_false h, if_neg (by simp), if_neg h]
theorem sch_len (js : List Job) (pick : List Int → Nat → Int) : (sch js pick).1.length = 120 ∧ (sch js pick).2.length = js.length := by
  unfold sch
  refine ⟨by simp, ?_⟩
  simp only
  rw [finL_len, exs_len]
/-- What the reference carries: the job that runs on. -/
def Cur (js : List Job) (cur : Int) (t : Nat) : Prop :=
  (cur = -1 ∧ ∀ i, i < js.length → 0 < rd (stL (npp js) (exs js) t) (i : Int) → (rj js i).f3 ≤ rd (stL (npp js) (exs js) t) (i : Int)) ∨
  ∃ i : Nat, i < js.length ∧ cur = (i : Int) ∧ rel js i ≤ (t : Int) ∧ 0 < rd (stL (npp js) (exs js) t) (i : Int) ∧ rd (stL (npp js) (exs js) t) (i : Int) < (rj js i).f3 ∧
    ∀ j, j < js.length → 0 < rd (stL (npp js) (exs js) t) (j : Int) → rd (stL (npp js) (exs js) t) (j : Int) < (rj js j).f3 → j = i
theorem cur_pick {js : List Job} {cur : Int} {t : Nat} (h : Cur js cur t) : (cur < 0 → runL (npp js) (exs js) t = edfp js (stL (npp js) (exs js) t) t) ∧ (0 ≤ cur → runL (npp js) (exs js) t = cur) := by
  have hs := startp_sp js (stL (npp js) (exs js) t) t
  have e : runL (npp js) (exs js) t = if 0 ≤ startp js (stL (npp js) (exs js) t) t then startp js (stL (npp js) (exs js) t) t else edfp js (stL (npp js) (exs js) t) t := rfl
  rw [e]
  rcases h with ⟨h1, h2⟩ | ⟨i, hi, h1, h2, h3, h4, h5⟩
  · refine ⟨fun _ => ?_, fun h => by omega⟩
    rcases hs with ⟨h6, _⟩ | ⟨j, hj, h6, h7, h8, h9⟩
    · rw [if_neg (by omega)]
    · have := h2 j hj h8; omega
  · refine ⟨fun h => by omega, fun _ => ?_⟩
    rcases hs with ⟨h6, h7⟩ | ⟨j, hj, h6, h7, h8, h9⟩
    · have := h7 i hi h2 h3; omega
    · have := h5 j hj h8 h9
      rw [if_pos (by omega), h6, h1, this]
theorem cur_next {l : List Task} {js : List Job} {cur : Int} {t : Nat} (hl : JL l js) (h : Cur js cur t) : Cur js (if 0 ≤ runL (npp js) (exs js) t ∧ rd (stL (npp js) (exs js) (t + 1)) (runL (npp js) (exs js) t) ≠ 0 then runL (npp js) (exs js) t else -1) (t + 1) := by
  have hst : (stL (npp js) (exs js) t).length = js.length := by rw [stL_len, exs_len]
  have hp := npp_picks js (stL (npp js) (exs js) t) t (stL_len t)
  have hpos := hl.pos
  have hS := sch_of (npp_picks js) hpos
  have hpk := cur_pick h
  rw [exs_len] at hp
  rcases hp with hr | ⟨i, hi, hr, hrel, hliv⟩
  · have hr : runL (npp js) (exs js) t = -1 := hr
    have e := (st_idle hr).1
    rw [hr, if_neg (by omega)]
    left
    refine ⟨rfl, ?_⟩
    rw [e]
    rcases h with ⟨_, h2⟩ | ⟨i, hi, h1, _⟩
    · exact h2
    · have := hpk.2 (by omega); omega
  · have hr : runL (npp js) (exs js) t = (i : Int) := hr
    have e := (st_run hr (by rw [exs_len]; exact hi)).1
    have hle := hS.le_ex t i (by rw [exs_len]; exact hi)
    rw [exs_rd js i hi] at hle
    -- no other job has started
    have oth : ∀ j, j < js.length → j ≠ i → 0 < rd (stL (npp js) (exs js) t) (j : Int) → (rj js j).f3 ≤ rd (stL (npp js) (exs js) t) (j : Int) := by
      intro j hj hji hjl
      rcases h with ⟨_, h2⟩ | ⟨c, hc, h1, _, _, _, h5⟩
      · exact h2 j hj hjl
      · have hci : (c : Int) = (i : Int) := by rw [← h1, ← hr]; exact (hpk.2 (by omega)).symm
        apply Classical.byContradiction
        intro hcn
        have := h5 j hj hjl (by omega)
        omega
    rw [hr, e, rd_set_eq _ _ _ (by omega)]
    by_cases hz : rd (stL (npp js) (exs js) t) (i : Int) - 1 = 0
    · rw [if_neg (fun h => h.2 hz)]
      left
      refine ⟨rfl, fun j hj => ?_⟩
      rw [e]
      by_cases eij : j = i
      · subst eij
        rw [rd_set_eq _ _ _ (by omega)]
        intro h0; omega
      · rw [rd_set_ne _ _ _ _ eij]
        exact oth j hj eij
    · rw [if_pos ⟨by omega, hz⟩]
      right
      refine ⟨i, hi, rfl, by omega, ?_, ?_, fun j hj => ?_⟩
      · rw [e, rd_set_eq _ _ _ (by omega)]; omega
      · rw [e, rd_set_eq _ _ _ (by omega)]; omega
      · rw [e]
        by_cases eij : j = i
        · intro _ _; exact eij
        · rw [rd_set_ne _ _ _ _ eij]
          intro h1 h2
          have := oth j hj eij h1; omega
theorem spec_np_run {l : List Task} {js : List Job} (hl : JL l js) : Ev (fun k => spec_RunNonPreemptive.l0 k js [] (keys js) 0 []) (sch js (npp js)) := by
  have h60 := hl.2.1
  have hS := sch_of (npp_picks js) hl.pos
  have ticks : ∀ d t cur, t + d = 120 → Cur js cur t → Ev (fun k => spec_RunNonPreemptive.l1 k js (stL (npp js) (exs js) t) (keys js) cur (t : Int) ((List.range t).map (runL (npp js) (exs js))) (finL (npp js) (exs js) t)) (sch js (npp js)) := by
    intro d
    induction d with
    | zero =>
      intro t cur ht _
      obtain rfl : t = 120 := by omega
      refine Ev.step (f := fun _ => some (sch js (npp js))) (fun k => ?_) (Ev.now _)
      simp only [spec_RunNonPreemptive.l1]
      rw [if_neg (by omega)]
      rfl
    | succ d ih =>
      intro t cur ht hc
      have hpk := cur_pick hc
      have hst : (stL (npp js) (exs js) t).length = js.length := by rw [stL_len, exs_len]
      have hfl : (finL (npp js) (exs js) t).length = js.length := by rw [finL_len, exs_len]
      have hnx := cur_next hl hc
      have hw : wrap64 ((t : Int) + 1) = ((t + 1 : Nat) : Int) := by rw [w64 (by omega) (by omega)]; omega
      have hrange : (List.range (t + 1)).map (runL (npp js) (exs js)) = (List.range t).map (runL (npp js) (exs js)) ++ [runL (npp js) (exs js) t] := by rw [List.range_succ, List.map_append]; rfl
      have body : Ev (fun k => spec_RunNonPreemptive.j2 k js (stL (npp js) (exs js) t) (keys js) (runL (npp js) (exs js) t) (t : Int) ((List.range t).map (runL (npp js) (exs js))) (finL (npp js) (exs js) t)) (sch js (npp js)) := by
        have hp := npp_picks js (stL (npp js) (exs js) t) t (stL_len t)
        rw [exs_len] at hp
        rcases hp with hr | ⟨i, hi, hr, hrel, hliv⟩
        · have hr : runL (npp js) (exs js) t = -1 := hr
          have e := st_idle hr
          have hnx2 := hnx
          rw [hr, if_neg (by omega)] at hnx2
          refine Ev.step (fun k => ?_) (ih (t + 1) (-1) (by omega) hnx2)
          simp only [spec_RunNonPreemptive.j2]
          rw [if_pos (by rw [List.length_map, List.length_range]; omega), Option.bind_some, hr, if_neg (by omega), hw, e.1, e.2, hrange, hr]
        · have hr : runL (npp js) (exs js) t = (i : Int) := hr
          have e := st_run hr (by rw [exs_len]; exact hi)
          have hle := hS.le_ex t i (by rw [exs_len]; exact hi)
          have hxb := exs_bd hl i hi
          have hw2 : wrap64 (rd (stL (npp js) (exs js) t) (i : Int) - 1) = rd (stL (npp js) (exs js) t) (i : Int) - 1 := w64 (by omega) (by omega)
          have hnx2 := hnx
          rw [hr, e.1, rd_set_eq _ _ _ (by omega)] at hnx2
          by_cases hz : rd (stL (npp js) (exs js) t) (i : Int) - 1 = 0
          · rw [if_neg (fun h => h.2 hz)] at hnx2
            refine Ev.step (fun k => ?_) (ih (t + 1) (-1) (by omega) hnx2)
            simp only [spec_RunNonPreemptive.j2]
            rw [if_pos (by rw [List.length_map, List.length_range]; omega), Option.bind_some, hr, if_pos (by omega), if_pos (by omega), if_pos (by omega), Option.bind_some, hw2, Int.toNat_natCast, rd_set_eq _ _ _ (by omega), if_pos hz, if_pos (by omega), hw, e.1, e.2, if_pos hz, hrange, hr]
            rfl
          · rw [if_pos ⟨by omega, hz⟩] at hnx2
            refine Ev.step (fun k => ?_) (ih (t + 1) (i : Int) (by omega) hnx2)
            simp only [spec_RunNonPreemptive.j2]
            rw [if_pos (by rw [List.length_map, List.length_range]; omega), Option.bind_some, hr, if_pos (by omega), if_pos (by omega), if_pos (by omega), Option.bind_some, hw2, Int.toNat_natCast, rd_set_eq _ _ _ (by omega), if_neg hz, hw, e.1, e.2, if_neg hz, hrange, hr]
      by_cases hneg : cur < 0
      · have hb := best_ev js (stL (npp js) (exs js) t) t (by omega) hst
        rw [← hpk.1 hneg] at hb
        refine Ev.step (f := fun k => (spec_l3Best.f k js (stL (npp js) (exs js) t) (keys js) (t : Int)).bind fun t358 => (spec_RunNonPreemptive.j2 k js (stL (npp js) (exs js) t) (keys js) t358 (t : Int) ((List.range t).map (runL (npp js) (exs js))) (finL (npp js) (exs js) t))) (fun k => ?_) (Ev.bind hb body)
        simp only [spec_RunNonPreemptive.l1]
        rw [if_pos (by omega), if_pos hneg]
      · have hcur := hpk.2 (by omega)
        refine Ev.step (fun k => ?_) body
        simp only [spec_RunNonPreemptive.l1]
        rw [if_pos (by omega), if_neg hneg, hcur]
  have build : ∀ d i, i + d = js.length → Ev (fun k => spec_RunNonPreemptive.l0 k js ((js.take i).map (fun j => j.f3)) (keys js) (i : Int) (List.replicate i (-1))) (sch js (npp js)) := by
    intro d
    induction d with
    | zero =>
      intro i hi
      obtain rfl : i = js.length := by omega
      have h0 : Cur js (-1) 0 := by
        left
        refine ⟨rfl, fun i hi _ => ?_⟩
        rw [show stL (npp js) (exs js) 0 = exs js from rfl, exs_rd js i hi]
        exact Int.le_refl _
      refine Ev.step (fun k => ?_) (ticks 120 0 (-1) (by omega) h0)
      simp only [spec_RunNonPreemptive.l0]
      rw [if_neg (by omega), List.take_of_length_le (Nat.le_refl _)]
      have e : finL (npp js) (exs js) 0 = List.replicate js.length (-1) := by rw [finL, exs_len]
      rw [e]
      rfl
    | succ d ih =>
      intro i hi
      have hil : i < js.length := by omega
      refine Ev.step (fun k => ?_) (ih (i + 1) (by omega))
      simp only [spec_RunNonPreemptive.l0]
      rw [if_pos (by omega), if_pos (by omega), if_pos (by rw [List.length_map, List.length_take]; omega), if_pos (by rw [List.length_replicate]; omega), rjT, rj_at js i hil, map_take _ _ _ hil, w64 (by omega) (by omega), List.replicate_succ']
      rfl
  exact build js.length 0 (by omega)
theorem spec_rn (l : List Task) (js : List Job) (hl : l.length ≤ 1000000) (hj : js.length ≤ 1000000) : Ev (fun k => spec_RunNonPreemptive.f k l js) (RN l js) := by
  unfold spec_RunNonPreemptive.f
  refine Ev.bind (spec_jl l js (by omega) (by omega)) ?_
  unfold RN
  by_cases h : JL l js
  · simp only [decide_eq_true h, if_true]
    rw [if_pos h]
    exact Ev.bind (keys_ev js (by have := h.2.1; omega)) (spec_np_run h)
  · simp only [decide_eq_false h]
    rw [if_neg h]
    exact Ev.now _
end Go.Proofs.Ytkdfjomhichkoaa.Npr
/- The draw of a task ends, and its numbers are small. Conditions: as the reader's. -/
namespace Go.Proofs.Ytkdfjomhichkoaa.DrTask
open Go.RowKit Go.Proofs.Ytkdfjomhichkoaa.P Go.Proofs.Ytkdfjomhichkoaa.Base Go.Proofs.Ytkdfjomhichkoaa.Gen Go.Proofs.Ytkdfjomhichkoaa.Pb Go.Proofs.YtkdfjomhichkoaaW.PrintWords Go.Proofs.YtkdfjomhichkoaaW.PrintLast
theorem rd_bd {xs : List Int} {i : Int} (lo hi : Int) (h0 : 0 ≤ i) (h1 : i < (xs.length : Int)) (h : ∀ x ∈ xs, lo ≤ x ∧ x ≤ hi) : lo ≤ rd xs i ∧ rd xs i ≤ hi := h _ (rd_mem h0 h1)
theorem mx_bd (a b : Int) : a ≤ mx a b ∧ b ≤ mx a b ∧ (mx a b = a ∨ mx a b = b) := by unfold mx; split <;> omega
theorem mn_bd (a b : Int) : mn a b ≤ a ∧ mn a b ≤ b ∧ (mn a b = a ∨ mn a b = b) := by unfold mn; split <;> omega
/-- A task that is small; and, if nobody asked for another, valid. -/
def SmallT (c d p : Int) : Prop := -20 ≤ c ∧ c ≤ 20 ∧ -20 ≤ d ∧ d ≤ 20 ∧ -20 ≤ p ∧ p ≤ 20
theorem task_tot (s : List Int) (p n : Int) (hs : Bytes s) (hp : 0 ≤ p) (hp2 : p ≤ 900000000) :
    Tot (fun k => spec_l20Task.f k s p n) (fun r => SmallT r.1 r.2.1 r.2.2.1 ∧ p ≤ r.2.2.2 ∧ r.2.2.2 ≤ p + 9) := by
  have last : ∀ (q c d e : Int), SmallT c d e → p ≤ q → q ≤ p + 9 → Tot (fun k => spec_l20Task.j0 k s q c d e) (fun r => SmallT r.1 r.2.1 r.2.2.1 ∧ p ≤ r.2.2.2 ∧ r.2.2.2 ≤ p + 9) := by
    intro q c d e h1 h2 h3
    exact Tot.step (fun k => by rw [spec_l20Task.j0]) (Tot.ret _ ⟨h1, h2, h3⟩)
  unfold spec_l20Task.f
  refine Tot.bind (pick_tot s p 12 hs hp (by omega)) ?_
  rintro ⟨a, q⟩ ⟨h, ha0, ha1⟩
  simp only at h ha0 ha1 ⊢; subst h
  have ha1 := ha1 (by omega)
  rw [w64 (x := 1 + a) (by omega) (by omega)]
  refine some_bind _ ?_
  refine Tot.bind (pick_tot s (p + 1) 8 hs (by omega) (by omega)) ?_
  rintro ⟨b, q⟩ ⟨h, hb0, hb1⟩
  simp only at h hb0 hb1 ⊢; subst h
  have hb1 := hb1 (by omega)
  have hlt : b < ((([2, 3, 4, 6, 8, 12, 1 + a, 5] : List Int).length : Nat) : Int) := by simp; omega
  refine Tot.yes hb0 (Tot.yes hlt ?_)
  have hc := rd_bd 1 12 hb0 hlt (by intro x hx; simp only [List.mem_cons, List.not_mem_nil, or_false] at hx; omega)
  generalize rd [2, 3, 4, 6, 8, 12, 1 + a, 5] b = P at hc ⊢
  refine Tot.bind (pick_tot s (p + 1 + 1) P hs (by omega) (by omega)) ?_
  rintro ⟨c, q⟩ ⟨h, hc0, hc1⟩
  simp only at h hc0 hc1 ⊢; subst h
  have hc1 := hc1 (by omega)
  rw [w64 (x := 1 + c) (by omega) (by omega), w64 (x := P - 1) (by omega) (by omega)]
  have hm := mx_bd 1 (P - 1)
  refine some_bind _ ?_
  refine Tot.bind (pick_tot s (p + 1 + 1 + 1) 3 hs (by omega) (by omega)) ?_
  rintro ⟨d, q⟩ ⟨h, hd0, hd1⟩
  simp only at h hd0 hd1 ⊢; subst h
  have hd1 := hd1 (by omega)
  have hlt : d < ((([P, 1 + c, mx 1 (P - 1)] : List Int).length : Nat) : Int) := by simp; omega
  refine Tot.yes hd0 (Tot.yes hlt ?_)
  have hD := rd_bd 1 12 hd0 hlt (by intro x hx; simp only [List.mem_cons, List.not_mem_nil, or_false] at hx; omega)
  generalize rd [P, 1 + c, mx 1 (P - 1)] d = D at hD ⊢
  have e2 := tdiv_ok D 2 (by omega) (by omega)
  have e3 := tdiv_ok D 3 (by omega) (by omega)
  rw [w64 (x := Int.tdiv D 2) (by omega) (by omega), w64 (x := Int.tdiv D 3) (by omega) (by omega)]
  have hm2 := mx_bd 1 (Int.tdiv D 2)
  have hm3 := mx_bd 1 (Int.tdiv D 3)
  refine some_bind _ ?_
  refine Tot.bind (pick_tot s (p + 1 + 1 + 1 + 1) 3 hs (by omega) (by omega)) ?_
  rintro ⟨e, q⟩ ⟨h, he0, he1⟩
  simp only at h he0 he1 ⊢; subst h
  have he1 := he1 (by omega)
  have hlt : e < ((([D, mx 1 (Int.tdiv D 2), mx 1 (Int.tdiv D 3)] : List Int).length : Nat) : Int) := by simp; omega
  refine Tot.yes he0 (Tot.yes hlt ?_)
  have hE := rd_bd 1 12 he0 hlt (by intro x hx; simp only [List.mem_cons, List.not_mem_nil, or_false] at hx; omega)
  generalize rd [D, mx 1 (Int.tdiv D 2), mx 1 (Int.tdiv D 3)] e = E at hE ⊢
  have hmn := mn_bd 8 E
  refine Tot.bind (pick_tot s (p + 1 + 1 + 1 + 1 + 1) (mn 8 E) hs (by omega) (by omega)) ?_
  rintro ⟨f, q⟩ ⟨h, hf0, hf1⟩
  simp only at h hf0 hf1 ⊢; subst h
  have hf1 := hf1 (by omega)
  rw [w64 (x := 1 + f) (by omega) (by omega)]
  refine Tot.bind (odd_tot s (p + 1 + 1 + 1 + 1 + 1 + 1) n hs (by omega) (by omega)) ?_
  rintro ⟨g, q⟩ ⟨h1, h2⟩
  simp only at h1 h2 ⊢
  refine Tot.ite (fun _ => ?_) (fun _ => last _ _ _ _ (by unfold SmallT; omega) (by omega) (by omega))
  refine Tot.bind (pick_tot s q 3 hs (by omega) (by omega)) ?_
  rintro ⟨u, q'⟩ ⟨h, hu0, hu1⟩
  simp only at h hu0 hu1 ⊢; subst h
  refine Tot.ite (fun _ => ?_) (fun _ => Tot.ite (fun _ => ?_) (fun _ => ?_))
  · rw [w64 (x := D + 1) (by omega) (by omega)]
    refine some_bind _ ?_
    refine Tot.bind (pick_tot s (q + 1) 4 hs (by omega) (by omega)) ?_
    rintro ⟨v, q'⟩ ⟨h, hv0, hv1⟩
    simp only at h hv0 hv1 ⊢; subst h
    have hlt : v < ((([0, -1, 9, D + 1] : List Int).length : Nat) : Int) := by simp; omega
    refine Tot.yes hv0 (Tot.yes hlt ?_)
    have hV := rd_bd (-1) 13 hv0 hlt (by intro x hx; simp only [List.mem_cons, List.not_mem_nil, or_false] at hx; omega)
    exact last _ _ _ _ (by unfold SmallT; omega) (by omega) (by omega)
  · rw [w64 (x := P + 1) (by omega) (by omega)]
    refine some_bind _ ?_
    refine Tot.bind (pick_tot s (q + 1) 3 hs (by omega) (by omega)) ?_
    rintro ⟨v, q'⟩ ⟨h, hv0, hv1⟩
    simp only at h hv0 hv1 ⊢; subst h
    have hlt : v < ((([0, P + 1, -1] : List Int).length : Nat) : Int) := by simp; omega
    refine Tot.yes hv0 (Tot.yes hlt ?_)
    have hV := rd_bd (-1) 13 hv0 hlt (by intro x hx; simp only [List.mem_cons, List.not_mem_nil, or_false] at hx; omega)
    exact last _ _ _ _ (by unfold SmallT; omega) (by omega) (by omega)
  · refine some_bind _ ?_
    refine Tot.bind (pick_tot s (q + 1) 3 hs (by omega) (by omega)) ?_
    rintro ⟨v, q'⟩ ⟨h, hv0, hv1⟩
    simp only at h hv0 hv1 ⊢; subst h
    have hlt : v < ((([0, 13, -1] : List Int).length : Nat) : Int) := by simp; omega
    refine Tot.yes hv0 (Tot.yes hlt ?_)
    have hV := rd_bd (-1) 13 hv0 hlt (by intro x hx; simp only [List.mem_cons, List.not_mem_nil, or_false] at hx; omega)
    exact last _ _ _ _ (by unfold SmallT; omega) (by omega) (by omega)
end Go.Proofs.Ytkdfjomhichkoaa.DrTask
/- The draw of a task set ends, and the set is short. Conditions: as the reader's. -/
namespace Go.Proofs.Ytkdfjomhichkoaa.DrSet
open Go.RowKit Go.Proofs.Ytkdfjomhichkoaa.P Go.Proofs.Ytkdfjomhichkoaa.Base Go.Proofs.Ytkdfjomhichkoaa.Gen Go.Proofs.Ytkdfjomhichkoaa.Pb Go.Proofs.Ytkdfjomhichkoaa.DrTask Go.Proofs.YtkdfjomhichkoaaW.PrintWords Go.Proofs.YtkdfjomhichkoaaW.PrintLast
abbrev Task := S88
def Short (p : Int) (r : List Task × Int) : Prop := r.1.length ≤ 20 ∧ p ≤ r.2 ∧ r.2 ≤ p + 300
theorem set_tot (s : List Int) (p n : Int) (hs : Bytes s) (hp : 0 ≤ p) (hp2 : p ≤ 100000) : Tot (fun k => spec_l20Set.f k s p n) (Short p) := by
  have more : ∀ (d : Nat) (x : List Task) (q : Int), x.length + d = 6 → p ≤ q → q ≤ p + 100 + 10 * (6 - d) → Tot (fun k => spec_l20Set.l1 k x s q) (Short p) := by
    intro d
    induction d with
    | zero =>
      intro x q h1 h2 h3
      refine Tot.step (fun k => by rw [spec_l20Set.l1]) (Tot.no (by omega) ?_)
      refine Tot.bind (task_tot s q 2 hs (by omega) (by omega)) ?_
      rintro ⟨a, b, c, q2⟩ ⟨_, h4, h5⟩
      simp only at h4 h5 ⊢
      exact Tot.yes (by omega) (Tot.ret _ ⟨by simp; omega, by simp; omega, by simp; omega⟩)
    | succ d ih =>
      intro x q h1 h2 h3
      refine Tot.step (fun k => by rw [spec_l20Set.l1]) (Tot.yes (by omega) ?_)
      refine Tot.bind (task_tot s q 0 hs (by omega) (by omega)) ?_
      rintro ⟨a, b, c, q2⟩ ⟨_, h4, h5⟩
      simp only at h4 h5 ⊢
      exact Tot.yes (by omega) (ih _ _ (by simp; omega) (by omega) (by omega))
  have first : ∀ (d : Nat) (x6 : Int) (x : List Task) (q : Int), x6 = d → x.length + d ≤ 5 → p ≤ q → q ≤ p + 1 + 9 * (5 - d) → Tot (fun k => spec_l20Set.l0 k n x x6 s q) (Short p) := by
    intro d
    induction d with
    | zero =>
      intro x6 x q h1 h2 h3 h4
      refine Tot.step (fun k => by rw [spec_l20Set.l0]) (Tot.no (by omega) ?_)
      refine Tot.bind (odd_tot s q n hs (by omega) (by omega)) ?_
      rintro ⟨a, q2⟩ ⟨h5, h6⟩
      simp only at h5 h6 ⊢
      refine Tot.ite (fun _ => ?_) (fun _ => Tot.ret _ ⟨by simp; omega, by simp; omega, by simp; omega⟩)
      refine Tot.bind (pick_tot s q2 3 hs (by omega) (by omega)) ?_
      rintro ⟨b, q3⟩ ⟨h7, h8, h9⟩
      simp only at h7 h8 h9 ⊢; subst h7
      refine Tot.ite (fun _ => more (6 - x.length) x _ (by omega) (by omega) (by omega)) (fun _ => ?_)
      refine Tot.bind (task_tot s (q2 + 1) 2 hs (by omega) (by omega)) ?_
      rintro ⟨a, b, c, q4⟩ ⟨_, h10, h11⟩
      simp only at h10 h11 ⊢
      exact Tot.yes (by omega) (Tot.ret _ ⟨by simp; omega, by simp; omega, by simp; omega⟩)
    | succ d ih =>
      intro x6 x q h1 h2 h3 h4
      refine Tot.step (fun k => by rw [spec_l20Set.l0]) (Tot.yes (by omega) ?_)
      refine Tot.bind (task_tot s q 0 hs (by omega) (by omega)) ?_
      rintro ⟨a, b, c, q2⟩ ⟨_, h4, h5⟩
      simp only at h4 h5 ⊢
      rw [w64 (x := x6 - 1) (by omega) (by omega)]
      exact Tot.yes (by omega) (ih _ _ _ (by omega) (by simp; omega) (by omega) (by omega))
  unfold spec_l20Set.f
  refine Tot.bind (pick_tot s p 6 hs hp (by omega)) ?_
  rintro ⟨a, q2⟩ ⟨h5, h6, h7⟩
  simp only at h5 h6 h7 ⊢; subst h5
  have h7 := h7 (by omega)
  exact first a.toNat a [] _ (by omega) (by simp; omega) (by omega) (by omega)
end Go.Proofs.Ytkdfjomhichkoaa.DrSet
/- The draw of jobs ends, and there are at most 61. Conditions: as the reader's; the set is valid. -/
namespace Go.Proofs.Ytkdfjomhichkoaa.DrJobs
open Go.RowKit Go.Proofs.Ytkdfjomhichkoaa.P Go.Proofs.Ytkdfjomhichkoaa.Base Go.Proofs.Ytkdfjomhichkoaa.Gen Go.Proofs.Ytkdfjomhichkoaa.Pb Go.Proofs.Ytkdfjomhichkoaa.Set Go.Proofs.Ytkdfjomhichkoaa.Jobs Go.Proofs.YtkdfjomhichkoaaW.PrintWords Go.Proofs.YtkdfjomhichkoaaW.PrintLast
theorem jobs_tot (s : List Int) (l : List Task) (p n : Int) (hs : Bytes s) (hl : l.length ≤ 5) (hp : 0 ≤ p) (hp2 : p ≤ 100000) : Tot (fun k => spec_l20Jobs.f k s p l n) (fun r => r.1.length ≤ 61) := by
  have fill : ∀ (d : Nat) (x : List Job) (q : Int), x.length + d = 61 → Tot (fun k => spec_l20Jobs.l2 k x s q) (fun r => r.1.length ≤ 61) := by
    intro d
    induction d with
    | zero => intro x q hx; exact Tot.step (fun k => by rw [spec_l20Jobs.l2]) (Tot.no (by omega) (Tot.ret _ (by simp only; omega)))
    | succ d ih =>
      intro x q hx
      exact Tot.step (fun k => by rw [spec_l20Jobs.l2]) (Tot.yes (by omega) (Tot.yes (by omega) (ih _ q (by rw [List.length_append, List.length_singleton]; omega))))
  have last : ∀ (x : List Job) (b : Bool) (q : Int), x.length ≤ 60 → (b = true → 0 < x.length) → 0 ≤ q → q ≤ 900000 → Tot (fun k => spec_l20Jobs.j3 k l x b s q) (fun r => r.1.length ≤ 61) := by
    intro x b q hx hb hq0 hq1
    refine Tot.step (fun k => by rw [spec_l20Jobs.j3]) (Tot.ite (fun hbt => ?_) (fun _ => Tot.ret _ (by simp only; omega)))
    have hpos := hb hbt
    refine Tot.bind (pick_tot s q (x.length : Int) hs hq0 (by omega)) ?_
    rintro ⟨a, q2⟩ ⟨h1, h2, h3⟩
    simp only at h1 h2 h3 ⊢; subst h1
    have h3 := h3 (by omega)
    refine Tot.bind (pick_tot s (q + 1) 6 hs (by omega) (by omega)) ?_
    rintro ⟨c, q3⟩ ⟨h4, h5, h6⟩
    simp only at h4 h5 h6 ⊢; subst h4
    refine Tot.ite (fun _ => ?_) (fun _ => Tot.ite (fun _ => ?_) (fun _ => Tot.ite (fun _ => ?_) (fun _ => Tot.ite (fun _ => ?_) (fun _ => Tot.ite (fun _ => ?_) (fun _ => ?_)))))
    · refine some_bind _ (Tot.bind (pick_tot s (q + 1 + 1) 2 hs (by omega) (by omega)) ?_)
      rintro ⟨d, q4⟩ ⟨h7, h8, h9⟩
      simp only at h7 h8 h9 ⊢; subst h7
      have h9 := h9 (by omega)
      exact Tot.yes h8 (Tot.yes (by simp; omega) (Tot.yes h2 (Tot.yes h3 (Tot.ret _ (by simp only [List.length_set]; omega)))))
    · refine Tot.yes h2 (Tot.yes h3 (some_bind _ (Tot.bind (pick_tot s (q + 1 + 1) 3 hs (by omega) (by omega)) ?_)))
      rintro ⟨d, q4⟩ ⟨h7, h8, h9⟩
      simp only at h7 h8 h9 ⊢; subst h7
      have h9 := h9 (by omega)
      exact Tot.yes h8 (Tot.yes (by simp; omega) (Tot.ret _ (by simp only [List.length_set]; omega)))
    · exact Tot.yes h2 (Tot.yes h3 (Tot.ret _ (by simp only [List.length_set]; omega)))
    · refine some_bind _ (Tot.bind (pick_tot s (q + 1 + 1) 2 hs (by omega) (by omega)) ?_)
      rintro ⟨d, q4⟩ ⟨h7, h8, h9⟩
      simp only at h7 h8 h9 ⊢; subst h7
      have h9 := h9 (by omega)
      exact Tot.yes h8 (Tot.yes (by simp; omega) (Tot.yes h2 (Tot.yes h3 (Tot.ret _ (by simp only [List.length_set]; omega)))))
    · exact Tot.yes h2 (Tot.yes h3 (Tot.yes (by omega) (Tot.ret _ (by simp only [List.length_append, List.length_singleton]; omega))))
    · exact fill (61 - x.length) x _ (by omega)
  have inner : ∀ (t : Int) (u : Int), 0 ≤ u → u ≤ 3 → ∀ (R : Int → Prop),
      (∀ (x : List Job) (y : List Int) (q : Int), x.length ≤ 60 → y.length = l.length → R q → Tot (fun k => spec_l20Jobs.l0 k l n x y u (wrap64 (t + 1)) s q) (fun r => r.1.length ≤ 61)) →
      ∀ (d i : Nat) (x : List Job) (y : List Int) (q : Int), i + d = l.length → x.length ≤ 60 → y.length = l.length → 0 ≤ q → (∀ q', q ≤ q' → q' ≤ q + 3 * d → R q') → q + 3 * d ≤ 900000 → Tot (fun k => spec_l20Jobs.l1 k l n x y u t (i : Int) s q) (fun r => r.1.length ≤ 61) := by
    intro t u hu0 hu1 R hR d
    induction d with
    | zero =>
      intro i x y q hi hx hy hq hRq _
      exact Tot.step (fun k => by rw [spec_l20Jobs.l1]) (Tot.no (by omega) (hR x y q hx hy (hRq q (by omega) (by omega))))
    | succ d ih =>
      intro i x y q hi hx hy hq hRq hqb
      have e1 : wrap64 ((i : Int) + 1) = ((i + 1 : Nat) : Int) := by rw [w64 (by omega) (by omega)]; omega
      have next : ∀ (x2 : List Job) (y2 : List Int) (q2 : Int), x2.length ≤ 60 → y2.length = l.length → q ≤ q2 → q2 ≤ q + 3 → Tot (fun k => spec_l20Jobs.l1 k l n x2 y2 u t (wrap64 ((i : Int) + 1)) s q2) (fun r => r.1.length ≤ 61) := by
        intro x2 y2 q2 hx2 hy2 h1 h2
        rw [e1]
        exact ih (i + 1) x2 y2 q2 (by omega) hx2 hy2 (by omega) (fun q' h3 h4 => hRq q' (by omega) (by omega)) (by omega)
      have j2 : ∀ (b : Bool) (q2 : Int), (b = false → x.length < 60) → q ≤ q2 → q2 ≤ q + 1 → Tot (fun k => spec_l20Jobs.j2 k l n x y u t (i : Int) b s q2) (fun r => r.1.length ≤ 61) := by
        intro b q2 hb h1 h2
        refine Tot.step (fun k => by rw [spec_l20Jobs.j2]) (Tot.ite (fun _ => next x y q2 hx hy h1 (by omega)) (fun hbf => ?_))
        have hlt := hb (by simpa using hbf)
        refine Tot.yes (by omega) (Tot.yes (by omega) ?_)
        refine Tot.bind (pick_tot s q2 3 hs (by omega) (by omega)) ?_
        rintro ⟨a, q3⟩ ⟨h3, h4, h5⟩
        simp only at h3 h4 h5 ⊢; subst h3
        refine Tot.ite (fun _ => ?_) (fun _ => ?_)
        · refine Tot.bind (pick_tot s (q2 + 1) _ hs (by omega) (by omega)) ?_
          rintro ⟨c, q4⟩ ⟨h6, h7, h8⟩
          simp only at h6 h7 h8 ⊢; subst h6
          exact Tot.yes (by omega) (Tot.yes (by omega) (next _ _ _ (by rw [List.length_append, List.length_singleton]; omega) (by rw [List.length_set]; exact hy) (by omega) (by omega)))
        · exact Tot.yes (by omega) (Tot.yes (by omega) (next _ _ _ (by rw [List.length_append, List.length_singleton]; omega) (by rw [List.length_set]; exact hy) (by omega) (by omega)))
      refine Tot.step (fun k => by rw [spec_l20Jobs.l1]) (Tot.yes (by omega) (Tot.yes (by omega) (Tot.yes (by omega) ?_)))
      refine Tot.ite (fun _ => j2 true q (by simp) (by omega) (by omega)) (fun _ => Tot.ite (fun _ => j2 true q (by simp) (by omega) (by omega)) (fun h60 => ?_))
      refine Tot.ite (fun _ => ?_) (fun _ => j2 false q (fun _ => by omega) (by omega) (by omega))
      refine Tot.bind (pick_tot s q _ hs hq (by omega)) ?_
      rintro ⟨a, q3⟩ ⟨h3, h4, h5⟩
      simp only at h3 h4 h5 ⊢; subst h3
      exact j2 _ _ (fun _ => by omega) (by omega) (by omega)
  have outer : ∀ (u : Int), 0 ≤ u → u ≤ 3 → ∀ (d i : Nat) (x : List Job) (y : List Int) (q : Int), i + d = 100 → x.length ≤ 60 → y.length = l.length → 0 ≤ q → q + 15 * d ≤ 800000 → Tot (fun k => spec_l20Jobs.l0 k l n x y u (i : Int) s q) (fun r => r.1.length ≤ 61) := by
    intro u hu0 hu1 d
    induction d with
    | zero =>
      intro i x y q hi hx hy hq hqb
      refine Tot.step (fun k => by rw [spec_l20Jobs.l0]) (Tot.no (by omega) ?_)
      refine Tot.bind (odd_tot s q n hs hq (by omega)) ?_
      rintro ⟨a, q2⟩ ⟨h1, h2⟩
      simp only at h1 h2 ⊢
      exact Tot.ite (fun _ => last x _ q2 hx (fun h => by have := of_decide_eq_true h; omega) (by omega) (by omega)) (fun _ => last x _ q2 hx (by simp) (by omega) (by omega))
    | succ d ih =>
      intro i x y q hi hx hy hq hqb
      refine Tot.step (fun k => by rw [spec_l20Jobs.l0]) (Tot.yes (by omega) ?_)
      refine inner (i : Int) u hu0 hu1 (fun q' => q ≤ q' ∧ q' ≤ q + 15) (fun x2 y2 q2 hx2 hy2 hq2 => ?_) l.length 0 x y q (by omega) hx hy hq (fun q' h1 h2 => ⟨h1, by omega⟩) (by omega)
      rw [show wrap64 ((i : Int) + 1) = ((i + 1 : Nat) : Int) by rw [w64 (by omega) (by omega)]; omega]
      exact ih (i + 1) x2 y2 q2 (by omega) hx2 hy2 (by omega) (by omega)
  unfold spec_l20Jobs.f
  refine Tot.yes (by omega) (Tot.yes (by rw [Int.toNat_natCast]; omega) ?_)
  refine Tot.bind (pick_tot s p 3 hs hp (by omega)) ?_
  rintro ⟨a, q2⟩ ⟨h1, h2, h3⟩
  simp only at h1 h2 h3 ⊢; subst h1
  have h3 := h3 (by omega)
  exact outer a h2 (by omega) 100 0 [] _ _ (by omega) (by simp) (by rw [List.length_replicate, Int.toNat_natCast]) (by omega) (by omega)
end Go.Proofs.Ytkdfjomhichkoaa.DrJobs
/- A row is the same as itself. Condition: it is not too long. -/
namespace Go.Proofs.Ytkdfjomhichkoaa.Same
open Go.RowKit Go.Proofs.Ytkdfjomhichkoaa.P Go.Proofs.Ytkdfjomhichkoaa.Base Go.Proofs.Ytkdfjomhichkoaa.Gen Go.Proofs.YtkdfjomhichkoaaW.PrintWords Go.Proofs.YtkdfjomhichkoaaW.PrintLast
theorem same_tot (l : List Int) (hl : l.length ≤ 1048576) : Tot (fun k => laws_sameInts.f k l l) (fun r => r = true) := by
  have h := Tot.look (r := true) (fun k i => laws_sameInts.l0 k l l i) l.length (fun k i h => by
    simp only [laws_sameInts.l0]
    rw [if_pos (by omega), if_pos (by omega), if_pos (by omega), if_pos (by first | trivial | rfl), w64 (by omega) (by omega)]) (fun k => by
    simp only [laws_sameInts.l0]
    rw [if_neg (by omega)])
  refine Tot.congr (fun k => ?_) h
  unfold laws_sameInts.f
  rw [if_pos rfl]
end Go.Proofs.Ytkdfjomhichkoaa.Same
/- The draw of a set and its jobs ends, and both are short. Condition: the code is bytes. -/
namespace Go.Proofs.Ytkdfjomhichkoaa.DrNp
open Go.RowKit Go.Proofs.Ytkdfjomhichkoaa.P Go.Proofs.Ytkdfjomhichkoaa.Base Go.Proofs.Ytkdfjomhichkoaa.Gen Go.Proofs.Ytkdfjomhichkoaa.Pb Go.Proofs.Ytkdfjomhichkoaa.Set Go.Proofs.Ytkdfjomhichkoaa.Tm Go.Proofs.Ytkdfjomhichkoaa.DrSet Go.Proofs.Ytkdfjomhichkoaa.Jobs Go.Proofs.Ytkdfjomhichkoaa.DrJobs Go.Proofs.Ytkdfjomhichkoaa.Same Go.Proofs.YtkdfjomhichkoaaW.PrintWords Go.Proofs.YtkdfjomhichkoaaW.PrintLast
theorem implicit_tot (s : List Int) (n : Int) (hs : Bytes s) : Tot (fun k => spec_l20Implicit.f k s 0 n) (fun r => r.1.length ≤ 20 ∧ 0 ≤ r.2 ∧ r.2 ≤ 400) := by
  unfold spec_l20Implicit.f
  refine Tot.bind (set_tot s 0 n hs (by omega) (by omega)) ?_
  rintro ⟨x, q⟩ ⟨h1, h2, h3⟩
  simp only at h1 h2 h3 ⊢
  refine Tot.bind (odd_tot s q n hs (by omega) (by omega)) ?_
  rintro ⟨a, q2⟩ ⟨h4, h5⟩
  simp only at h4 h5 ⊢
  refine Tot.ite (fun _ => Tot.ret _ ⟨h1, by simp only; omega, by simp only; omega⟩) (fun _ => ?_)
  have loop : ∀ (d i : Nat) (y : List Set.Task), i + d = y.length → y.length ≤ 20 → Tot (fun k => spec_l20Implicit.l0 k y (i : Int) s q2) (fun r => r.1.length ≤ 20 ∧ 0 ≤ r.2 ∧ r.2 ≤ 400) := by
    intro d
    induction d with
    | zero =>
      intro i y hi hy
      exact Tot.step (fun k => by rw [spec_l20Implicit.l0]) (Tot.no (by omega) (Tot.ret _ ⟨hy, by simp only; omega, by simp only; omega⟩))
    | succ d ih =>
      intro i y hi hy
      refine Tot.step (fun k => by rw [spec_l20Implicit.l0]) (Tot.yes (by omega) (Tot.yes (by omega) ?_))
      rw [w64 (by omega) (by omega)]
      exact ih (i + 1) _ (by rw [List.length_set]; omega) (by rw [List.length_set]; exact hy)
  exact loop x.length 0 x (by omega) h1
theorem draw_np (l0 : List Int) (hl : ∀ x ∈ l0, (Lit.int .u8 x).wf = true) : Tot (fun k => spec_DrawRunNonPreemptive.f k l0) (fun r => r.1.length ≤ 20 ∧ r.2.length ≤ 61) := by
  unfold spec_DrawRunNonPreemptive.f
  refine open_tot l0 hl (fun s hs => ?_)
  refine Tot.bind (implicit_tot s 20 hs) ?_
  rintro ⟨l, q⟩ ⟨h1, h2, h3⟩
  simp only at h1 h2 h3 ⊢
  refine Tot.bind (Tot.val (sset_ev l (by omega))) ?_
  rintro _ rfl
  by_cases hs2 : SetOk l
  · refine Tot.yes (decide_eq_true hs2) (Tot.bind (jobs_tot s l q 16 hs hs2.1 h2 (by omega)) ?_)
    rintro ⟨js, q2⟩ h4
    exact Tot.ret _ ⟨h1, h4⟩
  · exact Tot.no (by simp [hs2]) (Tot.ret _ ⟨h1, by simp⟩)
theorem sched_tot (a b : List Int) (ha : a.length ≤ 1048576) (hb : b.length ≤ 1048576) : Tot (fun k => laws_sameSchedule.f k a b a b) (fun r => r = true) := by
  unfold laws_sameSchedule.f
  refine Tot.bind (same_tot a ha) ?_
  rintro _ rfl
  refine Tot.yes rfl (Tot.bind (same_tot b hb) ?_)
  rintro _ rfl
  exact Tot.ret _ rfl
end Go.Proofs.Ytkdfjomhichkoaa.DrNp
/- Preemption does not matter for jobs of one tick. No condition. -/
namespace Go.Proofs.Ytkdfjomhichkoaa.Pure
open Go.RowKit Go.Proofs.Ytkdfjomhichkoaa.P Go.Proofs.Ytkdfjomhichkoaa.Base Go.Proofs.Ytkdfjomhichkoaa.Gen Go.Proofs.YtkdfjomhichkoaaW.PrintWords Go.Proofs.YtkdfjomhichkoaaW.PrintLast
open Go.Proofs.Ytkdfjomhichkoaa.Pb Go.Proofs.Ytkdfjomhichkoaa.Alive Go.Proofs.Ytkdfjomhichkoaa.Set Go.Proofs.Ytkdfjomhichkoaa.Edf Go.Proofs.Ytkdfjomhichkoaa.Sim Go.Proofs.Ytkdfjomhichkoaa.Jobs Go.Proofs.Ytkdfjomhichkoaa.Leg Go.Proofs.Ytkdfjomhichkoaa.Nps Go.Proofs.Ytkdfjomhichkoaa.Npr Go.Proofs.Ytkdfjomhichkoaa.DrNp 
def unit (js : List Job) : List Job := js.map fun j => ⟨j.f0, j.f1, j.f2, 1⟩
theorem unit_len (js : List Job) : (unit js).length = js.length := by unfold unit; rw [List.length_map]
theorem unit_rj (js : List Job) (i : Nat) (h : i < js.length) : rj (unit js) i = ⟨(rj js i).f0, (rj js i).f1, (rj js i).f2, 1⟩ := by
  rw [rj_at _ i (by rw [unit_len]; exact h), rj_at js i h]
  unfold unit
  rw [List.getElem_map]
theorem unit_jl {l : List Set.Task} {js : List Job} (h : JL l js) : JL l (unit js) := by
  refine ⟨h.1, by rw [unit_len]; exact h.2.1, fun i hi => ?_⟩
  rw [unit_len] at hi
  have h1 := h.2.2 i hi
  have ht := tk_ok h.1 (rj js i).f0 h1.1.1 h1.1.2
  unfold Jobs.One
  rw [unit_rj js i hi]
  refine ⟨h1.1, h1.2.1, ⟨by simp only; omega, by simp only; omega⟩, h1.2.2.2.1, fun h0 => ?_, fun p hp he => ?_⟩
  · rw [unit_rj js (i - 1) (by omega)]
    exact h1.2.2.2.2.1 h0
  · rw [unit_rj js p (by omega)] at he ⊢
    exact h1.2.2.2.2.2 p hp he
theorem unit_pick (js : List Job) : npp (unit js) = edfp (unit js) := by
  funext left t
  unfold npp
  rcases startp_sp (unit js) left t with ⟨h, _⟩ | ⟨i, hi, _, _, h1, h2⟩
  · rw [if_neg (by omega)]
  · rw [unit_len] at hi
    rw [unit_rj js i hi] at h2
    simp only at h2
    omega
theorem FnUnitCosts : laws_FnUnitCosts.Pure := by
  intro l0 _ hl
  apply Tot.rounds
  unfold laws_FnUnitCosts.f
  refine Tot.ite (fun _ => Tot.ret _ rfl) (fun _ => ?_)
  refine Tot.bind (draw_np l0 hl.2) ?_
  rintro ⟨l, js⟩ ⟨h1, h2⟩
  simp only at h1 h2 ⊢
  refine Tot.bind0 (impl_rn l js (by omega) (by omega)) ?_
  refine Tot.bind (Tot.val (spec_rn l js (by omega) (by omega))) ?_
  rintro _ rfl
  by_cases h : JL l js
  · have hr : RN l js = sch js (npp js) := if_pos h
    have hsl := sch_len js (npp js)
    rw [hr]
    refine Tot.bind (sched_tot _ _ (by omega) (by omega)) ?_
    rintro _ rfl
    refine Tot.yes rfl (Tot.yes (by omega) (some_bind _ (Tot.yes (by rw [List.length_nil]; omega) ?_)))
    rw [List.nil_append]
    have hu := unit_jl h
    have hul := unit_len js
    have fin : Tot (fun k => laws_FnUnitCosts.l0 k l (unit js) (js.length : Int)) (fun r => r = true) := by
      refine Tot.step (fun k => by rw [laws_FnUnitCosts.l0]) (Tot.no (by omega) ?_)
      refine Tot.bind0 (impl_rn l (unit js) (by omega) (by omega)) (Tot.bind0 (impl_re l (unit js) (by omega) (by omega)) ?_)
      have e1 : RN l (unit js) = sch (unit js) (npp (unit js)) := if_pos hu
      have e2 : RE l (unit js) = sch (unit js) (edfp (unit js)) := if_pos hu
      have hsl2 := sch_len (unit js) (edfp (unit js))
      rw [e1, e2, unit_pick]
      refine Tot.bind (sched_tot _ _ (by omega) (by omega)) ?_
      rintro _ rfl
      exact Tot.ret _ rfl
    have loop : ∀ (d i : Nat) (y : List Job), i + d = js.length → y.length = js.length → y.take i = (unit js).take i → y.drop i = js.drop i → Tot (fun k => laws_FnUnitCosts.l0 k l y (i : Int)) (fun r => r = true) := by
      intro d
      induction d with
      | zero =>
        intro i y hi hy ht hd
        obtain rfl : i = js.length := by omega
        rw [List.take_of_length_le (by omega), List.take_of_length_le (by omega)] at ht
        rw [ht]
        exact fin
      | succ d ih =>
        intro i y hi hy ht hd
        have hil : i < js.length := by omega
        have hiy : i < y.length := by omega
        have hyi : y[i] = js[i] := by
          rw [List.drop_eq_getElem_cons hiy, List.drop_eq_getElem_cons hil] at hd
          exact (List.cons.inj hd).1
        have hdd : y.drop (i + 1) = js.drop (i + 1) := by
          rw [List.drop_eq_getElem_cons hiy, List.drop_eq_getElem_cons hil] at hd
          exact (List.cons.inj hd).2
        refine Tot.step (fun k => by rw [laws_FnUnitCosts.l0]) (Tot.yes (by omega) (Tot.yes (by omega) ?_))
        rw [rjT, rj_at y i hiy, hyi, w64 (by omega) (by omega), Int.toNat_natCast]
        have hlt : i < (unit js).length := by omega
        have e : (unit js)[i] = ⟨js[i].f0, js[i].f1, js[i].f2, 1⟩ := by simp [unit]
        exact ih (i + 1) (y.set i ⟨js[i].f0, js[i].f1, js[i].f2, 1⟩) (by omega) (by rw [List.length_set]; exact hy) (by
          rw [← e]
          exact fill_step y (unit js) i (by omega) ht hlt) (by rw [List.drop_set_of_lt (by omega)]; exact hdd)
    exact loop js.length 0 js (by omega) rfl rfl rfl
  · have hr : RN l js = ([], []) := if_neg h
    rw [hr]
    refine Tot.bind (sched_tot [] [] (by simp) (by simp)) ?_
    rintro _ rfl
    exact Tot.yes rfl (Tot.no (by simp) (Tot.bind0 alive_f (Tot.ret _ rfl)))
end Go.Proofs.Ytkdfjomhichkoaa.Pure
/- Arguments of a law laid open: whatever reads as data of a type reads as a value of its kind.
   No condition. -/
namespace Go.Proofs.Ytkdfjomhichkoaa.Opn
open Go.ChangeShapes Go.WideShapes Go.Deep Go.RowKit Go.Proofs.YtkdfjomhichkoaaW.PrintWords
section
variable {H : Type} {enc : TypeId × Value → H} {P : Program} {W : World} {base : Nat} {spare : Nat → Bool} {held : Bool}

/-- Whatever reads as data of type t reads as a value of the kind d that is good. -/
def Opens {α : Type} (enc : TypeId × Value → H) (P : Program) (W : World) (base : Nat) (spare : Nat → Bool) (held : Bool) (t : TypeId) (d : Kd α) (G : α → Prop) : Prop :=
  ∀ (fuel : Nat) (cs : List Value) (x : DataW H × List MemPlace), DataW.trod enc P W base spare held fuel t cs = some x → ∃ a, d.K W a cs ∧ G a

theorem opens_int {t : TypeId} {k : IntKind} (hu : P.underlying t = some (.int k)) : Opens enc P W base spare held t (Kd.int k) (fun x => (Lit.int k x).wf = true) := by
  intro fuel cs x h
  obtain ⟨n, hc, _, hw⟩ := DataW.trod_int hu h
  exact ⟨n, hc, hw⟩
theorem list_of {α : Type} (m : Nat) (R : Nat → α → Prop) (h : ∀ i, i < m → ∃ a, R i a) : ∃ xs : List α, xs.length = m ∧ ∀ i a, xs[i]? = some a → R i a := by
  induction m with
  | zero => exact ⟨[], rfl, fun i a ha => by simp at ha⟩
  | succ m ih =>
    obtain ⟨xs, hl, hx⟩ := ih (fun i hi => h i (by omega))
    obtain ⟨a, ha⟩ := h m (by omega)
    refine ⟨xs ++ [a], by simp [hl], fun i b hb => ?_⟩
    rcases Nat.lt_or_ge i m with hi | hi
    · rw [List.getElem?_append_left (by omega)] at hb
      exact hx i b hb
    · have hi' : i = m := by
        have := (List.getElem?_eq_some_iff.1 hb).1
        simp at this
        omega
      subst hi'
      have : a = b := by simpa [hl] using hb
      subst this
      exact ha

/-- A slice of what opens. -/
theorem slice_row {α : Type} {t e : TypeId} {d : Kd α} {G : α → Prop} (hu : P.underlying t = some (.slice e)) (hC : P.cellsOf e = d.sz) (he : Opens enc P W base spare held e d G)
    {fuel : Nat} {A : Option Addr} {n cap : Nat} {x : DataW H × List MemPlace} (h : DataW.trod enc P W base spare held fuel t [.slice A n cap] = some x) :
    ∃ xs : List α, xs.length = n ∧ n ≤ cap ∧ n ≤ maxLen ∧ d.C W A xs.length xs ∧ ∀ y ∈ xs, G y := by
  rcases open_slice hu h with ⟨h0, _⟩ | ⟨a, len, c, m, k, D, Pl, hcs, _, hl, hm, hmm, _, hel⟩
  · simp only [List.cons.injEq, Value.slice.injEq, and_true] at h0
    obtain ⟨rfl, rfl, rfl⟩ := h0
    exact ⟨[], rfl, Nat.le_refl _, by simp [maxLen], Kd.C_nil d W, fun y hy => by simp at hy⟩
  · simp only [List.cons.injEq, Value.slice.injEq, and_true] at hcs
    obtain ⟨rfl, rfl, rfl⟩ := hcs
    have hle : n ≤ m := by rw [hmm]; split <;> omega
    obtain ⟨xs, hxl, hx⟩ := list_of (α := α) n (fun i y => G y ∧ ∃ cs', d.K W y cs' ∧ cs'.length = d.sz ∧ ∀ j, j < d.sz → W.cell? ((a.add (i * d.sz)).add j) = cs'[j]?) (by
      intro i hi
      obtain ⟨cs', hc, ht⟩ := hel i (by omega)
      obtain ⟨y, hK, hG⟩ := he _ _ _ ht
      rw [hC] at hc
      obtain ⟨_, hcl, hcc⟩ := World.cells?_some hc
      exact ⟨y, hG, cs', hK, hcl, hcc⟩)
    refine ⟨xs, hxl, hl, by omega, ⟨rfl, by simp only [maxLen] at hm; omega, fun hp => ⟨a, rfl, fun j p hj => ?_⟩⟩, fun y hy => ?_⟩
    · obtain ⟨_, cs', hK, hcl, hcc⟩ := hx j p hj
      refine ⟨cs', hcl, hK, fun i u hi => ?_⟩
      have hlt : i < d.sz := by
        have := (List.getElem?_eq_some_iff.1 hi).1
        omega
      rw [← Go.Deep.add_add, hcc i hlt, hi]
    · obtain ⟨i, hi, rfl⟩ := List.getElem_of_mem hy
      exact (hx i _ (List.getElem?_eq_getElem hi)).1
/-- The weight of a slice bounds its length. -/
theorem sized_row {t e : TypeId} {A : Option Addr} {n cap : Nat} {d : DataW H} {ps : List MemPlace} {ts : List TypeId} {ds : List (DataW H)} {j : Nat}
    (hsz : (DataW.weightsEach P ts ds).all (· ≤ reachBytes) = true) (ht : ts[j]? = some t) (hd : ds[j]? = some d) (hu : P.underlying t = some (.slice e)) {B : Nat} (hB : P.bytesOf e = B)
    (h : DataW.Trod enc P W base spare held t (.slice A n cap) d ps) : n * B ≤ 140737488351232 := by
  obtain ⟨fuel, hf⟩ := h
  have hf' : DataW.trod enc P W base spare held fuel t [.slice A n cap] = some (d, ps) := hf
  rcases open_slice hu hf' with ⟨h0, _⟩ | ⟨a, len, c, m, k, D, Pl, hcs, _, hl, hm, hmm, hx, hel⟩
  · simp only [List.cons.injEq, Value.slice.injEq, and_true] at h0
    obtain ⟨rfl, rfl, rfl⟩ := h0
    simp
  · simp only [List.cons.injEq, Value.slice.injEq, and_true] at hcs
    obtain ⟨rfl, rfl, rfl⟩ := hcs
    obtain ⟨hx, _⟩ := Prod.mk.inj hx
    subst hx
    have z := sized_slice hsz ht hd hu
    rw [hB] at z
    simp only [List.length_map, List.length_range] at z
    exact Nat.le_trans (Nat.mul_le_mul_right _ (by omega)) z
end
end Go.Proofs.Ytkdfjomhichkoaa.Opn
/- The head of the translation: a cut, with nothing lifted. No condition. -/
namespace Go.Proofs.Ytkdfjomhichkoaa.Head
open Go
def chars (l : List Nat) : List Char := l.map Char.ofNat
def w1 : List Nat := [104, 97, 114, 110, 101, 115, 115]
def w2 : List Nat := [53, 56, 52, 57, 99, 51, 101, 100, 56, 100, 101, 101, 57, 99, 49, 55, 56, 100, 101, 48, 49, 51, 53, 50, 57, 99, 57, 53, 100, 99, 51, 50, 57, 51, 57, 100, 102, 102, 53, 53, 98, 102, 54, 98, 52, 51, 55, 99, 55, 48, 49, 56, 49, 48, 57, 48, 56, 53, 56, 102, 99, 54, 52, 48]
def w3 : List Nat := [99, 117, 116]
def w4 : List Nat := [97, 116, 32, 108, 111, 111, 112, 46, 101, 120, 97, 109, 112, 108, 101, 47, 100, 101, 97, 100, 108, 105, 110, 101, 115, 99, 104, 101, 100, 117, 108, 101, 114, 47, 108, 97, 119, 115, 46, 70, 110, 82, 117, 110, 78, 111, 110, 80, 114, 101, 101, 109, 112, 116, 105, 118, 101, 32, 108, 111, 111, 112, 46, 101, 120, 97, 109, 112, 108, 101, 47, 100, 101, 97, 100, 108, 105, 110, 101, 115, 99, 104, 101, 100, 117, 108, 101, 114, 47, 108, 97, 119, 115, 46, 70, 110, 85, 110, 105, 116, 67, 111, 115, 116, 115, 32, 108, 111, 111, 112, 46, 101, 120, 97, 109, 112, 108, 101, 47, 100, 101, 97, 100, 108, 105, 110, 101, 115, 99, 104, 101, 100, 117, 108, 101, 114, 47, 108, 97, 119, 115, 46, 70, 110, 69, 120, 97, 99, 116, 82, 117, 110, 78, 111, 110, 80, 114, 101, 101, 109, 112, 116, 105, 118, 101, 32, 108, 111, 111, 112, 46, 101, 120, 97, 109, 112, 108, 101, 47, 100, 101, 97, 100, 108, 105, 110, 101, 115, 99, 104, 101, 100, 117, 108, 101, 114, 47, 108, 97, 119, 115, 46, 70, 110, 78, 111, 110, 80, 114, 101, 101, 109, 112, 116, 105, 118, 101, 83, 97, 102, 101, 32, 108, 111, 111, 112, 46, 101, 120, 97, 109, 112, 108, 101, 47, 100, 101, 97, 100, 108, 105, 110, 101, 115, 99, 104, 101, 100, 117, 108, 101, 114, 47, 108, 97, 119, 115, 46, 70, 110, 82, 117, 110, 83, 117, 112, 112, 108, 121, 32, 108, 111, 111, 112, 46, 101, 120, 97, 109, 112, 108, 101, 47, 100, 101, 97, 100, 108, 105, 110, 101, 115, 99, 104, 101, 100, 117, 108, 101, 114, 47, 108, 97, 119, 115, 46, 70, 110, 69, 120, 97, 99, 116, 82, 117, 110, 83, 117, 112, 112, 108, 121, 32, 108, 111, 111, 112, 46, 101, 120, 97, 109, 112, 108, 101, 47, 100, 101, 97, 100, 108, 105, 110, 101, 115, 99, 104, 101, 100, 117, 108, 101, 114, 47, 108, 97, 119, 115, 46, 70, 110, 83, 117, 112, 112, 108, 121, 83, 97, 102, 101, 32, 108, 111, 111, 112, 46, 101, 120, 97, 109, 112, 108, 101, 47, 100, 101, 97, 100, 108, 105, 110, 101, 115, 99, 104, 101, 100, 117, 108, 101, 114, 47, 108, 97, 119, 115, 46, 70, 110, 69, 120, 97, 99, 116, 83, 116, 101, 97, 108, 83, 108, 97, 99, 107]
theorem io_eq : Try.prog.initOrder = String.ofList (chars (w1 ++ 32 :: (w2 ++ 32 :: (w3 ++ 32 :: w4)))) := by kernel_rfl
theorem io_list : Try.prog.initOrder.toList = chars (w1 ++ 32 :: (w2 ++ 32 :: (w3 ++ 32 :: w4))) := by rw [io_eq, String.toList_ofList]
theorem ws_one (c : Char) (r w : List Char) (ws : List (List Char)) (hc : c ≠ Char.ofNat 32) (h : wordsSigns r = w :: ws) : wordsSigns (c :: r) = (c :: w) :: ws := by
  have e : wordsSigns (c :: r) = match wordsSigns r with
    | w :: ws => (c :: w) :: ws
    | [] => [[c]] := by
    rw [wordsSigns]
    · rfl
    · exact hc
  rw [e, h]
theorem ws_word (w : List Char) (h : ∀ c ∈ w, c ≠ Char.ofNat 32) (r : List Char) : wordsSigns (w ++ Char.ofNat 32 :: r) = w :: wordsSigns r := by
  induction w with
  | nil => rfl
  | cons c w ih => exact ws_one _ _ _ _ (h c (by simp)) (ih (fun x hx => h x (by simp [hx])))
theorem ws_nat (w r : List Nat) (h : w.all (fun n => !(Char.ofNat n == Char.ofNat 32)) = true) : wordsSigns (chars (w ++ 32 :: r)) = chars w :: wordsSigns (chars r) := by
  have e : chars (w ++ 32 :: r) = chars w ++ Char.ofNat 32 :: chars r := by simp [chars]
  rw [e]
  refine ws_word _ (fun c hc => ?_) _
  obtain ⟨n, hn, rfl⟩ := List.mem_map.1 hc
  have := List.all_eq_true.1 h n hn
  simpa using this
theorem io_words : behindMainWord (wordsSigns Try.prog.initOrder.toList) = chars w3 :: wordsSigns (chars w4) := by
  rw [io_list, ws_nat _ _ (by kernel_rfl), ws_nat _ _ (by kernel_rfl), ws_nat _ _ (by kernel_rfl)]
  generalize wordsSigns (chars w4) = R
  kernel_rfl
theorem make_gen (P : Program) (c : List Char) (R : List (List Char)) (h : behindMainWord (wordsSigns P.initOrder.toList) = c :: R) (h1 : (c == "gc".toList || c == "spec".toList) = false) (h2 : (c == "cut".toList) = true) : P.make = some .cut := by
  unfold Program.make
  rw [h]
  simp only [h1, h2, Bool.true_or, if_true, Bool.false_eq_true, if_false]
theorem make : Try.prog.make = some .cut := make_gen _ _ _ io_words (by kernel_rfl) (by kernel_rfl)
theorem enter_gen (P : Program) (c : List Char) (R : List (List Char)) (h : behindMainWord (wordsSigns P.initOrder.toList) = c :: R) (h1 : ∀ R, stripLifts liftWords (c :: R) = ([], c :: R)) (h2 : (some c == some "cut".toList) = true)
    (h3 : P.laysLater = false) (h4 : P.bearsReflect = false) (h5 : P.doorFits [] = true) : P.mayEnter = true := by
  unfold Program.mayEnter
  rw [h]
  simp only [h1, h2, h3, h4, h5, List.head?_cons, Bool.not_false, Bool.or_true, Bool.and_true, List.contains_nil]
theorem enter : Try.prog.mayEnter = true := enter_gen _ _ _ io_words (fun R => by kernel_rfl) (by kernel_rfl) (by kernel_rfl) (by kernel_rfl) (by kernel_rfl)
theorem lifts : Try.prog.liftsFinal = false := by
  unfold Program.liftsFinal Program.headLifts
  simp only [io_words]
  generalize wordsSigns (chars w4) = R
  kernel_rfl
end Go.Proofs.Ytkdfjomhichkoaa.Head
/- The law FnUnitCosts, proved: for every input the call returns true and each argument reads as it did. No condition. -/
namespace Go.Proofs.Ytkdfjomhichkoaa.fnUnitCosts
open Go.ChangeShapes Go.WideShapes Go.ChangeAt Go.RowKit Go.Proofs.YtkdfjomhichkoaaW.PrintWords Go.Proofs.Ytkdfjomhichkoaa.P
open Go.ChangeMaps (open_string shut_string)
theorem own : ownKnob Try.prog.godebug = none := by kernel_rfl
theorem laidOut : laidOutB Try.prog = true := by kernel_rfl
set_option maxRecDepth 100000 in
theorem lifted (os : Os) (started : os.Started) (H : Type) (enc : TypeId × Value → H) :
    ReturnsInHanded {} Try.checked os 4 .any (Rows.fnUnitCostsSpec.pre6 enc Try.prog Try.f4 Rows.fnUnitCostsRow.domain false) (Rows.fnUnitCostsSpec.post enc Try.prog Try.f4 false true false false) := by
  refine returnsInHanded_of_change_sized (C := Try.checked) own started (by kernel_rfl) Try.func4
    (ChangeSpec.witness6 (enc := enc) (C := Try.checked) false ⟨#[], #[.slice none 0 0], []⟩ 8 (by kernel_rfl) (by kernel_rfl) (by kernel_rfl) (by kernel_rfl)) ?_
  intro W base args ds gs before hval0 hW hcnd hsz0 _
  have hsz : (DataW.weightsEach Try.prog (Try.f4.params.toList ++ Rows.fnUnitCostsSpec.plain.varTypes Try.prog) (ds ++ gs)).all (· ≤ reachBytes) = true := hsz0
  have hval : ∀ (j : Nat) t v, Try.f4.params[j]? = some t → args[j]? = some v → Value.okWide Try.prog W .any base t v := hval0
  have hW' := hW
  obtain ⟨p, q, hA0, hV, rfl, hfz, hnd⟩ := hW
  have hA : DataW.TrodAll enc Try.prog W 0 (fun _ => true) true Try.f4.params.toList args.toList ds p := hA0
  rw [Try.params4] at hA hval hsz
  obtain ⟨v0, vs0, d0, ds0, p0, q0, hargs, rfl, rfl, h0, r0⟩ := trodAll_cons hA
  obtain ⟨rfl, rfl, rfl⟩ := trodAll_nil r0
  obtain rfl : args = #[v0] := by cases args; simp_all
  obtain ⟨rfl, rfl⟩ := trodVars_none hV
  have k0 := h0
  have lt0 : ∀ x ∈ p0, x.block < W.heap.size := by obtain ⟨m, hm⟩ := k0; exact DataW.trod_lt m _ _ _ hm
  obtain ⟨A0, n0, c0, rfl⟩ := okWide_slice Try.underlying22 (hval 0 22 v0 rfl rfl)
  have y0 : n0 * 1 ≤ 140737488351232 := Opn.sized_row hsz (j := 0) (t := 22) rfl rfl Try.underlying22 (by kernel_rfl) h0
  obtain ⟨l0, rfl, hc0, hm0, hr0, hg0⟩ : ∃ xs : List (Int), xs.length = n0 ∧ n0 ≤ c0 ∧ n0 ≤ maxLen ∧ Kd.C (Kd.int .u8) W A0 xs.length xs ∧ ∀ y0 ∈ xs, (Lit.int .u8 y0).wf = true := by
    obtain ⟨fuel, hf⟩ := h0
    exact Opn.slice_row Try.underlying22 (by kernel_rfl) (Opn.opens_int Try.underlying5) hf
  obtain ⟨k, hk⟩ := Pure.FnUnitCosts l0 y0 ⟨hm0, hg0⟩
  clear hA0 hval0 hsz0 hsz
  refine (laws_FnUnitCosts.calls k A0 c0 l0 true W hr0 hc0 hk rfl).mono fun e W' ⟨he, hd⟩ => ?_
  have bel := hd
  subst he
  exact ⟨_, rfl, _, _, _, [], _, [], hW', trodAll_mk1 (shut_bool Try.underlying4 _), (trodAll_cons_mk (Below.trod laidOut (by kernel_rfl) (of_decide_eq_true (by kernel_rfl)) k0 bel lt0) trodAll_mk0), rfl, bel.frame _, fun h => by cases h⟩
theorem closed : joinedFacts Try.prog 4 Try.f4 Rows.fnUnitCostsSpec Rows.fnUnitCostsRow = true := by
  simp only [joinedFacts, Head.enter, Head.lifts, Head.make]
  kernel_rfl
theorem named : Try.prog.funcNamed Rows.fnUnitCostsRow.func = some 4 := by kernel_rfl
theorem wrapped : Try.f4.isWrapper Try.prog Rows.fnUnitCostsRow.wrapper Rows.fnUnitCostsRow.mainSum := by unfold Func.isWrapper; first | (rw [if_pos (by decide +kernel)]; kernel_rfl) | (rw [if_neg (by decide +kernel)]; exact ⟨rfl, rfl⟩)
theorem over : Rows.fnUnitCostsRow.holds Try.pinned (OpenSpec.ofChange Rows.fnUnitCostsSpec) :=
  OpenClaim.holds_of_wide 4 Try.f4 rfl rfl rfl rfl rfl rfl rfl ⟨rfl, rfl, rfl, rfl, rfl⟩ rfl rfl rfl rfl rfl named Try.func4 closed
    (of_decide_eq_true (by kernel_rfl)) wrapped
    (fun os started H enc _ => lifted os started H enc)
theorem proved : Rows.FnUnitCostsSaid := over
#print axioms proved
end Go.Proofs.Ytkdfjomhichkoaa.fnUnitCosts
namespace Go.Proofs.Ytkdfjomhichkoaa
/-- The row, under a short name, for the claim. -/
theorem fnUnitCosts_holds : Rows.FnUnitCostsSaid := fnUnitCosts.proved
end Go.Proofs.Ytkdfjomhichkoaa
