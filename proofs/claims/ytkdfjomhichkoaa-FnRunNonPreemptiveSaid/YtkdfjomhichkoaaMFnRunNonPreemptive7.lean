/- The law FnRunNonPreemptive for every input, part 7 of its proof: what the program's functions answer, and the plain law. No condition. -/
import Derived.Test.YtkdfjomhichkoaaMFnRunNonPreemptive1
import Derived.Test.YtkdfjomhichkoaaMFnRunNonPreemptive2
import Derived.Test.YtkdfjomhichkoaaMFnRunNonPreemptive3
import Derived.Test.YtkdfjomhichkoaaMFnRunNonPreemptive4
import Derived.Test.YtkdfjomhichkoaaMFnRunNonPreemptive5
import Derived.Test.YtkdfjomhichkoaaMFnRunNonPreemptive6
import Derived.SizedLaws
import Derived.ChangeSlices
import Derived.ChangeArms
import Derived.WideShapes
import Derived.Deep.Slices
import Derived.OpenShut
import Derived.Test.YtkdfjomhichkoaaRows
import Derived.JoinedOf
import Derived.KernelRfl
import Derived.WalkKit
import Derived.ProofKit
import Derived.ShutString
import Derived.ChangeOld
import Derived.Below
/- A simulation of jobs on one processor, as plain functions: what is left, what runs, when jobs finish. No condition. -/
namespace Go.Proofs.Ytkdfjomhichkoaa.Sim
open Go.RowKit Go.Proofs.Ytkdfjomhichkoaa.Gen Go.Proofs.Ytkdfjomhichkoaa.Edf Go.Proofs.YtkdfjomhichkoaaW.PrintWords Go.Proofs.YtkdfjomhichkoaaW.PrintLast
/-- The first of those that may run with the least key, or -1. -/
def bst (ok : Nat → Bool) (key : Nat → Int) : Nat → Int
  | 0 => -1
  | n + 1 => if ok n = true ∧ (bst ok key n < 0 ∨ key n < key (bst ok key n).toNat) then (n : Int) else bst ok key n
theorem bst_sp (ok : Nat → Bool) (key : Nat → Int) : ∀ n, (bst ok key n = -1 ∧ ∀ i, i < n → ok i = false) ∨
    ∃ i : Nat, i < n ∧ bst ok key n = (i : Int) ∧ ok i = true ∧ (∀ j, j < n → ok j = true → key i ≤ key j) ∧ ∀ j, j < i → ok j = true → key i < key j := by
  intro n
  induction n with
  | zero => exact Or.inl ⟨rfl, fun i h => by omega⟩
  | succ n ih =>
    rw [bst]
    by_cases h : ok n = true ∧ (bst ok key n < 0 ∨ key n < key (bst ok key n).toNat)
    · rw [if_pos h]
      right
      refine ⟨n, by omega, rfl, h.1, ?_⟩
      rcases ih with ⟨h1, h2⟩ | ⟨i, hi, h1, h2, h3, _⟩
      · refine ⟨fun j hj ho => ?_, fun j hj ho => ?_⟩
        · by_cases e : j = n
          · subst e; exact Int.le_refl _
          · rw [h2 j (by omega)] at ho; cases ho
        · rw [h2 j hj] at ho; cases ho
      · have hlt : key n < key i := by
          rcases h.2 with h4 | h4
          · omega
          · rw [h1] at h4; simpa using h4
        refine ⟨fun j hj ho => ?_, fun j hj ho => ?_⟩
        · by_cases e : j = n
          · subst e; exact Int.le_refl _
          · have := h3 j (by omega) ho; omega
        · have := h3 j hj ho; omega
    · rw [if_neg h]
      rcases ih with ⟨h1, h2⟩ | ⟨i, hi, h1, h2, h3, h4⟩
      · left
        refine ⟨h1, fun j hj => ?_⟩
        by_cases e : j = n
        · subst e
          cases ho : ok j with
          | false => rfl
          | true => exact absurd ⟨ho, Or.inl (by omega)⟩ h
        · exact h2 j (by omega)
      · right
        refine ⟨i, by omega, h1, h2, fun j hj ho => ?_, h4⟩
        by_cases e : j = n
        · subst e
          apply Classical.byContradiction
          intro hc
          exact h ⟨ho, Or.inr (by rw [h1]; simpa using (by omega : key j < key i))⟩
        · exact h3 j (by omega) ho
theorem bst_congr {ok ok' : Nat → Bool} {key key' : Nat → Int} {n : Nat} (h1 : ∀ i, i < n → ok i = ok' i) (h2 : ∀ i, i < n → key i = key' i) : bst ok key n = bst ok' key' n := by
  induction n with
  | zero => rfl
  | succ n ih =>
    have e := ih (fun i hi => h1 i (by omega)) (fun i hi => h2 i (by omega))
    rw [bst, bst, e, h1 n (by omega), h2 n (by omega)]
    have hb := bst_sp ok' key' n
    by_cases hneg : bst ok' key' n < 0
    · simp only [hneg, true_or]
    · rcases hb with ⟨h3, _⟩ | ⟨i, hi, h3, _⟩
      · omega
      · have : key (bst ok' key' n).toNat = key' (bst ok' key' n).toNat := by rw [h3]; exact h2 _ (by simpa using (by omega : i < n + 1))
        rw [this]
/-- One tick. -/
def stepL (left : List Int) (i : Int) : List Int := if i < 0 then left else left.set i.toNat (rd left i - 1)
section
variable (pick : List Int → Nat → Int) (ex : List Int)
def stL : Nat → List Int
  | 0 => ex
  | t + 1 => stepL (stL t) (pick (stL t) t)
def runL (t : Nat) : Int := pick (stL pick ex t) t
def finL : Nat → List Int
  | 0 => List.replicate ex.length (-1)
  | t + 1 => if 0 ≤ runL pick ex t ∧ rd (stL pick ex (t + 1)) (runL pick ex t) = 0 then (finL t).set (runL pick ex t).toNat ((t : Int) + 1) else finL t
end
theorem rd_set_eq (l : List Int) (i : Nat) (x : Int) (h : i < l.length) : rd (l.set i x) (i : Int) = x := by
  rw [rd_at _ i (by simpa using h)]
  simp
theorem rd_set_ne (l : List Int) (i a : Nat) (x : Int) (h : a ≠ i) : rd (l.set i x) (a : Int) = rd l (a : Int) := by
  unfold rd
  rw [List.getD_eq_getElem?_getD, List.getD_eq_getElem?_getD, Int.toNat_natCast, List.getElem?_set_ne (by omega)]
/-- A pick that is the rule's: a job that is released and unfinished, or none. -/
def Picks (rel : Nat → Int) (n : Nat) (pick : List Int → Nat → Int) : Prop := ∀ left t, left.length = n → pick left t = -1 ∨ ∃ i, i < n ∧ pick left t = ((i : Nat) : Int) ∧ rel i ≤ (t : Int) ∧ 0 < rd left (i : Int)
section
variable {pick : List Int → Nat → Int} {ex : List Int} {rel : Nat → Int}
theorem stepL_len (left : List Int) (i : Int) : (stepL left i).length = left.length := by
  unfold stepL; split
  · rfl
  · rw [List.length_set]
theorem stL_len : ∀ t, (stL pick ex t).length = ex.length
  | 0 => rfl
  | t + 1 => by rw [stL, stepL_len, stL_len t]
theorem finL_len : ∀ t, (finL pick ex t).length = ex.length
  | 0 => by rw [finL, List.length_replicate]
  | t + 1 => by
    rw [finL]; split
    · rw [List.length_set, finL_len t]
    · exact finL_len t
theorem sch_of (hp : Picks rel ex.length pick) (hpos : ∀ i, i < ex.length → 1 ≤ rd ex ((i : Nat) : Int)) : Sch ex.length rel (fun i => rd ex (i : Int)) (fun t i => rd (stL pick ex t) (i : Int)) (runL pick ex) := by
  refine ⟨fun i _ => rfl, fun t i hi => ?_, fun t => hp _ t (stL_len t), hpos⟩
  have hl : (stL pick ex t).length = ex.length := stL_len t
  show rd (stL pick ex (t + 1)) (i : Int) = rd (stL pick ex t) (i : Int) - (if runL pick ex t = (i : Int) then 1 else 0)
  rw [stL]
  show rd (stepL (stL pick ex t) (runL pick ex t)) (i : Int) = _
  rcases hp _ t hl with h | ⟨j, hj, h, _, _⟩
  · have h : runL pick ex t = -1 := h
    unfold stepL
    rw [h, if_pos (by omega), if_neg (by omega)]; omega
  · have h : runL pick ex t = (j : Int) := h
    unfold stepL
    rw [h, if_neg (by omega), Int.toNat_natCast]
    by_cases e : j = i
    · subst e
      rw [rd_set_eq _ _ _ (by omega), if_pos rfl]
    · rw [rd_set_ne _ _ _ _ (by omega), if_neg (by omega)]; omega
/-- What a finish time tells. -/
theorem fin_sp (hp : Picks rel ex.length pick) (hpos : ∀ i, i < ex.length → 1 ≤ rd ex ((i : Nat) : Int)) (i : Nat) (hi : i < ex.length) : ∀ t, (0 < rd (stL pick ex t) (i : Int) ∧ rd (finL pick ex t) (i : Int) = -1) ∨
    (rd (stL pick ex t) (i : Int) = 0 ∧ ∃ f : Nat, 1 ≤ f ∧ f ≤ t ∧ rd (finL pick ex t) (i : Int) = (f : Int) ∧ rd (stL pick ex f) (i : Int) = 0 ∧ runL pick ex (f - 1) = (i : Int)) := by
  have hS := sch_of hp hpos
  intro t
  induction t with
  | zero =>
    left
    refine ⟨by have := hpos i hi; rw [stL]; omega, ?_⟩
    rw [finL, rd_at _ i (by rw [List.length_replicate]; exact hi), List.getElem_replicate]
  | succ t ih =>
    have hst := hS.step t i hi
    have hnn := hS.nonneg (t + 1) i hi
    have hl := finL_len (pick := pick) (ex := ex) t
    rw [finL]
    by_cases hr : runL pick ex t = (i : Int)
    · rw [if_pos hr] at hst
      rw [hr, Int.toNat_natCast]
      have hlive : 0 < rd (stL pick ex t) (i : Int) := by
        rcases hS.rng t with h | ⟨j, hj, h, _, h2⟩
        · omega
        · obtain rfl : i = j := by omega
          exact h2
      have hf : rd (finL pick ex t) (i : Int) = -1 := by
        rcases ih with h | h
        · exact h.2
        · omega
      by_cases hz : rd (stL pick ex (t + 1)) (i : Int) = 0
      · rw [if_pos ⟨by omega, hz⟩]
        right
        refine ⟨hz, t + 1, by omega, Nat.le_refl _, ?_, hz, by simpa using hr⟩
        rw [rd_set_eq _ _ _ (by omega)]; rfl
      · rw [if_neg (fun h => hz h.2)]
        exact Or.inl ⟨by omega, hf⟩
    · rw [if_neg hr] at hst
      have e1 : rd (stL pick ex (t + 1)) (i : Int) = rd (stL pick ex t) (i : Int) := by omega
      have e2 : rd (if 0 ≤ runL pick ex t ∧ rd (stL pick ex (t + 1)) (runL pick ex t) = 0 then (finL pick ex t).set (runL pick ex t).toNat ((t : Int) + 1) else finL pick ex t) (i : Int) = rd (finL pick ex t) (i : Int) := by
        split
        · rename_i h
          exact rd_set_ne _ _ _ _ (by omega)
        · rfl
      rw [e1, e2]
      rcases ih with h | ⟨h1, f, h2, h3, h4⟩
      · exact Or.inl h
      · exact Or.inr ⟨h1, f, h2, by omega, h4⟩
end
/-- Two rules that never idle while something waits idle in the same ticks. -/
theorem same_idle {n : Nat} {rel ex : Nat → Int} {L M : Nat → Nat → Int} {r q : Nat → Int} (h : Sch n rel ex L r) (g : Sch n rel ex M q)
    (h1 : ∀ t, r t = -1 → ∀ i, i < n → rel i ≤ (t : Int) → L t i = 0) (g1 : ∀ t, q t = -1 → ∀ i, i < n → rel i ≤ (t : Int) → M t i = 0) :
    ∀ t, su (L t) n = su (M t) n ∧ (r t = -1 ↔ q t = -1) := by
  have idle : ∀ {L : Nat → Nat → Int} {r : Nat → Int}, Sch n rel ex L r → (∀ t, r t = -1 → ∀ i, i < n → rel i ≤ (t : Int) → L t i = 0) → ∀ t, r t = -1 ↔ su (L t) n = su (fun i => if rel i ≤ (t : Int) then 0 else ex i) n := by
    intro L r h h1 t
    have hge : ∀ i, i < n → (if rel i ≤ (t : Int) then 0 else ex i) ≤ L t i := fun i hi => by
      split
      · exact h.nonneg t i hi
      · rw [h.whole i hi t (by omega)]; exact Int.le_refl _
    constructor
    · intro hr
      refine su_congr fun i hi => ?_
      split
      · rename_i hle
        exact h1 t hr i hi hle
      · exact h.whole i hi t (by omega)
    · intro hs
      rcases h.rng t with hr | ⟨i, hi, _, hle, hp⟩
      · exact hr
      · have : (fun j => L t j - (if rel j ≤ (t : Int) then 0 else ex j)) i ≤ su (fun j => L t j - (if rel j ≤ (t : Int) then 0 else ex j)) n := su_ge (f := fun j => L t j - (if rel j ≤ (t : Int) then 0 else ex j)) (fun j hj => by have := hge j hj; omega) hi
        have e : su (L t) n = su (fun j => (L t j - (if rel j ≤ (t : Int) then 0 else ex j)) + (if rel j ≤ (t : Int) then 0 else ex j)) n := su_congr fun j _ => by omega
        rw [su_add] at e
        simp only at this
        rw [if_pos hle] at this
        omega
  have tick : ∀ {L : Nat → Nat → Int} {r : Nat → Int}, Sch n rel ex L r → ∀ t, su (L (t + 1)) n = su (L t) n - (if r t = -1 then 0 else 1) := by
    intro L r h t
    rcases h.rng t with hr | ⟨i, hi, hr, _, _⟩
    · rw [if_pos hr, Int.sub_zero]
      refine su_congr fun j hj => ?_
      rw [h.step t j hj, if_neg (by omega)]; omega
    · rw [if_neg (by omega)]
      have e : su (L t) n = su (fun j => L (t + 1) j + (if j = i then 1 else 0)) n := su_congr fun j hj => by
        rw [h.step t j hj]
        by_cases e : j = i
        · subst e; rw [if_pos hr, if_pos rfl]; omega
        · rw [if_neg (by omega), if_neg e]; omega
      rw [e, su_add, su_one hi]; omega
  intro t
  induction t with
  | zero =>
    have e : su (L 0) n = su (M 0) n := su_congr fun i hi => by rw [h.start i hi, g.start i hi]
    exact ⟨e, by rw [idle h h1 0, idle g g1 0, e]⟩
  | succ t ih =>
    have e : su (L (t + 1)) n = su (M (t + 1)) n := by
      rw [tick h t, tick g t, ih.1]
      by_cases hr : r t = -1
      · rw [if_pos hr, if_pos (ih.2.1 hr)]
      · rw [if_neg hr, if_neg (fun hq => hr (ih.2.2 hq))]
    exact ⟨e, by rw [idle h h1 (t + 1), idle g g1 (t + 1), e]⟩
end Go.Proofs.Ytkdfjomhichkoaa.Sim
/- Task sets, their hyperperiod, load and demand, as plain functions. Conditions: a valid set. -/
namespace Go.Proofs.Ytkdfjomhichkoaa.Tm
open Go.RowKit Go.Proofs.Ytkdfjomhichkoaa.P Go.Proofs.Ytkdfjomhichkoaa.Base Go.Proofs.Ytkdfjomhichkoaa.Gen Go.Proofs.Ytkdfjomhichkoaa.Alive Go.Proofs.Ytkdfjomhichkoaa.Set Go.Proofs.YtkdfjomhichkoaaW.PrintWords Go.Proofs.YtkdfjomhichkoaaW.PrintLast
/-- The hyperperiod. -/
def hy (l : List Task) : Nat := l.foldl (fun h t => Nat.lcm h t.f2.toNat) 1
def AllV (l : List Task) : Prop := ∀ t ∈ l, TVt t
theorem _root_.Go.Proofs.Ytkdfjomhichkoaa.Set.SetOk.all {l : List Task} (h : SetOk l) : AllV l := h.2
theorem AllV.take {l : List Task} (h : AllV l) (i : Nat) : AllV (l.take i) := fun t ht => h t (List.mem_of_mem_take ht)
end Go.Proofs.Ytkdfjomhichkoaa.Tm
/- Legal release patterns, as a plain proposition, and what they give to a simulation. No condition. -/
namespace Go.Proofs.Ytkdfjomhichkoaa.Jobs
open Go.RowKit Go.Proofs.Ytkdfjomhichkoaa.P Go.Proofs.Ytkdfjomhichkoaa.Base Go.Proofs.Ytkdfjomhichkoaa.Gen Go.Proofs.Ytkdfjomhichkoaa.Alive Go.Proofs.Ytkdfjomhichkoaa.Set Go.Proofs.Ytkdfjomhichkoaa.Tm Go.Proofs.Ytkdfjomhichkoaa.Edf Go.Proofs.Ytkdfjomhichkoaa.Sim Go.Proofs.YtkdfjomhichkoaaW.PrintWords Go.Proofs.YtkdfjomhichkoaaW.PrintLast
abbrev Job := S34
def rj (l : List Job) (i : Nat) : Job := rd_T34 l (i : Int)
def tk (l : List Task) (i : Int) : Task := rd_T88 l i
theorem rj_at (l : List Job) (i : Nat) (h : i < l.length) : rj l i = l[i] := by
  unfold rj rd_T34
  rw [List.getD_eq_getElem?_getD, Int.toNat_natCast, List.getElem?_eq_getElem h]
  rfl
theorem tk_at (l : List Task) (i : Nat) (h : i < l.length) : tk l (i : Int) = l[i] := by
  unfold tk rd_T88
  rw [List.getD_eq_getElem?_getD, Int.toNat_natCast, List.getElem?_eq_getElem h]
  rfl
/-- What one job must be: its task, release, execution time, deadline; behind the one ahead of it. -/
def One (l : List Task) (js : List Job) (i : Nat) : Prop :=
  (0 ≤ (rj js i).f0 ∧ (rj js i).f0 < (l.length : Int)) ∧ (0 ≤ (rj js i).f1 ∧ (rj js i).f1 ≤ 119) ∧ (1 ≤ (rj js i).f3 ∧ (rj js i).f3 ≤ (tk l (rj js i).f0).f0) ∧
    (rj js i).f2 = (rj js i).f1 + (tk l (rj js i).f0).f1 ∧
    (0 < i → (rj js (i - 1)).f1 < (rj js i).f1 ∨ ((rj js (i - 1)).f1 = (rj js i).f1 ∧ (rj js (i - 1)).f0 < (rj js i).f0)) ∧
    ∀ p, p < i → (rj js p).f0 = (rj js i).f0 → (rj js p).f1 + (tk l (rj js i).f0).f2 ≤ (rj js i).f1
def JL (l : List Task) (js : List Job) : Prop := SetOk l ∧ js.length ≤ 60 ∧ ∀ i, i < js.length → One l js i
noncomputable instance (l : List Task) (js : List Job) : Decidable (JL l js) := Classical.propDecidable _
section
variable {l : List Task} {js : List Job}
def rel (js : List Job) (i : Nat) : Int := (rj js i).f1
def dl (js : List Job) (i : Nat) : Int := (rj js i).f2
def exs (js : List Job) : List Int := js.map (fun j => j.f3)
def tki (js : List Job) (i : Nat) : Nat := (rj js i).f0.toNat
theorem exs_len (js : List Job) : (exs js).length = js.length := by unfold exs; rw [List.length_map]
theorem exs_rd (js : List Job) (i : Nat) (h : i < js.length) : rd (exs js) (i : Int) = (rj js i).f3 := by
  rw [rd_at _ i (by rw [exs_len]; exact h), rj_at js i h]
  unfold exs
  rw [List.getElem_map]
theorem JL.pos (h : JL l js) : ∀ i, i < (exs js).length → 1 ≤ rd (exs js) ((i : Nat) : Int) := fun i hi => by
  rw [exs_len] at hi
  rw [exs_rd js i hi]
  exact (h.2.2 i hi).2.2.1.1
theorem JL.tkm (h : JL l js) (i : Nat) (hi : i < js.length) : tki js i < l.length ∧ ((tki js i : Nat) : Int) = (rj js i).f0 := by
  have := (h.2.2 i hi).1
  unfold tki
  omega
/-- The tasks' numbers, by place. -/
def P (l : List Task) (k : Nat) : Int := (tk l (k : Int)).f2
def C (l : List Task) (k : Nat) : Int := (tk l (k : Int)).f0
def D (l : List Task) (k : Nat) : Int := (tk l (k : Int)).f1
theorem task_ok (hs : SetOk l) (k : Nat) (hk : k < l.length) : 1 ≤ C l k ∧ C l k ≤ 8 ∧ C l k ≤ D l k ∧ D l k ≤ P l k ∧ P l k ≤ 12 := by
  have := hs.2 _ (List.getElem_mem hk)
  unfold C D P
  rw [tk_at l k hk]
  exact this
theorem JL.ex_le (h : JL l js) (i : Nat) (hi : i < js.length) : rd (exs js) (i : Int) ≤ C l (tki js i) := by
  have h1 := (h.2.2 i hi).2.2.1.2
  have h2 := (h.tkm i hi).2
  rw [exs_rd js i hi]
  unfold C
  rw [h2]; exact h1
end
/-- Earliest deadline first among the jobs released and unfinished. -/
def rdyb (js : List Job) (left : List Int) (t : Nat) (i : Nat) : Bool := decide ((rj js i).f1 ≤ (t : Int) ∧ 0 < rd left (i : Int))
def edfp (js : List Job) (left : List Int) (t : Nat) : Int := bst (rdyb js left t) (dl js) js.length
/-- .. unless one has started. -/
def startp (js : List Job) (left : List Int) (t : Nat) : Int := bst (fun i => rdyb js left t i && decide (rd left (i : Int) < (rj js i).f3)) (dl js) js.length
def npp (js : List Job) (left : List Int) (t : Nat) : Int := if 0 ≤ startp js left t then startp js left t else edfp js left t
theorem edfp_sp (js : List Job) (left : List Int) (t : Nat) : (edfp js left t = -1 ∧ ∀ i, i < js.length → rel js i ≤ (t : Int) → rd left (i : Int) ≤ 0) ∨
    ∃ i : Nat, i < js.length ∧ edfp js left t = (i : Int) ∧ rel js i ≤ (t : Int) ∧ 0 < rd left (i : Int) ∧ ∀ j, j < js.length → rel js j ≤ (t : Int) → 0 < rd left (j : Int) → dl js i ≤ dl js j := by
  rcases bst_sp (rdyb js left t) (dl js) js.length with ⟨h1, h2⟩ | ⟨i, hi, h1, h2, h3, _⟩
  · left
    refine ⟨h1, fun i hi hr => ?_⟩
    have := h2 i hi
    unfold rdyb at this
    rw [decide_eq_false_iff_not] at this
    unfold rel at hr
    omega
  · right
    unfold rdyb at h2
    have h2 := of_decide_eq_true h2
    refine ⟨i, hi, h1, h2.1, h2.2, fun j hj hr hl => h3 j hj ?_⟩
    unfold rdyb
    exact decide_eq_true ⟨hr, hl⟩
theorem edfp_picks (js : List Job) : Picks (rel js) (exs js).length (edfp js) := fun left t _ => by
  rw [exs_len]
  rcases edfp_sp js left t with ⟨h, _⟩ | ⟨i, hi, h1, h2, h3, _⟩
  · exact Or.inl h
  · exact Or.inr ⟨i, hi, h1, h2, h3⟩
theorem startp_sp (js : List Job) (left : List Int) (t : Nat) : (startp js left t = -1 ∧ ∀ i, i < js.length → rel js i ≤ (t : Int) → 0 < rd left (i : Int) → (rj js i).f3 ≤ rd left (i : Int)) ∨
    ∃ i : Nat, i < js.length ∧ startp js left t = (i : Int) ∧ rel js i ≤ (t : Int) ∧ 0 < rd left (i : Int) ∧ rd left (i : Int) < (rj js i).f3 := by
  rcases bst_sp (fun i => rdyb js left t i && decide (rd left (i : Int) < (rj js i).f3)) (dl js) js.length with ⟨h1, h2⟩ | ⟨i, hi, h1, h2, _, _⟩
  · left
    refine ⟨h1, fun i hi hr hp => ?_⟩
    have := h2 i hi
    unfold rdyb at this
    rw [Bool.and_eq_false_iff, decide_eq_false_iff_not, decide_eq_false_iff_not] at this
    unfold rel at hr
    omega
  · right
    unfold rdyb at h2
    rw [Bool.and_eq_true, decide_eq_true_eq, decide_eq_true_eq] at h2
    exact ⟨i, hi, h1, h2.1.1, h2.1.2, h2.2⟩
theorem npp_picks (js : List Job) : Picks (rel js) (exs js).length (npp js) := fun left t hl => by
  unfold npp
  split
  · rename_i h
    rw [exs_len]
    rcases startp_sp js left t with ⟨h1, _⟩ | ⟨i, hi, h1, h2, h3, _⟩
    · omega
    · exact Or.inr ⟨i, hi, h1, h2, h3⟩
  · exact edfp_picks js left t hl
end Go.Proofs.Ytkdfjomhichkoaa.Jobs
/- Legal release patterns: the program's and the reference's answer is the plain proposition. Condition: the rows are not too long. -/
namespace Go.Proofs.Ytkdfjomhichkoaa.Leg
open Go.RowKit Go.Proofs.Ytkdfjomhichkoaa.P Go.Proofs.Ytkdfjomhichkoaa.Base Go.Proofs.Ytkdfjomhichkoaa.Gen Go.Proofs.Ytkdfjomhichkoaa.Alive Go.Proofs.Ytkdfjomhichkoaa.Set Go.Proofs.Ytkdfjomhichkoaa.Tm Go.Proofs.Ytkdfjomhichkoaa.Edf Go.Proofs.Ytkdfjomhichkoaa.Sim Go.Proofs.Ytkdfjomhichkoaa.Jobs Go.Proofs.YtkdfjomhichkoaaW.PrintWords Go.Proofs.YtkdfjomhichkoaaW.PrintLast
/-- The last job of a task among the first i. -/
theorem lastOf_sp (js : List Job) (k : Int) : ∀ i, (lastOf js i k = none ∧ ∀ p, p < i → (rj js p).f0 ≠ k) ∨ ∃ p, p < i ∧ (rj js p).f0 = k ∧ lastOf js i k = some (rj js p).f1 ∧ ∀ q, p < q → q < i → (rj js q).f0 ≠ k := by
  intro i
  induction i with
  | zero => exact Or.inl ⟨rfl, fun p h => by omega⟩
  | succ i ih =>
    rw [lastOf]
    by_cases h : (jrd js i).f0 = k
    · rw [if_pos h]
      exact Or.inr ⟨i, by omega, h, rfl, fun q h1 h2 => by omega⟩
    · rw [if_neg h]
      have h' : (rj js i).f0 ≠ k := h
      rcases ih with ⟨h1, h2⟩ | ⟨p, h1, h2, h3, h4⟩
      · refine Or.inl ⟨h1, fun p hp => ?_⟩
        by_cases e : p = i
        · subst e; exact h'
        · exact h2 p (by omega)
      · refine Or.inr ⟨p, by omega, h2, h3, fun q h5 h6 => ?_⟩
        by_cases e : q = i
        · subst e; exact h'
        · exact h4 q h5 (by omega)
/-- A job but for the distance to those ahead of it of its task. -/
def Loc (l : List Task) (js : List Job) (i : Nat) : Prop :=
  (0 ≤ (rj js i).f0 ∧ (rj js i).f0 < (l.length : Int)) ∧ (0 ≤ (rj js i).f1 ∧ (rj js i).f1 ≤ 119) ∧ (1 ≤ (rj js i).f3 ∧ (rj js i).f3 ≤ (tk l (rj js i).f0).f0) ∧
    (0 < i → (rj js (i - 1)).f1 < (rj js i).f1 ∨ ((rj js (i - 1)).f1 = (rj js i).f1 ∧ (rj js (i - 1)).f0 < (rj js i).f0))
theorem one_loc {l : List Task} {js : List Job} {i : Nat} (h : One l js i) : Loc l js i := ⟨h.1, h.2.1, h.2.2.1, h.2.2.2.2.1⟩
theorem mono_rel {l : List Task} {js : List Job} {n : Nat} (h : ∀ i, i < n → Loc l js i) : ∀ q p, p ≤ q → q < n → (rj js p).f1 ≤ (rj js q).f1 := by
  intro q
  induction q with
  | zero => intro p hp _; obtain rfl : p = 0 := by omega
            exact Int.le_refl _
  | succ q ih =>
    intro p hp hq
    by_cases e : p = q + 1
    · subst e; exact Int.le_refl _
    · have h1 := ih p (by omega) (by omega)
      have h2 := (h (q + 1) hq).2.2.2 (by omega)
      rw [Nat.add_sub_cancel] at h2
      omega
/-- The distance, asked of the last job of the task alone. -/
theorem dist_iff {l : List Task} {js : List Job} {i n : Nat} (hi : i < n) (h : ∀ p, p < n → Loc l js p) :
    (∀ p, p < i → (rj js p).f0 = (rj js i).f0 → (rj js p).f1 + (tk l (rj js i).f0).f2 ≤ (rj js i).f1) ↔ ∀ b, lastOf js i (rj js i).f0 = some b → b + (tk l (rj js i).f0).f2 ≤ (rj js i).f1 := by
  constructor
  · intro hh b hb
    rcases lastOf_sp js (rj js i).f0 i with ⟨h1, _⟩ | ⟨p, h1, h2, h3, _⟩
    · rw [h1] at hb; cases hb
    · rw [h3] at hb
      obtain rfl := Option.some.inj hb
      exact hh p h1 h2
  · intro hh p hp he
    rcases lastOf_sp js (rj js i).f0 i with ⟨_, h2⟩ | ⟨q, h1, h2, h3, h4⟩
    · exact absurd he (h2 p hp)
    · have h5 := hh _ h3
      have h6 : p ≤ q := by
        apply Classical.byContradiction
        intro hc
        exact h4 p (by omega) hp he
      have := mono_rel h q p h6 (by omega)
      omega
theorem tk_ok {l : List Task} (hs : SetOk l) (k : Int) (h0 : 0 ≤ k) (h1 : k < (l.length : Int)) : 1 ≤ (tk l k).f0 ∧ (tk l k).f0 ≤ 8 ∧ (tk l k).f0 ≤ (tk l k).f1 ∧ (tk l k).f1 ≤ (tk l k).f2 ∧ (tk l k).f2 ≤ 12 := by
  obtain ⟨n, rfl⟩ := Int.eq_ofNat_of_zero_le h0
  have hn : n < l.length := by omega
  rw [tk_at l n hn]
  exact hs.2 _ (List.getElem_mem hn)
theorem allB_iff {p : Nat → Bool} : ∀ {n : Nat}, allB p n = true ↔ ∀ i, i < n → p i = true := by
  intro n
  constructor
  · exact fun h => allB_true h
  · intro h
    cases e : allB p n with
    | true => rfl
    | false =>
      have key : ∀ m, m ≤ n → allB p m = true := by
        intro m
        induction m with
        | zero => intro _; rfl
        | succ m ih => intro hm; rw [allB, ih (by omega), h m (by omega)]; rfl
      rw [key n (Nat.le_refl _)] at e
      cases e
theorem ordOk_iff (l : List Task) (js : List Job) (i : Nat) : ordOk l js i = true ↔ Loc l js i := by
  unfold ordOk Loc
  have e : jrd js i = rj js i := rfl
  have e2 : jrd js (i - 1) = rj js (i - 1) := rfl
  rw [Bool.and_eq_true, Bool.and_eq_true, Bool.and_eq_true, Bool.or_eq_true]
  unfold inRng relOk exOk bhd
  simp only [decide_eq_true_eq, Bool.not_eq_true', Bool.or_eq_false_iff, Bool.and_eq_false_iff, decide_eq_false_iff_not, e, e2]
  have e3 : trd l (rj js i).f0 = tk l (rj js i).f0 := rfl
  rw [e3]
  constructor
  · rintro ⟨⟨⟨h1, h2⟩, h3⟩, h4⟩
    refine ⟨by omega, h2, h3, fun h0 => ?_⟩
    rcases h4 with h4 | ⟨h4, h5⟩
    · omega
    · rcases h5 with h5 | h5 <;> omega
  · rintro ⟨h1, h2, h3, h4⟩
    refine ⟨⟨⟨by omega, h2⟩, h3⟩, ?_⟩
    by_cases h0 : i = 0
    · exact Or.inl h0
    · right
      have := h4 (by omega)
      constructor
      · omega
      · by_cases e4 : (rj js (i - 1)).f1 = (rj js i).f1
        · right; omega
        · left; exact e4
theorem spcOk_iff {l : List Task} {js : List Job} {i n : Nat} (hs : SetOk l) (hi : i < n) (h : ∀ p, p < n → Loc l js p) : spcOk l js i = true ↔ ∀ b, lastOf js i (rj js i).f0 = some b → b + (tk l (rj js i).f0).f2 ≤ (rj js i).f1 := by
  unfold spcOk
  have e : jrd js i = rj js i := rfl
  have e3 : trd l (rj js i).f0 = tk l (rj js i).f0 := rfl
  rw [e, e3]
  have hb := (h i hi).2.1
  have ht := tk_ok hs _ (h i hi).1.1 (h i hi).1.2
  rcases lastOf_sp js (rj js i).f0 i with ⟨h1, _⟩ | ⟨p, h1, _, h3, _⟩
  · rw [h1]
    exact ⟨fun _ b hb => (by cases hb), fun _ => rfl⟩
  · rw [h3]
    have hp := (h p (by omega)).2.1
    simp only [Bool.not_eq_true', decide_eq_false_iff_not]
    rw [w64 (by omega) (by omega)]
    constructor
    · intro h5 b hb
      obtain rfl := Option.some.inj hb
      omega
    · intro h5
      have := h5 _ rfl
      omega
theorem leg_iff {l : List Task} {js : List Job} (hs : SetOk l) : legB l js = true ↔ JL l js := by
  unfold legB
  by_cases ho : ordB l js = true
  · rw [if_pos ho]
    unfold ordB at ho
    rw [Bool.and_eq_true, decide_eq_true_eq, allB_iff] at ho
    have hloc : ∀ p, p < js.length → Loc l js p := fun p hp => (ordOk_iff l js p).1 (ho.1 p hp)
    have hlate : (!(js.any (lateB l))) = true ↔ ∀ i, i < js.length → (rj js i).f2 = (rj js i).f1 + (tk l (rj js i).f0).f1 := by
      rw [Bool.not_eq_true', List.any_eq_false]
      have one : ∀ i, i < js.length → (¬ lateB l (rj js i) = true ↔ (rj js i).f2 = (rj js i).f1 + (tk l (rj js i).f0).f1) := fun i hi => by
        have hb := (hloc i hi).2.1
        have ht := tk_ok hs _ (hloc i hi).1.1 (hloc i hi).1.2
        unfold lateB
        have e3 : trd l (rj js i).f0 = tk l (rj js i).f0 := rfl
        rw [e3, w64 (by omega) (by omega), bne_iff_ne, Ne, Classical.not_not]
      constructor
      · intro hh i hi
        rw [← one i hi, rj_at js i hi]
        exact hh _ (List.getElem_mem hi)
      · intro hh x hx
        obtain ⟨i, hi, rfl⟩ := List.getElem_of_mem hx
        rw [← rj_at js i hi]
        exact (one i hi).2 (hh i hi)
    by_cases hp : spcB l js = true
    · rw [if_pos hp, hlate]
      unfold spcB at hp
      rw [allB_iff] at hp
      constructor
      · intro hh
        refine ⟨hs, by omega, fun i hi => ⟨(hloc i hi).1, (hloc i hi).2.1, (hloc i hi).2.2.1, hh i hi, (hloc i hi).2.2.2, ?_⟩⟩
        exact (dist_iff hi hloc).2 ((spcOk_iff hs hi hloc).1 (hp i hi))
      · intro hh i hi
        exact (hh.2.2 i hi).2.2.2.1
    · rw [if_neg hp]
      constructor
      · intro h; cases h
      · intro hh
        refine absurd ?_ hp
        unfold spcB
        rw [allB_iff]
        intro i hi
        exact (spcOk_iff hs hi hloc).2 ((dist_iff hi hloc).1 (hh.2.2 i hi).2.2.2.2.2)
  · rw [if_neg ho]
    constructor
    · intro h; cases h
    · intro hh
      refine absurd ?_ ho
      unfold ordB
      rw [Bool.and_eq_true, decide_eq_true_eq, allB_iff]
      exact ⟨fun i hi => (ordOk_iff l js i).2 (one_loc (hh.2.2 i hi)), by have := hh.2.1; omega⟩
theorem impl_jl (l : List Task) (js : List Job) (hl : l.length ≤ 1000000000) (hj : js.length ≤ 1000000000) : impl_JobsLegal.f l js = some (decide (JL l js)) := by
  unfold impl_JobsLegal.f
  rw [set_f l]
  simp only [Option.bind_some]
  by_cases hs : SetOk l
  · rw [decide_eq_true hs, if_pos rfl, if_pos ⟨hl, hj⟩]
    congr 1
    rw [Bool.eq_iff_iff, leg_iff hs, decide_eq_true_eq]
  · rw [decide_eq_false hs, if_neg (by simp), decide_eq_false (fun h => hs h.1)]
end Go.Proofs.Ytkdfjomhichkoaa.Leg
/- The program's simulations, told by what is done, are those told by what is left. Conditions: as a pick's. -/
namespace Go.Proofs.Ytkdfjomhichkoaa.Nps
open Go.RowKit Go.Proofs.Ytkdfjomhichkoaa.P Go.Proofs.Ytkdfjomhichkoaa.Base Go.Proofs.Ytkdfjomhichkoaa.Gen Go.Proofs.Ytkdfjomhichkoaa.Set Go.Proofs.Ytkdfjomhichkoaa.Edf Go.Proofs.Ytkdfjomhichkoaa.Sim Go.Proofs.Ytkdfjomhichkoaa.Jobs Go.Proofs.YtkdfjomhichkoaaW.PrintWords Go.Proofs.YtkdfjomhichkoaaW.PrintLast
theorem best_bst (ok : Nat → Bool) (key : Nat → Int) : ∀ n, bestD ok key n = bst ok key n
  | 0 => rfl
  | n + 1 => by rw [bestD, bst, best_bst ok key n]
/-- A schedule of a rule. -/
def sch (js : List Job) (pick : List Int → Nat → Int) : List Int × List Int := ((List.range 120).map (runL pick (exs js)), finL pick (exs js) 120)
section
variable {pick : List Int → Nat → Int} {ex : List Int}
theorem st_idle {t : Nat} (h : runL pick ex t = -1) : stL pick ex (t + 1) = stL pick ex t ∧ finL pick ex (t + 1) = finL pick ex t := by
  have h' : pick (stL pick ex t) t = -1 := h
  constructor
  · rw [stL, h']; rfl
  · rw [finL, h]; rfl
theorem st_run {t i : Nat} (h : runL pick ex t = (i : Int)) (hi : i < ex.length) : stL pick ex (t + 1) = (stL pick ex t).set i (rd (stL pick ex t) (i : Int) - 1) ∧
    finL pick ex (t + 1) = if rd (stL pick ex t) (i : Int) - 1 = 0 then (finL pick ex t).set i ((t : Int) + 1) else finL pick ex t := by
  have h' : pick (stL pick ex t) t = (i : Int) := h
  have e : stL pick ex (t + 1) = (stL pick ex t).set i (rd (stL pick ex t) (i : Int) - 1) := by
    rw [stL, h']
    unfold stepL
    rw [if_neg (by omega), Int.toNat_natCast]
  refine ⟨e, ?_⟩
  rw [finL, h, e, rd_set_eq _ _ _ (by rw [stL_len]; exact hi), Int.toNat_natCast]
  by_cases hz : rd (stL pick ex t) (i : Int) - 1 = 0
  · rw [if_pos ⟨by omega, hz⟩, if_pos hz]
  · rw [if_neg (fun h => hz h.2), if_neg hz]
end
/-- A rule told by what is done agrees with one told by what is left. -/
def Agree (js : List Job) (pk : List Int → Int → Int) (pick : List Int → Nat → Int) : Prop :=
  ∀ (dn left : List Int) (t : Nat), dn.length = js.length → left.length = js.length → (∀ i, i < js.length → rd left (i : Int) = rd (exs js) (i : Int) - rd dn (i : Int)) → pk dn (t : Int) = pick left t
theorem sim_rel {js : List Job} {pk : List Int → Int → Int} {pick : List Int → Nat → Int} {rel : Nat → Int} (ha : Agree js pk pick) (hp : Picks rel js.length pick) (hex : ∀ i, i < js.length → 1 ≤ rd (exs js) (i : Int) ∧ rd (exs js) (i : Int) ≤ 8) : ∀ t,
    (∀ i, i < js.length → rd (stL pick (exs js) t) (i : Int) = rd (exs js) (i : Int) - rd (simT pk js t).1 (i : Int)) ∧ (simT pk js t).2 = finL pick (exs js) t := by
  have hel : (exs js).length = js.length := exs_len js
  have hS := sch_of (pick := pick) (ex := exs js) (rel := rel) (by rw [hel]; exact hp) (fun i hi => (hex i (by omega)).1)
  intro t
  induction t with
  | zero =>
    refine ⟨fun i hi => ?_, ?_⟩
    · rw [stL, simT, rd_at (List.replicate js.length 0) i (by simpa using hi), List.getElem_replicate]; omega
    · rw [finL, simT, hel]
  | succ t ih =>
    have hsl := simT_len pk js t
    have hstl : (stL pick (exs js) t).length = js.length := by rw [stL_len, hel]
    have hrun : pk (simT pk js t).1 (t : Int) = runL pick (exs js) t := ha _ _ t hsl.1 hstl ih.1
    rcases hp _ t hstl with h | ⟨j, hj, h, _, hpos⟩
    · have h : runL pick (exs js) t = -1 := h
      have e := st_idle h
      rw [e.1, e.2, simT_idle (by rw [hrun, h])]
      exact ih
    · have h : runL pick (exs js) t = (j : Int) := h
      have e := st_run h (by rw [hel]; exact hj)
      have hd := ih.1 j hj
      have hx := hex j hj
      have hle := hS.le_ex t j (by rw [hel]; exact hj)
      have hf3 : (jrd js j).f3 = rd (exs js) (j : Int) := (exs_rd js j hj).symm
      have es := simT_runs (pk := pk) (js := js) (t := t) (b := j) (by rw [hrun, h]) rfl hf3
      rw [w64 (x := rd (simT pk js t).1 (j : Int) + 1) (by omega) (by omega)] at es
      rw [es, e.1, e.2]
      refine ⟨fun i hi => ?_, ?_⟩
      · by_cases eij : i = j
        · subst eij
          simp only
          rw [rd_set_eq _ _ _ (by omega), rd_set_eq _ _ _ (by omega)]; omega
        · simp only
          rw [rd_set_ne _ _ _ _ eij, rd_set_ne _ _ _ _ eij]
          exact ih.1 i hi
      · simp only
        rw [ih.2]
        by_cases hz : rd (stL pick (exs js) t) (j : Int) - 1 = 0
        · rw [if_pos hz, if_pos (by omega)]
        · rw [if_neg hz, if_neg (by omega)]
theorem sim_sch {js : List Job} {pk : List Int → Int → Int} {pick : List Int → Nat → Int} {rel : Nat → Int} (ha : Agree js pk pick) (hp : Picks rel js.length pick) (hex : ∀ i, i < js.length → 1 ≤ rd (exs js) (i : Int) ∧ rd (exs js) (i : Int) ≤ 8) : simR pk js = sch js pick := by
  have hr := sim_rel ha hp hex
  unfold simR sch
  rw [(hr 120).2]
  congr 1
  apply List.map_congr_left
  intro t _
  have hsl := simT_len pk js t
  exact ha _ _ t hsl.1 (by rw [stL_len, exs_len]) (hr t).1
theorem rdy_eq {js : List Job} {dn left : List Int} {t : Nat} {i : Nat} (hi : i < js.length) (h : rd left (i : Int) = rd (exs js) (i : Int) - rd dn (i : Int)) : rdyD js dn (t : Int) i = rdyb js left t i := by
  unfold rdyD rdyb
  rw [exs_rd js i hi] at h
  have e : jrd js i = rj js i := rfl
  rw [e, Bool.eq_iff_iff, Bool.and_eq_true, decide_eq_true_eq, decide_eq_true_eq, decide_eq_true_eq]
  omega
theorem edf_agree (js : List Job) : Agree js (edfD js) (edfp js) := by
  intro dn left t h1 h2 h3
  unfold edfD edfp
  rw [best_bst]
  exact bst_congr (fun i hi => rdy_eq hi (h3 i hi)) (fun i _ => rfl)
theorem start_agree (js : List Job) {dn left : List Int} {t : Nat} (h3 : ∀ i, i < js.length → rd left (i : Int) = rd (exs js) (i : Int) - rd dn (i : Int)) : startD js dn (t : Int) = startp js left t := by
  unfold startD startp
  rw [best_bst]
  refine bst_congr (fun i hi => ?_) (fun i _ => rfl)
  have := h3 i hi
  rw [exs_rd js i hi] at this
  rw [rdy_eq hi (h3 i hi)]
  congr 1
  rw [decide_eq_decide]; omega
theorem np_agree (js : List Job) : Agree js (npD js) (npp js) := by
  intro dn left t h1 h2 h3
  unfold npD npp
  rw [start_agree js h3, edf_agree js dn left t h1 h2 h3]
theorem exs_bd {l : List Task} {js : List Job} (h : JL l js) : ∀ i, i < js.length → 1 ≤ rd (exs js) (i : Int) ∧ rd (exs js) (i : Int) ≤ 8 := fun i hi => by
  have h1 := h.pos i (by rw [exs_len]; exact hi)
  have h2 := h.ex_le i hi
  have h3 := task_ok h.1 (tki js i) (h.tkm i hi).1
  omega
theorem edf_sim {l : List Task} {js : List Job} (h : JL l js) : simR (edfD js) js = sch js (edfp js) := sim_sch (edf_agree js) (by have := edfp_picks js; rwa [exs_len] at this) (exs_bd h)
theorem np_sim {l : List Task} {js : List Job} (h : JL l js) : simR (npD js) js = sch js (npp js) := sim_sch (np_agree js) (by have := npp_picks js; rwa [exs_len] at this) (exs_bd h)
/-! ### the reference's parts -/
def keys (js : List Job) : List Int := js.map (fun j => j.f2)
theorem keys_len (js : List Job) : (keys js).length = js.length := by unfold keys; rw [List.length_map]
theorem keys_rd (js : List Job) (i : Nat) (h : i < js.length) : rd (keys js) (i : Int) = dl js i := by
  unfold dl
  rw [rd_at _ i (by rw [keys_len]; exact h), rj_at js i h]
  unfold keys
  rw [List.getElem_map]
theorem rjT (js : List Job) (i : Nat) : rd_T34 js (i : Int) = rj js i := rfl
theorem map_take {α β : Type} (f : α → β) (l : List α) (i : Nat) (h : i < l.length) : (l.take (i + 1)).map f = (l.take i).map f ++ [f l[i]] := by
  rw [List.take_succ_eq_append_getElem h, List.map_append]
  rfl
theorem keys_ev (js : List Job) (hn : js.length ≤ 1000) : Ev (fun k => spec_l3Deadlines.f k js) (keys js) := by
  have loop : ∀ d i, i + d = js.length → Ev (fun k => spec_l3Deadlines.l0 k js ((js.take i).map (fun j => j.f2)) (i : Int)) (keys js) := by
    intro d
    induction d with
    | zero =>
      intro i hi
      refine Ev.step (f := fun _ => some (keys js)) (fun k => ?_) (Ev.now _)
      simp only [spec_l3Deadlines.l0]
      rw [if_neg (by omega), List.take_of_length_le (by omega)]
      rfl
    | succ d ih =>
      intro i hi
      have hil : i < js.length := by omega
      refine Ev.step (fun k => ?_) (ih (i + 1) (by omega))
      simp only [spec_l3Deadlines.l0]
      rw [if_pos (by omega), if_pos (by omega), if_pos (by rw [List.length_map, List.length_take]; omega), rjT, rj_at js i hil, map_take _ _ _ hil, w64 (by omega) (by omega)]
      rfl
  have := loop js.length 0 (by omega)
  exact this
theorem best_ev (js : List Job) (left : List Int) (t : Nat) (hn : js.length ≤ 1000) (hl : left.length = js.length) : Ev (fun k => spec_l3Best.f k js left (keys js) (t : Int)) (edfp js left t) := by
  have hk := keys_len js
  have loop : ∀ d i, i + d = js.length → Ev (fun k => spec_l3Best.l0 k js left (keys js) (t : Int) (bst (rdyb js left t) (dl js) i) (i : Int)) (edfp js left t) := by
    intro d
    induction d with
    | zero =>
      intro i hi
      obtain rfl : i = js.length := by omega
      refine Ev.step (f := fun _ => some (edfp js left t)) (fun k => ?_) (Ev.now _)
      simp only [spec_l3Best.l0]
      rw [if_neg (by omega)]
      rfl
    | succ d ih =>
      intro i hi
      have hil : i < js.length := by omega
      have hb := bst_sp (rdyb js left t) (dl js) i
      refine Ev.step (fun k => ?_) (ih (i + 1) (by omega))
      simp only [spec_l3Best.l0]
      rw [if_pos (by omega), if_pos (by omega), rjT, w64 (by omega) (by omega)]
      have e1 : ((i : Int) + 1) = ((i + 1 : Nat) : Int) := by omega
      rw [e1, bst]
      by_cases h1 : (rj js i).f1 ≤ (t : Int)
      · rw [if_pos h1, if_pos (by omega)]
        by_cases h2 : 0 < rd left (i : Int)
        · have hok : rdyb js left t i = true := by unfold rdyb; exact decide_eq_true ⟨h1, h2⟩
          rw [if_pos (show rd left (i : Int) > 0 from h2)]
          rcases hb with ⟨h3, _⟩ | ⟨b, h3, h4, _⟩
          · rw [h3, if_pos (by omega), if_pos ⟨hok, Or.inl (by omega)⟩]
          · rw [h4, if_neg (by omega), if_pos (by omega), if_pos (by omega), if_pos (by omega), keys_rd js i hil, keys_rd js b (by omega), Int.toNat_natCast]
            by_cases h5 : dl js i < dl js b
            · rw [if_pos h5, if_pos ⟨hok, Or.inr h5⟩]
            · rw [if_neg h5, if_neg (fun h => h.2.elim (fun h6 => by omega) h5)]
        · have hok : rdyb js left t i = false := by unfold rdyb; exact decide_eq_false (fun h => h2 h.2)
          rw [if_neg (show ¬ rd left (i : Int) > 0 from h2), if_neg (fun h => by rw [hok] at h; cases h.1)]
      · have hok : rdyb js left t i = false := by unfold rdyb; exact decide_eq_false (fun h => h1 h.1)
        rw [if_neg h1, if_neg (fun h => by rw [hok] at h; cases h.1)]
  have := loop js.length 0 (by omega)
  exact this
end Go.Proofs.Ytkdfjomhichkoaa.Nps
/- The reference's test of a task set is the plain one. Condition: the row is not too long. -/
namespace Go.Proofs.Ytkdfjomhichkoaa.Tm
open Go.RowKit Go.Proofs.Ytkdfjomhichkoaa.P Go.Proofs.Ytkdfjomhichkoaa.Base Go.Proofs.Ytkdfjomhichkoaa.Gen Go.Proofs.Ytkdfjomhichkoaa.Alive Go.Proofs.Ytkdfjomhichkoaa.Set Go.Proofs.YtkdfjomhichkoaaW.PrintWords Go.Proofs.YtkdfjomhichkoaaW.PrintLast
theorem rdT_at (l : List Task) (i : Nat) (h : i < l.length) : rd_T88 l (i : Int) = l[i] := by
  unfold rd_T88
  rw [List.getD_eq_getElem?_getD, Int.toNat_natCast, List.getElem?_eq_getElem h]
  rfl
theorem stv_f (c d p : Int) : spec_TaskValid.f c d p = some (decide (TV c d p)) := by
  unfold spec_TaskValid.f
  rw [l1In_f, l1In_f, l1In_f, and_bind, and_bind]
  by_cases h1 : 1 ≤ c ∧ c ≤ 8
  · by_cases h2 : c ≤ d ∧ d ≤ p
    · rw [if_pos h1, if_pos h2]; simp only [Option.bind_some]; congr 1; rw [decide_eq_decide]; unfold TV; omega
    · rw [if_pos h1, if_neg h2]; congr 1; symm; rw [decide_eq_false_iff_not]; unfold TV; omega
  · rw [if_neg h1]; congr 1; symm; rw [decide_eq_false_iff_not]; unfold TV; omega
theorem sset_ev (l : List Task) (hl : l.length ≤ 2097152) : Ev (fun k => spec_SetValid.f k l) (decide (SetOk l)) := by
  have loop : ∀ d i, i + d = l.length → (∀ j (h : j < l.length), j < i → TVt l[j]) → Ev (fun k => spec_SetValid.l0 k l (i : Int)) (decide (SetOk l)) := by
    intro d
    induction d with
    | zero =>
      intro i hi hm
      have ha : ∀ t ∈ l, TVt t := by
        intro t ht
        obtain ⟨j, hj, rfl⟩ := List.mem_iff_getElem.1 ht
        exact hm j hj (by omega)
      refine Ev.step (f := fun _ => some (decide (SetOk l))) (fun k => ?_) (Ev.now _)
      simp only [spec_SetValid.l0]
      rw [if_neg (by omega)]
      congr 1
      rw [decide_eq_decide]
      unfold SetOk
      exact ⟨fun h => ⟨by omega, ha⟩, fun h => by omega⟩
    | succ d ih =>
      intro i hi hm
      have hil : i < l.length := by omega
      by_cases hv : TVt l[i]
      · refine Ev.step (fun k => ?_) (ih (i + 1) (by omega) (fun j hj hji => ?_))
        · have hv' : TV l[i].f0 l[i].f1 l[i].f2 := hv
          simp only [spec_SetValid.l0]
          rw [if_pos (by omega), if_pos (by omega), rdT_at l i hil, stv_f, decide_eq_true hv', w64 (by omega) (by omega)]
          rfl
        · by_cases e : j = i
          · subst e; exact hv
          · exact hm j hj (by omega)
      · rw [decide_eq_false (fun h => hv (h.2 _ (List.getElem_mem hil)))]
        have hv' : ¬ TV l[i].f0 l[i].f1 l[i].f2 := hv
        refine Ev.step (f := fun _ => some false) (fun k => ?_) (Ev.now _)
        simp only [spec_SetValid.l0]
        rw [if_pos (by omega), if_pos (by omega), rdT_at l i hil, stv_f, decide_eq_false hv']
        rfl
  exact loop l.length 0 (by omega) (fun j _ h => by omega)
end Go.Proofs.Ytkdfjomhichkoaa.Tm
/- The reference's test of a release pattern is the plain one. Condition: the rows are not too long. -/
namespace Go.Proofs.Ytkdfjomhichkoaa.Leg
open Go.RowKit Go.Proofs.Ytkdfjomhichkoaa.P Go.Proofs.Ytkdfjomhichkoaa.Base Go.Proofs.Ytkdfjomhichkoaa.Gen Go.Proofs.Ytkdfjomhichkoaa.Alive Go.Proofs.Ytkdfjomhichkoaa.Set Go.Proofs.Ytkdfjomhichkoaa.Tm Go.Proofs.Ytkdfjomhichkoaa.Edf Go.Proofs.Ytkdfjomhichkoaa.Sim Go.Proofs.Ytkdfjomhichkoaa.Jobs Go.Proofs.YtkdfjomhichkoaaW.PrintWords Go.Proofs.YtkdfjomhichkoaaW.PrintLast
/-- The row of the next releases that are allowed. -/
def nx (l : List Task) (js : List Job) (i : Nat) (k : Nat) : Int := match lastOf js i (k : Int) with
  | none => 0
  | some b => b + (tk l (k : Int)).f2
theorem rjI (js : List Job) (i : Nat) : rd_T34 js (i : Int) = rj js i := rfl
theorem tkI (l : List Task) (i : Int) : rd_T88 l i = tk l i := rfl
theorem spec_jl (l : List Task) (js : List Job) (hl : l.length ≤ 2097152) (hj : js.length ≤ 2097152) : Ev (fun k => spec_JobsLegal.f k l js) (decide (JL l js)) := by
  unfold spec_JobsLegal.f
  refine Ev.bind (sset_ev l hl) ?_
  have bad : ¬ JL l js → Ev (fun k => spec_JobsLegal.j0 k l js true) (decide (JL l js)) := fun h => by
    rw [decide_eq_false h]
    exact Ev.step (f := fun _ => some false) (fun k => by simp [spec_JobsLegal.j0]) (Ev.now _)
  by_cases hs : SetOk l
  · simp only [decide_eq_true hs, if_true]
    by_cases h60 : js.length ≤ 60
    · have hno : ¬ (js.length : Int) > 60 := by omega
      rw [decide_eq_false hno]
      have hl5 := hs.1
      have loop : ∀ d i (y : List Int), i + d = js.length → (∀ p, p < i → One l js p) → y.length = l.length → (∀ k : Nat, k < l.length → rd y (k : Int) = nx l js i k) → Ev (fun k => spec_JobsLegal.l0 k l js y (i : Int)) (decide (JL l js)) := by
        intro d
        induction d with
        | zero =>
          intro i y hi hp _ _
          rw [decide_eq_true (show JL l js from ⟨hs, h60, fun p hpl => hp p (by omega)⟩)]
          refine Ev.step (f := fun _ => some true) (fun k => ?_) (Ev.now _)
          simp only [spec_JobsLegal.l0]
          rw [if_neg (by omega)]
        | succ d ih =>
          intro i y hi hp hy hr
          have hil : i < js.length := by omega
          -- the ways out
          have out : ¬ One l js i → decide (JL l js) = false := fun h => decide_eq_false (fun hh => h (hh.2.2 i hil))
          have no2 : ¬ One l js i → ∀ a b c e, Ev (fun k => spec_JobsLegal.j2 k l js y (i : Int) true a b c e) (decide (JL l js)) := fun h a b c e => by
            rw [out h]
            exact Ev.step (f := fun _ => some false) (fun k => by simp [spec_JobsLegal.j2]) (Ev.now _)
          have no3 : ¬ One l js i → ∀ a b c e u v z, Ev (fun k => spec_JobsLegal.j3 k l js y (i : Int) true a b c e u v z) (decide (JL l js)) := fun h a b c e u v z => by
            rw [out h]
            exact Ev.step (f := fun _ => some false) (fun k => by simp [spec_JobsLegal.j3]) (Ev.now _)
          have w1 : wrap64 ((l.length : Int) - 1) = (l.length : Int) - 1 := w64 (by omega) (by omega)
          by_cases h1 : 0 ≤ (rj js i).f0 ∧ (rj js i).f0 ≤ (l.length : Int) - 1
          · by_cases h2 : 0 ≤ (rj js i).f1 ∧ (rj js i).f1 ≤ 119
            · have ht := tk_ok hs (rj js i).f0 h1.1 (by omega)
              obtain ⟨q, hq⟩ : ∃ q : Nat, (rj js i).f0 = (q : Int) := ⟨(rj js i).f0.toNat, by omega⟩
              have hql : q < l.length := by omega
              have hnx := hr q hql
              have hlast := lastOf_sp js (q : Int) i
              -- the distance
              have dist : (rj js i).f1 < rd y (q : Int) ↔ ¬ ∀ p, p < i → (rj js p).f0 = (rj js i).f0 → (rj js p).f1 + (tk l (rj js i).f0).f2 ≤ (rj js i).f1 := by
                rw [hnx, hq]
                unfold nx
                rcases hlast with ⟨h3, h4⟩ | ⟨p, h3, h4, h5, h6⟩
                · rw [h3]
                  simp only
                  constructor
                  · intro h7; omega
                  · intro h7
                    exact absurd (fun p hp2 he => absurd he (h4 p hp2)) h7
                · rw [h5]
                  simp only
                  constructor
                  · intro h7 h8
                    have := h8 p h3 h4; omega
                  · intro h7
                    apply Classical.byContradiction
                    intro h8
                    refine h7 (fun p2 hp2 he => ?_)
                    have h9 : p2 ≤ p := by
                      apply Classical.byContradiction
                      intro hc
                      exact h6 p2 (by omega) hp2 he
                    have := mono_rel (l := l) (n := i) (fun a ha => one_loc (hp a ha)) p p2 h9 h3
                    omega
              have step2 : Ev (fun k => spec_JobsLegal.j2 k l js y (i : Int) false (rj js i).f0 (rj js i).f1 (rj js i).f2 (rj js i).f3) (decide (JL l js)) := by
                have go : ∀ b : Bool, (b = true → ¬ One l js i) → (b = false → (1 ≤ (rj js i).f3 ∧ (rj js i).f3 ≤ (tk l (rj js i).f0).f0) ∧ (rj js i).f2 = (rj js i).f1 + (tk l (rj js i).f0).f1 ∧ ∀ p, p < i → (rj js p).f0 = (rj js i).f0 → (rj js p).f1 + (tk l (rj js i).f0).f2 ≤ (rj js i).f1) →
                    Ev (fun k => spec_JobsLegal.j3 k l js y (i : Int) b (rj js i).f0 (rj js i).f1 (rj js i).f2 (rj js i).f3 (tk l (rj js i).f0).f0 (tk l (rj js i).f0).f1 (tk l (rj js i).f0).f2) (decide (JL l js)) := by
                  intro b hb1 hb2
                  cases b with
                  | true => exact no3 (hb1 rfl) _ _ _ _ _ _ _
                  | false =>
                    obtain ⟨h3, h4, h5⟩ := hb2 rfl
                    have fin : One l js i → Ev (fun k => spec_JobsLegal.l0 k l js (y.set q ((rj js i).f1 + (tk l (rj js i).f0).f2)) (wrap64 ((i : Int) + 1))) (decide (JL l js)) := by
                      intro hone
                      rw [show wrap64 ((i : Int) + 1) = ((i + 1 : Nat) : Int) by rw [w64 (by omega) (by omega)]; omega]
                      refine ih (i + 1) _ (by omega) (fun p hp2 => ?_) (by rw [List.length_set]; exact hy) (fun k hk => ?_)
                      · by_cases e : p = i
                        · subst e; exact hone
                        · exact hp p (by omega)
                      · unfold nx
                        rw [lastOf]
                        have ej : jrd js i = rj js i := rfl
                        rw [ej]
                        by_cases e : k = q
                        · subst e
                          rw [rd_set_eq _ _ _ (by omega), if_pos hq, hq]
                        · rw [rd_set_ne _ _ _ _ e, if_neg (by omega), hr k hk]
                          rfl
                    have hset : wrap64 ((rj js i).f1 + (tk l (rj js i).f0).f2) = (rj js i).f1 + (tk l (rj js i).f0).f2 := w64 (by omega) (by omega)
                    have htn : (rj js i).f0.toNat = q := by omega
                    by_cases h0 : i = 0
                    · refine Ev.step (fun k => ?_) (fin ⟨by omega, h2, h3, h4, fun h => by omega, h5⟩)
                      simp only [spec_JobsLegal.j3]
                      rw [if_neg (by simp), if_neg (by omega), if_pos (by omega), if_pos (by omega), hset, htn]
                    · have e1 : wrap64 ((i : Int) - 1) = ((i - 1 : Nat) : Int) := by rw [w64 (by omega) (by omega)]; omega
                      by_cases h6 : (rj js (i - 1)).f1 > (rj js i).f1
                      · have hn : ¬ One l js i := fun h => by have := h.2.2.2.2.1 (by omega); omega
                        rw [out hn]
                        refine Ev.step (f := fun _ => some false) (fun k => ?_) (Ev.now _)
                        simp only [spec_JobsLegal.j3]
                        rw [if_neg (by simp), if_pos (by omega), e1, if_pos (by omega), if_pos (by omega), rjI, if_pos h6]
                      · by_cases h7 : (rj js (i - 1)).f1 = (rj js i).f1
                        · by_cases h8 : (rj js (i - 1)).f0 ≥ (rj js i).f0
                          · have hn : ¬ One l js i := fun h => by have := h.2.2.2.2.1 (by omega); omega
                            rw [out hn]
                            refine Ev.step (f := fun _ => some false) (fun k => ?_) (Ev.now _)
                            simp only [spec_JobsLegal.j3]
                            rw [if_neg (by simp), if_pos (by omega), e1, if_pos (by omega), if_pos (by omega), rjI, if_neg h6, if_pos h7, if_pos h8]
                          · refine Ev.step (fun k => ?_) (fin ⟨by omega, h2, h3, h4, fun _ => Or.inr ⟨h7, by omega⟩, h5⟩)
                            simp only [spec_JobsLegal.j3]
                            rw [if_neg (by simp), if_pos (by omega), e1, if_pos (by omega), if_pos (by omega), rjI, if_neg h6, if_pos h7, if_neg h8, if_pos (by omega), if_pos (by omega), hset, htn]
                        · refine Ev.step (fun k => ?_) (fin ⟨by omega, h2, h3, h4, fun _ => Or.inl (by omega), h5⟩)
                          simp only [spec_JobsLegal.j3]
                          rw [if_neg (by simp), if_pos (by omega), e1, if_pos (by omega), if_pos (by omega), rjI, if_neg h6, if_neg h7, if_pos (by omega), if_pos (by omega), hset, htn]
                have hwd : wrap64 ((rj js i).f1 + (tk l (rj js i).f0).f1) = (rj js i).f1 + (tk l (rj js i).f0).f1 := w64 (by omega) (by omega)
                by_cases h3 : (rj js i).f1 < rd y (rj js i).f0
                · refine Ev.step (fun k => ?_) (go true (fun _ h => ?_) (fun h => by cases h))
                  · simp only [spec_JobsLegal.j2]
                    rw [if_neg (by simp), if_pos (by omega), if_pos (by omega), if_pos (by omega), if_pos h3]
                    rfl
                  · rw [hq] at h3
                    exact dist.1 h3 h.2.2.2.2.2
                · have h3' : ∀ p, p < i → (rj js p).f0 = (rj js i).f0 → (rj js p).f1 + (tk l (rj js i).f0).f2 ≤ (rj js i).f1 := by
                    apply Classical.byContradiction
                    intro hc
                    exact h3 (by rw [hq]; exact dist.2 hc)
                  by_cases h4 : (rj js i).f2 = (rj js i).f1 + (tk l (rj js i).f0).f1
                  · by_cases h5 : 1 ≤ (rj js i).f3 ∧ (rj js i).f3 ≤ (tk l (rj js i).f0).f0
                    · refine Ev.step (fun k => ?_) (go false (fun h => by cases h) (fun _ => ⟨h5, h4, h3'⟩))
                      simp only [spec_JobsLegal.j2]
                      rw [if_neg (by simp), if_pos (by omega), if_pos (by omega), if_pos (by omega), if_neg h3, tkI, hwd, if_pos h4, l1In_f, decide_eq_true h5]
                      rfl
                    · refine Ev.step (fun k => ?_) (go true (fun _ h => h5 h.2.2.1) (fun h => by cases h))
                      simp only [spec_JobsLegal.j2]
                      rw [if_neg (by simp), if_pos (by omega), if_pos (by omega), if_pos (by omega), if_neg h3, tkI, hwd, if_pos h4, l1In_f, decide_eq_false h5]
                      rfl
                  · refine Ev.step (fun k => ?_) (go true (fun _ h => h4 h.2.2.2.1) (fun h => by cases h))
                    simp only [spec_JobsLegal.j2]
                    rw [if_neg (by simp), if_pos (by omega), if_pos (by omega), if_pos (by omega), if_neg h3, tkI, hwd, if_neg h4]
              refine Ev.step (fun k => ?_) step2
              simp only [spec_JobsLegal.l0]
              rw [if_pos (by omega), if_pos (by omega), rjI, w1, l1In_f, decide_eq_true h1]
              simp only [Option.bind_some, if_true]
              rw [l1In_f, decide_eq_true h2]
              rfl
            · refine Ev.step (fun k => ?_) (no2 (fun h => h2 h.2.1) (rj js i).f0 (rj js i).f1 (rj js i).f2 (rj js i).f3)
              simp only [spec_JobsLegal.l0]
              rw [if_pos (by omega), if_pos (by omega), rjI, w1, l1In_f, decide_eq_true h1]
              simp only [Option.bind_some, if_true]
              rw [l1In_f, decide_eq_false h2]
              rfl
          · refine Ev.step (fun k => ?_) (no2 (fun h => h1 (by have := h.1; omega)) (rj js i).f0 (rj js i).f1 (rj js i).f2 (rj js i).f3)
            simp only [spec_JobsLegal.l0]
            rw [if_pos (by omega), if_pos (by omega), rjI, w1, l1In_f, decide_eq_false h1]
            rfl
      refine Ev.step (fun k => ?_) (loop js.length 0 (List.replicate l.length 0) (by omega) (fun p h => by omega) (by simp) (fun k hk => ?_))
      · simp only [spec_JobsLegal.j0]
        rw [if_neg (by simp), if_pos (by omega), if_pos (by rw [Int.toNat_natCast]; omega), Int.toNat_natCast]
        rfl
      · rw [rd_at _ k (by simpa using hk), List.getElem_replicate]
        rfl
    · rw [decide_eq_true (show (js.length : Int) > 60 by omega)]
      exact bad (fun h => h60 h.2.1)
  · simp only [decide_eq_false hs]
    exact bad (fun h => hs h.1)
end Go.Proofs.Ytkdfjomhichkoaa.Leg
/- The runs of the program and of the reference are the plain schedules: earliest deadline first, and without preemption. Condition: the rows are not too long. -/
namespace Go.Proofs.Ytkdfjomhichkoaa.Npr
open Go.RowKit Go.Proofs.Ytkdfjomhichkoaa.P Go.Proofs.Ytkdfjomhichkoaa.Base Go.Proofs.Ytkdfjomhichkoaa.Gen Go.Proofs.Ytkdfjomhichkoaa.Alive Go.Proofs.Ytkdfjomhichkoaa.Set Go.Proofs.Ytkdfjomhichkoaa.Tm Go.Proofs.Ytkdfjomhichkoaa.Edf Go.Proofs.Ytkdfjomhichkoaa.Sim Go.Proofs.Ytkdfjomhichkoaa.Jobs Go.Proofs.Ytkdfjomhichkoaa.Leg Go.Proofs.Ytkdfjomhichkoaa.Nps Go.Proofs.YtkdfjomhichkoaaW.PrintWords Go.Proofs.YtkdfjomhichkoaaW.PrintLast
noncomputable def RN (l : List Task) (js : List Job) : List Int × List Int := if JL l js then sch js (npp js) else ([], [])
noncomputable def RE (l : List Task) (js : List Job) : List Int × List Int := if JL l js then sch js (edfp js) else ([], [])
theorem impl_rn (l : List Task) (js : List Job) (hl : l.length ≤ 1000000) (hj : js.length ≤ 1000000) : impl_RunNonPreemptive.f l js = some (RN l js) := by
  unfold impl_RunNonPreemptive.f RN
  rw [impl_jl l js (by omega) (by omega)]
  simp only [Option.bind_some]
  by_cases h : JL l js
  · rw [decide_eq_true h, if_pos rfl, if_pos (by have := h.2.1; omega), if_pos h, np_sim h]
  · rw [decide_eq_false h, if_neg (by simp), if_neg h]
theorem impl_re (l : List Task) (js : List Job) (hl : l.length ≤ 1000000) (hj : js.length ≤ 1000000) : impl_RunEdf.f l js = some (RE l js) := by
  unfold impl_RunEdf.f RE
  rw [impl_jl l js (by omega) (by omega)]
  simp only [Option.bind_some]
  by_cases h : JL l js
  · rw [decide_eq_true h, if_pos rfl, if_pos (by have := h.2.1; omega), if_pos h, edf_sim h]
  · rw [decide_eq_false h, if_neg (by simp), if_neg h]
theorem sch_len (js : List Job) (pick : List Int → Nat → Int) : (sch js pick).1.length = 120 ∧ (sch js pick).2.length = js.length := by
  unfold sch
  refine ⟨by simp, ?_⟩
  simp only
  rw [finL_len, exs_len]
theorem rd_sch (js : List Job) (pick : List Int → Nat → Int) (t : Nat) (h : t < 120) : rd (sch js pick).1 (t : Int) = runL pick (exs js) t := by
  rw [rd_at _ t (by rw [(sch_len js pick).1]; exact h)]
  unfold sch
  simp
/-- What the reference carries: the job that runs on. -/
def Cur (js : List Job) (cur : Int) (t : Nat) : Prop :=
  (cur = -1 ∧ ∀ i, i < js.length → 0 < rd (stL (npp js) (exs js) t) (i : Int) → (rj js i).f3 ≤ rd (stL (npp js) (exs js) t) (i : Int)) ∨
  ∃ i : Nat, i < js.length ∧ cur = (i : Int) ∧ rel js i ≤ (t : Int) ∧ 0 < rd (stL (npp js) (exs js) t) (i : Int) ∧ rd (stL (npp js) (exs js) t) (i : Int) < (rj js i).f3 ∧
    ∀ j, j < js.length → 0 < rd (stL (npp js) (exs js) t) (j : Int) → rd (stL (npp js) (exs js) t) (j : Int) < (rj js j).f3 → j = i
theorem cur_pick {js : List Job} {cur : Int} {t : Nat} (h : Cur js cur t) : (cur < 0 → runL (npp js) (exs js) t = edfp js (stL (npp js) (exs js) t) t) ∧ (0 ≤ cur → runL (npp js) (exs js) t = cur) := by
  have hs := startp_sp js (stL (npp js) (exs js) t) t
  have e : runL (npp js) (exs js) t = if 0 ≤ startp js (stL (npp js) (exs js) t) t then startp js (stL (npp js) (exs js) t) t else edfp js (stL (npp js) (exs js) t) t := rfl
  rw [e]
  rcases h with ⟨h1, h2⟩ | ⟨i, hi, h1, h2, h3, h4, h5⟩
  · refine ⟨fun _ => ?_, fun h => by omega⟩
    rcases hs with ⟨h6, _⟩ | ⟨j, hj, h6, h7, h8, h9⟩
    · rw [if_neg (by omega)]
    · have := h2 j hj h8; omega
  · refine ⟨fun h => by omega, fun _ => ?_⟩
    rcases hs with ⟨h6, h7⟩ | ⟨j, hj, h6, h7, h8, h9⟩
    · have := h7 i hi h2 h3; omega
    · have := h5 j hj h8 h9
      rw [if_pos (by omega), h6, h1, this]
theorem cur_next {l : List Task} {js : List Job} {cur : Int} {t : Nat} (hl : JL l js) (h : Cur js cur t) : Cur js (if 0 ≤ runL (npp js) (exs js) t ∧ rd (stL (npp js) (exs js) (t + 1)) (runL (npp js) (exs js) t) ≠ 0 then runL (npp js) (exs js) t else -1) (t + 1) := by
  have hst : (stL (npp js) (exs js) t).length = js.length := by rw [stL_len, exs_len]
  have hp := npp_picks js (stL (npp js) (exs js) t) t (stL_len t)
  have hpos := hl.pos
  have hS := sch_of (npp_picks js) hpos
  have hpk := cur_pick h
  rw [exs_len] at hp
  rcases hp with hr | ⟨i, hi, hr, hrel, hliv⟩
  · have hr : runL (npp js) (exs js) t = -1 := hr
    have e := (st_idle hr).1
    rw [hr, if_neg (by omega)]
    left
    refine ⟨rfl, ?_⟩
    rw [e]
    rcases h with ⟨_, h2⟩ | ⟨i, hi, h1, _⟩
    · exact h2
    · have := hpk.2 (by omega); omega
  · have hr : runL (npp js) (exs js) t = (i : Int) := hr
    have e := (st_run hr (by rw [exs_len]; exact hi)).1
    have hle := hS.le_ex t i (by rw [exs_len]; exact hi)
    rw [exs_rd js i hi] at hle
    -- no other job has started
    have oth : ∀ j, j < js.length → j ≠ i → 0 < rd (stL (npp js) (exs js) t) (j : Int) → (rj js j).f3 ≤ rd (stL (npp js) (exs js) t) (j : Int) := by
      intro j hj hji hjl
      rcases h with ⟨_, h2⟩ | ⟨c, hc, h1, _, _, _, h5⟩
      · exact h2 j hj hjl
      · have hci : (c : Int) = (i : Int) := by rw [← h1, ← hr]; exact (hpk.2 (by omega)).symm
        apply Classical.byContradiction
        intro hcn
        have := h5 j hj hjl (by omega)
        omega
    rw [hr, e, rd_set_eq _ _ _ (by omega)]
    by_cases hz : rd (stL (npp js) (exs js) t) (i : Int) - 1 = 0
    · rw [if_neg (fun h => h.2 hz)]
      left
      refine ⟨rfl, fun j hj => ?_⟩
      rw [e]
      by_cases eij : j = i
      · subst eij
        rw [rd_set_eq _ _ _ (by omega)]
        intro h0; omega
      · rw [rd_set_ne _ _ _ _ eij]
        exact oth j hj eij
    · rw [if_pos ⟨by omega, hz⟩]
      right
      refine ⟨i, hi, rfl, by omega, ?_, ?_, fun j hj => ?_⟩
      · rw [e, rd_set_eq _ _ _ (by omega)]; omega
      · rw [e, rd_set_eq _ _ _ (by omega)]; omega
      · rw [e]
        by_cases eij : j = i
        · intro _ _; exact eij
        · rw [rd_set_ne _ _ _ _ eij]
          intro h1 h2
          have := oth j hj eij h1; omega
theorem spec_np_run {l : List Task} {js : List Job} (hl : JL l js) : Ev (fun k => spec_RunNonPreemptive.l0 k js [] (keys js) 0 []) (sch js (npp js)) := by
  have h60 := hl.2.1
  have hS := sch_of (npp_picks js) hl.pos
  have ticks : ∀ d t cur, t + d = 120 → Cur js cur t → Ev (fun k => spec_RunNonPreemptive.l1 k js (stL (npp js) (exs js) t) (keys js) cur (t : Int) ((List.range t).map (runL (npp js) (exs js))) (finL (npp js) (exs js) t)) (sch js (npp js)) := by
    intro d
    induction d with
    | zero =>
      intro t cur ht _
      obtain rfl : t = 120 := by omega
      refine Ev.step (f := fun _ => some (sch js (npp js))) (fun k => ?_) (Ev.now _)
      simp only [spec_RunNonPreemptive.l1]
      rw [if_neg (by omega)]
      rfl
    | succ d ih =>
      intro t cur ht hc
      have hpk := cur_pick hc
      have hst : (stL (npp js) (exs js) t).length = js.length := by rw [stL_len, exs_len]
      have hfl : (finL (npp js) (exs js) t).length = js.length := by rw [finL_len, exs_len]
      have hnx := cur_next hl hc
      have hw : wrap64 ((t : Int) + 1) = ((t + 1 : Nat) : Int) := by rw [w64 (by omega) (by omega)]; omega
      have hrange : (List.range (t + 1)).map (runL (npp js) (exs js)) = (List.range t).map (runL (npp js) (exs js)) ++ [runL (npp js) (exs js) t] := by rw [List.range_succ, List.map_append]; rfl
      have body : Ev (fun k => spec_RunNonPreemptive.j2 k js (stL (npp js) (exs js) t) (keys js) (runL (npp js) (exs js) t) (t : Int) ((List.range t).map (runL (npp js) (exs js))) (finL (npp js) (exs js) t)) (sch js (npp js)) := by
        have hp := npp_picks js (stL (npp js) (exs js) t) t (stL_len t)
        rw [exs_len] at hp
        rcases hp with hr | ⟨i, hi, hr, hrel, hliv⟩
        · have hr : runL (npp js) (exs js) t = -1 := hr
          have e := st_idle hr
          have hnx2 := hnx
          rw [hr, if_neg (by omega)] at hnx2
          refine Ev.step (fun k => ?_) (ih (t + 1) (-1) (by omega) hnx2)
          simp only [spec_RunNonPreemptive.j2]
          rw [if_pos (by rw [List.length_map, List.length_range]; omega), Option.bind_some, hr, if_neg (by omega), hw, e.1, e.2, hrange, hr]
        · have hr : runL (npp js) (exs js) t = (i : Int) := hr
          have e := st_run hr (by rw [exs_len]; exact hi)
          have hle := hS.le_ex t i (by rw [exs_len]; exact hi)
          have hxb := exs_bd hl i hi
          have hw2 : wrap64 (rd (stL (npp js) (exs js) t) (i : Int) - 1) = rd (stL (npp js) (exs js) t) (i : Int) - 1 := w64 (by omega) (by omega)
          have hnx2 := hnx
          rw [hr, e.1, rd_set_eq _ _ _ (by omega)] at hnx2
          by_cases hz : rd (stL (npp js) (exs js) t) (i : Int) - 1 = 0
          · rw [if_neg (fun h => h.2 hz)] at hnx2
            refine Ev.step (fun k => ?_) (ih (t + 1) (-1) (by omega) hnx2)
            simp only [spec_RunNonPreemptive.j2]
            rw [if_pos (by rw [List.length_map, List.length_range]; omega), Option.bind_some, hr, if_pos (by omega), if_pos (by omega), if_pos (by omega), Option.bind_some, hw2, Int.toNat_natCast, rd_set_eq _ _ _ (by omega), if_pos hz, if_pos (by omega), hw, e.1, e.2, if_pos hz, hrange, hr]
            rfl
          · rw [if_pos ⟨by omega, hz⟩] at hnx2
            refine Ev.step (fun k => ?_) (ih (t + 1) (i : Int) (by omega) hnx2)
            simp only [spec_RunNonPreemptive.j2]
            rw [if_pos (by rw [List.length_map, List.length_range]; omega), Option.bind_some, hr, if_pos (by omega), if_pos (by omega), if_pos (by omega), Option.bind_some, hw2, Int.toNat_natCast, rd_set_eq _ _ _ (by omega), if_neg hz, hw, e.1, e.2, if_neg hz, hrange, hr]
      by_cases hneg : cur < 0
      · have hb := best_ev js (stL (npp js) (exs js) t) t (by omega) hst
        rw [← hpk.1 hneg] at hb
        refine Ev.step (f := fun k => (spec_l3Best.f k js (stL (npp js) (exs js) t) (keys js) (t : Int)).bind fun t358 => (spec_RunNonPreemptive.j2 k js (stL (npp js) (exs js) t) (keys js) t358 (t : Int) ((List.range t).map (runL (npp js) (exs js))) (finL (npp js) (exs js) t))) (fun k => ?_) (Ev.bind hb body)
        simp only [spec_RunNonPreemptive.l1]
        rw [if_pos (by omega), if_pos hneg]
      · have hcur := hpk.2 (by omega)
        refine Ev.step (fun k => ?_) body
        simp only [spec_RunNonPreemptive.l1]
        rw [if_pos (by omega), if_neg hneg, hcur]
  have build : ∀ d i, i + d = js.length → Ev (fun k => spec_RunNonPreemptive.l0 k js ((js.take i).map (fun j => j.f3)) (keys js) (i : Int) (List.replicate i (-1))) (sch js (npp js)) := by
    intro d
    induction d with
    | zero =>
      intro i hi
      obtain rfl : i = js.length := by omega
      have h0 : Cur js (-1) 0 := by
        left
        refine ⟨rfl, fun i hi _ => ?_⟩
        rw [show stL (npp js) (exs js) 0 = exs js from rfl, exs_rd js i hi]
        exact Int.le_refl _
      refine Ev.step (fun k => ?_) (ticks 120 0 (-1) (by omega) h0)
      simp only [spec_RunNonPreemptive.l0]
      rw [if_neg (by omega), List.take_of_length_le (Nat.le_refl _)]
      have e : finL (npp js) (exs js) 0 = List.replicate js.length (-1) := by rw [finL, exs_len]
      rw [e]
      rfl
    | succ d ih =>
      intro i hi
      have hil : i < js.length := by omega
      refine Ev.step (fun k => ?_) (ih (i + 1) (by omega))
      simp only [spec_RunNonPreemptive.l0]
      rw [if_pos (by omega), if_pos (by omega), if_pos (by rw [List.length_map, List.length_take]; omega), if_pos (by rw [List.length_replicate]; omega), rjT, rj_at js i hil, map_take _ _ _ hil, w64 (by omega) (by omega), List.replicate_succ']
      rfl
  exact build js.length 0 (by omega)
theorem spec_rn (l : List Task) (js : List Job) (hl : l.length ≤ 1000000) (hj : js.length ≤ 1000000) : Ev (fun k => spec_RunNonPreemptive.f k l js) (RN l js) := by
  unfold spec_RunNonPreemptive.f
  refine Ev.bind (spec_jl l js (by omega) (by omega)) ?_
  unfold RN
  by_cases h : JL l js
  · simp only [decide_eq_true h, if_true]
    rw [if_pos h]
    exact Ev.bind (keys_ev js (by have := h.2.1; omega)) (spec_np_run h)
  · simp only [decide_eq_false h]
    rw [if_neg h]
    exact Ev.now _
end Go.Proofs.Ytkdfjomhichkoaa.Npr
/- The draw of a task ends, and its numbers are small. Conditions: as the reader's. -/
namespace Go.Proofs.Ytkdfjomhichkoaa.DrTask
open Go.RowKit Go.Proofs.Ytkdfjomhichkoaa.P Go.Proofs.Ytkdfjomhichkoaa.Base Go.Proofs.Ytkdfjomhichkoaa.Gen Go.Proofs.Ytkdfjomhichkoaa.Pb Go.Proofs.YtkdfjomhichkoaaW.PrintWords Go.Proofs.YtkdfjomhichkoaaW.PrintLast
theorem rd_bd {xs : List Int} {i : Int} (lo hi : Int) (h0 : 0 ≤ i) (h1 : i < (xs.length : Int)) (h : ∀ x ∈ xs, lo ≤ x ∧ x ≤ hi) : lo ≤ rd xs i ∧ rd xs i ≤ hi := h _ (rd_mem h0 h1)
theorem mx_bd (a b : Int) : a ≤ mx a b ∧ b ≤ mx a b ∧ (mx a b = a ∨ mx a b = b) := by unfold mx; split <;> omega
theorem mn_bd (a b : Int) : mn a b ≤ a ∧ mn a b ≤ b ∧ (mn a b = a ∨ mn a b = b) := by unfold mn; split <;> omega
/-- A task that is small; and, if nobody asked for another, valid. -/
def SmallT (c d p : Int) : Prop := -20 ≤ c ∧ c ≤ 20 ∧ -20 ≤ d ∧ d ≤ 20 ∧ -20 ≤ p ∧ p ≤ 20
theorem task_tot (s : List Int) (p n : Int) (hs : Bytes s) (hp : 0 ≤ p) (hp2 : p ≤ 900000000) :
    Tot (fun k => spec_l20Task.f k s p n) (fun r => SmallT r.1 r.2.1 r.2.2.1 ∧ p ≤ r.2.2.2 ∧ r.2.2.2 ≤ p + 9) := by
  have last : ∀ (q c d e : Int), SmallT c d e → p ≤ q → q ≤ p + 9 → Tot (fun k => spec_l20Task.j0 k s q c d e) (fun r => SmallT r.1 r.2.1 r.2.2.1 ∧ p ≤ r.2.2.2 ∧ r.2.2.2 ≤ p + 9) := by
    intro q c d e h1 h2 h3
    exact Tot.step (fun k => by rw [spec_l20Task.j0]) (Tot.ret _ ⟨h1, h2, h3⟩)
  unfold spec_l20Task.f
  refine Tot.bind (pick_tot s p 12 hs hp (by omega)) ?_
  rintro ⟨a, q⟩ ⟨h, ha0, ha1⟩
  simp only at h ha0 ha1 ⊢; subst h
  have ha1 := ha1 (by omega)
  rw [w64 (x := 1 + a) (by omega) (by omega)]
  refine some_bind _ ?_
  refine Tot.bind (pick_tot s (p + 1) 8 hs (by omega) (by omega)) ?_
  rintro ⟨b, q⟩ ⟨h, hb0, hb1⟩
  simp only at h hb0 hb1 ⊢; subst h
  have hb1 := hb1 (by omega)
  have hlt : b < ((([2, 3, 4, 6, 8, 12, 1 + a, 5] : List Int).length : Nat) : Int) := by simp; omega
  refine Tot.yes hb0 (Tot.yes hlt ?_)
  have hc := rd_bd 1 12 hb0 hlt (by intro x hx; simp only [List.mem_cons, List.not_mem_nil, or_false] at hx; omega)
  generalize rd [2, 3, 4, 6, 8, 12, 1 + a, 5] b = P at hc ⊢
  refine Tot.bind (pick_tot s (p + 1 + 1) P hs (by omega) (by omega)) ?_
  rintro ⟨c, q⟩ ⟨h, hc0, hc1⟩
  simp only at h hc0 hc1 ⊢; subst h
  have hc1 := hc1 (by omega)
  rw [w64 (x := 1 + c) (by omega) (by omega), w64 (x := P - 1) (by omega) (by omega)]
  have hm := mx_bd 1 (P - 1)
  refine some_bind _ ?_
  refine Tot.bind (pick_tot s (p + 1 + 1 + 1) 3 hs (by omega) (by omega)) ?_
  rintro ⟨d, q⟩ ⟨h, hd0, hd1⟩
  simp only at h hd0 hd1 ⊢; subst h
  have hd1 := hd1 (by omega)
  have hlt : d < ((([P, 1 + c, mx 1 (P - 1)] : List Int).length : Nat) : Int) := by simp; omega
  refine Tot.yes hd0 (Tot.yes hlt ?_)
  have hD := rd_bd 1 12 hd0 hlt (by intro x hx; simp only [List.mem_cons, List.not_mem_nil, or_false] at hx; omega)
  generalize rd [P, 1 + c, mx 1 (P - 1)] d = D at hD ⊢
  have e2 := tdiv_ok D 2 (by omega) (by omega)
  have e3 := tdiv_ok D 3 (by omega) (by omega)
  rw [w64 (x := Int.tdiv D 2) (by omega) (by omega), w64 (x := Int.tdiv D 3) (by omega) (by omega)]
  have hm2 := mx_bd 1 (Int.tdiv D 2)
  have hm3 := mx_bd 1 (Int.tdiv D 3)
  refine some_bind _ ?_
  refine Tot.bind (pick_tot s (p + 1 + 1 + 1 + 1) 3 hs (by omega) (by omega)) ?_
  rintro ⟨e, q⟩ ⟨h, he0, he1⟩
  simp only at h he0 he1 ⊢; subst h
  have he1 := he1 (by omega)
  have hlt : e < ((([D, mx 1 (Int.tdiv D 2), mx 1 (Int.tdiv D 3)] : List Int).length : Nat) : Int) := by simp; omega
  refine Tot.yes he0 (Tot.yes hlt ?_)
  have hE := rd_bd 1 12 he0 hlt (by intro x hx; simp only [List.mem_cons, List.not_mem_nil, or_false] at hx; omega)
  generalize rd [D, mx 1 (Int.tdiv D 2), mx 1 (Int.tdiv D 3)] e = E at hE ⊢
  have hmn := mn_bd 8 E
  refine Tot.bind (pick_tot s (p + 1 + 1 + 1 + 1 + 1) (mn 8 E) hs (by omega) (by omega)) ?_
  rintro ⟨f, q⟩ ⟨h, hf0, hf1⟩
  simp only at h hf0 hf1 ⊢; subst h
  have hf1 := hf1 (by omega)
  rw [w64 (x := 1 + f) (by omega) (by omega)]
  refine Tot.bind (odd_tot s (p + 1 + 1 + 1 + 1 + 1 + 1) n hs (by omega) (by omega)) ?_
  rintro ⟨g, q⟩ ⟨h1, h2⟩
  simp only at h1 h2 ⊢
  refine Tot.ite (fun _ => ?_) (fun _ => last _ _ _ _ (by unfold SmallT; omega) (by omega) (by omega))
  refine Tot.bind (pick_tot s q 3 hs (by omega) (by omega)) ?_
  rintro ⟨u, q'⟩ ⟨h, hu0, hu1⟩
  simp only at h hu0 hu1 ⊢; subst h
  refine Tot.ite (fun _ => ?_) (fun _ => Tot.ite (fun _ => ?_) (fun _ => ?_))
  · rw [w64 (x := D + 1) (by omega) (by omega)]
    refine some_bind _ ?_
    refine Tot.bind (pick_tot s (q + 1) 4 hs (by omega) (by omega)) ?_
    rintro ⟨v, q'⟩ ⟨h, hv0, hv1⟩
    simp only at h hv0 hv1 ⊢; subst h
    have hlt : v < ((([0, -1, 9, D + 1] : List Int).length : Nat) : Int) := by simp; omega
    refine Tot.yes hv0 (Tot.yes hlt ?_)
    have hV := rd_bd (-1) 13 hv0 hlt (by intro x hx; simp only [List.mem_cons, List.not_mem_nil, or_false] at hx; omega)
    exact last _ _ _ _ (by unfold SmallT; omega) (by omega) (by omega)
  · rw [w64 (x := P + 1) (by omega) (by omega)]
    refine some_bind _ ?_
    refine Tot.bind (pick_tot s (q + 1) 3 hs (by omega) (by omega)) ?_
    rintro ⟨v, q'⟩ ⟨h, hv0, hv1⟩
    simp only at h hv0 hv1 ⊢; subst h
    have hlt : v < ((([0, P + 1, -1] : List Int).length : Nat) : Int) := by simp; omega
    refine Tot.yes hv0 (Tot.yes hlt ?_)
    have hV := rd_bd (-1) 13 hv0 hlt (by intro x hx; simp only [List.mem_cons, List.not_mem_nil, or_false] at hx; omega)
    exact last _ _ _ _ (by unfold SmallT; omega) (by omega) (by omega)
  · refine some_bind _ ?_
    refine Tot.bind (pick_tot s (q + 1) 3 hs (by omega) (by omega)) ?_
    rintro ⟨v, q'⟩ ⟨h, hv0, hv1⟩
    simp only at h hv0 hv1 ⊢; subst h
    have hlt : v < ((([0, 13, -1] : List Int).length : Nat) : Int) := by simp; omega
    refine Tot.yes hv0 (Tot.yes hlt ?_)
    have hV := rd_bd (-1) 13 hv0 hlt (by intro x hx; simp only [List.mem_cons, List.not_mem_nil, or_false] at hx; omega)
    exact last _ _ _ _ (by unfold SmallT; omega) (by omega) (by omega)
end Go.Proofs.Ytkdfjomhichkoaa.DrTask
/- The draw of a task set ends, and the set is short. Conditions: as the reader's. -/
namespace Go.Proofs.Ytkdfjomhichkoaa.DrSet
open Go.RowKit Go.Proofs.Ytkdfjomhichkoaa.P Go.Proofs.Ytkdfjomhichkoaa.Base Go.Proofs.Ytkdfjomhichkoaa.Gen Go.Proofs.Ytkdfjomhichkoaa.Pb Go.Proofs.Ytkdfjomhichkoaa.DrTask Go.Proofs.YtkdfjomhichkoaaW.PrintWords Go.Proofs.YtkdfjomhichkoaaW.PrintLast
abbrev Task := S88
def Short (p : Int) (r : List Task × Int) : Prop := r.1.length ≤ 20 ∧ p ≤ r.2 ∧ r.2 ≤ p + 300
theorem set_tot (s : List Int) (p n : Int) (hs : Bytes s) (hp : 0 ≤ p) (hp2 : p ≤ 100000) : Tot (fun k => spec_l20Set.f k s p n) (Short p) := by
  have more : ∀ (d : Nat) (x : List Task) (q : Int), x.length + d = 6 → p ≤ q → q ≤ p + 100 + 10 * (6 - d) → Tot (fun k => spec_l20Set.l1 k x s q) (Short p) := by
    intro d
    induction d with
    | zero =>
      intro x q h1 h2 h3
      refine Tot.step (fun k => by rw [spec_l20Set.l1]) (Tot.no (by omega) ?_)
      refine Tot.bind (task_tot s q 2 hs (by omega) (by omega)) ?_
      rintro ⟨a, b, c, q2⟩ ⟨_, h4, h5⟩
      simp only at h4 h5 ⊢
      exact Tot.yes (by omega) (Tot.ret _ ⟨by simp; omega, by simp; omega, by simp; omega⟩)
    | succ d ih =>
      intro x q h1 h2 h3
      refine Tot.step (fun k => by rw [spec_l20Set.l1]) (Tot.yes (by omega) ?_)
      refine Tot.bind (task_tot s q 0 hs (by omega) (by omega)) ?_
      rintro ⟨a, b, c, q2⟩ ⟨_, h4, h5⟩
      simp only at h4 h5 ⊢
      exact Tot.yes (by omega) (ih _ _ (by simp; omega) (by omega) (by omega))
  have first : ∀ (d : Nat) (x6 : Int) (x : List Task) (q : Int), x6 = d → x.length + d ≤ 5 → p ≤ q → q ≤ p + 1 + 9 * (5 - d) → Tot (fun k => spec_l20Set.l0 k n x x6 s q) (Short p) := by
    intro d
    induction d with
    | zero =>
      intro x6 x q h1 h2 h3 h4
      refine Tot.step (fun k => by rw [spec_l20Set.l0]) (Tot.no (by omega) ?_)
      refine Tot.bind (odd_tot s q n hs (by omega) (by omega)) ?_
      rintro ⟨a, q2⟩ ⟨h5, h6⟩
      simp only at h5 h6 ⊢
      refine Tot.ite (fun _ => ?_) (fun _ => Tot.ret _ ⟨by simp; omega, by simp; omega, by simp; omega⟩)
      refine Tot.bind (pick_tot s q2 3 hs (by omega) (by omega)) ?_
      rintro ⟨b, q3⟩ ⟨h7, h8, h9⟩
      simp only at h7 h8 h9 ⊢; subst h7
      refine Tot.ite (fun _ => more (6 - x.length) x _ (by omega) (by omega) (by omega)) (fun _ => ?_)
      refine Tot.bind (task_tot s (q2 + 1) 2 hs (by omega) (by omega)) ?_
      rintro ⟨a, b, c, q4⟩ ⟨_, h10, h11⟩
      simp only at h10 h11 ⊢
      exact Tot.yes (by omega) (Tot.ret _ ⟨by simp; omega, by simp; omega, by simp; omega⟩)
    | succ d ih =>
      intro x6 x q h1 h2 h3 h4
      refine Tot.step (fun k => by rw [spec_l20Set.l0]) (Tot.yes (by omega) ?_)
      refine Tot.bind (task_tot s q 0 hs (by omega) (by omega)) ?_
      rintro ⟨a, b, c, q2⟩ ⟨_, h4, h5⟩
      simp only at h4 h5 ⊢
      rw [w64 (x := x6 - 1) (by omega) (by omega)]
      exact Tot.yes (by omega) (ih _ _ _ (by omega) (by simp; omega) (by omega) (by omega))
  unfold spec_l20Set.f
  refine Tot.bind (pick_tot s p 6 hs hp (by omega)) ?_
  rintro ⟨a, q2⟩ ⟨h5, h6, h7⟩
  simp only at h5 h6 h7 ⊢; subst h5
  have h7 := h7 (by omega)
  exact first a.toNat a [] _ (by omega) (by simp; omega) (by omega) (by omega)
end Go.Proofs.Ytkdfjomhichkoaa.DrSet
/- The draw of jobs ends, and there are at most 61. Conditions: as the reader's; the set is valid. -/
namespace Go.Proofs.Ytkdfjomhichkoaa.DrJobs
open Go.RowKit Go.Proofs.Ytkdfjomhichkoaa.P Go.Proofs.Ytkdfjomhichkoaa.Base Go.Proofs.Ytkdfjomhichkoaa.Gen Go.Proofs.Ytkdfjomhichkoaa.Pb Go.Proofs.Ytkdfjomhichkoaa.Set Go.Proofs.Ytkdfjomhichkoaa.Jobs Go.Proofs.YtkdfjomhichkoaaW.PrintWords Go.Proofs.YtkdfjomhichkoaaW.PrintLast
theorem jobs_tot (s : List Int) (l : List Task) (p n : Int) (hs : Bytes s) (hl : l.length ≤ 5) (hp : 0 ≤ p) (hp2 : p ≤ 100000) : Tot (fun k => spec_l20Jobs.f k s p l n) (fun r => r.1.length ≤ 61) := by
  have fill : ∀ (d : Nat) (x : List Job) (q : Int), x.length + d = 61 → Tot (fun k => spec_l20Jobs.l2 k x s q) (fun r => r.1.length ≤ 61) := by
    intro d
    induction d with
    | zero => intro x q hx; exact Tot.step (fun k => by rw [spec_l20Jobs.l2]) (Tot.no (by omega) (Tot.ret _ (by simp only; omega)))
    | succ d ih =>
      intro x q hx
      exact Tot.step (fun k => by rw [spec_l20Jobs.l2]) (Tot.yes (by omega) (Tot.yes (by omega) (ih _ q (by rw [List.length_append, List.length_singleton]; omega))))
  have last : ∀ (x : List Job) (b : Bool) (q : Int), x.length ≤ 60 → (b = true → 0 < x.length) → 0 ≤ q → q ≤ 900000 → Tot (fun k => spec_l20Jobs.j3 k l x b s q) (fun r => r.1.length ≤ 61) := by
    intro x b q hx hb hq0 hq1
    refine Tot.step (fun k => by rw [spec_l20Jobs.j3]) (Tot.ite (fun hbt => ?_) (fun _ => Tot.ret _ (by simp only; omega)))
    have hpos := hb hbt
    refine Tot.bind (pick_tot s q (x.length : Int) hs hq0 (by omega)) ?_
    rintro ⟨a, q2⟩ ⟨h1, h2, h3⟩
    simp only at h1 h2 h3 ⊢; subst h1
    have h3 := h3 (by omega)
    refine Tot.bind (pick_tot s (q + 1) 6 hs (by omega) (by omega)) ?_
    rintro ⟨c, q3⟩ ⟨h4, h5, h6⟩
    simp only at h4 h5 h6 ⊢; subst h4
    refine Tot.ite (fun _ => ?_) (fun _ => Tot.ite (fun _ => ?_) (fun _ => Tot.ite (fun _ => ?_) (fun _ => Tot.ite (fun _ => ?_) (fun _ => Tot.ite (fun _ => ?_) (fun _ => ?_)))))
    · refine some_bind _ (Tot.bind (pick_tot s (q + 1 + 1) 2 hs (by omega) (by omega)) ?_)
      rintro ⟨d, q4⟩ ⟨h7, h8, h9⟩
      simp only at h7 h8 h9 ⊢; subst h7
      have h9 := h9 (by omega)
      exact Tot.yes h8 (Tot.yes (by simp; omega) (Tot.yes h2 (Tot.yes h3 (Tot.ret _ (by simp only [List.length_set]; omega)))))
    · refine Tot.yes h2 (Tot.yes h3 (some_bind _ (Tot.bind (pick_tot s (q + 1 + 1) 3 hs (by omega) (by omega)) ?_)))
      rintro ⟨d, q4⟩ ⟨h7, h8, h9⟩
      simp only at h7 h8 h9 ⊢; subst h7
      have h9 := h9 (by omega)
      exact Tot.yes h8 (Tot.yes (by simp; omega) (Tot.ret _ (by simp only [List.length_set]; omega)))
    · exact Tot.yes h2 (Tot.yes h3 (Tot.ret _ (by simp only [List.length_set]; omega)))
    · refine some_bind _ (Tot.bind (pick_tot s (q + 1 + 1) 2 hs (by omega) (by omega)) ?_)
      rintro ⟨d, q4⟩ ⟨h7, h8, h9⟩
      simp only at h7 h8 h9 ⊢; subst h7
      have h9 := h9 (by omega)
      exact Tot.yes h8 (Tot.yes (by simp; omega) (Tot.yes h2 (Tot.yes h3 (Tot.ret _ (by simp only [List.length_set]; omega)))))
    · exact Tot.yes h2 (Tot.yes h3 (Tot.yes (by omega) (Tot.ret _ (by simp only [List.length_append, List.length_singleton]; omega))))
    · exact fill (61 - x.length) x _ (by omega)
  have inner : ∀ (t : Int) (u : Int), 0 ≤ u → u ≤ 3 → ∀ (R : Int → Prop),
      (∀ (x : List Job) (y : List Int) (q : Int), x.length ≤ 60 → y.length = l.length → R q → Tot (fun k => spec_l20Jobs.l0 k l n x y u (wrap64 (t + 1)) s q) (fun r => r.1.length ≤ 61)) →
      ∀ (d i : Nat) (x : List Job) (y : List Int) (q : Int), i + d = l.length → x.length ≤ 60 → y.length = l.length → 0 ≤ q → (∀ q', q ≤ q' → q' ≤ q + 3 * d → R q') → q + 3 * d ≤ 900000 → Tot (fun k => spec_l20Jobs.l1 k l n x y u t (i : Int) s q) (fun r => r.1.length ≤ 61) := by
    intro t u hu0 hu1 R hR d
    induction d with
    | zero =>
      intro i x y q hi hx hy hq hRq _
      exact Tot.step (fun k => by rw [spec_l20Jobs.l1]) (Tot.no (by omega) (hR x y q hx hy (hRq q (by omega) (by omega))))
    | succ d ih =>
      intro i x y q hi hx hy hq hRq hqb
      have e1 : wrap64 ((i : Int) + 1) = ((i + 1 : Nat) : Int) := by rw [w64 (by omega) (by omega)]; omega
      have next : ∀ (x2 : List Job) (y2 : List Int) (q2 : Int), x2.length ≤ 60 → y2.length = l.length → q ≤ q2 → q2 ≤ q + 3 → Tot (fun k => spec_l20Jobs.l1 k l n x2 y2 u t (wrap64 ((i : Int) + 1)) s q2) (fun r => r.1.length ≤ 61) := by
        intro x2 y2 q2 hx2 hy2 h1 h2
        rw [e1]
        exact ih (i + 1) x2 y2 q2 (by omega) hx2 hy2 (by omega) (fun q' h3 h4 => hRq q' (by omega) (by omega)) (by omega)
      have j2 : ∀ (b : Bool) (q2 : Int), (b = false → x.length < 60) → q ≤ q2 → q2 ≤ q + 1 → Tot (fun k => spec_l20Jobs.j2 k l n x y u t (i : Int) b s q2) (fun r => r.1.length ≤ 61) := by
        intro b q2 hb h1 h2
        refine Tot.step (fun k => by rw [spec_l20Jobs.j2]) (Tot.ite (fun _ => next x y q2 hx hy h1 (by omega)) (fun hbf => ?_))
        have hlt := hb (by simpa using hbf)
        refine Tot.yes (by omega) (Tot.yes (by omega) ?_)
        refine Tot.bind (pick_tot s q2 3 hs (by omega) (by omega)) ?_
        rintro ⟨a, q3⟩ ⟨h3, h4, h5⟩
        simp only at h3 h4 h5 ⊢; subst h3
        refine Tot.ite (fun _ => ?_) (fun _ => ?_)
        · refine Tot.bind (pick_tot s (q2 + 1) _ hs (by omega) (by omega)) ?_
          rintro ⟨c, q4⟩ ⟨h6, h7, h8⟩
          simp only at h6 h7 h8 ⊢; subst h6
          exact Tot.yes (by omega) (Tot.yes (by omega) (next _ _ _ (by rw [List.length_append, List.length_singleton]; omega) (by rw [List.length_set]; exact hy) (by omega) (by omega)))
        · exact Tot.yes (by omega) (Tot.yes (by omega) (next _ _ _ (by rw [List.length_append, List.length_singleton]; omega) (by rw [List.length_set]; exact hy) (by omega) (by omega)))
      refine Tot.step (fun k => by rw [spec_l20Jobs.l1]) (Tot.yes (by omega) (Tot.yes (by omega) (Tot.yes (by omega) ?_)))
      refine Tot.ite (fun _ => j2 true q (by simp) (by omega) (by omega)) (fun _ => Tot.ite (fun _ => j2 true q (by simp) (by omega) (by omega)) (fun h60 => ?_))
      refine Tot.ite (fun _ => ?_) (fun _ => j2 false q (fun _ => by omega) (by omega) (by omega))
      refine Tot.bind (pick_tot s q _ hs hq (by omega)) ?_
      rintro ⟨a, q3⟩ ⟨h3, h4, h5⟩
      simp only at h3 h4 h5 ⊢; subst h3
      exact j2 _ _ (fun _ => by omega) (by omega) (by omega)
  have outer : ∀ (u : Int), 0 ≤ u → u ≤ 3 → ∀ (d i : Nat) (x : List Job) (y : List Int) (q : Int), i + d = 100 → x.length ≤ 60 → y.length = l.length → 0 ≤ q → q + 15 * d ≤ 800000 → Tot (fun k => spec_l20Jobs.l0 k l n x y u (i : Int) s q) (fun r => r.1.length ≤ 61) := by
    intro u hu0 hu1 d
    induction d with
    | zero =>
      intro i x y q hi hx hy hq hqb
      refine Tot.step (fun k => by rw [spec_l20Jobs.l0]) (Tot.no (by omega) ?_)
      refine Tot.bind (odd_tot s q n hs hq (by omega)) ?_
      rintro ⟨a, q2⟩ ⟨h1, h2⟩
      simp only at h1 h2 ⊢
      exact Tot.ite (fun _ => last x _ q2 hx (fun h => by have := of_decide_eq_true h; omega) (by omega) (by omega)) (fun _ => last x _ q2 hx (by simp) (by omega) (by omega))
    | succ d ih =>
      intro i x y q hi hx hy hq hqb
      refine Tot.step (fun k => by rw [spec_l20Jobs.l0]) (Tot.yes (by omega) ?_)
      refine inner (i : Int) u hu0 hu1 (fun q' => q ≤ q' ∧ q' ≤ q + 15) (fun x2 y2 q2 hx2 hy2 hq2 => ?_) l.length 0 x y q (by omega) hx hy hq (fun q' h1 h2 => ⟨h1, by omega⟩) (by omega)
      rw [show wrap64 ((i : Int) + 1) = ((i + 1 : Nat) : Int) by rw [w64 (by omega) (by omega)]; omega]
      exact ih (i + 1) x2 y2 q2 (by omega) hx2 hy2 (by omega) (by omega)
  unfold spec_l20Jobs.f
  refine Tot.yes (by omega) (Tot.yes (by rw [Int.toNat_natCast]; omega) ?_)
  refine Tot.bind (pick_tot s p 3 hs hp (by omega)) ?_
  rintro ⟨a, q2⟩ ⟨h1, h2, h3⟩
  simp only at h1 h2 h3 ⊢; subst h1
  have h3 := h3 (by omega)
  exact outer a h2 (by omega) 100 0 [] _ _ (by omega) (by simp) (by rw [List.length_replicate, Int.toNat_natCast]) (by omega) (by omega)
end Go.Proofs.Ytkdfjomhichkoaa.DrJobs
/- A row is the same as itself. Condition: it is not too long. -/
namespace Go.Proofs.Ytkdfjomhichkoaa.Same
open Go.RowKit Go.Proofs.Ytkdfjomhichkoaa.P Go.Proofs.Ytkdfjomhichkoaa.Base Go.Proofs.Ytkdfjomhichkoaa.Gen Go.Proofs.YtkdfjomhichkoaaW.PrintWords Go.Proofs.YtkdfjomhichkoaaW.PrintLast
theorem same_tot (l : List Int) (hl : l.length ≤ 1048576) : Tot (fun k => laws_sameInts.f k l l) (fun r => r = true) := by
  have h := Tot.look (r := true) (fun k i => laws_sameInts.l0 k l l i) l.length (fun k i h => by
    simp only [laws_sameInts.l0]
    rw [if_pos (by omega), if_pos (by omega), if_pos (by omega), if_pos (by first | trivial | rfl), w64 (by omega) (by omega)]) (fun k => by
    simp only [laws_sameInts.l0]
    rw [if_neg (by omega)])
  refine Tot.congr (fun k => ?_) h
  unfold laws_sameInts.f
  rw [if_pos rfl]
end Go.Proofs.Ytkdfjomhichkoaa.Same
/- The draw of a set and its jobs ends, and both are short. Condition: the code is bytes. -/
namespace Go.Proofs.Ytkdfjomhichkoaa.DrNp
open Go.RowKit Go.Proofs.Ytkdfjomhichkoaa.P Go.Proofs.Ytkdfjomhichkoaa.Base Go.Proofs.Ytkdfjomhichkoaa.Gen Go.Proofs.Ytkdfjomhichkoaa.Pb Go.Proofs.Ytkdfjomhichkoaa.Set Go.Proofs.Ytkdfjomhichkoaa.Tm Go.Proofs.Ytkdfjomhichkoaa.DrSet Go.Proofs.Ytkdfjomhichkoaa.Jobs Go.Proofs.Ytkdfjomhichkoaa.DrJobs Go.Proofs.Ytkdfjomhichkoaa.Same Go.Proofs.YtkdfjomhichkoaaW.PrintWords Go.Proofs.YtkdfjomhichkoaaW.PrintLast
theorem implicit_tot (s : List Int) (n : Int) (hs : Bytes s) : Tot (fun k => spec_l20Implicit.f k s 0 n) (fun r => r.1.length ≤ 20 ∧ 0 ≤ r.2 ∧ r.2 ≤ 400) := by
  unfold spec_l20Implicit.f
  refine Tot.bind (set_tot s 0 n hs (by omega) (by omega)) ?_
  rintro ⟨x, q⟩ ⟨h1, h2, h3⟩
  simp only at h1 h2 h3 ⊢
  refine Tot.bind (odd_tot s q n hs (by omega) (by omega)) ?_
  rintro ⟨a, q2⟩ ⟨h4, h5⟩
  simp only at h4 h5 ⊢
  refine Tot.ite (fun _ => Tot.ret _ ⟨h1, by simp only; omega, by simp only; omega⟩) (fun _ => ?_)
  have loop : ∀ (d i : Nat) (y : List Set.Task), i + d = y.length → y.length ≤ 20 → Tot (fun k => spec_l20Implicit.l0 k y (i : Int) s q2) (fun r => r.1.length ≤ 20 ∧ 0 ≤ r.2 ∧ r.2 ≤ 400) := by
    intro d
    induction d with
    | zero =>
      intro i y hi hy
      exact Tot.step (fun k => by rw [spec_l20Implicit.l0]) (Tot.no (by omega) (Tot.ret _ ⟨hy, by simp only; omega, by simp only; omega⟩))
    | succ d ih =>
      intro i y hi hy
      refine Tot.step (fun k => by rw [spec_l20Implicit.l0]) (Tot.yes (by omega) (Tot.yes (by omega) ?_))
      rw [w64 (by omega) (by omega)]
      exact ih (i + 1) _ (by rw [List.length_set]; omega) (by rw [List.length_set]; exact hy)
  exact loop x.length 0 x (by omega) h1
theorem draw_np (l0 : List Int) (hl : ∀ x ∈ l0, (Lit.int .u8 x).wf = true) : Tot (fun k => spec_DrawRunNonPreemptive.f k l0) (fun r => r.1.length ≤ 20 ∧ r.2.length ≤ 61) := by
  unfold spec_DrawRunNonPreemptive.f
  refine open_tot l0 hl (fun s hs => ?_)
  refine Tot.bind (implicit_tot s 20 hs) ?_
  rintro ⟨l, q⟩ ⟨h1, h2, h3⟩
  simp only at h1 h2 h3 ⊢
  refine Tot.bind (Tot.val (sset_ev l (by omega))) ?_
  rintro _ rfl
  by_cases hs2 : SetOk l
  · refine Tot.yes (decide_eq_true hs2) (Tot.bind (jobs_tot s l q 16 hs hs2.1 h2 (by omega)) ?_)
    rintro ⟨js, q2⟩ h4
    exact Tot.ret _ ⟨h1, h4⟩
  · exact Tot.no (by simp [hs2]) (Tot.ret _ ⟨h1, by simp⟩)
theorem sched_tot (a b : List Int) (ha : a.length ≤ 1048576) (hb : b.length ≤ 1048576) : Tot (fun k => laws_sameSchedule.f k a b a b) (fun r => r = true) := by
  unfold laws_sameSchedule.f
  refine Tot.bind (same_tot a ha) ?_
  rintro _ rfl
  refine Tot.yes rfl (Tot.bind (same_tot b hb) ?_)
  rintro _ rfl
  exact Tot.ret _ rfl
end Go.Proofs.Ytkdfjomhichkoaa.DrNp
/- A job that has started is not interrupted. No condition. -/
namespace Go.Proofs.Ytkdfjomhichkoaa.Pure
open Go.RowKit Go.Proofs.Ytkdfjomhichkoaa.P Go.Proofs.Ytkdfjomhichkoaa.Base Go.Proofs.Ytkdfjomhichkoaa.Gen Go.Proofs.YtkdfjomhichkoaaW.PrintWords Go.Proofs.YtkdfjomhichkoaaW.PrintLast
open Go.Proofs.Ytkdfjomhichkoaa.Pb Go.Proofs.Ytkdfjomhichkoaa.Alive Go.Proofs.Ytkdfjomhichkoaa.Set Go.Proofs.Ytkdfjomhichkoaa.Edf Go.Proofs.Ytkdfjomhichkoaa.Sim Go.Proofs.Ytkdfjomhichkoaa.Jobs Go.Proofs.Ytkdfjomhichkoaa.Leg Go.Proofs.Ytkdfjomhichkoaa.Nps Go.Proofs.Ytkdfjomhichkoaa.Npr Go.Proofs.Ytkdfjomhichkoaa.DrNp 
theorem np_once {js : List Job} {l : List Set.Task} (h : JL l js) : ∀ t i, i < (exs js).length → runL (npp js) (exs js) t = (i : Int) → 0 < rd (stL (npp js) (exs js) (t + 1)) (i : Int) → runL (npp js) (exs js) (t + 1) = (i : Int) := by
  have cur : ∀ t, ∃ c, Cur js c t := by
    intro t
    induction t with
    | zero =>
      refine ⟨-1, Or.inl ⟨rfl, fun i hi _ => ?_⟩⟩
      rw [show stL (npp js) (exs js) 0 = exs js from rfl, exs_rd js i hi]
      exact Int.le_refl _
    | succ t ih =>
      obtain ⟨c, hc⟩ := ih
      exact ⟨_, cur_next h hc⟩
  intro t i hi hr hl
  obtain ⟨c, hc⟩ := cur t
  have hn := cur_next h hc
  rw [hr, if_pos ⟨by omega, by omega⟩] at hn
  exact (cur_pick hn).2 (by omega)
theorem np_idle (js : List Job) {t : Nat} (h : runL (npp js) (exs js) t = -1) : ∀ i, i < (exs js).length → rel js i ≤ (t : Int) → rd (stL (npp js) (exs js) t) (i : Int) ≤ 0 := by
  have e : runL (npp js) (exs js) t = if 0 ≤ startp js (stL (npp js) (exs js) t) t then startp js (stL (npp js) (exs js) t) t else edfp js (stL (npp js) (exs js) t) t := rfl
  rw [e] at h
  intro i hi hr
  rw [exs_len] at hi
  split at h
  · omega
  · rcases edfp_sp js (stL (npp js) (exs js) t) t with ⟨_, h2⟩ | ⟨b, hb, h2, _⟩
    · exact h2 i hi hr
    · omega
theorem edf_idle (js : List Job) {t : Nat} (h : runL (edfp js) (exs js) t = -1) : ∀ i, i < (exs js).length → rel js i ≤ (t : Int) → rd (stL (edfp js) (exs js) t) (i : Int) ≤ 0 := by
  have e : runL (edfp js) (exs js) t = edfp js (stL (edfp js) (exs js) t) t := rfl
  rw [e] at h
  intro i hi hr
  rw [exs_len] at hi
  rcases edfp_sp js (stL (edfp js) (exs js) t) t with ⟨_, h2⟩ | ⟨b, hb, h2, _⟩
  · exact h2 i hi hr
  · omega
theorem FnRunNonPreemptive : laws_FnRunNonPreemptive.Pure := by
  intro l0 _ hl
  apply Tot.rounds
  unfold laws_FnRunNonPreemptive.f
  refine Tot.ite (fun _ => Tot.ret _ rfl) (fun _ => ?_)
  refine Tot.bind (draw_np l0 hl.2) ?_
  rintro ⟨l, js⟩ ⟨h1, h2⟩
  simp only at h1 h2 ⊢
  refine Tot.bind0 (impl_rn l js (by omega) (by omega)) ?_
  refine Tot.bind (Tot.val (spec_rn l js (by omega) (by omega))) ?_
  rintro _ rfl
  by_cases h : JL l js
  · have hr : RN l js = sch js (npp js) := if_pos h
    have hsl := sch_len js (npp js)
    have hsl2 := sch_len js (edfp js)
    have h60 := h.2.1
    have hel := exs_len js
    have hS := sch_of (npp_picks js) h.pos
    have hE := sch_of (edfp_picks js) h.pos
    rw [hr]
    refine Tot.bind (sched_tot _ _ (by omega) (by omega)) ?_
    rintro _ rfl
    refine Tot.yes rfl (Tot.yes (by omega) ?_)
    have idle := same_idle hS hE (fun t ht i hi hr => by
      have h3 := np_idle js ht i hi hr
      have h4 := hS.nonneg t i hi
      omega) (fun t ht i hi hr => by
      have h3 := edf_idle js ht i hi hr
      have h4 := hE.nonneg t i hi
      omega)
    have rng : ∀ {pick : List Int → Nat → Int} (hP : Sch (exs js).length (rel js) (fun i => rd (exs js) (i : Int)) (fun t i => rd (stL pick (exs js) t) (i : Int)) (runL pick (exs js))) (t : Nat), runL pick (exs js) t < 0 ↔ runL pick (exs js) t = -1 := by
      intro pick hP t
      rcases hP.rng t with h3 | ⟨i, _, h3, _⟩
      · omega
      · omega
    have ticks : ∀ d t : Nat, t + d = 120 → Tot (fun k => laws_FnRunNonPreemptive.l2 k (t : Int) (sch js (npp js)).1 (sch js (npp js)).2 (sch js (edfp js)).1 (sch js (edfp js)).2) (fun r => r = true) := by
      intro d
      induction d with
      | zero => intro t ht; exact Tot.step (fun k => by rw [laws_FnRunNonPreemptive.l2]) (Tot.no (by omega) (Tot.ret _ rfl))
      | succ d ih =>
        intro t ht
        refine Tot.step (fun k => by rw [laws_FnRunNonPreemptive.l2]) (Tot.yes (by omega) (Tot.yes (by omega) (Tot.yes (by omega) (Tot.yes (by omega) ?_))))
        rw [rd_sch js _ t (by omega), rd_sch js _ t (by omega), w64 (by omega) (by omega)]
        refine Tot.no ?_ (ih (t + 1) (by omega))
        have e : (runL (npp js) (exs js) t < 0) ↔ (runL (edfp js) (exs js) t < 0) := by rw [rng hS t, rng hE t]; exact (idle t).2
        have e2 : decide (runL (npp js) (exs js) t < 0) = decide (runL (edfp js) (exs js) t < 0) := decide_eq_decide.2 e
        rw [e2]
        simp
    have jobs : ∀ d i : Nat, i + d = js.length → Tot (fun k => laws_FnRunNonPreemptive.l0 k l js (i : Int) (sch js (npp js)).1 (sch js (npp js)).2) (fun r => r = true) := by
      intro d
      induction d with
      | zero =>
        intro i hi
        refine Tot.step (fun k => by rw [laws_FnRunNonPreemptive.l0]) (Tot.no (by omega) ?_)
        refine Tot.bind0 (impl_re l js (by omega) (by omega)) ?_
        have e2 : RE l js = sch js (edfp js) := if_pos h
        rw [e2]
        exact ticks 120 0 (by omega)
      | succ d ih =>
        intro i hi
        have hil : i < js.length := by omega
        refine Tot.step (fun k => by rw [laws_FnRunNonPreemptive.l0]) (Tot.yes (by omega) ?_)
        have hfin := fin_sp (npp_picks js) h.pos i (by omega) 120
        have hx := exs_bd h i hil
        have hf : rd (sch js (npp js)).2 (i : Int) = rd (finL (npp js) (exs js) 120) (i : Int) := rfl
        have steps : ∀ e c : Nat, c + e = (rj js i).f3.toNat + 1 → 1 ≤ c → Tot (fun k => laws_FnRunNonPreemptive.l1 k l js (i : Int) (c : Int) (sch js (npp js)).1 (sch js (npp js)).2) (fun r => r = true) := by
          have hx3 := hx
          rw [exs_rd js i hil] at hx3
          intro e
          induction e with
          | zero =>
            intro c hc hc1
            refine Tot.step (fun k => by rw [laws_FnRunNonPreemptive.l1]) (Tot.yes (by omega) (Tot.yes (by omega) ?_))
            have out : Tot (fun k => laws_FnRunNonPreemptive.j2 k l js (i : Int) (c : Int) false (sch js (npp js)).1 (sch js (npp js)).2) (fun r => r = true) := by
              refine Tot.step (fun k => by rw [laws_FnRunNonPreemptive.j2]) (Tot.no (by simp) ?_)
              rw [show wrap64 ((i : Int) + 1) = ((i + 1 : Nat) : Int) by rw [w64 (by omega) (by omega)]; omega]
              exact ih (i + 1) (by omega)
            refine Tot.ite (fun _ => Tot.yes (by omega) ?_) (fun _ => out)
            rw [rjT, decide_eq_false (by omega)]
            exact out
          | succ e ihe =>
            intro c hc hc1
            refine Tot.step (fun k => by rw [laws_FnRunNonPreemptive.l1]) (Tot.yes (by omega) (Tot.yes (by omega) ?_))
            refine Tot.ite (fun hge => Tot.yes (by omega) ?_) (fun _ => ?_)
            · rw [rjT, decide_eq_true (by omega)]
              refine Tot.step (fun k => by rw [laws_FnRunNonPreemptive.j2]) (Tot.yes rfl (Tot.yes (by omega) (Tot.yes (by omega) ?_)))
              rw [hf] at hge ⊢
              rcases hfin with ⟨_, h3⟩ | ⟨_, f, h4, h5, h6, h7, h8⟩
              · omega
              · obtain ⟨s, hs1, hs2, hs3⟩ := starts hS (np_once h) i (by omega) (f - 1) h8
                have dec : ∀ u : Nat, s + u ≤ f → rd (stL (npp js) (exs js) (s + u)) (i : Int) = rd (exs js) (i : Int) - u := by
                  intro u
                  induction u with
                  | zero => intro _; rw [Nat.add_zero]; have := hs2; omega
                  | succ u ihu =>
                    intro hu
                    have h9 := ihu (by omega)
                    have h10 := hS.step (s + u) i (by omega)
                    rw [if_pos (hs3 (s + u) (by omega) (by omega))] at h10
                    rw [show s + (u + 1) = s + u + 1 by omega, h10, h9]; omega
                have h11 := dec (f - s) (by omega)
                rw [show s + (f - s) = f by omega, h7, exs_rd js i hil] at h11
                have hw : wrap64 ((f : Int) - (c : Int)) = ((f - c : Nat) : Int) := by rw [w64 (by omega) (by omega)]; omega
                rw [h6, hw]
                refine Tot.yes (by omega) (Tot.yes (by omega) ?_)
                rw [rd_sch js _ (f - c) (by omega)]
                refine Tot.yes (hs3 (f - c) (by omega) (by omega)) ?_
                rw [show wrap64 ((c : Int) + 1) = ((c + 1 : Nat) : Int) by rw [w64 (by omega) (by omega)]; omega]
                exact ihe (c + 1) (by omega) (by omega)
            · refine Tot.step (fun k => by rw [laws_FnRunNonPreemptive.j2]) (Tot.no (by simp) ?_)
              rw [show wrap64 ((i : Int) + 1) = ((i + 1 : Nat) : Int) by rw [w64 (by omega) (by omega)]; omega]
              exact ih (i + 1) (by omega)
        exact steps (rj js i).f3.toNat 1 (by omega) (by omega)
    exact jobs js.length 0 (by omega)
  · have hr : RN l js = ([], []) := if_neg h
    rw [hr]
    refine Tot.bind (sched_tot [] [] (by simp) (by simp)) ?_
    rintro _ rfl
    exact Tot.yes rfl (Tot.no (by simp) (Tot.yes (by simp [wrap64]) (Tot.bind0 alive_f (Tot.ret _ rfl))))
end Go.Proofs.Ytkdfjomhichkoaa.Pure
/- Arguments of a law laid open: whatever reads as data of a type reads as a value of its kind.
   No condition. -/
namespace Go.Proofs.Ytkdfjomhichkoaa.Opn
open Go.ChangeShapes Go.WideShapes Go.Deep Go.RowKit Go.Proofs.YtkdfjomhichkoaaW.PrintWords
section
variable {H : Type} {enc : TypeId × Value → H} {P : Program} {W : World} {base : Nat} {spare : Nat → Bool} {held : Bool}

/-- Whatever reads as data of type t reads as a value of the kind d that is good. -/
def Opens {α : Type} (enc : TypeId × Value → H) (P : Program) (W : World) (base : Nat) (spare : Nat → Bool) (held : Bool) (t : TypeId) (d : Kd α) (G : α → Prop) : Prop :=
  ∀ (fuel : Nat) (cs : List Value) (x : DataW H × List MemPlace), DataW.trod enc P W base spare held fuel t cs = some x → ∃ a, d.K W a cs ∧ G a

theorem opens_int {t : TypeId} {k : IntKind} (hu : P.underlying t = some (.int k)) : Opens enc P W base spare held t (Kd.int k) (fun x => (Lit.int k x).wf = true) := by
  intro fuel cs x h
  obtain ⟨n, hc, _, hw⟩ := DataW.trod_int hu h
  exact ⟨n, hc, hw⟩
theorem list_of {α : Type} (m : Nat) (R : Nat → α → Prop) (h : ∀ i, i < m → ∃ a, R i a) : ∃ xs : List α, xs.length = m ∧ ∀ i a, xs[i]? = some a → R i a := by
  induction m with
  | zero => exact ⟨[], rfl, fun i a ha => by simp at ha⟩
  | succ m ih =>
    obtain ⟨xs, hl, hx⟩ := ih (fun i hi => h i (by omega))
    obtain ⟨a, ha⟩ := h m (by omega)
    refine ⟨xs ++ [a], by simp [hl], fun i b hb => ?_⟩
    rcases Nat.lt_or_ge i m with hi | hi
    · rw [List.getElem?_append_left (by omega)] at hb
      exact hx i b hb
    · have hi' : i = m := by
        have := (List.getElem?_eq_some_iff.1 hb).1
        simp at this
        omega
      subst hi'
      have : a = b := by simpa [hl] using hb
      subst this
      exact ha

/-- A slice of what opens. -/
theorem slice_row {α : Type} {t e : TypeId} {d : Kd α} {G : α → Prop} (hu : P.underlying t = some (.slice e)) (hC : P.cellsOf e = d.sz) (he : Opens enc P W base spare held e d G)
    {fuel : Nat} {A : Option Addr} {n cap : Nat} {x : DataW H × List MemPlace} (h : DataW.trod enc P W base spare held fuel t [.slice A n cap] = some x) :
    ∃ xs : List α, xs.length = n ∧ n ≤ cap ∧ n ≤ maxLen ∧ d.C W A xs.length xs ∧ ∀ y ∈ xs, G y := by
  rcases open_slice hu h with ⟨h0, _⟩ | ⟨a, len, c, m, k, D, Pl, hcs, _, hl, hm, hmm, _, hel⟩
  · simp only [List.cons.injEq, Value.slice.injEq, and_true] at h0
    obtain ⟨rfl, rfl, rfl⟩ := h0
    exact ⟨[], rfl, Nat.le_refl _, by simp [maxLen], Kd.C_nil d W, fun y hy => by simp at hy⟩
  · simp only [List.cons.injEq, Value.slice.injEq, and_true] at hcs
    obtain ⟨rfl, rfl, rfl⟩ := hcs
    have hle : n ≤ m := by rw [hmm]; split <;> omega
    obtain ⟨xs, hxl, hx⟩ := list_of (α := α) n (fun i y => G y ∧ ∃ cs', d.K W y cs' ∧ cs'.length = d.sz ∧ ∀ j, j < d.sz → W.cell? ((a.add (i * d.sz)).add j) = cs'[j]?) (by
      intro i hi
      obtain ⟨cs', hc, ht⟩ := hel i (by omega)
      obtain ⟨y, hK, hG⟩ := he _ _ _ ht
      rw [hC] at hc
      obtain ⟨_, hcl, hcc⟩ := World.cells?_some hc
      exact ⟨y, hG, cs', hK, hcl, hcc⟩)
    refine ⟨xs, hxl, hl, by omega, ⟨rfl, by simp only [maxLen] at hm; omega, fun hp => ⟨a, rfl, fun j p hj => ?_⟩⟩, fun y hy => ?_⟩
    · obtain ⟨_, cs', hK, hcl, hcc⟩ := hx j p hj
      refine ⟨cs', hcl, hK, fun i u hi => ?_⟩
      have hlt : i < d.sz := by
        have := (List.getElem?_eq_some_iff.1 hi).1
        omega
      rw [← Go.Deep.add_add, hcc i hlt, hi]
    · obtain ⟨i, hi, rfl⟩ := List.getElem_of_mem hy
      exact (hx i _ (List.getElem?_eq_getElem hi)).1
/-- The weight of a slice bounds its length. -/
theorem sized_row {t e : TypeId} {A : Option Addr} {n cap : Nat} {d : DataW H} {ps : List MemPlace} {ts : List TypeId} {ds : List (DataW H)} {j : Nat}
    (hsz : (DataW.weightsEach P ts ds).all (· ≤ reachBytes) = true) (ht : ts[j]? = some t) (hd : ds[j]? = some d) (hu : P.underlying t = some (.slice e)) {B : Nat} (hB : P.bytesOf e = B)
    (h : DataW.Trod enc P W base spare held t (.slice A n cap) d ps) : n * B ≤ 140737488351232 := by
  obtain ⟨fuel, hf⟩ := h
  have hf' : DataW.trod enc P W base spare held fuel t [.slice A n cap] = some (d, ps) := hf
  rcases open_slice hu hf' with ⟨h0, _⟩ | ⟨a, len, c, m, k, D, Pl, hcs, _, hl, hm, hmm, hx, hel⟩
  · simp only [List.cons.injEq, Value.slice.injEq, and_true] at h0
    obtain ⟨rfl, rfl, rfl⟩ := h0
    simp
  · simp only [List.cons.injEq, Value.slice.injEq, and_true] at hcs
    obtain ⟨rfl, rfl, rfl⟩ := hcs
    obtain ⟨hx, _⟩ := Prod.mk.inj hx
    subst hx
    have z := sized_slice hsz ht hd hu
    rw [hB] at z
    simp only [List.length_map, List.length_range] at z
    exact Nat.le_trans (Nat.mul_le_mul_right _ (by omega)) z
end
end Go.Proofs.Ytkdfjomhichkoaa.Opn
/- The head of the translation: a cut, with nothing lifted. No condition. -/
namespace Go.Proofs.Ytkdfjomhichkoaa.Head
open Go
def chars (l : List Nat) : List Char := l.map Char.ofNat
def w1 : List Nat := [104, 97, 114, 110, 101, 115, 115]
def w2 : List Nat := [53, 56, 52, 57, 99, 51, 101, 100, 56, 100, 101, 101, 57, 99, 49, 55, 56, 100, 101, 48, 49, 51, 53, 50, 57, 99, 57, 53, 100, 99, 51, 50, 57, 51, 57, 100, 102, 102, 53, 53, 98, 102, 54, 98, 52, 51, 55, 99, 55, 48, 49, 56, 49, 48, 57, 48, 56, 53, 56, 102, 99, 54, 52, 48]
def w3 : List Nat := [99, 117, 116]
def w4 : List Nat := [97, 116, 32, 108, 111, 111, 112, 46, 101, 120, 97, 109, 112, 108, 101, 47, 100, 101, 97, 100, 108, 105, 110, 101, 115, 99, 104, 101, 100, 117, 108, 101, 114, 47, 108, 97, 119, 115, 46, 70, 110, 82, 117, 110, 78, 111, 110, 80, 114, 101, 101, 109, 112, 116, 105, 118, 101, 32, 108, 111, 111, 112, 46, 101, 120, 97, 109, 112, 108, 101, 47, 100, 101, 97, 100, 108, 105, 110, 101, 115, 99, 104, 101, 100, 117, 108, 101, 114, 47, 108, 97, 119, 115, 46, 70, 110, 85, 110, 105, 116, 67, 111, 115, 116, 115, 32, 108, 111, 111, 112, 46, 101, 120, 97, 109, 112, 108, 101, 47, 100, 101, 97, 100, 108, 105, 110, 101, 115, 99, 104, 101, 100, 117, 108, 101, 114, 47, 108, 97, 119, 115, 46, 70, 110, 69, 120, 97, 99, 116, 82, 117, 110, 78, 111, 110, 80, 114, 101, 101, 109, 112, 116, 105, 118, 101, 32, 108, 111, 111, 112, 46, 101, 120, 97, 109, 112, 108, 101, 47, 100, 101, 97, 100, 108, 105, 110, 101, 115, 99, 104, 101, 100, 117, 108, 101, 114, 47, 108, 97, 119, 115, 46, 70, 110, 78, 111, 110, 80, 114, 101, 101, 109, 112, 116, 105, 118, 101, 83, 97, 102, 101, 32, 108, 111, 111, 112, 46, 101, 120, 97, 109, 112, 108, 101, 47, 100, 101, 97, 100, 108, 105, 110, 101, 115, 99, 104, 101, 100, 117, 108, 101, 114, 47, 108, 97, 119, 115, 46, 70, 110, 82, 117, 110, 83, 117, 112, 112, 108, 121, 32, 108, 111, 111, 112, 46, 101, 120, 97, 109, 112, 108, 101, 47, 100, 101, 97, 100, 108, 105, 110, 101, 115, 99, 104, 101, 100, 117, 108, 101, 114, 47, 108, 97, 119, 115, 46, 70, 110, 69, 120, 97, 99, 116, 82, 117, 110, 83, 117, 112, 112, 108, 121, 32, 108, 111, 111, 112, 46, 101, 120, 97, 109, 112, 108, 101, 47, 100, 101, 97, 100, 108, 105, 110, 101, 115, 99, 104, 101, 100, 117, 108, 101, 114, 47, 108, 97, 119, 115, 46, 70, 110, 83, 117, 112, 112, 108, 121, 83, 97, 102, 101, 32, 108, 111, 111, 112, 46, 101, 120, 97, 109, 112, 108, 101, 47, 100, 101, 97, 100, 108, 105, 110, 101, 115, 99, 104, 101, 100, 117, 108, 101, 114, 47, 108, 97, 119, 115, 46, 70, 110, 69, 120, 97, 99, 116, 83, 116, 101, 97, 108, 83, 108, 97, 99, 107]
theorem io_eq : Try.prog.initOrder = String.ofList (chars (w1 ++ 32 :: (w2 ++ 32 :: (w3 ++ 32 :: w4)))) := by kernel_rfl
theorem io_list : Try.prog.initOrder.toList = chars (w1 ++ 32 :: (w2 ++ 32 :: (w3 ++ 32 :: w4))) := by rw [io_eq, String.toList_ofList]
theorem ws_one (c : Char) (r w : List Char) (ws : List (List Char)) (hc : c ≠ Char.ofNat 32) (h : wordsSigns r = w :: ws) : wordsSigns (c :: r) = (c :: w) :: ws := by
  have e : wordsSigns (c :: r) = match wordsSigns r with
    | w :: ws => (c :: w) :: ws
    | [] => [[c]] := by
    rw [wordsSigns]
    · rfl
    · exact hc
  rw [e, h]
theorem ws_word (w : List Char) (h : ∀ c ∈ w, c ≠ Char.ofNat 32) (r : List Char) : wordsSigns (w ++ Char.ofNat 32 :: r) = w :: wordsSigns r := by
  induction w with
  | nil => rfl
  | cons c w ih => exact ws_one _ _ _ _ (h c (by simp)) (ih (fun x hx => h x (by simp [hx])))
theorem ws_nat (w r : List Nat) (h : w.all (fun n => !(Char.ofNat n == Char.ofNat 32)) = true) : wordsSigns (chars (w ++ 32 :: r)) = chars w :: wordsSigns (chars r) := by
  have e : chars (w ++ 32 :: r) = chars w ++ Char.ofNat 32 :: chars r := by simp [chars]
  rw [e]
  refine ws_word _ (fun c hc => ?_) _
  obtain ⟨n, hn, rfl⟩ := List.mem_map.1 hc
  have := List.all_eq_true.1 h n hn
  simpa using this
theorem io_words : behindMainWord (wordsSigns Try.prog.initOrder.toList) = chars w3 :: wordsSigns (chars w4) := by
  rw [io_list, ws_nat _ _ (by kernel_rfl), ws_nat _ _ (by kernel_rfl), ws_nat _ _ (by kernel_rfl)]
  generalize wordsSigns (chars w4) = R
  kernel_rfl
theorem make_gen (P : Program) (c : List Char) (R : List (List Char)) (h : behindMainWord (wordsSigns P.initOrder.toList) = c :: R) (h1 : (c == "gc".toList || c == "spec".toList) = false) (h2 : (c == "cut".toList) = true) : P.make = some .cut := by
  unfold Program.make
  rw [h]
  simp only [h1, h2, Bool.true_or, if_true, Bool.false_eq_true, if_false]
theorem make : Try.prog.make = some .cut := make_gen _ _ _ io_words (by kernel_rfl) (by kernel_rfl)
theorem enter_gen (P : Program) (c : List Char) (R : List (List Char)) (h : behindMainWord (wordsSigns P.initOrder.toList) = c :: R) (h1 : ∀ R, stripLifts liftWords (c :: R) = ([], c :: R)) (h2 : (some c == some "cut".toList) = true)
    (h3 : P.laysLater = false) (h4 : P.bearsReflect = false) (h5 : P.doorFits [] = true) : P.mayEnter = true := by
  unfold Program.mayEnter
  rw [h]
  simp only [h1, h2, h3, h4, h5, List.head?_cons, Bool.not_false, Bool.or_true, Bool.and_true, List.contains_nil]
theorem enter : Try.prog.mayEnter = true := enter_gen _ _ _ io_words (fun R => by kernel_rfl) (by kernel_rfl) (by kernel_rfl) (by kernel_rfl) (by kernel_rfl)
theorem lifts : Try.prog.liftsFinal = false := by
  unfold Program.liftsFinal Program.headLifts
  simp only [io_words]
  generalize wordsSigns (chars w4) = R
  kernel_rfl
end Go.Proofs.Ytkdfjomhichkoaa.Head
/- The law FnRunNonPreemptive, proved: for every input the call returns true and each argument reads as it did. No condition. -/
namespace Go.Proofs.Ytkdfjomhichkoaa.fnRunNonPreemptive
open Go.ChangeShapes Go.WideShapes Go.ChangeAt Go.RowKit Go.Proofs.YtkdfjomhichkoaaW.PrintWords Go.Proofs.Ytkdfjomhichkoaa.P
open Go.ChangeMaps (open_string shut_string)
theorem own : ownKnob Try.prog.godebug = none := by kernel_rfl
theorem laidOut : laidOutB Try.prog = true := by kernel_rfl
set_option maxRecDepth 100000 in
theorem lifted (os : Os) (started : os.Started) (H : Type) (enc : TypeId × Value → H) :
    ReturnsInHanded {} Try.checked os 3 .any (Rows.fnRunNonPreemptiveSpec.pre6 enc Try.prog Try.f3 Rows.fnRunNonPreemptiveRow.domain false) (Rows.fnRunNonPreemptiveSpec.post enc Try.prog Try.f3 false true false false) := by
  refine returnsInHanded_of_change_sized (C := Try.checked) own started (by kernel_rfl) Try.func3
    (ChangeSpec.witness6 (enc := enc) (C := Try.checked) false ⟨#[], #[.slice none 0 0], []⟩ 8 (by kernel_rfl) (by kernel_rfl) (by kernel_rfl) (by kernel_rfl)) ?_
  intro W base args ds gs before hval0 hW hcnd hsz0 _
  have hsz : (DataW.weightsEach Try.prog (Try.f3.params.toList ++ Rows.fnRunNonPreemptiveSpec.plain.varTypes Try.prog) (ds ++ gs)).all (· ≤ reachBytes) = true := hsz0
  have hval : ∀ (j : Nat) t v, Try.f3.params[j]? = some t → args[j]? = some v → Value.okWide Try.prog W .any base t v := hval0
  have hW' := hW
  obtain ⟨p, q, hA0, hV, rfl, hfz, hnd⟩ := hW
  have hA : DataW.TrodAll enc Try.prog W 0 (fun _ => true) true Try.f3.params.toList args.toList ds p := hA0
  rw [Try.params3] at hA hval hsz
  obtain ⟨v0, vs0, d0, ds0, p0, q0, hargs, rfl, rfl, h0, r0⟩ := trodAll_cons hA
  obtain ⟨rfl, rfl, rfl⟩ := trodAll_nil r0
  obtain rfl : args = #[v0] := by cases args; simp_all
  obtain ⟨rfl, rfl⟩ := trodVars_none hV
  have k0 := h0
  have lt0 : ∀ x ∈ p0, x.block < W.heap.size := by obtain ⟨m, hm⟩ := k0; exact DataW.trod_lt m _ _ _ hm
  obtain ⟨A0, n0, c0, rfl⟩ := okWide_slice Try.underlying22 (hval 0 22 v0 rfl rfl)
  have y0 : n0 * 1 ≤ 140737488351232 := Opn.sized_row hsz (j := 0) (t := 22) rfl rfl Try.underlying22 (by kernel_rfl) h0
  obtain ⟨l0, rfl, hc0, hm0, hr0, hg0⟩ : ∃ xs : List (Int), xs.length = n0 ∧ n0 ≤ c0 ∧ n0 ≤ maxLen ∧ Kd.C (Kd.int .u8) W A0 xs.length xs ∧ ∀ y0 ∈ xs, (Lit.int .u8 y0).wf = true := by
    obtain ⟨fuel, hf⟩ := h0
    exact Opn.slice_row Try.underlying22 (by kernel_rfl) (Opn.opens_int Try.underlying5) hf
  obtain ⟨k, hk⟩ := Pure.FnRunNonPreemptive l0 y0 ⟨hm0, hg0⟩
  clear hA0 hval0 hsz0 hsz
  refine (laws_FnRunNonPreemptive.calls k A0 c0 l0 true W hr0 hc0 hk rfl).mono fun e W' ⟨he, hd⟩ => ?_
  have bel := hd
  subst he
  exact ⟨_, rfl, _, _, _, [], _, [], hW', trodAll_mk1 (shut_bool Try.underlying4 _), (trodAll_cons_mk (Below.trod laidOut (by kernel_rfl) (of_decide_eq_true (by kernel_rfl)) k0 bel lt0) trodAll_mk0), rfl, bel.frame _, fun h => by cases h⟩
theorem closed : joinedFacts Try.prog 3 Try.f3 Rows.fnRunNonPreemptiveSpec Rows.fnRunNonPreemptiveRow = true := by
  simp only [joinedFacts, Head.enter, Head.lifts, Head.make]
  kernel_rfl
theorem named : Try.prog.funcNamed Rows.fnRunNonPreemptiveRow.func = some 3 := by kernel_rfl
theorem wrapped : Try.f3.isWrapper Try.prog Rows.fnRunNonPreemptiveRow.wrapper Rows.fnRunNonPreemptiveRow.mainSum := by unfold Func.isWrapper; first | (rw [if_pos (by decide +kernel)]; kernel_rfl) | (rw [if_neg (by decide +kernel)]; exact ⟨rfl, rfl⟩)
theorem over : Rows.fnRunNonPreemptiveRow.holds Try.pinned (OpenSpec.ofChange Rows.fnRunNonPreemptiveSpec) :=
  OpenClaim.holds_of_wide 3 Try.f3 rfl rfl rfl rfl rfl rfl rfl ⟨rfl, rfl, rfl, rfl, rfl⟩ rfl rfl rfl rfl rfl named Try.func3 closed
    (of_decide_eq_true (by kernel_rfl)) wrapped
    (fun os started H enc _ => lifted os started H enc)
theorem proved : Rows.FnRunNonPreemptiveSaid := over
#print axioms proved
end Go.Proofs.Ytkdfjomhichkoaa.fnRunNonPreemptive
namespace Go.Proofs.Ytkdfjomhichkoaa
/-- The row, under a short name, for the claim. -/
theorem fnRunNonPreemptive_holds : Rows.FnRunNonPreemptiveSaid := fnRunNonPreemptive.proved
end Go.Proofs.Ytkdfjomhichkoaa
