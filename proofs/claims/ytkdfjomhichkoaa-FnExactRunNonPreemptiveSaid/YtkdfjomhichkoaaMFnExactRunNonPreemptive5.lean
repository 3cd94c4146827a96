/- The law FnExactRunNonPreemptive for every input, part 5 of its proof: what the program's functions answer, and the plain law. No condition. -/
import Derived.Test.YtkdfjomhichkoaaMFnExactRunNonPreemptive1
import Derived.Test.YtkdfjomhichkoaaMFnExactRunNonPreemptive2
import Derived.Test.YtkdfjomhichkoaaMFnExactRunNonPreemptive3
import Derived.Test.YtkdfjomhichkoaaMFnExactRunNonPreemptive4
import Derived.SizedLaws
import Derived.ChangeSlices
import Derived.ChangeArms
import Derived.WideShapes
import Derived.Deep.Slices
import Derived.OpenShut
import Derived.Test.YtkdfjomhichkoaaRows
import Derived.JoinedOf
import Derived.KernelRfl
import Derived.WalkKit
import Derived.ProofKit
import Derived.ShutString
import Derived.ChangeOld
import Derived.Below
/- A simulation of jobs on one processor, as plain functions: what is left, what runs, when jobs finish. No condition. -/
namespace Go.Proofs.Ytkdfjomhichkoaa.Sim
open Go.RowKit Go.Proofs.Ytkdfjomhichkoaa.Gen Go.Proofs.Ytkdfjomhichkoaa.Edf Go.Proofs.YtkdfjomhichkoaaW.PrintWords Go.Proofs.YtkdfjomhichkoaaW.PrintLast
/-- The first of those that may run with the least key, or -1. -/
def bst (ok : Nat → Bool) (key : Nat → Int) : Nat → Int
  | 0 => -1
  | n + 1 => if ok n = true ∧ (bst ok key n < 0 ∨ key n < key (bst ok key n).toNat) then (n : Int) else bst ok key n
theorem bst_sp (ok : Nat → Bool) (key : Nat → Int) : ∀ n, (bst ok key n = -1 ∧ ∀ i, i < n → ok i = false) ∨
    ∃ i : Nat, i < n ∧ bst ok key n = (i : Int) ∧ ok i = true ∧ (∀ j, j < n → ok j = true → key i ≤ key j) ∧ ∀ j, j < i → ok j = true → key i < key j := by
  intro n
  induction n with
  | zero => exact Or.inl ⟨rfl, fun i h => by omega⟩
  | succ n ih =>
    rw [bst]
    by_cases h : ok n = true ∧ (bst ok key n < 0 ∨ key n < key (bst ok key n).toNat)
    · rw [if_pos h]
      right
      refine ⟨n, by omega, rfl, h.1, ?_⟩
      rcases ih with ⟨h1, h2⟩ | ⟨i, hi, h1, h2, h3, _⟩
      · refine ⟨fun j hj ho => ?_, fun j hj ho => ?_⟩
        · by_cases e : j = n
          · subst e; exact Int.le_refl _
          · rw [h2 j (by omega)] at ho; cases ho
        · rw [h2 j hj] at ho; cases ho
      · have hlt : key n < key i := by
          rcases h.2 with h4 | h4
          · omega
          · rw [h1] at h4; simpa using h4
        refine ⟨fun j hj ho => ?_, fun j hj ho => ?_⟩
        · by_cases e : j = n
          · subst e; exact Int.le_refl _
          · have := h3 j (by omega) ho; omega
        · have := h3 j hj ho; omega
    · rw [if_neg h]
      rcases ih with ⟨h1, h2⟩ | ⟨i, hi, h1, h2, h3, h4⟩
      · left
        refine ⟨h1, fun j hj => ?_⟩
        by_cases e : j = n
        · subst e
          cases ho : ok j with
          | false => rfl
          | true => exact absurd ⟨ho, Or.inl (by omega)⟩ h
        · exact h2 j (by omega)
      · right
        refine ⟨i, by omega, h1, h2, fun j hj ho => ?_, h4⟩
        by_cases e : j = n
        · subst e
          apply Classical.byContradiction
          intro hc
          exact h ⟨ho, Or.inr (by rw [h1]; simpa using (by omega : key j < key i))⟩
        · exact h3 j (by omega) ho
theorem bst_congr {ok ok' : Nat → Bool} {key key' : Nat → Int} {n : Nat} (h1 : ∀ i, i < n → ok i = ok' i) (h2 : ∀ i, i < n → key i = key' i) : bst ok key n = bst ok' key' n := by
  induction n with
  | zero => rfl
  | succ n ih =>
    have e := ih (fun i hi => h1 i (by omega)) (fun i hi => h2 i (by omega))
    rw [bst, bst, e, h1 n (by omega), h2 n (by omega)]
    have hb := bst_sp ok' key' n
    by_cases hneg : bst ok' key' n < 0
    · simp only [hneg, true_or]
    · rcases hb with ⟨h3, _⟩ | ⟨i, hi, h3, _⟩
      · omega
      · have : key (bst ok' key' n).toNat = key' (bst ok' key' n).toNat := by rw [h3]; exact h2 _ (by simpa using (by omega : i < n + 1))
        rw [this]
/-- One tick. -/
def stepL (left : List Int) (i : Int) : List Int := if i < 0 then left else left.set i.toNat (rd left i - 1)
section
variable (pick : List Int → Nat → Int) (ex : List Int)
def stL : Nat → List Int
  | 0 => ex
  | t + 1 => stepL (stL t) (pick (stL t) t)
def runL (t : Nat) : Int := pick (stL pick ex t) t
def finL : Nat → List Int
  | 0 => List.replicate ex.length (-1)
  | t + 1 => if 0 ≤ runL pick ex t ∧ rd (stL pick ex (t + 1)) (runL pick ex t) = 0 then (finL t).set (runL pick ex t).toNat ((t : Int) + 1) else finL t
end
theorem rd_set_eq (l : List Int) (i : Nat) (x : Int) (h : i < l.length) : rd (l.set i x) (i : Int) = x := by
  rw [rd_at _ i (by simpa using h)]
  simp
theorem rd_set_ne (l : List Int) (i a : Nat) (x : Int) (h : a ≠ i) : rd (l.set i x) (a : Int) = rd l (a : Int) := by
  unfold rd
  rw [List.getD_eq_getElem?_getD, List.getD_eq_getElem?_getD, Int.toNat_natCast, List.getElem?_set_ne (by omega)]
/-- A pick that is the rule's: a job that is released and unfinished, or none. -/
def Picks (rel : Nat → Int) (n : Nat) (pick : List Int → Nat → Int) : Prop := ∀ left t, left.length = n → pick left t = -1 ∨ ∃ i, i < n ∧ pick left t = ((i : Nat) : Int) ∧ rel i ≤ (t : Int) ∧ 0 < rd left (i : Int)
section
variable {pick : List Int → Nat → Int} {ex : List Int} {rel : Nat → Int}
theorem stepL_len (left : List Int) (i : Int) : (stepL left i).length = left.length := by
  unfold stepL; split
  · rfl
  · rw [List.length_set]
theorem stL_len : ∀ t, (stL pick ex t).length = ex.length
  | 0 => rfl
  | t + 1 => by rw [stL, stepL_len, stL_len t]
theorem finL_len : ∀ t, (finL pick ex t).length = ex.length
  | 0 => by rw [finL, List.length_replicate]
  | t + 1 => by
    rw [finL]; split
    · rw [List.length_set, finL_len t]
    · exact finL_len t
theorem sch_of (hp : Picks rel ex.length pick) (hpos : ∀ i, i < ex.length → 1 ≤ rd ex ((i : Nat) : Int)) : Sch ex.length rel (fun i => rd ex (i : Int)) (fun t i => rd (stL pick ex t) (i : Int)) (runL pick ex) := by
  refine ⟨fun i _ => rfl, fun t i hi => ?_, fun t => hp _ t (stL_len t), hpos⟩
  have hl : (stL pick ex t).length = ex.length := stL_len t
  show rd (stL pick ex (t + 1)) (i : Int) = rd (stL pick ex t) (i : Int) - (if runL pick ex t = (i : Int) then 1 else 0)
  rw [stL]
  show rd (stepL (stL pick ex t) (runL pick ex t)) (i : Int) = _
  rcases hp _ t hl with h | ⟨j, hj, h, _, _⟩
  · have h : runL pick ex t = -1 := h
    unfold stepL
    rw [h, if_pos (by omega), if_neg (by omega)]; omega
  · have h : runL pick ex t = (j : Int) := h
    unfold stepL
    rw [h, if_neg (by omega), Int.toNat_natCast]
    by_cases e : j = i
    · subst e
      rw [rd_set_eq _ _ _ (by omega), if_pos rfl]
    · rw [rd_set_ne _ _ _ _ (by omega), if_neg (by omega)]; omega
end
end Go.Proofs.Ytkdfjomhichkoaa.Sim
/- Task sets, their hyperperiod, load and demand, as plain functions. Conditions: a valid set. -/
namespace Go.Proofs.Ytkdfjomhichkoaa.Tm
open Go.RowKit Go.Proofs.Ytkdfjomhichkoaa.P Go.Proofs.Ytkdfjomhichkoaa.Base Go.Proofs.Ytkdfjomhichkoaa.Gen Go.Proofs.Ytkdfjomhichkoaa.Alive Go.Proofs.Ytkdfjomhichkoaa.Set Go.Proofs.YtkdfjomhichkoaaW.PrintWords Go.Proofs.YtkdfjomhichkoaaW.PrintLast
/-- A sum over a row. -/
def sm {α : Type} (f : α → Int) : List α → Int
  | [] => 0
  | a :: l => f a + sm f l
theorem sm_append {α : Type} (f : α → Int) (l m : List α) : sm f (l ++ m) = sm f l + sm f m := by
  induction l with
  | nil => simp [sm]
  | cons a l ih => rw [List.cons_append, sm, sm, ih]; omega
theorem sm_take {α : Type} (f : α → Int) (l : List α) (i : Nat) (h : i < l.length) : sm f (l.take (i + 1)) = sm f (l.take i) + f l[i] := by
  rw [List.take_succ_eq_append_getElem h, sm_append]
  simp [sm]
/-- The hyperperiod. -/
def hy (l : List Task) : Nat := l.foldl (fun h t => Nat.lcm h t.f2.toNat) 1
def AllV (l : List Task) : Prop := ∀ t ∈ l, TVt t
theorem _root_.Go.Proofs.Ytkdfjomhichkoaa.Set.SetOk.all {l : List Task} (h : SetOk l) : AllV l := h.2
theorem AllV.take {l : List Task} (h : AllV l) (i : Nat) : AllV (l.take i) := fun t ht => h t (List.mem_of_mem_take ht)
/-- The demand bound. -/
def d1 (t : Int) (x : Task) : Int := if t ≥ x.f1 then ((t - x.f1) / x.f2 + 1) * x.f0 else 0
def dm (l : List Task) (t : Int) : Int := sm (d1 t) l
end Go.Proofs.Ytkdfjomhichkoaa.Tm
/- Legal release patterns, as a plain proposition, and what they give to a simulation. No condition. -/
namespace Go.Proofs.Ytkdfjomhichkoaa.Jobs
open Go.RowKit Go.Proofs.Ytkdfjomhichkoaa.P Go.Proofs.Ytkdfjomhichkoaa.Base Go.Proofs.Ytkdfjomhichkoaa.Gen Go.Proofs.Ytkdfjomhichkoaa.Alive Go.Proofs.Ytkdfjomhichkoaa.Set Go.Proofs.Ytkdfjomhichkoaa.Tm Go.Proofs.Ytkdfjomhichkoaa.Edf Go.Proofs.Ytkdfjomhichkoaa.Sim Go.Proofs.YtkdfjomhichkoaaW.PrintWords Go.Proofs.YtkdfjomhichkoaaW.PrintLast
abbrev Job := S34
def rj (l : List Job) (i : Nat) : Job := rd_T34 l (i : Int)
def tk (l : List Task) (i : Int) : Task := rd_T88 l i
theorem rj_at (l : List Job) (i : Nat) (h : i < l.length) : rj l i = l[i] := by
  unfold rj rd_T34
  rw [List.getD_eq_getElem?_getD, Int.toNat_natCast, List.getElem?_eq_getElem h]
  rfl
theorem tk_at (l : List Task) (i : Nat) (h : i < l.length) : tk l (i : Int) = l[i] := by
  unfold tk rd_T88
  rw [List.getD_eq_getElem?_getD, Int.toNat_natCast, List.getElem?_eq_getElem h]
  rfl
/-- What one job must be: its task, release, execution time, deadline; behind the one ahead of it. -/
def One (l : List Task) (js : List Job) (i : Nat) : Prop :=
  (0 ≤ (rj js i).f0 ∧ (rj js i).f0 < (l.length : Int)) ∧ (0 ≤ (rj js i).f1 ∧ (rj js i).f1 ≤ 119) ∧ (1 ≤ (rj js i).f3 ∧ (rj js i).f3 ≤ (tk l (rj js i).f0).f0) ∧
    (rj js i).f2 = (rj js i).f1 + (tk l (rj js i).f0).f1 ∧
    (0 < i → (rj js (i - 1)).f1 < (rj js i).f1 ∨ ((rj js (i - 1)).f1 = (rj js i).f1 ∧ (rj js (i - 1)).f0 < (rj js i).f0)) ∧
    ∀ p, p < i → (rj js p).f0 = (rj js i).f0 → (rj js p).f1 + (tk l (rj js i).f0).f2 ≤ (rj js i).f1
def JL (l : List Task) (js : List Job) : Prop := SetOk l ∧ js.length ≤ 60 ∧ ∀ i, i < js.length → One l js i
noncomputable instance (l : List Task) (js : List Job) : Decidable (JL l js) := Classical.propDecidable _
section
variable {l : List Task} {js : List Job}
def rel (js : List Job) (i : Nat) : Int := (rj js i).f1
def dl (js : List Job) (i : Nat) : Int := (rj js i).f2
def exs (js : List Job) : List Int := js.map (fun j => j.f3)
def tki (js : List Job) (i : Nat) : Nat := (rj js i).f0.toNat
theorem exs_len (js : List Job) : (exs js).length = js.length := by unfold exs; rw [List.length_map]
theorem exs_rd (js : List Job) (i : Nat) (h : i < js.length) : rd (exs js) (i : Int) = (rj js i).f3 := by
  rw [rd_at _ i (by rw [exs_len]; exact h), rj_at js i h]
  unfold exs
  rw [List.getElem_map]
theorem JL.pos (h : JL l js) : ∀ i, i < (exs js).length → 1 ≤ rd (exs js) ((i : Nat) : Int) := fun i hi => by
  rw [exs_len] at hi
  rw [exs_rd js i hi]
  exact (h.2.2 i hi).2.2.1.1
theorem JL.tkm (h : JL l js) (i : Nat) (hi : i < js.length) : tki js i < l.length ∧ ((tki js i : Nat) : Int) = (rj js i).f0 := by
  have := (h.2.2 i hi).1
  unfold tki
  omega
/-- The tasks' numbers, by place. -/
def P (l : List Task) (k : Nat) : Int := (tk l (k : Int)).f2
def C (l : List Task) (k : Nat) : Int := (tk l (k : Int)).f0
def D (l : List Task) (k : Nat) : Int := (tk l (k : Int)).f1
theorem task_ok (hs : SetOk l) (k : Nat) (hk : k < l.length) : 1 ≤ C l k ∧ C l k ≤ 8 ∧ C l k ≤ D l k ∧ D l k ≤ P l k ∧ P l k ≤ 12 := by
  have := hs.2 _ (List.getElem_mem hk)
  unfold C D P
  rw [tk_at l k hk]
  exact this
theorem su_sm (f : Task → Int) (l : List Task) : su (fun k => f (tk l (k : Int))) l.length = sm f l := by
  have key : ∀ i, i ≤ l.length → su (fun k => f (tk l (k : Int))) i = sm f (l.take i) := by
    intro i
    induction i with
    | zero => intro _; rfl
    | succ i ih =>
      intro hi
      rw [su, ih (by omega), sm_take f l i (by omega), tk_at l i (by omega)]
  have := key l.length (Nat.le_refl _)
  rwa [List.take_length] at this
theorem JL.dl_eq (h : JL l js) (i : Nat) (hi : i < js.length) : dl js i = rel js i + D l (tki js i) := by
  have h1 := (h.2.2 i hi).2.2.2.1
  have h2 := (h.tkm i hi).2
  unfold dl rel D
  rw [h2]; exact h1
theorem JL.ex_le (h : JL l js) (i : Nat) (hi : i < js.length) : rd (exs js) (i : Int) ≤ C l (tki js i) := by
  have h1 := (h.2.2 i hi).2.2.1.2
  have h2 := (h.tkm i hi).2
  rw [exs_rd js i hi]
  unfold C
  rw [h2]; exact h1
theorem JL.sep (h : JL l js) : ∀ i j, i < j → j < js.length → tki js i = tki js j → rel js i + P l (tki js i) ≤ rel js j := by
  intro i j hij hj he
  have h1 := (h.2.2 j hj).2.2.2.2.2 i hij
  have h2 := (h.tkm i (by omega)).2
  have h3 := (h.tkm j hj).2
  unfold rel P
  rw [he, h3]
  exact h1 (by omega)
/-- The demand of a legal pattern between two times. -/
theorem JL.demand (h : JL l js) (a b : Int) : su (fun i => if a ≤ rel js i ∧ dl js i ≤ b then rd (exs js) (i : Int) else 0) js.length ≤ dm l (b - a) := by
  have h1 := demand_le (n := js.length) (m := l.length) (rel := rel js) (dl := dl js) (ex := fun i => rd (exs js) (i : Int)) (tk := tki js) (P := P l) (C := C l)
    (fun i hi => (h.tkm i hi).1) (fun k hk => by have := task_ok h.1 k hk; omega) (fun k hk => by have := task_ok h.1 k hk; omega) (D l) (fun i hi => h.dl_eq i hi) (fun i hi => h.ex_le i hi) h.sep a b
  refine Int.le_trans h1 (Int.le_of_eq ?_)
  unfold dm
  rw [← su_sm (d1 (b - a)) l]
  refine su_congr fun k hk => ?_
  unfold d1 C D P
  rfl
end
/-- Earliest deadline first among the jobs released and unfinished. -/
def rdyb (js : List Job) (left : List Int) (t : Nat) (i : Nat) : Bool := decide ((rj js i).f1 ≤ (t : Int) ∧ 0 < rd left (i : Int))
def edfp (js : List Job) (left : List Int) (t : Nat) : Int := bst (rdyb js left t) (dl js) js.length
/-- .. unless one has started. -/
def startp (js : List Job) (left : List Int) (t : Nat) : Int := bst (fun i => rdyb js left t i && decide (rd left (i : Int) < (rj js i).f3)) (dl js) js.length
def npp (js : List Job) (left : List Int) (t : Nat) : Int := if 0 ≤ startp js left t then startp js left t else edfp js left t
theorem edfp_sp (js : List Job) (left : List Int) (t : Nat) : (edfp js left t = -1 ∧ ∀ i, i < js.length → rel js i ≤ (t : Int) → rd left (i : Int) ≤ 0) ∨
    ∃ i : Nat, i < js.length ∧ edfp js left t = (i : Int) ∧ rel js i ≤ (t : Int) ∧ 0 < rd left (i : Int) ∧ ∀ j, j < js.length → rel js j ≤ (t : Int) → 0 < rd left (j : Int) → dl js i ≤ dl js j := by
  rcases bst_sp (rdyb js left t) (dl js) js.length with ⟨h1, h2⟩ | ⟨i, hi, h1, h2, h3, _⟩
  · left
    refine ⟨h1, fun i hi hr => ?_⟩
    have := h2 i hi
    unfold rdyb at this
    rw [decide_eq_false_iff_not] at this
    unfold rel at hr
    omega
  · right
    unfold rdyb at h2
    have h2 := of_decide_eq_true h2
    refine ⟨i, hi, h1, h2.1, h2.2, fun j hj hr hl => h3 j hj ?_⟩
    unfold rdyb
    exact decide_eq_true ⟨hr, hl⟩
theorem edfp_picks (js : List Job) : Picks (rel js) (exs js).length (edfp js) := fun left t _ => by
  rw [exs_len]
  rcases edfp_sp js left t with ⟨h, _⟩ | ⟨i, hi, h1, h2, h3, _⟩
  · exact Or.inl h
  · exact Or.inr ⟨i, hi, h1, h2, h3⟩
theorem startp_sp (js : List Job) (left : List Int) (t : Nat) : (startp js left t = -1 ∧ ∀ i, i < js.length → rel js i ≤ (t : Int) → 0 < rd left (i : Int) → (rj js i).f3 ≤ rd left (i : Int)) ∨
    ∃ i : Nat, i < js.length ∧ startp js left t = (i : Int) ∧ rel js i ≤ (t : Int) ∧ 0 < rd left (i : Int) ∧ rd left (i : Int) < (rj js i).f3 := by
  rcases bst_sp (fun i => rdyb js left t i && decide (rd left (i : Int) < (rj js i).f3)) (dl js) js.length with ⟨h1, h2⟩ | ⟨i, hi, h1, h2, _, _⟩
  · left
    refine ⟨h1, fun i hi hr hp => ?_⟩
    have := h2 i hi
    unfold rdyb at this
    rw [Bool.and_eq_false_iff, decide_eq_false_iff_not, decide_eq_false_iff_not] at this
    unfold rel at hr
    omega
  · right
    unfold rdyb at h2
    rw [Bool.and_eq_true, decide_eq_true_eq, decide_eq_true_eq] at h2
    exact ⟨i, hi, h1, h2.1.1, h2.1.2, h2.2⟩
theorem npp_picks (js : List Job) : Picks (rel js) (exs js).length (npp js) := fun left t hl => by
  unfold npp
  split
  · rename_i h
    rw [exs_len]
    rcases startp_sp js left t with ⟨h1, _⟩ | ⟨i, hi, h1, h2, h3, _⟩
    · omega
    · exact Or.inr ⟨i, hi, h1, h2, h3⟩
  · exact edfp_picks js left t hl
end Go.Proofs.Ytkdfjomhichkoaa.Jobs
/- Legal release patterns: the program's and the reference's answer is the plain proposition. Condition: the rows are not too long. -/
namespace Go.Proofs.Ytkdfjomhichkoaa.Leg
open Go.RowKit Go.Proofs.Ytkdfjomhichkoaa.P Go.Proofs.Ytkdfjomhichkoaa.Base Go.Proofs.Ytkdfjomhichkoaa.Gen Go.Proofs.Ytkdfjomhichkoaa.Alive Go.Proofs.Ytkdfjomhichkoaa.Set Go.Proofs.Ytkdfjomhichkoaa.Tm Go.Proofs.Ytkdfjomhichkoaa.Edf Go.Proofs.Ytkdfjomhichkoaa.Sim Go.Proofs.Ytkdfjomhichkoaa.Jobs Go.Proofs.YtkdfjomhichkoaaW.PrintWords Go.Proofs.YtkdfjomhichkoaaW.PrintLast
/-- The last job of a task among the first i. -/
theorem lastOf_sp (js : List Job) (k : Int) : ∀ i, (lastOf js i k = none ∧ ∀ p, p < i → (rj js p).f0 ≠ k) ∨ ∃ p, p < i ∧ (rj js p).f0 = k ∧ lastOf js i k = some (rj js p).f1 ∧ ∀ q, p < q → q < i → (rj js q).f0 ≠ k := by
  intro i
  induction i with
  | zero => exact Or.inl ⟨rfl, fun p h => by omega⟩
  | succ i ih =>
    rw [lastOf]
    by_cases h : (jrd js i).f0 = k
    · rw [if_pos h]
      exact Or.inr ⟨i, by omega, h, rfl, fun q h1 h2 => by omega⟩
    · rw [if_neg h]
      have h' : (rj js i).f0 ≠ k := h
      rcases ih with ⟨h1, h2⟩ | ⟨p, h1, h2, h3, h4⟩
      · refine Or.inl ⟨h1, fun p hp => ?_⟩
        by_cases e : p = i
        · subst e; exact h'
        · exact h2 p (by omega)
      · refine Or.inr ⟨p, by omega, h2, h3, fun q h5 h6 => ?_⟩
        by_cases e : q = i
        · subst e; exact h'
        · exact h4 q h5 (by omega)
/-- A job but for the distance to those ahead of it of its task. -/
def Loc (l : List Task) (js : List Job) (i : Nat) : Prop :=
  (0 ≤ (rj js i).f0 ∧ (rj js i).f0 < (l.length : Int)) ∧ (0 ≤ (rj js i).f1 ∧ (rj js i).f1 ≤ 119) ∧ (1 ≤ (rj js i).f3 ∧ (rj js i).f3 ≤ (tk l (rj js i).f0).f0) ∧
    (0 < i → (rj js (i - 1)).f1 < (rj js i).f1 ∨ ((rj js (i - 1)).f1 = (rj js i).f1 ∧ (rj js (i - 1)).f0 < (rj js i).f0))
theorem one_loc {l : List Task} {js : List Job} {i : Nat} (h : One l js i) : Loc l js i := ⟨h.1, h.2.1, h.2.2.1, h.2.2.2.2.1⟩
theorem mono_rel {l : List Task} {js : List Job} {n : Nat} (h : ∀ i, i < n → Loc l js i) : ∀ q p, p ≤ q → q < n → (rj js p).f1 ≤ (rj js q).f1 := by
  intro q
  induction q with
  | zero => intro p hp _; obtain rfl : p = 0 := by omega
            exact Int.le_refl _
  | succ q ih =>
    intro p hp hq
    by_cases e : p = q + 1
    · subst e; exact Int.le_refl _
    · have h1 := ih p (by omega) (by omega)
      have h2 := (h (q + 1) hq).2.2.2 (by omega)
      rw [Nat.add_sub_cancel] at h2
      omega
/-- The distance, asked of the last job of the task alone. -/
theorem dist_iff {l : List Task} {js : List Job} {i n : Nat} (hi : i < n) (h : ∀ p, p < n → Loc l js p) :
    (∀ p, p < i → (rj js p).f0 = (rj js i).f0 → (rj js p).f1 + (tk l (rj js i).f0).f2 ≤ (rj js i).f1) ↔ ∀ b, lastOf js i (rj js i).f0 = some b → b + (tk l (rj js i).f0).f2 ≤ (rj js i).f1 := by
  constructor
  · intro hh b hb
    rcases lastOf_sp js (rj js i).f0 i with ⟨h1, _⟩ | ⟨p, h1, h2, h3, _⟩
    · rw [h1] at hb; cases hb
    · rw [h3] at hb
      obtain rfl := Option.some.inj hb
      exact hh p h1 h2
  · intro hh p hp he
    rcases lastOf_sp js (rj js i).f0 i with ⟨_, h2⟩ | ⟨q, h1, h2, h3, h4⟩
    · exact absurd he (h2 p hp)
    · have h5 := hh _ h3
      have h6 : p ≤ q := by
        apply Classical.byContradiction
        intro hc
        exact h4 p (by omega) hp he
      have := mono_rel h q p h6 (by omega)
      omega
theorem tk_ok {l : List Task} (hs : SetOk l) (k : Int) (h0 : 0 ≤ k) (h1 : k < (l.length : Int)) : 1 ≤ (tk l k).f0 ∧ (tk l k).f0 ≤ 8 ∧ (tk l k).f0 ≤ (tk l k).f1 ∧ (tk l k).f1 ≤ (tk l k).f2 ∧ (tk l k).f2 ≤ 12 := by
  obtain ⟨n, rfl⟩ := Int.eq_ofNat_of_zero_le h0
  have hn : n < l.length := by omega
  rw [tk_at l n hn]
  exact hs.2 _ (List.getElem_mem hn)
theorem allB_iff {p : Nat → Bool} : ∀ {n : Nat}, allB p n = true ↔ ∀ i, i < n → p i = true := by
  intro n
  constructor
  · exact fun h => allB_true h
  · intro h
    cases e : allB p n with
    | true => rfl
    | false =>
      have key : ∀ m, m ≤ n → allB p m = true := by
        intro m
        induction m with
        | zero => intro _; rfl
        | succ m ih => intro hm; rw [allB, ih (by omega), h m (by omega)]; rfl
      rw [key n (Nat.le_refl _)] at e
      cases e
theorem ordOk_iff (l : List Task) (js : List Job) (i : Nat) : ordOk l js i = true ↔ Loc l js i := by
  unfold ordOk Loc
  have e : jrd js i = rj js i := rfl
  have e2 : jrd js (i - 1) = rj js (i - 1) := rfl
  rw [Bool.and_eq_true, Bool.and_eq_true, Bool.and_eq_true, Bool.or_eq_true]
  unfold inRng relOk exOk bhd
  simp only [decide_eq_true_eq, Bool.not_eq_true', Bool.or_eq_false_iff, Bool.and_eq_false_iff, decide_eq_false_iff_not, e, e2]
  have e3 : trd l (rj js i).f0 = tk l (rj js i).f0 := rfl
  rw [e3]
  constructor
  · rintro ⟨⟨⟨h1, h2⟩, h3⟩, h4⟩
    refine ⟨by omega, h2, h3, fun h0 => ?_⟩
    rcases h4 with h4 | ⟨h4, h5⟩
    · omega
    · rcases h5 with h5 | h5 <;> omega
  · rintro ⟨h1, h2, h3, h4⟩
    refine ⟨⟨⟨by omega, h2⟩, h3⟩, ?_⟩
    by_cases h0 : i = 0
    · exact Or.inl h0
    · right
      have := h4 (by omega)
      constructor
      · omega
      · by_cases e4 : (rj js (i - 1)).f1 = (rj js i).f1
        · right; omega
        · left; exact e4
theorem spcOk_iff {l : List Task} {js : List Job} {i n : Nat} (hs : SetOk l) (hi : i < n) (h : ∀ p, p < n → Loc l js p) : spcOk l js i = true ↔ ∀ b, lastOf js i (rj js i).f0 = some b → b + (tk l (rj js i).f0).f2 ≤ (rj js i).f1 := by
  unfold spcOk
  have e : jrd js i = rj js i := rfl
  have e3 : trd l (rj js i).f0 = tk l (rj js i).f0 := rfl
  rw [e, e3]
  have hb := (h i hi).2.1
  have ht := tk_ok hs _ (h i hi).1.1 (h i hi).1.2
  rcases lastOf_sp js (rj js i).f0 i with ⟨h1, _⟩ | ⟨p, h1, _, h3, _⟩
  · rw [h1]
    exact ⟨fun _ b hb => (by cases hb), fun _ => rfl⟩
  · rw [h3]
    have hp := (h p (by omega)).2.1
    simp only [Bool.not_eq_true', decide_eq_false_iff_not]
    rw [w64 (by omega) (by omega)]
    constructor
    · intro h5 b hb
      obtain rfl := Option.some.inj hb
      omega
    · intro h5
      have := h5 _ rfl
      omega
theorem leg_iff {l : List Task} {js : List Job} (hs : SetOk l) : legB l js = true ↔ JL l js := by
  unfold legB
  by_cases ho : ordB l js = true
  · rw [if_pos ho]
    unfold ordB at ho
    rw [Bool.and_eq_true, decide_eq_true_eq, allB_iff] at ho
    have hloc : ∀ p, p < js.length → Loc l js p := fun p hp => (ordOk_iff l js p).1 (ho.1 p hp)
    have hlate : (!(js.any (lateB l))) = true ↔ ∀ i, i < js.length → (rj js i).f2 = (rj js i).f1 + (tk l (rj js i).f0).f1 := by
      rw [Bool.not_eq_true', List.any_eq_false]
      have one : ∀ i, i < js.length → (¬ lateB l (rj js i) = true ↔ (rj js i).f2 = (rj js i).f1 + (tk l (rj js i).f0).f1) := fun i hi => by
        have hb := (hloc i hi).2.1
        have ht := tk_ok hs _ (hloc i hi).1.1 (hloc i hi).1.2
        unfold lateB
        have e3 : trd l (rj js i).f0 = tk l (rj js i).f0 := rfl
        rw [e3, w64 (by omega) (by omega), bne_iff_ne, Ne, Classical.not_not]
      constructor
      · intro hh i hi
        rw [← one i hi, rj_at js i hi]
        exact hh _ (List.getElem_mem hi)
      · intro hh x hx
        obtain ⟨i, hi, rfl⟩ := List.getElem_of_mem hx
        rw [← rj_at js i hi]
        exact (one i hi).2 (hh i hi)
    by_cases hp : spcB l js = true
    · rw [if_pos hp, hlate]
      unfold spcB at hp
      rw [allB_iff] at hp
      constructor
      · intro hh
        refine ⟨hs, by omega, fun i hi => ⟨(hloc i hi).1, (hloc i hi).2.1, (hloc i hi).2.2.1, hh i hi, (hloc i hi).2.2.2, ?_⟩⟩
        exact (dist_iff hi hloc).2 ((spcOk_iff hs hi hloc).1 (hp i hi))
      · intro hh i hi
        exact (hh.2.2 i hi).2.2.2.1
    · rw [if_neg hp]
      constructor
      · intro h; cases h
      · intro hh
        refine absurd ?_ hp
        unfold spcB
        rw [allB_iff]
        intro i hi
        exact (spcOk_iff hs hi hloc).2 ((dist_iff hi hloc).1 (hh.2.2 i hi).2.2.2.2.2)
  · rw [if_neg ho]
    constructor
    · intro h; cases h
    · intro hh
      refine absurd ?_ ho
      unfold ordB
      rw [Bool.and_eq_true, decide_eq_true_eq, allB_iff]
      exact ⟨fun i hi => (ordOk_iff l js i).2 (one_loc (hh.2.2 i hi)), by have := hh.2.1; omega⟩
theorem impl_jl (l : List Task) (js : List Job) (hl : l.length ≤ 1000000000) (hj : js.length ≤ 1000000000) : impl_JobsLegal.f l js = some (decide (JL l js)) := by
  unfold impl_JobsLegal.f
  rw [set_f l]
  simp only [Option.bind_some]
  by_cases hs : SetOk l
  · rw [decide_eq_true hs, if_pos rfl, if_pos ⟨hl, hj⟩]
    congr 1
    rw [Bool.eq_iff_iff, leg_iff hs, decide_eq_true_eq]
  · rw [decide_eq_false hs, if_neg (by simp), decide_eq_false (fun h => hs h.1)]
end Go.Proofs.Ytkdfjomhichkoaa.Leg
/- The program's simulations, told by what is done, are those told by what is left. Conditions: as a pick's. -/
namespace Go.Proofs.Ytkdfjomhichkoaa.Nps
open Go.RowKit Go.Proofs.Ytkdfjomhichkoaa.P Go.Proofs.Ytkdfjomhichkoaa.Base Go.Proofs.Ytkdfjomhichkoaa.Gen Go.Proofs.Ytkdfjomhichkoaa.Set Go.Proofs.Ytkdfjomhichkoaa.Edf Go.Proofs.Ytkdfjomhichkoaa.Sim Go.Proofs.Ytkdfjomhichkoaa.Jobs Go.Proofs.YtkdfjomhichkoaaW.PrintWords Go.Proofs.YtkdfjomhichkoaaW.PrintLast
theorem best_bst (ok : Nat → Bool) (key : Nat → Int) : ∀ n, bestD ok key n = bst ok key n
  | 0 => rfl
  | n + 1 => by rw [bestD, bst, best_bst ok key n]
/-- A schedule of a rule. -/
def sch (js : List Job) (pick : List Int → Nat → Int) : List Int × List Int := ((List.range 120).map (runL pick (exs js)), finL pick (exs js) 120)
section
variable {pick : List Int → Nat → Int} {ex : List Int}
theorem st_idle {t : Nat} (h : runL pick ex t = -1) : stL pick ex (t + 1) = stL pick ex t ∧ finL pick ex (t + 1) = finL pick ex t := by
  have h' : pick (stL pick ex t) t = -1 := h
  constructor
  · rw [stL, h']; rfl
  · rw [finL, h]; rfl
theorem st_run {t i : Nat} (h : runL pick ex t = (i : Int)) (hi : i < ex.length) : stL pick ex (t + 1) = (stL pick ex t).set i (rd (stL pick ex t) (i : Int) - 1) ∧
    finL pick ex (t + 1) = if rd (stL pick ex t) (i : Int) - 1 = 0 then (finL pick ex t).set i ((t : Int) + 1) else finL pick ex t := by
  have h' : pick (stL pick ex t) t = (i : Int) := h
  have e : stL pick ex (t + 1) = (stL pick ex t).set i (rd (stL pick ex t) (i : Int) - 1) := by
    rw [stL, h']
    unfold stepL
    rw [if_neg (by omega), Int.toNat_natCast]
  refine ⟨e, ?_⟩
  rw [finL, h, e, rd_set_eq _ _ _ (by rw [stL_len]; exact hi), Int.toNat_natCast]
  by_cases hz : rd (stL pick ex t) (i : Int) - 1 = 0
  · rw [if_pos ⟨by omega, hz⟩, if_pos hz]
  · rw [if_neg (fun h => hz h.2), if_neg hz]
end
/-- A rule told by what is done agrees with one told by what is left. -/
def Agree (js : List Job) (pk : List Int → Int → Int) (pick : List Int → Nat → Int) : Prop :=
  ∀ (dn left : List Int) (t : Nat), dn.length = js.length → left.length = js.length → (∀ i, i < js.length → rd left (i : Int) = rd (exs js) (i : Int) - rd dn (i : Int)) → pk dn (t : Int) = pick left t
theorem sim_rel {js : List Job} {pk : List Int → Int → Int} {pick : List Int → Nat → Int} {rel : Nat → Int} (ha : Agree js pk pick) (hp : Picks rel js.length pick) (hex : ∀ i, i < js.length → 1 ≤ rd (exs js) (i : Int) ∧ rd (exs js) (i : Int) ≤ 8) : ∀ t,
    (∀ i, i < js.length → rd (stL pick (exs js) t) (i : Int) = rd (exs js) (i : Int) - rd (simT pk js t).1 (i : Int)) ∧ (simT pk js t).2 = finL pick (exs js) t := by
  have hel : (exs js).length = js.length := exs_len js
  have hS := sch_of (pick := pick) (ex := exs js) (rel := rel) (by rw [hel]; exact hp) (fun i hi => (hex i (by omega)).1)
  intro t
  induction t with
  | zero =>
    refine ⟨fun i hi => ?_, ?_⟩
    · rw [stL, simT, rd_at (List.replicate js.length 0) i (by simpa using hi), List.getElem_replicate]; omega
    · rw [finL, simT, hel]
  | succ t ih =>
    have hsl := simT_len pk js t
    have hstl : (stL pick (exs js) t).length = js.length := by rw [stL_len, hel]
    have hrun : pk (simT pk js t).1 (t : Int) = runL pick (exs js) t := ha _ _ t hsl.1 hstl ih.1
    rcases hp _ t hstl with h | ⟨j, hj, h, _, hpos⟩
    · have h : runL pick (exs js) t = -1 := h
      have e := st_idle h
      rw [e.1, e.2, simT_idle (by rw [hrun, h])]
      exact ih
    · have h : runL pick (exs js) t = (j : Int) := h
      have e := st_run h (by rw [hel]; exact hj)
      have hd := ih.1 j hj
      have hx := hex j hj
      have hle := hS.le_ex t j (by rw [hel]; exact hj)
      have hf3 : (jrd js j).f3 = rd (exs js) (j : Int) := (exs_rd js j hj).symm
      have es := simT_runs (pk := pk) (js := js) (t := t) (b := j) (by rw [hrun, h]) rfl hf3
      rw [w64 (x := rd (simT pk js t).1 (j : Int) + 1) (by omega) (by omega)] at es
      rw [es, e.1, e.2]
      refine ⟨fun i hi => ?_, ?_⟩
      · by_cases eij : i = j
        · subst eij
          simp only
          rw [rd_set_eq _ _ _ (by omega), rd_set_eq _ _ _ (by omega)]; omega
        · simp only
          rw [rd_set_ne _ _ _ _ eij, rd_set_ne _ _ _ _ eij]
          exact ih.1 i hi
      · simp only
        rw [ih.2]
        by_cases hz : rd (stL pick (exs js) t) (j : Int) - 1 = 0
        · rw [if_pos hz, if_pos (by omega)]
        · rw [if_neg hz, if_neg (by omega)]
theorem sim_sch {js : List Job} {pk : List Int → Int → Int} {pick : List Int → Nat → Int} {rel : Nat → Int} (ha : Agree js pk pick) (hp : Picks rel js.length pick) (hex : ∀ i, i < js.length → 1 ≤ rd (exs js) (i : Int) ∧ rd (exs js) (i : Int) ≤ 8) : simR pk js = sch js pick := by
  have hr := sim_rel ha hp hex
  unfold simR sch
  rw [(hr 120).2]
  congr 1
  apply List.map_congr_left
  intro t _
  have hsl := simT_len pk js t
  exact ha _ _ t hsl.1 (by rw [stL_len, exs_len]) (hr t).1
theorem rdy_eq {js : List Job} {dn left : List Int} {t : Nat} {i : Nat} (hi : i < js.length) (h : rd left (i : Int) = rd (exs js) (i : Int) - rd dn (i : Int)) : rdyD js dn (t : Int) i = rdyb js left t i := by
  unfold rdyD rdyb
  rw [exs_rd js i hi] at h
  have e : jrd js i = rj js i := rfl
  rw [e, Bool.eq_iff_iff, Bool.and_eq_true, decide_eq_true_eq, decide_eq_true_eq, decide_eq_true_eq]
  omega
theorem edf_agree (js : List Job) : Agree js (edfD js) (edfp js) := by
  intro dn left t h1 h2 h3
  unfold edfD edfp
  rw [best_bst]
  exact bst_congr (fun i hi => rdy_eq hi (h3 i hi)) (fun i _ => rfl)
theorem start_agree (js : List Job) {dn left : List Int} {t : Nat} (h3 : ∀ i, i < js.length → rd left (i : Int) = rd (exs js) (i : Int) - rd dn (i : Int)) : startD js dn (t : Int) = startp js left t := by
  unfold startD startp
  rw [best_bst]
  refine bst_congr (fun i hi => ?_) (fun i _ => rfl)
  have := h3 i hi
  rw [exs_rd js i hi] at this
  rw [rdy_eq hi (h3 i hi)]
  congr 1
  rw [decide_eq_decide]; omega
theorem np_agree (js : List Job) : Agree js (npD js) (npp js) := by
  intro dn left t h1 h2 h3
  unfold npD npp
  rw [start_agree js h3, edf_agree js dn left t h1 h2 h3]
theorem exs_bd {l : List Task} {js : List Job} (h : JL l js) : ∀ i, i < js.length → 1 ≤ rd (exs js) (i : Int) ∧ rd (exs js) (i : Int) ≤ 8 := fun i hi => by
  have h1 := h.pos i (by rw [exs_len]; exact hi)
  have h2 := h.ex_le i hi
  have h3 := task_ok h.1 (tki js i) (h.tkm i hi).1
  omega
theorem np_sim {l : List Task} {js : List Job} (h : JL l js) : simR (npD js) js = sch js (npp js) := sim_sch (np_agree js) (by have := npp_picks js; rwa [exs_len] at this) (exs_bd h)
/-! ### the reference's parts -/
def keys (js : List Job) : List Int := js.map (fun j => j.f2)
theorem keys_len (js : List Job) : (keys js).length = js.length := by unfold keys; rw [List.length_map]
theorem keys_rd (js : List Job) (i : Nat) (h : i < js.length) : rd (keys js) (i : Int) = dl js i := by
  unfold dl
  rw [rd_at _ i (by rw [keys_len]; exact h), rj_at js i h]
  unfold keys
  rw [List.getElem_map]
theorem rjT (js : List Job) (i : Nat) : rd_T34 js (i : Int) = rj js i := rfl
theorem map_take {α β : Type} (f : α → β) (l : List α) (i : Nat) (h : i < l.length) : (l.take (i + 1)).map f = (l.take i).map f ++ [f l[i]] := by
  rw [List.take_succ_eq_append_getElem h, List.map_append]
  rfl
theorem keys_ev (js : List Job) (hn : js.length ≤ 1000) : Ev (fun k => spec_l3Deadlines.f k js) (keys js) := by
  have loop : ∀ d i, i + d = js.length → Ev (fun k => spec_l3Deadlines.l0 k js ((js.take i).map (fun j => j.f2)) (i : Int)) (keys js) := by
    intro d
    induction d with
    | zero =>
      intro i hi
      refine Ev.step (f := fun _ => some (keys js)) (fun k => ?_) (Ev.now _)
      simp only [spec_l3Deadlines.l0]
      rw [if_neg (by omega), List.take_of_length_le (by omega)]
      rfl
    | succ d ih =>
      intro i hi
      have hil : i < js.length := by omega
      refine Ev.step (fun k => ?_) (ih (i + 1) (by omega))
      simp only [spec_l3Deadlines.l0]
      rw [if_pos (by omega), if_pos (by omega), if_pos (by rw [List.length_map, List.length_take]; omega), rjT, rj_at js i hil, map_take _ _ _ hil, w64 (by omega) (by omega)]
      rfl
  have := loop js.length 0 (by omega)
  exact this
theorem best_ev (js : List Job) (left : List Int) (t : Nat) (hn : js.length ≤ 1000) (hl : left.length = js.length) : Ev (fun k => spec_l3Best.f k js left (keys js) (t : Int)) (edfp js left t) := by
  have hk := keys_len js
  have loop : ∀ d i, i + d = js.length → Ev (fun k => spec_l3Best.l0 k js left (keys js) (t : Int) (bst (rdyb js left t) (dl js) i) (i : Int)) (edfp js left t) := by
    intro d
    induction d with
    | zero =>
      intro i hi
      obtain rfl : i = js.length := by omega
      refine Ev.step (f := fun _ => some (edfp js left t)) (fun k => ?_) (Ev.now _)
      simp only [spec_l3Best.l0]
      rw [if_neg (by omega)]
      rfl
    | succ d ih =>
      intro i hi
      have hil : i < js.length := by omega
      have hb := bst_sp (rdyb js left t) (dl js) i
      refine Ev.step (fun k => ?_) (ih (i + 1) (by omega))
      simp only [spec_l3Best.l0]
      rw [if_pos (by omega), if_pos (by omega), rjT, w64 (by omega) (by omega)]
      have e1 : ((i : Int) + 1) = ((i + 1 : Nat) : Int) := by omega
      rw [e1, bst]
      by_cases h1 : (rj js i).f1 ≤ (t : Int)
      · rw [if_pos h1, if_pos (by omega)]
        by_cases h2 : 0 < rd left (i : Int)
        · have hok : rdyb js left t i = true := by unfold rdyb; exact decide_eq_true ⟨h1, h2⟩
          rw [if_pos (show rd left (i : Int) > 0 from h2)]
          rcases hb with ⟨h3, _⟩ | ⟨b, h3, h4, _⟩
          · rw [h3, if_pos (by omega), if_pos ⟨hok, Or.inl (by omega)⟩]
          · rw [h4, if_neg (by omega), if_pos (by omega), if_pos (by omega), if_pos (by omega), keys_rd js i hil, keys_rd js b (by omega), Int.toNat_natCast]
            by_cases h5 : dl js i < dl js b
            · rw [if_pos h5, if_pos ⟨hok, Or.inr h5⟩]
            · rw [if_neg h5, if_neg (fun h => h.2.elim (fun h6 => by omega) h5)]
        · have hok : rdyb js left t i = false := by unfold rdyb; exact decide_eq_false (fun h => h2 h.2)
          rw [if_neg (show ¬ rd left (i : Int) > 0 from h2), if_neg (fun h => by rw [hok] at h; cases h.1)]
      · have hok : rdyb js left t i = false := by unfold rdyb; exact decide_eq_false (fun h => h1 h.1)
        rw [if_neg h1, if_neg (fun h => by rw [hok] at h; cases h.1)]
  have := loop js.length 0 (by omega)
  exact this
end Go.Proofs.Ytkdfjomhichkoaa.Nps
-- Laid by a program of this work.
namespace Go.Proofs.Ytkdfjomhichkoaa.P
open Go.RowKit Go.Proofs.YtkdfjomhichkoaaW.PrintWords Go.Proofs.YtkdfjomhichkoaaW.PrintLast Go.Proofs.YtkdfjomhichkoaaW.PrintMore
attribute [local go_sem] max2_int min2_int max_two min_two max_three min_three max_four min_four   -- for this text's walks alone
set_option linter.unusedVariables false
set_option linter.unusedSimpArgs false

/-! ### impl_RunEdf: function 16: by hand -/
def impl_RunEdf.f (l0 : List S88) (l1 : List S34) : Option (List Int × List Int) := (impl_JobsLegal.f l0 l1).bind fun t => (if t = true then (if l1.length ≤ 1000 then (some (simR (edfD l1) l1)) else (none)) else (some ([], [])))
set_option maxHeartbeats 8000000 in
set_option maxRecDepth 100000 in
theorem impl_RunEdf.calls (A0 : Option Addr) (c0 : Nat) (l0 : List S88) (A1 : Option Addr) (c1 : Nat) (l1 : List S34) (r1 : List Int) (r2 : List Int) (w : World) (hr0 : Kd.C k88 w A0 l0.length l0) (hc0 : l0.length ≤ c0) (hr1 : Kd.C k34 w A1 l1.length l1) (hc1 : l1.length ≤ c1) (h : impl_RunEdf.f l0 l1 = some (r1, r2)) :
    Calls Try.prog 16 #[.slice A0 l0.length c0, .slice A1 l1.length c1] w fun e w' => ∃ v0_ v1_ : Value, e = .returned (.agg #[v0_, v1_]) ∧ Kd.R (Kd.int .i64) 3 w' w.heap.size (fun k_ => some k_ ≠ (v1_ : Value).ownBlock) v0_ r1 ∧ Kd.R (Kd.int .i64) 3 w' w.heap.size (fun k_ => some k_ ≠ (v0_ : Value).ownBlock) v1_ r2 ∧ Below w.heap.size w w' := by
  unfold impl_RunEdf.f at h
  have HR0 := Aside0.mk hr0
  have HC0 := Aside0.mk hc0
  have HR1 := Aside0.mk hr1
  have HC1 := Aside0.mk hc1
  clear hr0 hc0 hr1 hc1
  cases hs : impl_JobsLegal.f l0 l1 with
  | none => rw [hs] at h; simp at h
  | some t =>
    rw [hs] at h
    have HS := Aside0.mk hs
    clear hs
    have B0 := Aside0.mk (below_alloc (Below.refl w.heap.size w) (.cells #[.slice none 0 0, .slice none 0 0] 29))
    have K0 := Aside0.mk (blk_new w (.cells #[.slice none 0 0, .slice none 0 0] 29))
    cases t with
    | false =>
      simp at h
      obtain ⟨rfl, rfl⟩ := h
      go_enter Try.func16, Try.ntmps16
      go_wp2_with (go_at_call 48; refine (impl_JobsLegal.calls A0 c0 l0 A1 c1 l1 false _ (Kd.C_below HR0.out B0.out) HC0.out (Kd.C_below HR1.out B0.out) HC1.out HS.out).mono ?_; rintro e w1 ⟨rfl, hb⟩; have BK1 := blk_below K0.out hb; have r0 := (blk_cell BK1 0); have r1 := (blk_cell BK1 1); have f0 := blk_frozen BK1 0; have f1 := blk_frozen BK1 1; have BK := Aside0.mk BK1; have HB := Aside0.mk (below_step B0.out hb); clear hb BK1)
      refine bodyPost_ret (results_cell_row rfl _ _ w.heap.size 29 #[.slice none 0 0, .slice none 0 0] (0, 0) _ rfl (by first | exact BK.out | (refine blk_put (cs := #[.slice none 0 0, .slice none 0 0]) ?_ 1 _ rfl; refine blk_put (cs := #[.slice none 0 0, .slice none 0 0]) ?_ 0 _ rfl; exact BK.out)) Try.underlying29 rfl (by kernel_rfl)) rfl ?_
      exact ⟨_, _, rfl, Kd.R_nil _ _ _ _ _, Kd.R_nil _ _ _ _ _, by first | exact HB.out | exact (HB.out.setCell (Nat.le_refl _) _).setCell (Nat.le_refl _) _⟩
    | true =>
      simp only [Option.bind_some, if_true] at h
      by_cases hl : l1.length ≤ 1000
      · rw [if_pos hl] at h
        have h := Option.some.inj h
        have e1 := congrArg Prod.fst h
        have e2 := congrArg Prod.snd h
        simp only at e1 e2
        subst e1 e2
        clear h
        have S0 := Aside0.mk (show w.heap.size < (w.alloc (.cells #[.slice none 0 0, .slice none 0 0] 29)).heap.size by simp)
        have HSM := Aside0.mk (fun (W : World) (hb1 : Below (w.alloc (.cells #[.slice none 0 0, .slice none 0 0] 29)).heap.size (w.alloc (.cells #[.slice none 0 0, .slice none 0 0] 29)) W) => simulate_calls (edfD l1) 54 #[] #[] (enters_of Try.func54 (by kernel_rfl) rfl) A1 c1 l1 W (Kd.C_below (Kd.C_below HR1.out B0.out) hb1) hl (edfD_rng l1)
          (fun W2 g D cd dn t htl hb hM => edf_calls g A1 c1 l1 D cd dn (t : Int) W2 hM))
        go_enter Try.func16, Try.ntmps16
        go_wp2_with (first
          | (go_at_call 48; refine (impl_JobsLegal.calls A0 c0 l0 A1 c1 l1 true _ (Kd.C_below HR0.out B0.out) HC0.out (Kd.C_below HR1.out B0.out) HC1.out HS.out).mono ?_; rintro e w1 ⟨rfl, hb⟩; have HB := Aside0.mk hb; have BK1 := Aside0.mk (blk_below K0.out hb); clear hb)
          | (go_at_call 49; refine (HSM.out w1 HB.out).mono ?_; rintro e w2 ⟨v0, v1, rfl, hR0, hR1, hb⟩; obtain ⟨X0, y0, ev⟩ := Kd.R_slice hR0; subst ev; obtain ⟨X1, y1, ev⟩ := Kd.R_slice hR1; subst ev; have H0 := Aside0.mk hR0; have H1 := Aside0.mk hR1; have S1 := Aside0.mk (Nat.lt_of_lt_of_le S0.out HB.out.size); have HB2 := Aside0.mk (below_then B0.out B0.out.size (below_then HB.out HB.out.size hb)); have BK2 := blk_below BK1.out hb; have r0 := (blk_cell BK2 0); have r1 := (blk_cell BK2 1); have f0 := blk_frozen BK2 0; have f1 := blk_frozen BK2 1; have BK := Aside0.mk BK2; clear hR0 hR1 hb BK2))
        refine bodyPost_ret (results_cell_row rfl _ _ w.heap.size 29 #[.slice X0 (simR (edfD l1) l1).1.length y0, .slice X1 (simR (edfD l1) l1).2.length y1] (0, 0) _ rfl (by refine blk_put (cs := #[.slice X0 (simR (edfD l1) l1).1.length y0, .slice none 0 0]) ?_ 1 _ rfl; refine blk_put (cs := #[.slice none 0 0, .slice none 0 0]) ?_ 0 _ rfl; exact BK.out) Try.underlying29 rfl (by kernel_rfl)) rfl ?_
        exact ⟨_, _, rfl, Kd.R_lower (Kd.R_mono (R_cells2 S1.out H0.out _ _) (fun k hk => hk.2)) (Nat.le_of_lt S1.out), Kd.R_lower (Kd.R_mono (R_cells2 S1.out H1.out _ _) (fun k hk => hk.2)) (Nat.le_of_lt S1.out), (HB2.out.setCell (Nat.le_refl _) _).setCell (Nat.le_refl _) _⟩
      · rw [if_neg hl] at h
        cases h

end Go.Proofs.Ytkdfjomhichkoaa.P
/- The reference's test of a task set is the plain one. Condition: the row is not too long. -/
namespace Go.Proofs.Ytkdfjomhichkoaa.Tm
open Go.RowKit Go.Proofs.Ytkdfjomhichkoaa.P Go.Proofs.Ytkdfjomhichkoaa.Base Go.Proofs.Ytkdfjomhichkoaa.Gen Go.Proofs.Ytkdfjomhichkoaa.Alive Go.Proofs.Ytkdfjomhichkoaa.Set Go.Proofs.YtkdfjomhichkoaaW.PrintWords Go.Proofs.YtkdfjomhichkoaaW.PrintLast
theorem rdT_at (l : List Task) (i : Nat) (h : i < l.length) : rd_T88 l (i : Int) = l[i] := by
  unfold rd_T88
  rw [List.getD_eq_getElem?_getD, Int.toNat_natCast, List.getElem?_eq_getElem h]
  rfl
theorem stv_f (c d p : Int) : spec_TaskValid.f c d p = some (decide (TV c d p)) := by
  unfold spec_TaskValid.f
  rw [l1In_f, l1In_f, l1In_f, and_bind, and_bind]
  by_cases h1 : 1 ≤ c ∧ c ≤ 8
  · by_cases h2 : c ≤ d ∧ d ≤ p
    · rw [if_pos h1, if_pos h2]; simp only [Option.bind_some]; congr 1; rw [decide_eq_decide]; unfold TV; omega
    · rw [if_pos h1, if_neg h2]; congr 1; symm; rw [decide_eq_false_iff_not]; unfold TV; omega
  · rw [if_neg h1]; congr 1; symm; rw [decide_eq_false_iff_not]; unfold TV; omega
theorem sset_ev (l : List Task) (hl : l.length ≤ 2097152) : Ev (fun k => spec_SetValid.f k l) (decide (SetOk l)) := by
  have loop : ∀ d i, i + d = l.length → (∀ j (h : j < l.length), j < i → TVt l[j]) → Ev (fun k => spec_SetValid.l0 k l (i : Int)) (decide (SetOk l)) := by
    intro d
    induction d with
    | zero =>
      intro i hi hm
      have ha : ∀ t ∈ l, TVt t := by
        intro t ht
        obtain ⟨j, hj, rfl⟩ := List.mem_iff_getElem.1 ht
        exact hm j hj (by omega)
      refine Ev.step (f := fun _ => some (decide (SetOk l))) (fun k => ?_) (Ev.now _)
      simp only [spec_SetValid.l0]
      rw [if_neg (by omega)]
      congr 1
      rw [decide_eq_decide]
      unfold SetOk
      exact ⟨fun h => ⟨by omega, ha⟩, fun h => by omega⟩
    | succ d ih =>
      intro i hi hm
      have hil : i < l.length := by omega
      by_cases hv : TVt l[i]
      · refine Ev.step (fun k => ?_) (ih (i + 1) (by omega) (fun j hj hji => ?_))
        · have hv' : TV l[i].f0 l[i].f1 l[i].f2 := hv
          simp only [spec_SetValid.l0]
          rw [if_pos (by omega), if_pos (by omega), rdT_at l i hil, stv_f, decide_eq_true hv', w64 (by omega) (by omega)]
          rfl
        · by_cases e : j = i
          · subst e; exact hv
          · exact hm j hj (by omega)
      · rw [decide_eq_false (fun h => hv (h.2 _ (List.getElem_mem hil)))]
        have hv' : ¬ TV l[i].f0 l[i].f1 l[i].f2 := hv
        refine Ev.step (f := fun _ => some false) (fun k => ?_) (Ev.now _)
        simp only [spec_SetValid.l0]
        rw [if_pos (by omega), if_pos (by omega), rdT_at l i hil, stv_f, decide_eq_false hv']
        rfl
  exact loop l.length 0 (by omega) (fun j _ h => by omega)
end Go.Proofs.Ytkdfjomhichkoaa.Tm
/- The reference's test of a release pattern is the plain one. Condition: the rows are not too long. -/
namespace Go.Proofs.Ytkdfjomhichkoaa.Leg
open Go.RowKit Go.Proofs.Ytkdfjomhichkoaa.P Go.Proofs.Ytkdfjomhichkoaa.Base Go.Proofs.Ytkdfjomhichkoaa.Gen Go.Proofs.Ytkdfjomhichkoaa.Alive Go.Proofs.Ytkdfjomhichkoaa.Set Go.Proofs.Ytkdfjomhichkoaa.Tm Go.Proofs.Ytkdfjomhichkoaa.Edf Go.Proofs.Ytkdfjomhichkoaa.Sim Go.Proofs.Ytkdfjomhichkoaa.Jobs Go.Proofs.YtkdfjomhichkoaaW.PrintWords Go.Proofs.YtkdfjomhichkoaaW.PrintLast
/-- The row of the next releases that are allowed. -/
def nx (l : List Task) (js : List Job) (i : Nat) (k : Nat) : Int := match lastOf js i (k : Int) with
  | none => 0
  | some b => b + (tk l (k : Int)).f2
theorem rjI (js : List Job) (i : Nat) : rd_T34 js (i : Int) = rj js i := rfl
theorem tkI (l : List Task) (i : Int) : rd_T88 l i = tk l i := rfl
theorem spec_jl (l : List Task) (js : List Job) (hl : l.length ≤ 2097152) (hj : js.length ≤ 2097152) : Ev (fun k => spec_JobsLegal.f k l js) (decide (JL l js)) := by
  unfold spec_JobsLegal.f
  refine Ev.bind (sset_ev l hl) ?_
  have bad : ¬ JL l js → Ev (fun k => spec_JobsLegal.j0 k l js true) (decide (JL l js)) := fun h => by
    rw [decide_eq_false h]
    exact Ev.step (f := fun _ => some false) (fun k => by simp [spec_JobsLegal.j0]) (Ev.now _)
  by_cases hs : SetOk l
  · simp only [decide_eq_true hs, if_true]
    by_cases h60 : js.length ≤ 60
    · have hno : ¬ (js.length : Int) > 60 := by omega
      rw [decide_eq_false hno]
      have hl5 := hs.1
      have loop : ∀ d i (y : List Int), i + d = js.length → (∀ p, p < i → One l js p) → y.length = l.length → (∀ k : Nat, k < l.length → rd y (k : Int) = nx l js i k) → Ev (fun k => spec_JobsLegal.l0 k l js y (i : Int)) (decide (JL l js)) := by
        intro d
        induction d with
        | zero =>
          intro i y hi hp _ _
          rw [decide_eq_true (show JL l js from ⟨hs, h60, fun p hpl => hp p (by omega)⟩)]
          refine Ev.step (f := fun _ => some true) (fun k => ?_) (Ev.now _)
          simp only [spec_JobsLegal.l0]
          rw [if_neg (by omega)]
        | succ d ih =>
          intro i y hi hp hy hr
          have hil : i < js.length := by omega
          -- the ways out
          have out : ¬ One l js i → decide (JL l js) = false := fun h => decide_eq_false (fun hh => h (hh.2.2 i hil))
          have no2 : ¬ One l js i → ∀ a b c e, Ev (fun k => spec_JobsLegal.j2 k l js y (i : Int) true a b c e) (decide (JL l js)) := fun h a b c e => by
            rw [out h]
            exact Ev.step (f := fun _ => some false) (fun k => by simp [spec_JobsLegal.j2]) (Ev.now _)
          have no3 : ¬ One l js i → ∀ a b c e u v z, Ev (fun k => spec_JobsLegal.j3 k l js y (i : Int) true a b c e u v z) (decide (JL l js)) := fun h a b c e u v z => by
            rw [out h]
            exact Ev.step (f := fun _ => some false) (fun k => by simp [spec_JobsLegal.j3]) (Ev.now _)
          have w1 : wrap64 ((l.length : Int) - 1) = (l.length : Int) - 1 := w64 (by omega) (by omega)
          by_cases h1 : 0 ≤ (rj js i).f0 ∧ (rj js i).f0 ≤ (l.length : Int) - 1
          · by_cases h2 : 0 ≤ (rj js i).f1 ∧ (rj js i).f1 ≤ 119
            · have ht := tk_ok hs (rj js i).f0 h1.1 (by omega)
              obtain ⟨q, hq⟩ : ∃ q : Nat, (rj js i).f0 = (q : Int) := ⟨(rj js i).f0.toNat, by omega⟩
              have hql : q < l.length := by omega
              have hnx := hr q hql
              have hlast := lastOf_sp js (q : Int) i
              -- the distance
              have dist : (rj js i).f1 < rd y (q : Int) ↔ ¬ ∀ p, p < i → (rj js p).f0 = (rj js i).f0 → (rj js p).f1 + (tk l (rj js i).f0).f2 ≤ (rj js i).f1 := by
                rw [hnx, hq]
                unfold nx
                rcases hlast with ⟨h3, h4⟩ | ⟨p, h3, h4, h5, h6⟩
                · rw [h3]
                  simp only
                  constructor
                  · intro h7; omega
                  · intro h7
                    exact absurd (fun p hp2 he => absurd he (h4 p hp2)) h7
                · rw [h5]
                  simp only
                  constructor
                  · intro h7 h8
                    have := h8 p h3 h4; omega
                  · intro h7
                    apply Classical.byContradiction
                    intro h8
                    refine h7 (fun p2 hp2 he => ?_)
                    have h9 : p2 ≤ p := by
                      apply Classical.byContradiction
                      intro hc
                      exact h6 p2 (by omega) hp2 he
                    have := mono_rel (l := l) (n := i) (fun a ha => one_loc (hp a ha)) p p2 h9 h3
                    omega
              have step2 : Ev (fun k => spec_JobsLegal.j2 k l js y (i : Int) false (rj js i).f0 (rj js i).f1 (rj js i).f2 (rj js i).f3) (decide (JL l js)) := by
                have go : ∀ b : Bool, (b = true → ¬ One l js i) → (b = false → (1 ≤ (rj js i).f3 ∧ (rj js i).f3 ≤ (tk l (rj js i).f0).f0) ∧ (rj js i).f2 = (rj js i).f1 + (tk l (rj js i).f0).f1 ∧ ∀ p, p < i → (rj js p).f0 = (rj js i).f0 → (rj js p).f1 + (tk l (rj js i).f0).f2 ≤ (rj js i).f1) →
                    Ev (fun k => spec_JobsLegal.j3 k l js y (i : Int) b (rj js i).f0 (rj js i).f1 (rj js i).f2 (rj js i).f3 (tk l (rj js i).f0).f0 (tk l (rj js i).f0).f1 (tk l (rj js i).f0).f2) (decide (JL l js)) := by
                  intro b hb1 hb2
                  cases b with
                  | true => exact no3 (hb1 rfl) _ _ _ _ _ _ _
                  | false =>
                    obtain ⟨h3, h4, h5⟩ := hb2 rfl
                    have fin : One l js i → Ev (fun k => spec_JobsLegal.l0 k l js (y.set q ((rj js i).f1 + (tk l (rj js i).f0).f2)) (wrap64 ((i : Int) + 1))) (decide (JL l js)) := by
                      intro hone
                      rw [show wrap64 ((i : Int) + 1) = ((i + 1 : Nat) : Int) by rw [w64 (by omega) (by omega)]; omega]
                      refine ih (i + 1) _ (by omega) (fun p hp2 => ?_) (by rw [List.length_set]; exact hy) (fun k hk => ?_)
                      · by_cases e : p = i
                        · subst e; exact hone
                        · exact hp p (by omega)
                      · unfold nx
                        rw [lastOf]
                        have ej : jrd js i = rj js i := rfl
                        rw [ej]
                        by_cases e : k = q
                        · subst e
                          rw [rd_set_eq _ _ _ (by omega), if_pos hq, hq]
                        · rw [rd_set_ne _ _ _ _ e, if_neg (by omega), hr k hk]
                          rfl
                    have hset : wrap64 ((rj js i).f1 + (tk l (rj js i).f0).f2) = (rj js i).f1 + (tk l (rj js i).f0).f2 := w64 (by omega) (by omega)
                    have htn : (rj js i).f0.toNat = q := by omega
                    by_cases h0 : i = 0
                    · refine Ev.step (fun k => ?_) (fin ⟨by omega, h2, h3, h4, fun h => by omega, h5⟩)
                      simp only [spec_JobsLegal.j3]
                      rw [if_neg (by simp), if_neg (by omega), if_pos (by omega), if_pos (by omega), hset, htn]
                    · have e1 : wrap64 ((i : Int) - 1) = ((i - 1 : Nat) : Int) := by rw [w64 (by omega) (by omega)]; omega
                      by_cases h6 : (rj js (i - 1)).f1 > (rj js i).f1
                      · have hn : ¬ One l js i := fun h => by have := h.2.2.2.2.1 (by omega); omega
                        rw [out hn]
                        refine Ev.step (f := fun _ => some false) (fun k => ?_) (Ev.now _)
                        simp only [spec_JobsLegal.j3]
                        rw [if_neg (by simp), if_pos (by omega), e1, if_pos (by omega), if_pos (by omega), rjI, if_pos h6]
                      · by_cases h7 : (rj js (i - 1)).f1 = (rj js i).f1
                        · by_cases h8 : (rj js (i - 1)).f0 ≥ (rj js i).f0
                          · have hn : ¬ One l js i := fun h => by have := h.2.2.2.2.1 (by omega); omega
                            rw [out hn]
                            refine Ev.step (f := fun _ => some false) (fun k => ?_) (Ev.now _)
                            simp only [spec_JobsLegal.j3]
                            rw [if_neg (by simp), if_pos (by omega), e1, if_pos (by omega), if_pos (by omega), rjI, if_neg h6, if_pos h7, if_pos h8]
                          · refine Ev.step (fun k => ?_) (fin ⟨by omega, h2, h3, h4, fun _ => Or.inr ⟨h7, by omega⟩, h5⟩)
                            simp only [spec_JobsLegal.j3]
                            rw [if_neg (by simp), if_pos (by omega), e1, if_pos (by omega), if_pos (by omega), rjI, if_neg h6, if_pos h7, if_neg h8, if_pos (by omega), if_pos (by omega), hset, htn]
                        · refine Ev.step (fun k => ?_) (fin ⟨by omega, h2, h3, h4, fun _ => Or.inl (by omega), h5⟩)
                          simp only [spec_JobsLegal.j3]
                          rw [if_neg (by simp), if_pos (by omega), e1, if_pos (by omega), if_pos (by omega), rjI, if_neg h6, if_neg h7, if_pos (by omega), if_pos (by omega), hset, htn]
                have hwd : wrap64 ((rj js i).f1 + (tk l (rj js i).f0).f1) = (rj js i).f1 + (tk l (rj js i).f0).f1 := w64 (by omega) (by omega)
                by_cases h3 : (rj js i).f1 < rd y (rj js i).f0
                · refine Ev.step (fun k => ?_) (go true (fun _ h => ?_) (fun h => by cases h))
                  · simp only [spec_JobsLegal.j2]
                    rw [if_neg (by simp), if_pos (by omega), if_pos (by omega), if_pos (by omega), if_pos h3]
                    rfl
                  · rw [hq] at h3
                    exact dist.1 h3 h.2.2.2.2.2
                · have h3' : ∀ p, p < i → (rj js p).f0 = (rj js i).f0 → (rj js p).f1 + (tk l (rj js i).f0).f2 ≤ (rj js i).f1 := by
                    apply Classical.byContradiction
                    intro hc
                    exact h3 (by rw [hq]; exact dist.2 hc)
                  by_cases h4 : (rj js i).f2 = (rj js i).f1 + (tk l (rj js i).f0).f1
                  · by_cases h5 : 1 ≤ (rj js i).f3 ∧ (rj js i).f3 ≤ (tk l (rj js i).f0).f0
                    · refine Ev.step (fun k => ?_) (go false (fun h => by cases h) (fun _ => ⟨h5, h4, h3'⟩))
                      simp only [spec_JobsLegal.j2]
                      rw [if_neg (by simp), if_pos (by omega), if_pos (by omega), if_pos (by omega), if_neg h3, tkI, hwd, if_pos h4, l1In_f, decide_eq_true h5]
                      rfl
                    · refine Ev.step (fun k => ?_) (go true (fun _ h => h5 h.2.2.1) (fun h => by cases h))
                      simp only [spec_JobsLegal.j2]
                      rw [if_neg (by simp), if_pos (by omega), if_pos (by omega), if_pos (by omega), if_neg h3, tkI, hwd, if_pos h4, l1In_f, decide_eq_false h5]
                      rfl
                  · refine Ev.step (fun k => ?_) (go true (fun _ h => h4 h.2.2.2.1) (fun h => by cases h))
                    simp only [spec_JobsLegal.j2]
                    rw [if_neg (by simp), if_pos (by omega), if_pos (by omega), if_pos (by omega), if_neg h3, tkI, hwd, if_neg h4]
              refine Ev.step (fun k => ?_) step2
              simp only [spec_JobsLegal.l0]
              rw [if_pos (by omega), if_pos (by omega), rjI, w1, l1In_f, decide_eq_true h1]
              simp only [Option.bind_some, if_true]
              rw [l1In_f, decide_eq_true h2]
              rfl
            · refine Ev.step (fun k => ?_) (no2 (fun h => h2 h.2.1) (rj js i).f0 (rj js i).f1 (rj js i).f2 (rj js i).f3)
              simp only [spec_JobsLegal.l0]
              rw [if_pos (by omega), if_pos (by omega), rjI, w1, l1In_f, decide_eq_true h1]
              simp only [Option.bind_some, if_true]
              rw [l1In_f, decide_eq_false h2]
              rfl
          · refine Ev.step (fun k => ?_) (no2 (fun h => h1 (by have := h.1; omega)) (rj js i).f0 (rj js i).f1 (rj js i).f2 (rj js i).f3)
            simp only [spec_JobsLegal.l0]
            rw [if_pos (by omega), if_pos (by omega), rjI, w1, l1In_f, decide_eq_false h1]
            rfl
      refine Ev.step (fun k => ?_) (loop js.length 0 (List.replicate l.length 0) (by omega) (fun p h => by omega) (by simp) (fun k hk => ?_))
      · simp only [spec_JobsLegal.j0]
        rw [if_neg (by simp), if_pos (by omega), if_pos (by rw [Int.toNat_natCast]; omega), Int.toNat_natCast]
        rfl
      · rw [rd_at _ k (by simpa using hk), List.getElem_replicate]
        rfl
    · rw [decide_eq_true (show (js.length : Int) > 60 by omega)]
      exact bad (fun h => h60 h.2.1)
  · simp only [decide_eq_false hs]
    exact bad (fun h => hs h.1)
end Go.Proofs.Ytkdfjomhichkoaa.Leg
/- The runs of the program and of the reference are the plain schedules: earliest deadline first, and without preemption. Condition: the rows are not too long. -/
namespace Go.Proofs.Ytkdfjomhichkoaa.Npr
open Go.RowKit Go.Proofs.Ytkdfjomhichkoaa.P Go.Proofs.Ytkdfjomhichkoaa.Base Go.Proofs.Ytkdfjomhichkoaa.Gen Go.Proofs.Ytkdfjomhichkoaa.Alive Go.Proofs.Ytkdfjomhichkoaa.Set Go.Proofs.Ytkdfjomhichkoaa.Tm Go.Proofs.Ytkdfjomhichkoaa.Edf Go.Proofs.Ytkdfjomhichkoaa.Sim Go.Proofs.Ytkdfjomhichkoaa.Jobs Go.Proofs.Ytkdfjomhichkoaa.Leg Go.Proofs.Ytkdfjomhichkoaa.Nps Go.Proofs.YtkdfjomhichkoaaW.PrintWords Go.Proofs.YtkdfjomhichkoaaW.PrintLast
noncomputable def RN (l : List Task) (js : List Job) : List Int × List Int := if JL l js then sch js (npp js) else ([], [])
theorem impl_rn (l : List Task) (js : List Job) (hl : l.length ≤ 2097152) (hj : js.length ≤ 2097152) : impl_RunNonPreemptive.f l js = some (RN l js) := by
  unfold impl_RunNonPreemptive.f RN
  rw [impl_jl l js (by omega) (by omega)]
  simp only [Option.bind_some]
  by_cases h : JL l js
  · rw [decide_eq_true h, if_pos rfl, if_pos (by have := h.2.1; omega), if_pos h, np_sim h]
  · rw [decide_eq_false h, if_neg (by simp), if_neg h]
theorem sch_len (js : List Job) (pick : List Int → Nat → Int) : (sch js pick).1.length = 120 ∧ (sch js pick).2.length = js.length := by
  unfold sch
  refine ⟨by simp, ?_⟩
  simp only
  rw [finL_len, exs_len]
theorem RN_len (l : List Task) (js : List Job) : (RN l js).1.length ≤ 120 ∧ (RN l js).2.length ≤ 60 := by
  unfold RN
  split
  · rename_i h
    have h1 := sch_len js (npp js)
    have h2 := h.2.1
    omega
  · simp
/-- What the reference carries: the job that runs on. -/
def Cur (js : List Job) (cur : Int) (t : Nat) : Prop :=
  (cur = -1 ∧ ∀ i, i < js.length → 0 < rd (stL (npp js) (exs js) t) (i : Int) → (rj js i).f3 ≤ rd (stL (npp js) (exs js) t) (i : Int)) ∨
  ∃ i : Nat, i < js.length ∧ cur = (i : Int) ∧ rel js i ≤ (t : Int) ∧ 0 < rd (stL (npp js) (exs js) t) (i : Int) ∧ rd (stL (npp js) (exs js) t) (i : Int) < (rj js i).f3 ∧
    ∀ j, j < js.length → 0 < rd (stL (npp js) (exs js) t) (j : Int) → rd (stL (npp js) (exs js) t) (j : Int) < (rj js j).f3 → j = i
theorem cur_pick {js : List Job} {cur : Int} {t : Nat} (h : Cur js cur t) : (cur < 0 → runL (npp js) (exs js) t = edfp js (stL (npp js) (exs js) t) t) ∧ (0 ≤ cur → runL (npp js) (exs js) t = cur) := by
  have hs := startp_sp js (stL (npp js) (exs js) t) t
  have e : runL (npp js) (exs js) t = if 0 ≤ startp js (stL (npp js) (exs js) t) t then startp js (stL (npp js) (exs js) t) t else edfp js (stL (npp js) (exs js) t) t := rfl
  rw [e]
  rcases h with ⟨h1, h2⟩ | ⟨i, hi, h1, h2, h3, h4, h5⟩
  · refine ⟨fun _ => ?_, fun h => by omega⟩
    rcases hs with ⟨h6, _⟩ | ⟨j, hj, h6, h7, h8, h9⟩
    · rw [if_neg (by omega)]
    · have := h2 j hj h8; omega
  · refine ⟨fun h => by omega, fun _ => ?_⟩
    rcases hs with ⟨h6, h7⟩ | ⟨j, hj, h6, h7, h8, h9⟩
    · have := h7 i hi h2 h3; omega
    · have := h5 j hj h8 h9
      rw [if_pos (by omega), h6, h1, this]
theorem cur_next {l : List Task} {js : List Job} {cur : Int} {t : Nat} (hl : JL l js) (h : Cur js cur t) : Cur js (if 0 ≤ runL (npp js) (exs js) t ∧ rd (stL (npp js) (exs js) (t + 1)) (runL (npp js) (exs js) t) ≠ 0 then runL (npp js) (exs js) t else -1) (t + 1) := by
  have hst : (stL (npp js) (exs js) t).length = js.length := by rw [stL_len, exs_len]
  have hp := npp_picks js (stL (npp js) (exs js) t) t (stL_len t)
  have hpos := hl.pos
  have hS := sch_of (npp_picks js) hpos
  have hpk := cur_pick h
  rw [exs_len] at hp
  rcases hp with hr | ⟨i, hi, hr, hrel, hliv⟩
  · have hr : runL (npp js) (exs js) t = -1 := hr
    have e := (st_idle hr).1
    rw [hr, if_neg (by omega)]
    left
    refine ⟨rfl, ?_⟩
    rw [e]
    rcases h with ⟨_, h2⟩ | ⟨i, hi, h1, _⟩
    · exact h2
    · have := hpk.2 (by omega); omega
  · have hr : runL (npp js) (exs js) t = (i : Int) := hr
    have e := (st_run hr (by rw [exs_len]; exact hi)).1
    have hle := hS.le_ex t i (by rw [exs_len]; exact hi)
    rw [exs_rd js i hi] at hle
    -- no other job has started
    have oth : ∀ j, j < js.length → j ≠ i → 0 < rd (stL (npp js) (exs js) t) (j : Int) → (rj js j).f3 ≤ rd (stL (npp js) (exs js) t) (j : Int) := by
      intro j hj hji hjl
      rcases h with ⟨_, h2⟩ | ⟨c, hc, h1, _, _, _, h5⟩
      · exact h2 j hj hjl
      · have hci : (c : Int) = (i : Int) := by rw [← h1, ← hr]; exact (hpk.2 (by omega)).symm
        apply Classical.byContradiction
        intro hcn
        have := h5 j hj hjl (by omega)
        omega
    rw [hr, e, rd_set_eq _ _ _ (by omega)]
    by_cases hz : rd (stL (npp js) (exs js) t) (i : Int) - 1 = 0
    · rw [if_neg (fun h => h.2 hz)]
      left
      refine ⟨rfl, fun j hj => ?_⟩
      rw [e]
      by_cases eij : j = i
      · subst eij
        rw [rd_set_eq _ _ _ (by omega)]
        intro h0; omega
      · rw [rd_set_ne _ _ _ _ eij]
        exact oth j hj eij
    · rw [if_pos ⟨by omega, hz⟩]
      right
      refine ⟨i, hi, rfl, by omega, ?_, ?_, fun j hj => ?_⟩
      · rw [e, rd_set_eq _ _ _ (by omega)]; omega
      · rw [e, rd_set_eq _ _ _ (by omega)]; omega
      · rw [e]
        by_cases eij : j = i
        · intro _ _; exact eij
        · rw [rd_set_ne _ _ _ _ eij]
          intro h1 h2
          have := oth j hj eij h1; omega
theorem spec_np_run {l : List Task} {js : List Job} (hl : JL l js) : Ev (fun k => spec_RunNonPreemptive.l0 k js [] (keys js) 0 []) (sch js (npp js)) := by
  have h60 := hl.2.1
  have hS := sch_of (npp_picks js) hl.pos
  have ticks : ∀ d t cur, t + d = 120 → Cur js cur t → Ev (fun k => spec_RunNonPreemptive.l1 k js (stL (npp js) (exs js) t) (keys js) cur (t : Int) ((List.range t).map (runL (npp js) (exs js))) (finL (npp js) (exs js) t)) (sch js (npp js)) := by
    intro d
    induction d with
    | zero =>
      intro t cur ht _
      obtain rfl : t = 120 := by omega
      refine Ev.step (f := fun _ => some (sch js (npp js))) (fun k => ?_) (Ev.now _)
      simp only [spec_RunNonPreemptive.l1]
      rw [if_neg (by omega)]
      rfl
    | succ d ih =>
      intro t cur ht hc
      have hpk := cur_pick hc
      have hst : (stL (npp js) (exs js) t).length = js.length := by rw [stL_len, exs_len]
      have hfl : (finL (npp js) (exs js) t).length = js.length := by rw [finL_len, exs_len]
      have hnx := cur_next hl hc
      have hw : wrap64 ((t : Int) + 1) = ((t + 1 : Nat) : Int) := by rw [w64 (by omega) (by omega)]; omega
      have hrange : (List.range (t + 1)).map (runL (npp js) (exs js)) = (List.range t).map (runL (npp js) (exs js)) ++ [runL (npp js) (exs js) t] := by rw [List.range_succ, List.map_append]; rfl
      have body : Ev (fun k => spec_RunNonPreemptive.j2 k js (stL (npp js) (exs js) t) (keys js) (runL (npp js) (exs js) t) (t : Int) ((List.range t).map (runL (npp js) (exs js))) (finL (npp js) (exs js) t)) (sch js (npp js)) := by
        have hp := npp_picks js (stL (npp js) (exs js) t) t (stL_len t)
        rw [exs_len] at hp
        rcases hp with hr | ⟨i, hi, hr, hrel, hliv⟩
        · have hr : runL (npp js) (exs js) t = -1 := hr
          have e := st_idle hr
          have hnx2 := hnx
          rw [hr, if_neg (by omega)] at hnx2
          refine Ev.step (fun k => ?_) (ih (t + 1) (-1) (by omega) hnx2)
          simp only [spec_RunNonPreemptive.j2]
          rw [if_pos (by rw [List.length_map, List.length_range]; omega), Option.bind_some, hr, if_neg (by omega), hw, e.1, e.2, hrange, hr]
        · have hr : runL (npp js) (exs js) t = (i : Int) := hr
          have e := st_run hr (by rw [exs_len]; exact hi)
          have hle := hS.le_ex t i (by rw [exs_len]; exact hi)
          have hxb := exs_bd hl i hi
          have hw2 : wrap64 (rd (stL (npp js) (exs js) t) (i : Int) - 1) = rd (stL (npp js) (exs js) t) (i : Int) - 1 := w64 (by omega) (by omega)
          have hnx2 := hnx
          rw [hr, e.1, rd_set_eq _ _ _ (by omega)] at hnx2
          by_cases hz : rd (stL (npp js) (exs js) t) (i : Int) - 1 = 0
          · rw [if_neg (fun h => h.2 hz)] at hnx2
            refine Ev.step (fun k => ?_) (ih (t + 1) (-1) (by omega) hnx2)
            simp only [spec_RunNonPreemptive.j2]
            rw [if_pos (by rw [List.length_map, List.length_range]; omega), Option.bind_some, hr, if_pos (by omega), if_pos (by omega), if_pos (by omega), Option.bind_some, hw2, Int.toNat_natCast, rd_set_eq _ _ _ (by omega), if_pos hz, if_pos (by omega), hw, e.1, e.2, if_pos hz, hrange, hr]
            rfl
          · rw [if_pos ⟨by omega, hz⟩] at hnx2
            refine Ev.step (fun k => ?_) (ih (t + 1) (i : Int) (by omega) hnx2)
            simp only [spec_RunNonPreemptive.j2]
            rw [if_pos (by rw [List.length_map, List.length_range]; omega), Option.bind_some, hr, if_pos (by omega), if_pos (by omega), if_pos (by omega), Option.bind_some, hw2, Int.toNat_natCast, rd_set_eq _ _ _ (by omega), if_neg hz, hw, e.1, e.2, if_neg hz, hrange, hr]
      by_cases hneg : cur < 0
      · have hb := best_ev js (stL (npp js) (exs js) t) t (by omega) hst
        rw [← hpk.1 hneg] at hb
        refine Ev.step (f := fun k => (spec_l3Best.f k js (stL (npp js) (exs js) t) (keys js) (t : Int)).bind fun t358 => (spec_RunNonPreemptive.j2 k js (stL (npp js) (exs js) t) (keys js) t358 (t : Int) ((List.range t).map (runL (npp js) (exs js))) (finL (npp js) (exs js) t))) (fun k => ?_) (Ev.bind hb body)
        simp only [spec_RunNonPreemptive.l1]
        rw [if_pos (by omega), if_pos hneg]
      · have hcur := hpk.2 (by omega)
        refine Ev.step (fun k => ?_) body
        simp only [spec_RunNonPreemptive.l1]
        rw [if_pos (by omega), if_neg hneg, hcur]
  have build : ∀ d i, i + d = js.length → Ev (fun k => spec_RunNonPreemptive.l0 k js ((js.take i).map (fun j => j.f3)) (keys js) (i : Int) (List.replicate i (-1))) (sch js (npp js)) := by
    intro d
    induction d with
    | zero =>
      intro i hi
      obtain rfl : i = js.length := by omega
      have h0 : Cur js (-1) 0 := by
        left
        refine ⟨rfl, fun i hi _ => ?_⟩
        rw [show stL (npp js) (exs js) 0 = exs js from rfl, exs_rd js i hi]
        exact Int.le_refl _
      refine Ev.step (fun k => ?_) (ticks 120 0 (-1) (by omega) h0)
      simp only [spec_RunNonPreemptive.l0]
      rw [if_neg (by omega), List.take_of_length_le (Nat.le_refl _)]
      have e : finL (npp js) (exs js) 0 = List.replicate js.length (-1) := by rw [finL, exs_len]
      rw [e]
      rfl
    | succ d ih =>
      intro i hi
      have hil : i < js.length := by omega
      refine Ev.step (fun k => ?_) (ih (i + 1) (by omega))
      simp only [spec_RunNonPreemptive.l0]
      rw [if_pos (by omega), if_pos (by omega), if_pos (by rw [List.length_map, List.length_take]; omega), if_pos (by rw [List.length_replicate]; omega), rjT, rj_at js i hil, map_take _ _ _ hil, w64 (by omega) (by omega), List.replicate_succ']
      rfl
  exact build js.length 0 (by omega)
theorem spec_rn (l : List Task) (js : List Job) (hl : l.length ≤ 2097152) (hj : js.length ≤ 2097152) : Ev (fun k => spec_RunNonPreemptive.f k l js) (RN l js) := by
  unfold spec_RunNonPreemptive.f
  refine Ev.bind (spec_jl l js (by omega) (by omega)) ?_
  unfold RN
  by_cases h : JL l js
  · simp only [decide_eq_true h, if_true]
    rw [if_pos h]
    exact Ev.bind (keys_ev js (by have := h.2.1; omega)) (spec_np_run h)
  · simp only [decide_eq_false h]
    rw [if_neg h]
    exact Ev.now _
end Go.Proofs.Ytkdfjomhichkoaa.Npr
/- Copies of a row of tasks. Condition: the row is not too long. -/
namespace Go.Proofs.Ytkdfjomhichkoaa.CopyTask
open Go.RowKit Go.Proofs.Ytkdfjomhichkoaa.P Go.Proofs.Ytkdfjomhichkoaa.Base Go.Proofs.Ytkdfjomhichkoaa.Gen Go.Proofs.Ytkdfjomhichkoaa.Set Go.Proofs.YtkdfjomhichkoaaW.PrintWords Go.Proofs.YtkdfjomhichkoaaW.PrintLast
abbrev LTask := S90
def cv (x : LTask) : Task := ⟨x.f0, x.f1, x.f2⟩
theorem rdB_at (l : List LTask) (i : Nat) (h : i < l.length) : rd_T90 l (i : Int) = l[i] := by
  unfold rd_T90
  rw [List.getD_eq_getElem?_getD, Int.toNat_natCast, List.getElem?_eq_getElem h]
  rfl
theorem toTaskS_tot (l : List LTask) (hl : l.length ≤ 1048576) : Tot (fun k => laws_toTaskS.f k l) (fun r => r = l.map cv) := by
  have h := Tot.copy (fun k acc i => laws_toTaskS.l0 k l acc i) (l.map cv) z88 (fun k acc i h ha => by
    have hi : i < l.length := by simpa using h
    have ha' : acc.length = l.length := by simpa using ha
    simp only [laws_toTaskS.l0, laws_toTask.f, Option.bind_some]
    rw [if_pos (by omega), if_pos (by omega), if_pos (by omega), rdB_at _ _ hi, w64 (by omega) (by omega), Int.toNat_natCast, List.getElem_map]
    rfl) (fun k acc ha => by
    simp only [laws_toTaskS.l0]
    rw [if_neg (by simp)])
  refine Tot.congr (fun k => ?_) h
  unfold laws_toTaskS.f
  rw [if_pos (by omega), if_pos (by omega), Int.toNat_natCast, List.length_map]
theorem eqTaskS_tot (l : List Task) (hl : l.length ≤ 1048576) : Tot (fun k => laws_eqTaskS.f k l l) (fun r => r = true) := by
  have h := Tot.look (r := true) (fun k i => laws_eqTaskS.l0 k l l i) l.length (fun k i h => by
    simp only [laws_eqTaskS.l0, laws_eqTask.f, if_true, Option.bind_some]
    rw [if_pos (by omega), if_pos (by omega), if_pos (by omega), w64 (by omega) (by omega)]) (fun k => by
    simp only [laws_eqTaskS.l0]
    rw [if_neg (by omega)])
  refine Tot.congr (fun k => ?_) h
  unfold laws_eqTaskS.f
  rw [if_pos rfl]
end Go.Proofs.Ytkdfjomhichkoaa.CopyTask
/- A row that is marked is held. Condition: the row is no longer than the statement lets it. -/
namespace Go.Proofs.Ytkdfjomhichkoaa.Mark
open Go.RowKit Go.Proofs.Ytkdfjomhichkoaa.P Go.Proofs.Ytkdfjomhichkoaa.Base Go.Proofs.Ytkdfjomhichkoaa.Gen Go.Proofs.YtkdfjomhichkoaaW.PrintWords Go.Proofs.YtkdfjomhichkoaaW.PrintLast
/-- The marks from a on. -/
def marks (a : Int) (n : Nat) : List Int := (List.range n).map (fun i : Nat => a + (i : Int))
theorem marks_len (a : Int) (n : Nat) : (marks a n).length = n := by unfold marks; simp
theorem marks_get (a : Int) (n i : Nat) (h : i < (marks a n).length) : (marks a n)[i] = a + (i : Int) := by simp only [marks, List.getElem_map, List.getElem_range]
theorem markIntS_tot (l : List Int) (a : Int) (hl : l.length ≤ 2097152) (h0 : 0 ≤ a) (h1 : a ≤ 4294967296) : Tot (fun k => laws_markIntS.f k l a) (fun r => r = (a + l.length, marks a l.length)) := by
  have key : ∀ d (i : Nat) (acc : List Int), i + d = l.length → acc.length = l.length → acc.take i = (marks a l.length).take i → Tot (fun k => laws_markIntS.l0 k acc (a + i) (i : Int)) (fun r => r = (a + l.length, marks a l.length)) := by
    intro d
    induction d with
    | zero =>
      intro i acc hi hac ht
      obtain rfl : i = l.length := by omega
      refine Tot.step (f := fun _ => some (a + (l.length : Int), acc)) (fun k => ?_) (Tot.ret _ ?_)
      · simp only [laws_markIntS.l0]
        rw [if_neg (by omega)]
      · rw [List.take_of_length_le (by omega), List.take_of_length_le (by rw [marks_len]; omega)] at ht
        rw [ht]
    | succ d ih =>
      intro i acc hi hac ht
      have hm : i < (marks a l.length).length := by rw [marks_len]; omega
      have hf := fill_step acc (marks a l.length) i (by rw [marks_len]; exact hac) ht hm
      rw [marks_get] at hf
      refine Tot.step (fun k => ?_) (ih (i + 1) (acc.set i (a + (i : Int))) (by omega) (by simpa using hac) hf)
      simp only [laws_markIntS.l0]
      rw [if_pos (by omega), if_pos (by omega), w64 (x := a + i + 1) (by omega) (by omega), w64 (x := (i : Int) + 1) (by omega) (by omega), Int.toNat_natCast]
      rw [show a + (i : Int) + 1 = a + ((i + 1 : Nat) : Int) by omega]
      rfl
  have h := key l.length 0 l (by omega) rfl rfl
  refine Tot.congr (fun k => ?_) h
  unfold laws_markIntS.f
  simp
theorem heldIntS_tot (a : Int) (n : Nat) (hl : n ≤ 2097152) (h0 : 0 ≤ a) (h1 : a ≤ 4294967296) : Tot (fun k => laws_heldIntS.f k (marks a n) a) (fun r => r = a + n) := by
  have key : ∀ d (i : Nat), i + d = n → Tot (fun k => laws_heldIntS.l0 k (marks a n) (a + i) (i : Int)) (fun r => r = a + n) := by
    have hlen := marks_len a n
    intro d
    induction d with
    | zero =>
      intro i hi
      refine Tot.step (f := fun _ => some (a + (i : Int))) (fun k => ?_) (Tot.ret _ (by omega))
      simp only [laws_heldIntS.l0]
      rw [if_neg (by omega)]
    | succ d ih =>
      intro i hi
      refine Tot.step (fun k => ?_) (ih (i + 1) (by omega))
      simp only [laws_heldIntS.l0]
      rw [if_pos (by omega), if_pos (by omega), rd_at _ _ (by omega), marks_get, if_pos rfl, w64 (x := a + i + 1) (by omega) (by omega), w64 (x := (i : Int) + 1) (by omega) (by omega)]
      rw [show a + (i : Int) + 1 = a + ((i + 1 : Nat) : Int) by omega]
      rfl
  have h := key n 0 (by omega)
  refine Tot.congr (fun k => ?_) h
  unfold laws_heldIntS.f
  simp
end Go.Proofs.Ytkdfjomhichkoaa.Mark
/- Copies and marks of rows of jobs and of tasks, and of schedules. Condition: the rows are not too long. -/
namespace Go.Proofs.Ytkdfjomhichkoaa.CopyJob
open Go.RowKit Go.Proofs.Ytkdfjomhichkoaa.P Go.Proofs.Ytkdfjomhichkoaa.Base Go.Proofs.Ytkdfjomhichkoaa.Gen Go.Proofs.Ytkdfjomhichkoaa.Set Go.Proofs.Ytkdfjomhichkoaa.CopyTask Go.Proofs.Ytkdfjomhichkoaa.Mark Go.Proofs.YtkdfjomhichkoaaW.PrintWords Go.Proofs.YtkdfjomhichkoaaW.PrintLast
abbrev LJob := S92
abbrev Job := S34
def cj (x : LJob) : Job := ⟨x.f0, x.f1, x.f2, x.f3⟩
theorem rdK_at (l : List LJob) (i : Nat) (h : i < l.length) : rd_T92 l (i : Int) = l[i] := by
  unfold rd_T92
  rw [List.getD_eq_getElem?_getD, Int.toNat_natCast, List.getElem?_eq_getElem h]
  rfl
theorem toJobS_tot (l : List LJob) (hl : l.length ≤ 1048576) : Tot (fun k => laws_toJobS.f k l) (fun r => r = l.map cj) := by
  have h := Tot.copy (fun k acc i => laws_toJobS.l0 k l acc i) (l.map cj) z34 (fun k acc i h ha => by
    have hi : i < l.length := by simpa using h
    have ha' : acc.length = l.length := by simpa using ha
    simp only [laws_toJobS.l0, laws_toJob.f, Option.bind_some]
    rw [if_pos (by omega), if_pos (by omega), if_pos (by omega), rdK_at _ _ hi, w64 (by omega) (by omega), Int.toNat_natCast, List.getElem_map]
    rfl) (fun k acc ha => by
    simp only [laws_toJobS.l0]
    rw [if_neg (by simp)])
  refine Tot.congr (fun k => ?_) h
  unfold laws_toJobS.f
  rw [if_pos (by omega), if_pos (by omega), Int.toNat_natCast, List.length_map]
theorem eqJobS_tot (l : List Job) (hl : l.length ≤ 1048576) : Tot (fun k => laws_eqJobS.f k l l) (fun r => r = true) := by
  have h := Tot.look (r := true) (fun k i => laws_eqJobS.l0 k l l i) l.length (fun k i h => by
    simp only [laws_eqJobS.l0, laws_eqJob.f, if_true, Option.bind_some]
    rw [if_pos (by omega), if_pos (by omega), if_pos (by omega), w64 (by omega) (by omega)]) (fun k => by
    simp only [laws_eqJobS.l0]
    rw [if_neg (by omega)])
  refine Tot.congr (fun k => ?_) h
  unfold laws_eqJobS.f
  rw [if_pos rfl]
theorem szJobS_f (l : List LJob) (hl : l.length ≤ maxLen) (t : Int) (ht : t ≤ 1048576) (ht0 : 0 ≤ t) : ∃ r, laws_szJobS.f l t = some r ∧ (r < 0 ∨ l.length ≤ 1048576) := by
  have hm : maxLen ≤ 9223372036854775807 := by decide
  unfold laws_szJobS.f
  rw [w64 (by omega) (by omega)]
  by_cases h : t - (l.length : Int) < 0
  · rw [if_pos h]; exact ⟨_, rfl, Or.inl (by decide)⟩
  · rw [if_neg h]; exact ⟨_, rfl, Or.inr (by omega)⟩
theorem szTaskS_g (l : List LTask) (hl : l.length ≤ maxLen) : ∃ r, laws_szTaskS.f l 1048576 = some r ∧ (r < 0 ∨ (l.length ≤ 1048576 ∧ 0 ≤ r ∧ r ≤ 1048576)) := by
  have hm : maxLen ≤ 9223372036854775807 := by decide
  unfold laws_szTaskS.f
  rw [w64 (by omega) (by omega)]
  by_cases h : (1048576 : Int) - (l.length : Int) < 0
  · rw [if_pos h]; exact ⟨_, rfl, Or.inl (by decide)⟩
  · rw [if_neg h]; exact ⟨_, rfl, Or.inr (by omega)⟩
theorem markTaskS_tot (l : List Task) (a : Int) (hl : l.length ≤ 1048576) (h0 : 0 ≤ a) (h1 : a ≤ 1000000000) : Tot (fun k => laws_markTaskS.f k l a) (fun r => r.1 = a + 3 * l.length) := by
  have key : ∀ d (i : Nat) (acc : List Task) (b : Int), i + d = l.length → acc.length = l.length → b = a + 3 * i → Tot (fun k => laws_markTaskS.l0 k acc b (i : Int)) (fun r => r.1 = a + 3 * l.length) := by
    intro d
    induction d with
    | zero =>
      intro i acc b hi hac hb
      exact Tot.step (fun k => by rw [laws_markTaskS.l0]) (Tot.no (by omega) (Tot.ret _ (by simp only; omega)))
    | succ d ih =>
      intro i acc b hi hac hb
      refine Tot.step (fun k => by rw [laws_markTaskS.l0]) (Tot.yes (by omega) (Tot.yes (by omega) ?_))
      simp only [Option.bind_some]
      rw [w64 (x := b + 1) (by omega) (by omega), w64 (x := b + 1 + 1) (by omega) (by omega), w64 (x := b + 1 + 1 + 1) (by omega) (by omega), w64 (x := (i : Int) + 1) (by omega) (by omega)]
      exact ih (i + 1) _ _ (by omega) (by simp only [List.length_set]; exact hac) (by omega)
  exact key l.length 0 l a (by omega) rfl (by omega)
theorem markJobS_tot (l : List Job) (a : Int) (hl : l.length ≤ 1048576) (h0 : 0 ≤ a) (h1 : a ≤ 1000000000) : Tot (fun k => laws_markJobS.f k l a) (fun r => r.1 = a + 4 * l.length) := by
  have key : ∀ d (i : Nat) (acc : List Job) (b : Int), i + d = l.length → acc.length = l.length → b = a + 4 * i → Tot (fun k => laws_markJobS.l0 k acc b (i : Int)) (fun r => r.1 = a + 4 * l.length) := by
    intro d
    induction d with
    | zero =>
      intro i acc b hi hac hb
      exact Tot.step (fun k => by rw [laws_markJobS.l0]) (Tot.no (by omega) (Tot.ret _ (by simp only; omega)))
    | succ d ih =>
      intro i acc b hi hac hb
      refine Tot.step (fun k => by rw [laws_markJobS.l0]) (Tot.yes (by omega) (Tot.yes (by omega) ?_))
      simp only [Option.bind_some]
      rw [w64 (x := b + 1) (by omega) (by omega), w64 (x := b + 1 + 1) (by omega) (by omega), w64 (x := b + 1 + 1 + 1) (by omega) (by omega), w64 (x := b + 1 + 1 + 1 + 1) (by omega) (by omega), w64 (x := (i : Int) + 1) (by omega) (by omega)]
      exact ih (i + 1) _ _ (by omega) (by simp only [List.length_set]; exact hac) (by omega)
  exact key l.length 0 l a (by omega) rfl (by omega)
theorem eqInts_tot (l : List Int) (hl : l.length ≤ 1048576) : Tot (fun k => laws_eqIntS.f k l l) (fun r => r = true) := by
  have h := Tot.look (r := true) (fun k i => laws_eqIntS.l0 k l l i) l.length (fun k i h => by
    simp only [laws_eqIntS.l0, if_true]
    rw [if_pos (by omega), if_pos (by omega), if_pos (by omega), w64 (by omega) (by omega)]) (fun k => by
    simp only [laws_eqIntS.l0]
    rw [if_neg (by omega)])
  refine Tot.congr (fun k => ?_) h
  unfold laws_eqIntS.f
  rw [if_pos rfl]
theorem eqSched_tot (a b : List Int) (ha : a.length ≤ 1048576) (hb : b.length ≤ 1048576) : Tot (fun k => laws_eqSchedule.f k a b a b) (fun r => r = true) := by
  unfold laws_eqSchedule.f
  refine Tot.bind (eqInts_tot a ha) ?_
  rintro _ rfl
  refine Tot.yes rfl (Tot.bind (eqInts_tot b hb) ?_)
  rintro _ rfl
  exact Tot.yes rfl (Tot.ret _ rfl)
theorem markSched_tot (a b : List Int) (ha : a.length ≤ 1048576) (hb : b.length ≤ 1048576) : Tot (fun k => laws_markSchedule.f k a b 1) (fun r => r = (1 + (a.length : Int) + (b.length : Int), marks 1 a.length, marks (1 + (a.length : Int)) b.length)) := by
  unfold laws_markSchedule.f
  refine Tot.bind (markIntS_tot a 1 (by omega) (by omega) (by omega)) ?_
  rintro _ rfl
  refine Tot.bind (markIntS_tot b (1 + (a.length : Int)) (by omega) (by omega) (by omega)) ?_
  rintro _ rfl
  exact Tot.ret _ rfl
theorem heldSched_tot (n m : Nat) (hn : n ≤ 1048576) (hm : m ≤ 1048576) : Tot (fun k => laws_heldSchedule.f k (marks 1 n) (marks (1 + (n : Int)) m) 1) (fun r => r = 1 + (n : Int) + (m : Int)) := by
  unfold laws_heldSchedule.f
  refine Tot.bind (heldIntS_tot 1 n (by omega) (by omega) (by omega)) ?_
  rintro _ rfl
  refine Tot.no (by omega) (Tot.bind (heldIntS_tot (1 + (n : Int)) m (by omega) (by omega) (by omega)) ?_)
  rintro _ rfl
  exact Tot.no (by omega) (Tot.ret _ rfl)
end Go.Proofs.Ytkdfjomhichkoaa.CopyJob
/- RunNonPreemptive answers as the reference does, leaves its arguments alone, and hands out rows of its own. No condition. -/
namespace Go.Proofs.Ytkdfjomhichkoaa.Pure
open Go.RowKit Go.Proofs.Ytkdfjomhichkoaa.P Go.Proofs.Ytkdfjomhichkoaa.Base Go.Proofs.Ytkdfjomhichkoaa.Gen Go.Proofs.YtkdfjomhichkoaaW.PrintWords Go.Proofs.YtkdfjomhichkoaaW.PrintLast
open Go.Proofs.Ytkdfjomhichkoaa.Set Go.Proofs.Ytkdfjomhichkoaa.Edf Go.Proofs.Ytkdfjomhichkoaa.Sim Go.Proofs.Ytkdfjomhichkoaa.Jobs Go.Proofs.Ytkdfjomhichkoaa.Leg Go.Proofs.Ytkdfjomhichkoaa.Nps Go.Proofs.Ytkdfjomhichkoaa.Npr Go.Proofs.Ytkdfjomhichkoaa.CopyTask Go.Proofs.Ytkdfjomhichkoaa.Mark Go.Proofs.Ytkdfjomhichkoaa.CopyJob 
theorem FnExactRunNonPreemptive : laws_FnExactRunNonPreemptive.Pure := by
  intro A B _ hA _ hB
  apply Tot.rounds
  unfold laws_FnExactRunNonPreemptive.f
  obtain ⟨t, ht, hr⟩ := szTaskS_g A hA.1
  refine Tot.bind0 ht (Tot.ite (fun _ => Tot.ret _ rfl) (fun h0 => ?_))
  obtain ⟨hA2, ht0, ht1⟩ := hr.resolve_left h0
  obtain ⟨t2, ht2, hr2⟩ := szJobS_f B hB.1 t ht1 ht0
  refine Tot.bind0 ht2 (Tot.ite (fun _ => Tot.ret _ rfl) (fun h1 => ?_))
  have hB2 := hr2.resolve_left h1
  clear hr hr2 hA hB
  have hAm : (A.map cv).length = A.length := List.length_map _
  have hBm : (B.map cj).length = B.length := List.length_map _
  refine Tot.bind (toTaskS_tot A hA2) ?_
  rintro _ rfl
  refine Tot.bind (toJobS_tot B hB2) ?_
  rintro _ rfl
  have hlen := RN_len (A.map cv) (B.map cj)
  refine Tot.bind (Tot.val (spec_rn (A.map cv) (B.map cj) (by omega) (by omega))) ?_
  rintro _ rfl
  refine Tot.bind (toTaskS_tot A hA2) ?_
  rintro _ rfl
  refine Tot.bind (toJobS_tot B hB2) ?_
  rintro _ rfl
  refine Tot.bind0 (impl_rn (A.map cv) (B.map cj) (by omega) (by omega)) ?_
  refine Tot.bind (eqSched_tot _ _ (by omega) (by omega)) ?_
  rintro _ rfl
  refine Tot.yes rfl (Tot.bind (toTaskS_tot A hA2) ?_)
  rintro _ rfl
  refine Tot.bind (eqTaskS_tot _ (by omega)) ?_
  rintro _ rfl
  refine Tot.yes rfl (Tot.bind (toJobS_tot B hB2) ?_)
  rintro _ rfl
  refine Tot.bind (eqJobS_tot _ (by omega)) ?_
  rintro _ rfl
  refine Tot.yes rfl (Tot.bind (markTaskS_tot _ 1 (by omega) (by omega) (by omega)) ?_)
  rintro ⟨k1, _⟩ hk1
  simp only at hk1 ⊢
  refine Tot.bind (markJobS_tot _ k1 (by omega) (by omega) (by omega)) ?_
  rintro ⟨k2, _⟩ hk2
  simp only at hk2 ⊢
  refine Tot.no (by omega) (Tot.bind (eqSched_tot _ _ (by omega) (by omega)) ?_)
  rintro _ rfl
  refine Tot.step (fun k => by rw [laws_FnExactRunNonPreemptive.j0]) (Tot.no (by simp) ?_)
  refine Tot.bind (markSched_tot _ _ (by omega) (by omega)) ?_
  rintro _ rfl
  simp only
  refine Tot.bind (heldSched_tot _ _ (by omega) (by omega)) ?_
  rintro _ rfl
  refine Tot.no (by omega) (Tot.yes rfl ?_)
  refine Tot.bind (toTaskS_tot A hA2) ?_
  rintro _ rfl
  refine Tot.bind (toJobS_tot B hB2) ?_
  rintro _ rfl
  refine Tot.bind0 (impl_rn (A.map cv) (B.map cj) (by omega) (by omega)) ?_
  refine Tot.bind (eqSched_tot _ _ (by omega) (by omega)) ?_
  rintro _ rfl
  refine Tot.yes rfl (Tot.bind (heldSched_tot _ _ (by omega) (by omega)) ?_)
  rintro _ rfl
  exact Tot.no (by omega) (Tot.yes rfl (Tot.ret _ rfl))
end Go.Proofs.Ytkdfjomhichkoaa.Pure
/- Arguments of a law laid open: whatever reads as data of a type reads as a value of its kind.
   No condition. -/
namespace Go.Proofs.Ytkdfjomhichkoaa.Opn
open Go.ChangeShapes Go.WideShapes Go.Deep Go.RowKit Go.Proofs.YtkdfjomhichkoaaW.PrintWords
section
variable {H : Type} {enc : TypeId × Value → H} {P : Program} {W : World} {base : Nat} {spare : Nat → Bool} {held : Bool}

/-- Whatever reads as data of type t reads as a value of the kind d that is good. -/
def Opens {α : Type} (enc : TypeId × Value → H) (P : Program) (W : World) (base : Nat) (spare : Nat → Bool) (held : Bool) (t : TypeId) (d : Kd α) (G : α → Prop) : Prop :=
  ∀ (fuel : Nat) (cs : List Value) (x : DataW H × List MemPlace), DataW.trod enc P W base spare held fuel t cs = some x → ∃ a, d.K W a cs ∧ G a

theorem list_of {α : Type} (m : Nat) (R : Nat → α → Prop) (h : ∀ i, i < m → ∃ a, R i a) : ∃ xs : List α, xs.length = m ∧ ∀ i a, xs[i]? = some a → R i a := by
  induction m with
  | zero => exact ⟨[], rfl, fun i a ha => by simp at ha⟩
  | succ m ih =>
    obtain ⟨xs, hl, hx⟩ := ih (fun i hi => h i (by omega))
    obtain ⟨a, ha⟩ := h m (by omega)
    refine ⟨xs ++ [a], by simp [hl], fun i b hb => ?_⟩
    rcases Nat.lt_or_ge i m with hi | hi
    · rw [List.getElem?_append_left (by omega)] at hb
      exact hx i b hb
    · have hi' : i = m := by
        have := (List.getElem?_eq_some_iff.1 hb).1
        simp at this
        omega
      subst hi'
      have : a = b := by simpa [hl] using hb
      subst this
      exact ha

/-- A slice of what opens. -/
theorem slice_row {α : Type} {t e : TypeId} {d : Kd α} {G : α → Prop} (hu : P.underlying t = some (.slice e)) (hC : P.cellsOf e = d.sz) (he : Opens enc P W base spare held e d G)
    {fuel : Nat} {A : Option Addr} {n cap : Nat} {x : DataW H × List MemPlace} (h : DataW.trod enc P W base spare held fuel t [.slice A n cap] = some x) :
    ∃ xs : List α, xs.length = n ∧ n ≤ cap ∧ n ≤ maxLen ∧ d.C W A xs.length xs ∧ ∀ y ∈ xs, G y := by
  rcases open_slice hu h with ⟨h0, _⟩ | ⟨a, len, c, m, k, D, Pl, hcs, _, hl, hm, hmm, _, hel⟩
  · simp only [List.cons.injEq, Value.slice.injEq, and_true] at h0
    obtain ⟨rfl, rfl, rfl⟩ := h0
    exact ⟨[], rfl, Nat.le_refl _, by simp [maxLen], Kd.C_nil d W, fun y hy => by simp at hy⟩
  · simp only [List.cons.injEq, Value.slice.injEq, and_true] at hcs
    obtain ⟨rfl, rfl, rfl⟩ := hcs
    have hle : n ≤ m := by rw [hmm]; split <;> omega
    obtain ⟨xs, hxl, hx⟩ := list_of (α := α) n (fun i y => G y ∧ ∃ cs', d.K W y cs' ∧ cs'.length = d.sz ∧ ∀ j, j < d.sz → W.cell? ((a.add (i * d.sz)).add j) = cs'[j]?) (by
      intro i hi
      obtain ⟨cs', hc, ht⟩ := hel i (by omega)
      obtain ⟨y, hK, hG⟩ := he _ _ _ ht
      rw [hC] at hc
      obtain ⟨_, hcl, hcc⟩ := World.cells?_some hc
      exact ⟨y, hG, cs', hK, hcl, hcc⟩)
    refine ⟨xs, hxl, hl, by omega, ⟨rfl, by simp only [maxLen] at hm; omega, fun hp => ⟨a, rfl, fun j p hj => ?_⟩⟩, fun y hy => ?_⟩
    · obtain ⟨_, cs', hK, hcl, hcc⟩ := hx j p hj
      refine ⟨cs', hcl, hK, fun i u hi => ?_⟩
      have hlt : i < d.sz := by
        have := (List.getElem?_eq_some_iff.1 hi).1
        omega
      rw [← Go.Deep.add_add, hcc i hlt, hi]
    · obtain ⟨i, hi, rfl⟩ := List.getElem_of_mem hy
      exact (hx i _ (List.getElem?_eq_getElem hi)).1
/-- A struct of whole numbers. -/
theorem trod_ints {t : TypeId} {fs : Array Field} (hs : P.underlying t = some (.struct fs)) (hC : P.cellsOf t = fs.size) (hf : ∀ (j : Nat) (f : Field), fs[j]? = some f → f.offset = j ∧ P.cellsOf f.type = 1 ∧ P.underlying f.type = some (.int .i64))
    {fuel : Nat} {cs : List Value} {x : DataW H × List MemPlace} (h : DataW.trod enc P W base spare held fuel t cs = some x) :
    ∃ xs : List Int, xs.length = fs.size ∧ cs = xs.map (Value.int .i64) ∧ ∀ y ∈ xs, (Lit.int .i64 y).wf = true := by
  obtain ⟨ys, n, _, _, hl, hyl, hy⟩ := DataW.trod_struct hs h
  obtain ⟨xs, hxl, hx⟩ := list_of (α := Int) fs.size (fun j y => cs[j]? = some (.int .i64 y) ∧ (Lit.int .i64 y).wf = true) (by
    intro j hj
    have hfj : fs[j]? = some fs[j] := Array.getElem?_eq_getElem hj
    obtain ⟨ho, hk, hi⟩ := hf j _ hfj
    have h1 := hy j _ hfj
    rw [ho, hk] at h1
    have hjl : j < cs.length := by omega
    have e1 : (cs.drop j).take 1 = [cs[j]'hjl] := by
      rw [List.drop_eq_getElem_cons hjl]
      rfl
    rw [e1, List.getElem?_eq_getElem (by omega)] at h1
    obtain ⟨y, hc, _, hw⟩ := DataW.trod_int hi h1
    refine ⟨y, ?_, hw⟩
    rw [List.getElem?_eq_getElem hjl]
    simpa using hc)
  refine ⟨xs, hxl, ?_, fun y hy' => ?_⟩
  · apply List.ext_getElem?
    intro j
    rcases Nat.lt_or_ge j fs.size with hj | hj
    · rw [List.getElem?_map]
      have e := List.getElem?_eq_getElem (l := xs) (i := j) (by omega)
      rw [e, (hx j _ e).1]
      rfl
    · rw [List.getElem?_eq_none (by omega), List.getElem?_eq_none (by simp; omega)]
  · obtain ⟨i, hi, rfl⟩ := List.getElem_of_mem hy'
    exact (hx i _ (List.getElem?_eq_getElem hi)).2
theorem one3 {xs : List Int} (h : xs.length = 3) : ∃ a b c, xs = [a, b, c] := by
  match xs, h with
  | [a, b, c], _ => exact ⟨a, b, c, rfl⟩
theorem one4 {xs : List Int} (h : xs.length = 4) : ∃ a b c d, xs = [a, b, c, d] := by
  match xs, h with
  | [a, b, c, d], _ => exact ⟨a, b, c, d, rfl⟩
/-- The weight of a slice bounds its length. -/
theorem sized_row {t e : TypeId} {A : Option Addr} {n cap : Nat} {d : DataW H} {ps : List MemPlace} {ts : List TypeId} {ds : List (DataW H)} {j : Nat}
    (hsz : (DataW.weightsEach P ts ds).all (· ≤ reachBytes) = true) (ht : ts[j]? = some t) (hd : ds[j]? = some d) (hu : P.underlying t = some (.slice e)) {B : Nat} (hB : P.bytesOf e = B)
    (h : DataW.Trod enc P W base spare held t (.slice A n cap) d ps) : n * B ≤ 140737488351232 := by
  obtain ⟨fuel, hf⟩ := h
  have hf' : DataW.trod enc P W base spare held fuel t [.slice A n cap] = some (d, ps) := hf
  rcases open_slice hu hf' with ⟨h0, _⟩ | ⟨a, len, c, m, k, D, Pl, hcs, _, hl, hm, hmm, hx, hel⟩
  · simp only [List.cons.injEq, Value.slice.injEq, and_true] at h0
    obtain ⟨rfl, rfl, rfl⟩ := h0
    simp
  · simp only [List.cons.injEq, Value.slice.injEq, and_true] at hcs
    obtain ⟨rfl, rfl, rfl⟩ := hcs
    obtain ⟨hx, _⟩ := Prod.mk.inj hx
    subst hx
    have z := sized_slice hsz ht hd hu
    rw [hB] at z
    simp only [List.length_map, List.length_range] at z
    exact Nat.le_trans (Nat.mul_le_mul_right _ (by omega)) z
end
end Go.Proofs.Ytkdfjomhichkoaa.Opn
/- The head of the translation: a cut, with nothing lifted. No condition. -/
namespace Go.Proofs.Ytkdfjomhichkoaa.Head
open Go
def chars (l : List Nat) : List Char := l.map Char.ofNat
def w1 : List Nat := [104, 97, 114, 110, 101, 115, 115]
def w2 : List Nat := [53, 56, 52, 57, 99, 51, 101, 100, 56, 100, 101, 101, 57, 99, 49, 55, 56, 100, 101, 48, 49, 51, 53, 50, 57, 99, 57, 53, 100, 99, 51, 50, 57, 51, 57, 100, 102, 102, 53, 53, 98, 102, 54, 98, 52, 51, 55, 99, 55, 48, 49, 56, 49, 48, 57, 48, 56, 53, 56, 102, 99, 54, 52, 48]
def w3 : List Nat := [99, 117, 116]
def w4 : List Nat := [97, 116, 32, 108, 111, 111, 112, 46, 101, 120, 97, 109, 112, 108, 101, 47, 100, 101, 97, 100, 108, 105, 110, 101, 115, 99, 104, 101, 100, 117, 108, 101, 114, 47, 108, 97, 119, 115, 46, 70, 110, 82, 117, 110, 78, 111, 110, 80, 114, 101, 101, 109, 112, 116, 105, 118, 101, 32, 108, 111, 111, 112, 46, 101, 120, 97, 109, 112, 108, 101, 47, 100, 101, 97, 100, 108, 105, 110, 101, 115, 99, 104, 101, 100, 117, 108, 101, 114, 47, 108, 97, 119, 115, 46, 70, 110, 85, 110, 105, 116, 67, 111, 115, 116, 115, 32, 108, 111, 111, 112, 46, 101, 120, 97, 109, 112, 108, 101, 47, 100, 101, 97, 100, 108, 105, 110, 101, 115, 99, 104, 101, 100, 117, 108, 101, 114, 47, 108, 97, 119, 115, 46, 70, 110, 69, 120, 97, 99, 116, 82, 117, 110, 78, 111, 110, 80, 114, 101, 101, 109, 112, 116, 105, 118, 101, 32, 108, 111, 111, 112, 46, 101, 120, 97, 109, 112, 108, 101, 47, 100, 101, 97, 100, 108, 105, 110, 101, 115, 99, 104, 101, 100, 117, 108, 101, 114, 47, 108, 97, 119, 115, 46, 70, 110, 78, 111, 110, 80, 114, 101, 101, 109, 112, 116, 105, 118, 101, 83, 97, 102, 101, 32, 108, 111, 111, 112, 46, 101, 120, 97, 109, 112, 108, 101, 47, 100, 101, 97, 100, 108, 105, 110, 101, 115, 99, 104, 101, 100, 117, 108, 101, 114, 47, 108, 97, 119, 115, 46, 70, 110, 82, 117, 110, 83, 117, 112, 112, 108, 121, 32, 108, 111, 111, 112, 46, 101, 120, 97, 109, 112, 108, 101, 47, 100, 101, 97, 100, 108, 105, 110, 101, 115, 99, 104, 101, 100, 117, 108, 101, 114, 47, 108, 97, 119, 115, 46, 70, 110, 69, 120, 97, 99, 116, 82, 117, 110, 83, 117, 112, 112, 108, 121, 32, 108, 111, 111, 112, 46, 101, 120, 97, 109, 112, 108, 101, 47, 100, 101, 97, 100, 108, 105, 110, 101, 115, 99, 104, 101, 100, 117, 108, 101, 114, 47, 108, 97, 119, 115, 46, 70, 110, 83, 117, 112, 112, 108, 121, 83, 97, 102, 101, 32, 108, 111, 111, 112, 46, 101, 120, 97, 109, 112, 108, 101, 47, 100, 101, 97, 100, 108, 105, 110, 101, 115, 99, 104, 101, 100, 117, 108, 101, 114, 47, 108, 97, 119, 115, 46, 70, 110, 69, 120, 97, 99, 116, 83, 116, 101, 97, 108, 83, 108, 97, 99, 107]
theorem io_eq : Try.prog.initOrder = String.ofList (chars (w1 ++ 32 :: (w2 ++ 32 :: (w3 ++ 32 :: w4)))) := by kernel_rfl
theorem io_list : Try.prog.initOrder.toList = chars (w1 ++ 32 :: (w2 ++ 32 :: (w3 ++ 32 :: w4))) := by rw [io_eq, String.toList_ofList]
theorem ws_one (c : Char) (r w : List Char) (ws : List (List Char)) (hc : c ≠ Char.ofNat 32) (h : wordsSigns r = w :: ws) : wordsSigns (c :: r) = (c :: w) :: ws := by
  have e : wordsSigns (c :: r) = match wordsSigns r with
    | w :: ws => (c :: w) :: ws
    | [] => [[c]] := by
    rw [wordsSigns]
    · rfl
    · exact hc
  rw [e, h]
theorem ws_word (w : List Char) (h : ∀ c ∈ w, c ≠ Char.ofNat 32) (r : List Char) : wordsSigns (w ++ Char.ofNat 32 :: r) = w :: wordsSigns r := by
  induction w with
  | nil => rfl
  | cons c w ih => exact ws_one _ _ _ _ (h c (by simp)) (ih (fun x hx => h x (by simp [hx])))
theorem ws_nat (w r : List Nat) (h : w.all (fun n => !(Char.ofNat n == Char.ofNat 32)) = true) : wordsSigns (chars (w ++ 32 :: r)) = chars w :: wordsSigns (chars r) := by
  have e : chars (w ++ 32 :: r) = chars w ++ Char.ofNat 32 :: chars r := by simp [chars]
  rw [e]
  refine ws_word _ (fun c hc => ?_) _
  obtain ⟨n, hn, rfl⟩ := List.mem_map.1 hc
  have := List.all_eq_true.1 h n hn
  simpa using this
theorem io_words : behindMainWord (wordsSigns Try.prog.initOrder.toList) = chars w3 :: wordsSigns (chars w4) := by
  rw [io_list, ws_nat _ _ (by kernel_rfl), ws_nat _ _ (by kernel_rfl), ws_nat _ _ (by kernel_rfl)]
  generalize wordsSigns (chars w4) = R
  kernel_rfl
theorem make_gen (P : Program) (c : List Char) (R : List (List Char)) (h : behindMainWord (wordsSigns P.initOrder.toList) = c :: R) (h1 : (c == "gc".toList || c == "spec".toList) = false) (h2 : (c == "cut".toList) = true) : P.make = some .cut := by
  unfold Program.make
  rw [h]
  simp only [h1, h2, Bool.true_or, if_true, Bool.false_eq_true, if_false]
theorem make : Try.prog.make = some .cut := make_gen _ _ _ io_words (by kernel_rfl) (by kernel_rfl)
theorem enter_gen (P : Program) (c : List Char) (R : List (List Char)) (h : behindMainWord (wordsSigns P.initOrder.toList) = c :: R) (h1 : ∀ R, stripLifts liftWords (c :: R) = ([], c :: R)) (h2 : (some c == some "cut".toList) = true)
    (h3 : P.laysLater = false) (h4 : P.bearsReflect = false) (h5 : P.doorFits [] = true) : P.mayEnter = true := by
  unfold Program.mayEnter
  rw [h]
  simp only [h1, h2, h3, h4, h5, List.head?_cons, Bool.not_false, Bool.or_true, Bool.and_true, List.contains_nil]
theorem enter : Try.prog.mayEnter = true := enter_gen _ _ _ io_words (fun R => by kernel_rfl) (by kernel_rfl) (by kernel_rfl) (by kernel_rfl) (by kernel_rfl)
theorem lifts : Try.prog.liftsFinal = false := by
  unfold Program.liftsFinal Program.headLifts
  simp only [io_words]
  generalize wordsSigns (chars w4) = R
  kernel_rfl
end Go.Proofs.Ytkdfjomhichkoaa.Head
/- The law FnExactRunNonPreemptive, proved: for every input the call returns true and each argument reads as it did. No condition. -/
namespace Go.Proofs.Ytkdfjomhichkoaa.fnExactRunNonPreemptive
open Go.ChangeShapes Go.WideShapes Go.ChangeAt Go.RowKit Go.Proofs.YtkdfjomhichkoaaW.PrintWords Go.Proofs.Ytkdfjomhichkoaa.P
open Go.ChangeMaps (open_string shut_string)
theorem own : ownKnob Try.prog.godebug = none := by kernel_rfl
theorem laidOut : laidOutB Try.prog = true := by kernel_rfl
theorem fieldsT90 : ∃ fs, Try.prog.underlying 90 = some (.struct fs) ∧ fs.size = 3 ∧ Try.prog.cellsOf 90 = fs.size ∧ ∀ (j : Nat) (f : Field), fs[j]? = some f → f.offset = j ∧ Try.prog.cellsOf f.type = 1 ∧ Try.prog.underlying f.type = some (.int .i64) := by
  refine ⟨_, Try.underlying90, rfl, by kernel_rfl, fun j f hj => ?_⟩
  match j, hj with
  | 0, hj => obtain rfl := Option.some.inj hj; exact ⟨rfl, by kernel_rfl, Try.underlying3⟩
  | 1, hj => obtain rfl := Option.some.inj hj; exact ⟨rfl, by kernel_rfl, Try.underlying3⟩
  | 2, hj => obtain rfl := Option.some.inj hj; exact ⟨rfl, by kernel_rfl, Try.underlying3⟩
  | n + 3, hj => exact absurd hj (by simp)
theorem opensT90 {H : Type} {enc : TypeId × Value → H} {W : World} {base : Nat} {spare : Nat → Bool} {held : Bool} : Opn.Opens enc Try.prog W base spare held 90 k90 (fun x => ((Lit.int .i64 x.f0).wf = true) ∧ ((Lit.int .i64 x.f1).wf = true) ∧ ((Lit.int .i64 x.f2).wf = true)) := by
  intro fuel cs x h
  obtain ⟨fs, hu, hm, hc, hf⟩ := fieldsT90
  obtain ⟨xs, hl, rfl, hw⟩ := Opn.trod_ints hu hc hf h
  obtain ⟨a, b, c, rfl⟩ := Opn.one3 (hl.trans hm)
  exact ⟨⟨a, b, c⟩, k90_mk _ _, by simpa using hw⟩
theorem fieldsT92 : ∃ fs, Try.prog.underlying 92 = some (.struct fs) ∧ fs.size = 4 ∧ Try.prog.cellsOf 92 = fs.size ∧ ∀ (j : Nat) (f : Field), fs[j]? = some f → f.offset = j ∧ Try.prog.cellsOf f.type = 1 ∧ Try.prog.underlying f.type = some (.int .i64) := by
  refine ⟨_, Try.underlying92, rfl, by kernel_rfl, fun j f hj => ?_⟩
  match j, hj with
  | 0, hj => obtain rfl := Option.some.inj hj; exact ⟨rfl, by kernel_rfl, Try.underlying3⟩
  | 1, hj => obtain rfl := Option.some.inj hj; exact ⟨rfl, by kernel_rfl, Try.underlying3⟩
  | 2, hj => obtain rfl := Option.some.inj hj; exact ⟨rfl, by kernel_rfl, Try.underlying3⟩
  | 3, hj => obtain rfl := Option.some.inj hj; exact ⟨rfl, by kernel_rfl, Try.underlying3⟩
  | n + 4, hj => exact absurd hj (by simp)
theorem opensT92 {H : Type} {enc : TypeId × Value → H} {W : World} {base : Nat} {spare : Nat → Bool} {held : Bool} : Opn.Opens enc Try.prog W base spare held 92 k92 (fun x => ((Lit.int .i64 x.f0).wf = true) ∧ ((Lit.int .i64 x.f1).wf = true) ∧ ((Lit.int .i64 x.f2).wf = true) ∧ ((Lit.int .i64 x.f3).wf = true)) := by
  intro fuel cs x h
  obtain ⟨fs, hu, hm, hc, hf⟩ := fieldsT92
  obtain ⟨xs, hl, rfl, hw⟩ := Opn.trod_ints hu hc hf h
  obtain ⟨a, b, c, d, rfl⟩ := Opn.one4 (hl.trans hm)
  exact ⟨⟨a, b, c, d⟩, k92_mk _ _, by simpa using hw⟩
set_option maxRecDepth 100000 in
theorem lifted (os : Os) (started : os.Started) (H : Type) (enc : TypeId × Value → H) :
    ReturnsInHanded {} Try.checked os 5 .any (Rows.fnExactRunNonPreemptiveSpec.pre6 enc Try.prog Try.f5 Rows.fnExactRunNonPreemptiveRow.domain false) (Rows.fnExactRunNonPreemptiveSpec.post enc Try.prog Try.f5 false true false false) := by
  refine returnsInHanded_of_change_sized (C := Try.checked) own started (by kernel_rfl) Try.func5
    (ChangeSpec.witness6 (enc := enc) (C := Try.checked) false ⟨#[], #[.slice none 0 0, .slice none 0 0], []⟩ 8 (by kernel_rfl) (by kernel_rfl) (by kernel_rfl) (by kernel_rfl)) ?_
  intro W base args ds gs before hval0 hW hcnd hsz0 _
  have hsz : (DataW.weightsEach Try.prog (Try.f5.params.toList ++ Rows.fnExactRunNonPreemptiveSpec.plain.varTypes Try.prog) (ds ++ gs)).all (· ≤ reachBytes) = true := hsz0
  have hval : ∀ (j : Nat) t v, Try.f5.params[j]? = some t → args[j]? = some v → Value.okWide Try.prog W .any base t v := hval0
  have hW' := hW
  obtain ⟨p, q, hA0, hV, rfl, hfz, hnd⟩ := hW
  have hA : DataW.TrodAll enc Try.prog W 0 (fun _ => true) true Try.f5.params.toList args.toList ds p := hA0
  rw [Try.params5] at hA hval hsz
  obtain ⟨v0, vs0, d0, ds0, p0, q0, hargs, rfl, rfl, h0, r0⟩ := trodAll_cons hA
  obtain ⟨v1, vs1, d1, ds1, p1, q1, rfl, rfl, rfl, h1, r1⟩ := trodAll_cons r0
  obtain ⟨rfl, rfl, rfl⟩ := trodAll_nil r1
  obtain rfl : args = #[v0, v1] := by cases args; simp_all
  obtain ⟨rfl, rfl⟩ := trodVars_none hV
  have k0 := h0
  have lt0 : ∀ x ∈ p0, x.block < W.heap.size := by obtain ⟨m, hm⟩ := k0; exact DataW.trod_lt m _ _ _ hm
  obtain ⟨A0, n0, c0, rfl⟩ := okWide_slice Try.underlying36 (hval 0 36 v0 rfl rfl)
  have y0 : n0 * 24 ≤ 140737488351232 := Opn.sized_row hsz (j := 0) (t := 36) rfl rfl Try.underlying36 (by kernel_rfl) h0
  obtain ⟨l0, rfl, hc0, hm0, hr0, hg0⟩ : ∃ xs : List (S90), xs.length = n0 ∧ n0 ≤ c0 ∧ n0 ≤ maxLen ∧ Kd.C k90 W A0 xs.length xs ∧ ∀ y0 ∈ xs, ((Lit.int .i64 y0.f0).wf = true) ∧ ((Lit.int .i64 y0.f1).wf = true) ∧ ((Lit.int .i64 y0.f2).wf = true) := by
    obtain ⟨fuel, hf⟩ := h0
    exact Opn.slice_row Try.underlying36 (by kernel_rfl) opensT90 hf
  have k1 := h1
  have lt1 : ∀ x ∈ p1, x.block < W.heap.size := by obtain ⟨m, hm⟩ := k1; exact DataW.trod_lt m _ _ _ hm
  obtain ⟨A1, n1, c1, rfl⟩ := okWide_slice Try.underlying37 (hval 1 37 v1 rfl rfl)
  have y1 : n1 * 32 ≤ 140737488351232 := Opn.sized_row hsz (j := 1) (t := 37) rfl rfl Try.underlying37 (by kernel_rfl) h1
  obtain ⟨l1, rfl, hc1, hm1, hr1, hg1⟩ : ∃ xs : List (S92), xs.length = n1 ∧ n1 ≤ c1 ∧ n1 ≤ maxLen ∧ Kd.C k92 W A1 xs.length xs ∧ ∀ y0 ∈ xs, ((Lit.int .i64 y0.f0).wf = true) ∧ ((Lit.int .i64 y0.f1).wf = true) ∧ ((Lit.int .i64 y0.f2).wf = true) ∧ ((Lit.int .i64 y0.f3).wf = true) := by
    obtain ⟨fuel, hf⟩ := h1
    exact Opn.slice_row Try.underlying37 (by kernel_rfl) opensT92 hf
  obtain ⟨k, hk⟩ := Pure.FnExactRunNonPreemptive l0 l1 y0 ⟨hm0, hg0⟩ y1 ⟨hm1, hg1⟩
  clear hA0 hval0 hsz0 hsz
  refine (laws_FnExactRunNonPreemptive.calls k A0 c0 l0 A1 c1 l1 true W hr0 hc0 hr1 hc1 hk rfl).mono fun e W' ⟨he, hd⟩ => ?_
  have bel := hd
  subst he
  exact ⟨_, rfl, _, _, _, [], _, [], hW', trodAll_mk1 (shut_bool Try.underlying4 _), (trodAll_cons_mk (Below.trod laidOut (by kernel_rfl) (of_decide_eq_true (by kernel_rfl)) k0 bel lt0) (trodAll_cons_mk (Below.trod laidOut (by kernel_rfl) (of_decide_eq_true (by kernel_rfl)) k1 bel lt1) trodAll_mk0)), rfl, bel.frame _, fun h => by cases h⟩
theorem closed : joinedFacts Try.prog 5 Try.f5 Rows.fnExactRunNonPreemptiveSpec Rows.fnExactRunNonPreemptiveRow = true := by
  simp only [joinedFacts, Head.enter, Head.lifts, Head.make]
  kernel_rfl
theorem named : Try.prog.funcNamed Rows.fnExactRunNonPreemptiveRow.func = some 5 := by kernel_rfl
theorem wrapped : Try.f5.isWrapper Try.prog Rows.fnExactRunNonPreemptiveRow.wrapper Rows.fnExactRunNonPreemptiveRow.mainSum := by unfold Func.isWrapper; first | (rw [if_pos (by decide +kernel)]; kernel_rfl) | (rw [if_neg (by decide +kernel)]; exact ⟨rfl, rfl⟩)
theorem over : Rows.fnExactRunNonPreemptiveRow.holds Try.pinned (OpenSpec.ofChange Rows.fnExactRunNonPreemptiveSpec) :=
  OpenClaim.holds_of_wide 5 Try.f5 rfl rfl rfl rfl rfl rfl rfl ⟨rfl, rfl, rfl, rfl, rfl⟩ rfl rfl rfl rfl rfl named Try.func5 closed
    (of_decide_eq_true (by kernel_rfl)) wrapped
    (fun os started H enc _ => lifted os started H enc)
theorem proved : Rows.FnExactRunNonPreemptiveSaid := over
#print axioms proved
end Go.Proofs.Ytkdfjomhichkoaa.fnExactRunNonPreemptive
namespace Go.Proofs.Ytkdfjomhichkoaa
/-- The row, under a short name, for the claim. -/
theorem fnExactRunNonPreemptive_holds : Rows.FnExactRunNonPreemptiveSaid := fnExactRunNonPreemptive.proved
end Go.Proofs.Ytkdfjomhichkoaa
