/- The law FnExactGraphValid for every input, part 3 of its proof: what the program's functions answer, and the plain law. No condition. -/
import Derived.Test.YtkmpcmhkfnoeiaaMFnExactGraphValid1
import Derived.Test.YtkmpcmhkfnoeiaaMFnExactGraphValid2
import Derived.Test.YtkmpcmhkfnoeiaaWWords
import Derived.SizedLaws
import Derived.ChangeSlices
import Derived.ChangeArms
import Derived.WideShapes
import Derived.Deep.Slices
import Derived.OpenShut
import Derived.Test.YtkmpcmhkfnoeiaaRows
import Derived.JoinedOf
import Derived.KernelRfl
import Derived.WalkKit
import Derived.ProofKit
import Derived.ShutString
import Derived.ChangeOld
import Derived.Below
/- A graph's validity, its volume and its critical path, of the program and of the reference, as plain functions. Condition: the rows are not too long. -/
namespace Go.Proofs.Ytkmpcmhkfnoeiaa.Graph
open Go.RowKit Go.Proofs.Ytkmpcmhkfnoeiaa.P Go.Proofs.Ytkmpcmhkfnoeiaa.Base Go.Proofs.Ytkmpcmhkfnoeiaa.Gen Go.Proofs.YtkmpcmhkfnoeiaaW.PrintWords Go.Proofs.YtkmpcmhkfnoeiaaW.PrintLast
def EdgeOk (m : Int) (e : List Int) : Prop := e.length = 2 ∧ 0 ≤ rd e 0 ∧ rd e 0 < rd e 1 ∧ rd e 1 < m
instance (m : Int) (e : List Int) : Decidable (EdgeOk m e) := by unfold EdgeOk; infer_instance
def CostsOk (c : List Int) : Prop := ∀ x ∈ c, 1 ≤ x ∧ x ≤ 8
instance (c : List Int) : Decidable (CostsOk c) := by unfold CostsOk; infer_instance
def GV (c : List Int) (es : List (List Int)) : Prop := c.length ≤ 8 ∧ es.length ≤ 64 ∧ CostsOk c ∧ ∀ e ∈ es, EdgeOk c.length e
instance (c : List Int) (es : List (List Int)) : Decidable (GV c es) := by unfold GV; infer_instance
theorem rd5_at (xs : List (List Int)) (i : Nat) (h : i < xs.length) : rd_L5 xs (i : Int) = xs[i] := by
  unfold rd_L5
  rw [List.getD_eq_getElem?_getD, Int.toNat_natCast, List.getElem?_eq_getElem h]
  rfl
theorem costs_f (c : List Int) : any_costs.f c = some (decide (¬ CostsOk c)) := by
  unfold any_costs.f
  congr 1
  rw [Bool.eq_iff_iff, List.any_eq_true]
  unfold CostsOk
  simp only [any_costs.bad, decide_eq_true_eq]
  constructor
  · rintro ⟨x, hx, h⟩ hh
    have := hh x hx
    simp at h
    omega
  · intro hh
    refine Classical.byContradiction fun hc => hh fun x hx => ?_
    refine Classical.byContradiction fun h2 => hc ⟨x, hx, ?_⟩
    simp; omega
theorem all_of {α : Type} {P : α → Prop} {l : List α} (h : ∀ i (h : i < l.length), P l[i]) : ∀ x ∈ l, P x := by
  intro x hx
  obtain ⟨i, hi, rfl⟩ := List.mem_iff_getElem.1 hx
  exact h i hi
theorem upto {α : Type} {P : α → Prop} {l : List α} {j : Nat} (hj : j < l.length) (hm : ∀ i (h : i < l.length), i < j → P l[i]) (h : P l[j]) : ∀ i (h : i < l.length), i < j + 1 → P l[i] := by
  intro i hi hij
  rcases Nat.lt_or_ge i j with h' | h'
  · exact hm i hi h'
  · obtain rfl : i = j := by omega
    exact h
theorem impl_gv (c : List Int) (es : List (List Int)) (hc : c.length ≤ 2097152) (he : es.length ≤ 2097152) : Ev (fun k => impl_GraphValid.f k c es) (decide (GV c es)) := by
  have loop : ∀ d j, j + d = es.length → (∀ i (h : i < es.length), i < j → EdgeOk c.length es[i]) → Ev (fun k => impl_GraphValid.l0 k c es es (es.length : Int) (j : Int)) (decide (GV c es)) := by
    intro d
    induction d with
    | zero =>
      intro j hj hm
      have ha : ∀ e ∈ es, EdgeOk c.length e := all_of (fun i hi => hm i hi (by omega))
      refine Ev.step (f := fun _ => some (decide (GV c es))) (fun k => ?_) (Ev.now _)
      simp only [impl_GraphValid.l0]
      rw [if_neg (by omega)]
      by_cases h1 : c.length ≤ 8
      · rw [if_pos (by omega)]
        by_cases h2 : es.length ≤ 64
        · rw [if_pos (by omega), costs_f]
          simp only [Option.bind_some]
          congr 1
          rw [Bool.eq_iff_iff]
          unfold GV
          simp [h1, h2]
          exact fun _ => ha
        · rw [if_neg (by omega), decide_eq_false (fun h => h2 h.2.1)]
      · rw [if_neg (by omega), decide_eq_false (fun h => h1 h.1)]
    | succ d ih =>
      intro j hj hm
      have hjl : j < es.length := by omega
      by_cases hok : EdgeOk c.length es[j]
      · refine Ev.step (fun k => ?_) (ih (j + 1) (by omega) (upto hjl hm hok))
        unfold EdgeOk at hok
        simp only [impl_GraphValid.l0]
        rw [if_pos (by omega), if_pos (by omega), if_pos (by omega), rd5_at es j hjl, if_pos (by omega), if_pos (by omega), in_f, and_bind, w64 (x := (c.length : Int) - 1) (by omega) (by omega), if_pos (by omega), if_pos (by omega), in_f, and_bind, if_pos (by omega), if_neg (by omega), w64 (by omega) (by omega)]
        rfl
      · rw [decide_eq_false (fun h => hok (h.2.2.2 _ (List.getElem_mem hjl)))]
        refine Ev.step (f := fun _ => some false) (fun k => ?_) (Ev.now _)
        unfold EdgeOk at hok
        simp only [impl_GraphValid.l0]
        rw [if_pos (by omega), if_pos (by omega), if_pos (by omega), rd5_at es j hjl]
        by_cases h1 : es[j].length = 2
        · rw [if_pos (by omega), if_pos (by omega), in_f, and_bind, w64 (x := (c.length : Int) - 1) (by omega) (by omega)]
          by_cases h2 : 0 ≤ rd es[j] 0 ∧ rd es[j] 0 ≤ (c.length : Int) - 1
          · rw [if_pos h2, if_pos (by omega), in_f, and_bind]
            by_cases h3 : rd es[j] 0 ≤ rd es[j] 1 ∧ rd es[j] 1 ≤ (c.length : Int) - 1
            · rw [if_pos h3, if_pos (by omega)]
            · rw [if_neg h3]
          · rw [if_neg h2]
        · rw [if_neg (by omega)]
  have h := loop es.length 0 (by omega) (fun i _ h => by omega)
  refine Ev.congr (fun k => ?_) h
  unfold impl_GraphValid.f
  rfl
theorem spec_gv (c : List Int) (es : List (List Int)) : Ev (fun k => spec_GraphValid.f k c es) (decide (GV c es)) := by
  have no : ¬ GV c es → Ev (fun k => spec_GraphValid.j0 k c es true) (decide (GV c es)) := by
    intro h
    rw [decide_eq_false h]
    exact Ev.step (f := fun _ => some false) (fun k => by simp [spec_GraphValid.j0]) (Ev.now _)
  by_cases h1 : c.length ≤ 8
  · by_cases h2 : es.length ≤ 64
    · have edges : CostsOk c → ∀ d j, j + d = es.length → (∀ i (h : i < es.length), i < j → EdgeOk c.length es[i]) → Ev (fun k => spec_GraphValid.l1 k c es (j : Int)) (decide (GV c es)) := by
        intro hco d
        induction d with
        | zero =>
          intro j hj hm
          have ha : ∀ e ∈ es, EdgeOk c.length e := all_of (fun i hi => hm i hi (by omega))
          rw [decide_eq_true (show GV c es from ⟨h1, h2, hco, ha⟩)]
          refine Ev.step (f := fun _ => some true) (fun k => ?_) (Ev.now _)
          simp only [spec_GraphValid.l1]
          rw [if_neg (by omega)]
        | succ d ih =>
          intro j hj hm
          have hjl : j < es.length := by omega
          by_cases hok : EdgeOk c.length es[j]
          · refine Ev.step (fun k => ?_) (ih (j + 1) (by omega) (upto hjl hm hok))
            unfold EdgeOk at hok
            simp only [spec_GraphValid.l1]
            rw [if_pos (by omega), if_pos (by omega), rd5_at es j hjl, if_pos (by omega), if_pos (by omega), l1In_f, and_bind, w64 (x := (c.length : Int) - 1) (by omega) (by omega), if_pos (by omega), if_pos (by omega), l1In_f, and_bind, w64 (x := rd es[j] 1 - 1) (by omega) (by omega), if_pos (by omega), w64 (by omega) (by omega)]
            rfl
          · rw [decide_eq_false (fun h => hok (h.2.2.2 _ (List.getElem_mem hjl)))]
            refine Ev.step (f := fun _ => some false) (fun k => ?_) (Ev.now _)
            unfold EdgeOk at hok
            simp only [spec_GraphValid.l1]
            rw [if_pos (by omega), if_pos (by omega), rd5_at es j hjl]
            by_cases h3 : es[j].length = 2
            · rw [if_pos (by omega), if_pos (by omega), l1In_f, and_bind, w64 (x := (c.length : Int) - 1) (by omega) (by omega)]
              by_cases h4 : 0 ≤ rd es[j] 1 ∧ rd es[j] 1 ≤ (c.length : Int) - 1
              · rw [if_pos h4, if_pos (by omega), l1In_f, and_bind, w64 (x := rd es[j] 1 - 1) (by omega) (by omega), if_neg (by omega)]
              · rw [if_neg h4]
            · rw [if_neg (by omega)]
      have costs : ∀ d j, j + d = c.length → (∀ i (h : i < c.length), i < j → 1 ≤ c[i] ∧ c[i] ≤ 8) → Ev (fun k => spec_GraphValid.l0 k c es (j : Int)) (decide (GV c es)) := by
        intro d
        induction d with
        | zero =>
          intro j hj hm
          have ha : CostsOk c := all_of (fun i hi => hm i hi (by omega))
          refine Ev.step (fun k => ?_) (edges ha es.length 0 (by omega) (fun i _ h => by omega))
          simp only [spec_GraphValid.l0]
          rw [if_neg (by omega)]
          rfl
        | succ d ih =>
          intro j hj hm
          have hjl : j < c.length := by omega
          by_cases hok : 1 ≤ c[j] ∧ c[j] ≤ 8
          · refine Ev.step (fun k => ?_) (ih (j + 1) (by omega) (upto (P := fun x => 1 ≤ x ∧ x ≤ 8) hjl hm hok))
            simp only [spec_GraphValid.l0]
            rw [if_pos (by omega), if_pos (by omega), rd_at c j hjl, l1In_f, and_bind, if_pos hok, w64 (by omega) (by omega)]
            rfl
          · rw [decide_eq_false (fun h => hok (h.2.2.1 _ (List.getElem_mem hjl)))]
            refine Ev.step (f := fun _ => some false) (fun k => ?_) (Ev.now _)
            simp only [spec_GraphValid.l0]
            rw [if_pos (by omega), if_pos (by omega), rd_at c j hjl, l1In_f, and_bind, if_neg hok]
      have hs : Ev (fun k => spec_GraphValid.j0 k c es (decide ((es.length : Int) > 64))) (decide (GV c es)) := by
        refine Ev.step (fun k => ?_) (costs c.length 0 (by omega) (fun i _ h => by omega))
        simp only [spec_GraphValid.j0]
        rw [if_neg (by simp; omega)]
        rfl
      refine Ev.congr (fun k => ?_) hs
      unfold spec_GraphValid.f
      rw [if_neg (by omega)]
    · refine Ev.congr (fun k => ?_) (no (fun h => h2 h.2.1))
      unfold spec_GraphValid.f
      rw [if_neg (by omega), decide_eq_true (by omega)]
  · refine Ev.congr (fun k => ?_) (no (fun h => h1 h.1))
    unfold spec_GraphValid.f
    rw [if_pos (by omega)]
end Go.Proofs.Ytkmpcmhkfnoeiaa.Graph
/- GraphValid answers as the reference does. No condition. -/
namespace Go.Proofs.Ytkmpcmhkfnoeiaa.Pure
open Go.RowKit Go.Proofs.Ytkmpcmhkfnoeiaa.P Go.Proofs.Ytkmpcmhkfnoeiaa.Base Go.Proofs.Ytkmpcmhkfnoeiaa.Gen Go.Proofs.YtkmpcmhkfnoeiaaW.PrintWords Go.Proofs.YtkmpcmhkfnoeiaaW.PrintLast
open Go.Proofs.Ytkmpcmhkfnoeiaa.CopyInt Go.Proofs.Ytkmpcmhkfnoeiaa.CopySS Go.Proofs.Ytkmpcmhkfnoeiaa.Graph 

theorem FnExactGraphValid : laws_FnExactGraphValid.Pure := by
  intro c es _ _ _ he
  apply Tot.rounds
  unfold laws_FnExactGraphValid.f
  refine Tot.ite (fun _ => Tot.ret _ rfl) (fun hl => ?_)
  have hl2 : c.length ≤ 1048576 := by omega
  refine Tot.bind (szIntSS_tot es he.1 (fun e h => (he.2 e h).1)) ?_
  intro r hr
  refine Tot.ite (fun _ => Tot.ret _ rfl) (fun h0 => ?_)
  have hs : Small es := hr.resolve_left h0
  have hs1 := hs.1
  clear hl hr he
  refine Tot.bind (toIntS_tot _ hl2) ?_
  rintro _ rfl
  refine Tot.bind (toIntSS_tot _ hs) ?_
  rintro _ rfl
  refine Tot.bind (Tot.val (spec_gv _ _)) ?_
  rintro _ rfl
  refine Tot.bind (toIntS_tot _ hl2) ?_
  rintro _ rfl
  refine Tot.bind (toIntSS_tot _ hs) ?_
  rintro _ rfl
  refine Tot.bind (Tot.val (impl_gv _ _ (by omega) (by omega))) ?_
  rintro _ rfl
  refine Tot.no (by simp) ?_
  refine Tot.bind (toIntS_tot _ hl2) ?_
  rintro _ rfl
  refine Tot.bind (eqIntS_tot _ hl2) ?_
  rintro _ rfl
  refine Tot.yes rfl (Tot.bind (toIntSS_tot _ hs) ?_)
  rintro _ rfl
  refine Tot.bind (eqIntSS_tot _ hs) ?_
  rintro _ rfl
  exact Tot.yes rfl (Tot.ret _ rfl)
end Go.Proofs.Ytkmpcmhkfnoeiaa.Pure
/- Arguments of a law laid open: whatever reads as data of a type reads as a value of its kind.
   No condition. -/
namespace Go.Proofs.Ytkmpcmhkfnoeiaa.Opn
open Go.ChangeShapes Go.WideShapes Go.Deep Go.RowKit Go.Proofs.YtkmpcmhkfnoeiaaW.PrintWords
section
variable {H : Type} {enc : TypeId × Value → H} {P : Program} {W : World} {base : Nat} {spare : Nat → Bool} {held : Bool}

/-- Whatever reads as data of type t reads as a value of the kind d that is good. -/
def Opens {α : Type} (enc : TypeId × Value → H) (P : Program) (W : World) (base : Nat) (spare : Nat → Bool) (held : Bool) (t : TypeId) (d : Kd α) (G : α → Prop) : Prop :=
  ∀ (fuel : Nat) (cs : List Value) (x : DataW H × List MemPlace), DataW.trod enc P W base spare held fuel t cs = some x → ∃ a, d.K W a cs ∧ G a

theorem opens_int {t : TypeId} {k : IntKind} (hu : P.underlying t = some (.int k)) : Opens enc P W base spare held t (Kd.int k) (fun x => (Lit.int k x).wf = true) := by
  intro fuel cs x h
  obtain ⟨n, hc, _, hw⟩ := DataW.trod_int hu h
  exact ⟨n, hc, hw⟩
theorem opens_bool {t : TypeId} (hu : P.underlying t = some .bool) : Opens enc P W base spare held t Kd.bool (fun _ => True) := by
  intro fuel cs x h
  obtain ⟨n, hc, _⟩ := DataW.trod_bool hu h
  exact ⟨n, hc, trivial⟩

theorem list_of {α : Type} (m : Nat) (R : Nat → α → Prop) (h : ∀ i, i < m → ∃ a, R i a) : ∃ xs : List α, xs.length = m ∧ ∀ i a, xs[i]? = some a → R i a := by
  induction m with
  | zero => exact ⟨[], rfl, fun i a ha => by simp at ha⟩
  | succ m ih =>
    obtain ⟨xs, hl, hx⟩ := ih (fun i hi => h i (by omega))
    obtain ⟨a, ha⟩ := h m (by omega)
    refine ⟨xs ++ [a], by simp [hl], fun i b hb => ?_⟩
    rcases Nat.lt_or_ge i m with hi | hi
    · rw [List.getElem?_append_left (by omega)] at hb
      exact hx i b hb
    · have hi' : i = m := by
        have := (List.getElem?_eq_some_iff.1 hb).1
        simp at this
        omega
      subst hi'
      have : a = b := by simpa [hl] using hb
      subst this
      exact ha

/-- A slice of what opens. -/
theorem slice_row {α : Type} {t e : TypeId} {d : Kd α} {G : α → Prop} (hu : P.underlying t = some (.slice e)) (hC : P.cellsOf e = d.sz) (he : Opens enc P W base spare held e d G)
    {fuel : Nat} {A : Option Addr} {n cap : Nat} {x : DataW H × List MemPlace} (h : DataW.trod enc P W base spare held fuel t [.slice A n cap] = some x) :
    ∃ xs : List α, xs.length = n ∧ n ≤ cap ∧ n ≤ maxLen ∧ d.C W A xs.length xs ∧ ∀ y ∈ xs, G y := by
  rcases open_slice hu h with ⟨h0, _⟩ | ⟨a, len, c, m, k, D, Pl, hcs, _, hl, hm, hmm, _, hel⟩
  · simp only [List.cons.injEq, Value.slice.injEq, and_true] at h0
    obtain ⟨rfl, rfl, rfl⟩ := h0
    exact ⟨[], rfl, Nat.le_refl _, by simp [maxLen], Kd.C_nil d W, fun y hy => by simp at hy⟩
  · simp only [List.cons.injEq, Value.slice.injEq, and_true] at hcs
    obtain ⟨rfl, rfl, rfl⟩ := hcs
    have hle : n ≤ m := by rw [hmm]; split <;> omega
    obtain ⟨xs, hxl, hx⟩ := list_of (α := α) n (fun i y => G y ∧ ∃ cs', d.K W y cs' ∧ cs'.length = d.sz ∧ ∀ j, j < d.sz → W.cell? ((a.add (i * d.sz)).add j) = cs'[j]?) (by
      intro i hi
      obtain ⟨cs', hc, ht⟩ := hel i (by omega)
      obtain ⟨y, hK, hG⟩ := he _ _ _ ht
      rw [hC] at hc
      obtain ⟨_, hcl, hcc⟩ := World.cells?_some hc
      exact ⟨y, hG, cs', hK, hcl, hcc⟩)
    refine ⟨xs, hxl, hl, by omega, ⟨rfl, by simp only [maxLen] at hm; omega, fun hp => ⟨a, rfl, fun j p hj => ?_⟩⟩, fun y hy => ?_⟩
    · obtain ⟨_, cs', hK, hcl, hcc⟩ := hx j p hj
      refine ⟨cs', hcl, hK, fun i u hi => ?_⟩
      have hlt : i < d.sz := by
        have := (List.getElem?_eq_some_iff.1 hi).1
        omega
      rw [← Go.Deep.add_add, hcc i hlt, hi]
    · obtain ⟨i, hi, rfl⟩ := List.getElem_of_mem hy
      exact (hx i _ (List.getElem?_eq_getElem hi)).1
theorem opens_slice {α : Type} {t e : TypeId} {d : Kd α} {G : α → Prop} (hu : P.underlying t = some (.slice e)) (hC : P.cellsOf e = d.sz) (he : Opens enc P W base spare held e d G) :
    Opens enc P W base spare held t (Kd.slice e d) (fun xs => xs.length ≤ maxLen ∧ ∀ y ∈ xs, G y) := by
  intro fuel cs x h
  have hform : ∃ A n c, cs = [.slice A n c] := by
    rcases open_slice hu h with ⟨h0, _⟩ | ⟨a, len, c, m, k, D, Pl, hcs, _⟩
    · exact ⟨_, _, _, h0⟩
    · exact ⟨_, _, _, hcs⟩
  obtain ⟨A, n, c, rfl⟩ := hform
  obtain ⟨xs, rfl, hc, hm, hC', hG⟩ := slice_row hu hC he h
  exact ⟨xs, ⟨A, c, rfl, hc, hC'⟩, hm, hG⟩

/-- A struct of whole numbers. -/
theorem trod_ints {t : TypeId} {fs : Array Field} (hs : P.underlying t = some (.struct fs)) (hC : P.cellsOf t = fs.size) (hf : ∀ (j : Nat) (f : Field), fs[j]? = some f → f.offset = j ∧ P.cellsOf f.type = 1 ∧ P.underlying f.type = some (.int .i64))
    {fuel : Nat} {cs : List Value} {x : DataW H × List MemPlace} (h : DataW.trod enc P W base spare held fuel t cs = some x) :
    ∃ xs : List Int, xs.length = fs.size ∧ cs = xs.map (Value.int .i64) ∧ ∀ y ∈ xs, (Lit.int .i64 y).wf = true := by
  obtain ⟨ys, n, _, _, hl, hyl, hy⟩ := DataW.trod_struct hs h
  obtain ⟨xs, hxl, hx⟩ := list_of (α := Int) fs.size (fun j y => cs[j]? = some (.int .i64 y) ∧ (Lit.int .i64 y).wf = true) (by
    intro j hj
    have hfj : fs[j]? = some fs[j] := Array.getElem?_eq_getElem hj
    obtain ⟨ho, hk, hi⟩ := hf j _ hfj
    have h1 := hy j _ hfj
    rw [ho, hk] at h1
    have hjl : j < cs.length := by omega
    have e1 : (cs.drop j).take 1 = [cs[j]'hjl] := by
      rw [List.drop_eq_getElem_cons hjl]
      rfl
    rw [e1, List.getElem?_eq_getElem (by omega)] at h1
    obtain ⟨y, hc, _, hw⟩ := DataW.trod_int hi h1
    refine ⟨y, ?_, hw⟩
    rw [List.getElem?_eq_getElem hjl]
    simpa using hc)
  refine ⟨xs, hxl, ?_, fun y hy' => ?_⟩
  · apply List.ext_getElem?
    intro j
    rcases Nat.lt_or_ge j fs.size with hj | hj
    · rw [List.getElem?_map]
      have e := List.getElem?_eq_getElem (l := xs) (i := j) (by omega)
      rw [e, (hx j _ e).1]
      rfl
    · rw [List.getElem?_eq_none (by omega), List.getElem?_eq_none (by simp; omega)]
  · obtain ⟨i, hi, rfl⟩ := List.getElem_of_mem hy'
    exact (hx i _ (List.getElem?_eq_getElem hi)).2
theorem one2 {xs : List Int} (h : xs.length = 2) : ∃ a b, xs = [a, b] := by
  match xs, h with
  | [a, b], _ => exact ⟨a, b, rfl⟩
theorem one3 {xs : List Int} (h : xs.length = 3) : ∃ a b c, xs = [a, b, c] := by
  match xs, h with
  | [a, b, c], _ => exact ⟨a, b, c, rfl⟩
theorem one4 {xs : List Int} (h : xs.length = 4) : ∃ a b c d, xs = [a, b, c, d] := by
  match xs, h with
  | [a, b, c, d], _ => exact ⟨a, b, c, d, rfl⟩
theorem agg_cells (cs : Array Value) : (Value.agg cs).cells.toList = cs.toList := rfl
/-- The weight of a slice bounds its length. -/
theorem sized_row {t e : TypeId} {A : Option Addr} {n cap : Nat} {d : DataW H} {ps : List MemPlace} {ts : List TypeId} {ds : List (DataW H)} {j : Nat}
    (hsz : (DataW.weightsEach P ts ds).all (· ≤ reachBytes) = true) (ht : ts[j]? = some t) (hd : ds[j]? = some d) (hu : P.underlying t = some (.slice e)) {B : Nat} (hB : P.bytesOf e = B)
    (h : DataW.Trod enc P W base spare held t (.slice A n cap) d ps) : n * B ≤ 140737488351232 := by
  obtain ⟨fuel, hf⟩ := h
  have hf' : DataW.trod enc P W base spare held fuel t [.slice A n cap] = some (d, ps) := hf
  rcases open_slice hu hf' with ⟨h0, _⟩ | ⟨a, len, c, m, k, D, Pl, hcs, _, hl, hm, hmm, hx, hel⟩
  · simp only [List.cons.injEq, Value.slice.injEq, and_true] at h0
    obtain ⟨rfl, rfl, rfl⟩ := h0
    simp
  · simp only [List.cons.injEq, Value.slice.injEq, and_true] at hcs
    obtain ⟨rfl, rfl, rfl⟩ := hcs
    obtain ⟨hx, _⟩ := Prod.mk.inj hx
    subst hx
    have z := sized_slice hsz ht hd hu
    rw [hB] at z
    simp only [List.length_map, List.length_range] at z
    exact Nat.le_trans (Nat.mul_le_mul_right _ (by omega)) z
end
end Go.Proofs.Ytkmpcmhkfnoeiaa.Opn
/- The head of the translation: a cut, with nothing lifted. No condition. -/
namespace Go.Proofs.Ytkmpcmhkfnoeiaa.Head
open Go
def chars (l : List Nat) : List Char := l.map Char.ofNat
def w1 : List Nat := [104, 97, 114, 110, 101, 115, 115]
def w2 : List Nat := [98, 51, 101, 57, 53, 99, 48, 99, 53, 99, 48, 102, 56, 101, 53, 99, 99, 102, 102, 51, 56, 51, 55, 99, 98, 54, 57, 51, 102, 99, 102, 99, 56, 55, 101, 57, 99, 51, 54, 55, 51, 54, 57, 97, 98, 97, 48, 56, 49, 99, 55, 50, 51, 97, 97, 50, 55, 48, 99, 53, 49, 99, 55, 54]
def w3 : List Nat := [99, 117, 116]
def w4 : List Nat := [97, 116, 32, 108, 111, 111, 112, 46, 101, 120, 97, 109, 112, 108, 101, 47, 100, 101, 97, 100, 108, 105, 110, 101, 115, 99, 104, 101, 100, 117, 108, 101, 114, 47, 108, 97, 119, 115, 46, 70, 110, 69, 120, 97, 99, 116, 83, 117, 98, 116, 97, 115, 107, 87, 105, 110, 100, 111, 119, 32, 108, 111, 111, 112, 46, 101, 120, 97, 109, 112, 108, 101, 47, 100, 101, 97, 100, 108, 105, 110, 101, 115, 99, 104, 101, 100, 117, 108, 101, 114, 47, 108, 97, 119, 115, 46, 70, 110, 83, 117, 98, 116, 97, 115, 107, 87, 105, 110, 100, 111, 119, 32, 108, 111, 111, 112, 46, 101, 120, 97, 109, 112, 108, 101, 47, 100, 101, 97, 100, 108, 105, 110, 101, 115, 99, 104, 101, 100, 117, 108, 101, 114, 47, 108, 97, 119, 115, 46, 70, 110, 69, 120, 97, 99, 116, 67, 111, 110, 102, 111, 114, 109, 115, 32, 108, 111, 111, 112, 46, 101, 120, 97, 109, 112, 108, 101, 47, 100, 101, 97, 100, 108, 105, 110, 101, 115, 99, 104, 101, 100, 117, 108, 101, 114, 47, 108, 97, 119, 115, 46, 70, 110, 67, 111, 110, 102, 111, 114, 109, 115, 32, 108, 111, 111, 112, 46, 101, 120, 97, 109, 112, 108, 101, 47, 100, 101, 97, 100, 108, 105, 110, 101, 115, 99, 104, 101, 100, 117, 108, 101, 114, 47, 108, 97, 119, 115, 46, 70, 110, 69, 120, 97, 99, 116, 66, 97, 99, 107, 108, 111, 103, 115, 32, 108, 111, 111, 112, 46, 101, 120, 97, 109, 112, 108, 101, 47, 100, 101, 97, 100, 108, 105, 110, 101, 115, 99, 104, 101, 100, 117, 108, 101, 114, 47, 108, 97, 119, 115, 46, 70, 110, 66, 97, 99, 107, 108, 111, 103, 115, 32, 108, 111, 111, 112, 46, 101, 120, 97, 109, 112, 108, 101, 47, 100, 101, 97, 100, 108, 105, 110, 101, 115, 99, 104, 101, 100, 117, 108, 101, 114, 47, 108, 97, 119, 115, 46, 70, 110, 66, 97, 99, 107, 108, 111, 103, 83, 97, 102, 101, 32, 108, 111, 111, 112, 46, 101, 120, 97, 109, 112, 108, 101, 47, 100, 101, 97, 100, 108, 105, 110, 101, 115, 99, 104, 101, 100, 117, 108, 101, 114, 47, 108, 97, 119, 115, 46, 70, 110, 68, 101, 108, 97, 121, 83, 97, 102, 101, 32, 108, 111, 111, 112, 46, 101, 120, 97, 109, 112, 108, 101, 47, 100, 101, 97, 100, 108, 105, 110, 101, 115, 99, 104, 101, 100, 117, 108, 101, 114, 47, 108, 97, 119, 115, 46, 70, 110, 69, 120, 97, 99, 116, 71, 114, 97, 112, 104, 86, 97, 108, 105, 100, 32, 108, 111, 111, 112, 46, 101, 120, 97, 109, 112, 108, 101, 47, 100, 101, 97, 100, 108, 105, 110, 101, 115, 99, 104, 101, 100, 117, 108, 101, 114, 47, 108, 97, 119, 115, 46, 70, 110, 71, 114, 97, 112, 104, 86, 97, 108, 105, 100, 32, 108, 111, 111, 112, 46, 101, 120, 97, 109, 112, 108, 101, 47, 100, 101, 97, 100, 108, 105, 110, 101, 115, 99, 104, 101, 100, 117, 108, 101, 114, 47, 108, 97, 119, 115, 46, 70, 110, 69, 120, 97, 99, 116, 86, 111, 108, 117, 109, 101, 32, 108, 111, 111, 112, 46, 101, 120, 97, 109, 112, 108, 101, 47, 100, 101, 97, 100, 108, 105, 110, 101, 115, 99, 104, 101, 100, 117, 108, 101, 114, 47, 108, 97, 119, 115, 46, 70, 110, 69, 120, 97, 99, 116, 67, 114, 105, 116, 105, 99, 97, 108, 80, 97, 116, 104, 32, 108, 111, 111, 112, 46, 101, 120, 97, 109, 112, 108, 101, 47, 100, 101, 97, 100, 108, 105, 110, 101, 115, 99, 104, 101, 100, 117, 108, 101, 114, 47, 108, 97, 119, 115, 46, 70, 110, 67, 114, 105, 116, 105, 99, 97, 108, 80, 97, 116, 104, 32, 108, 111, 111, 112, 46, 101, 120, 97, 109, 112, 108, 101, 47, 100, 101, 97, 100, 108, 105, 110, 101, 115, 99, 104, 101, 100, 117, 108, 101, 114, 47, 108, 97, 119, 115, 46, 70, 110, 69, 120, 97, 99, 116, 77, 97, 107, 101, 115, 112, 97, 110, 66, 111, 117, 110, 100]
theorem io_eq : Try.prog.initOrder = String.ofList (chars (w1 ++ 32 :: (w2 ++ 32 :: (w3 ++ 32 :: w4)))) := by kernel_rfl
theorem io_list : Try.prog.initOrder.toList = chars (w1 ++ 32 :: (w2 ++ 32 :: (w3 ++ 32 :: w4))) := by rw [io_eq, String.toList_ofList]
theorem ws_one (c : Char) (r w : List Char) (ws : List (List Char)) (hc : c ≠ Char.ofNat 32) (h : wordsSigns r = w :: ws) : wordsSigns (c :: r) = (c :: w) :: ws := by
  have e : wordsSigns (c :: r) = match wordsSigns r with
    | w :: ws => (c :: w) :: ws
    | [] => [[c]] := by
    rw [wordsSigns]
    · rfl
    · exact hc
  rw [e, h]
theorem ws_word (w : List Char) (h : ∀ c ∈ w, c ≠ Char.ofNat 32) (r : List Char) : wordsSigns (w ++ Char.ofNat 32 :: r) = w :: wordsSigns r := by
  induction w with
  | nil => rfl
  | cons c w ih => exact ws_one _ _ _ _ (h c (by simp)) (ih (fun x hx => h x (by simp [hx])))
theorem ws_nat (w r : List Nat) (h : w.all (fun n => !(Char.ofNat n == Char.ofNat 32)) = true) : wordsSigns (chars (w ++ 32 :: r)) = chars w :: wordsSigns (chars r) := by
  have e : chars (w ++ 32 :: r) = chars w ++ Char.ofNat 32 :: chars r := by simp [chars]
  rw [e]
  refine ws_word _ (fun c hc => ?_) _
  obtain ⟨n, hn, rfl⟩ := List.mem_map.1 hc
  have := List.all_eq_true.1 h n hn
  simpa using this
theorem io_words : behindMainWord (wordsSigns Try.prog.initOrder.toList) = chars w3 :: wordsSigns (chars w4) := by
  rw [io_list, ws_nat _ _ (by kernel_rfl), ws_nat _ _ (by kernel_rfl), ws_nat _ _ (by kernel_rfl)]
  generalize wordsSigns (chars w4) = R
  kernel_rfl
theorem make_gen (P : Program) (c : List Char) (R : List (List Char)) (h : behindMainWord (wordsSigns P.initOrder.toList) = c :: R) (h1 : (c == "gc".toList || c == "spec".toList) = false) (h2 : (c == "cut".toList) = true) : P.make = some .cut := by
  unfold Program.make
  rw [h]
  simp only [h1, h2, Bool.true_or, if_true, Bool.false_eq_true, if_false]
theorem make : Try.prog.make = some .cut := make_gen _ _ _ io_words (by kernel_rfl) (by kernel_rfl)
theorem enter_gen (P : Program) (c : List Char) (R : List (List Char)) (h : behindMainWord (wordsSigns P.initOrder.toList) = c :: R) (h1 : ∀ R, stripLifts liftWords (c :: R) = ([], c :: R)) (h2 : (some c == some "cut".toList) = true)
    (h3 : P.laysLater = false) (h4 : P.bearsReflect = false) (h5 : P.doorFits [] = true) : P.mayEnter = true := by
  unfold Program.mayEnter
  rw [h]
  simp only [h1, h2, h3, h4, h5, List.head?_cons, Bool.not_false, Bool.or_true, Bool.and_true, List.contains_nil]
theorem enter : Try.prog.mayEnter = true := enter_gen _ _ _ io_words (fun R => by kernel_rfl) (by kernel_rfl) (by kernel_rfl) (by kernel_rfl) (by kernel_rfl)
theorem lifts : Try.prog.liftsFinal = false := by
  unfold Program.liftsFinal Program.headLifts
  simp only [io_words]
  generalize wordsSigns (chars w4) = R
  kernel_rfl
end Go.Proofs.Ytkmpcmhkfnoeiaa.Head
/- The law FnExactGraphValid, proved: for every input the call returns true and each argument reads as it did. No condition. -/
namespace Go.Proofs.Ytkmpcmhkfnoeiaa.fnExactGraphValid
open Go.ChangeShapes Go.WideShapes Go.ChangeAt Go.RowKit Go.Proofs.YtkmpcmhkfnoeiaaW.PrintWords Go.Proofs.Ytkmpcmhkfnoeiaa.P
open Go.ChangeMaps (open_string shut_string)
theorem own : ownKnob Try.prog.godebug = none := by kernel_rfl
theorem laidOut : laidOutB Try.prog = true := by kernel_rfl
set_option maxRecDepth 100000 in
theorem lifted (os : Os) (started : os.Started) (H : Type) (enc : TypeId × Value → H) :
    ReturnsInHanded {} Try.checked os 11 .any (Rows.fnExactGraphValidSpec.pre6 enc Try.prog Try.f11 Rows.fnExactGraphValidRow.domain false) (Rows.fnExactGraphValidSpec.post enc Try.prog Try.f11 false true false false) := by
  refine returnsInHanded_of_change_sized (C := Try.checked) own started (by kernel_rfl) Try.func11
    (ChangeSpec.witness6 (enc := enc) (C := Try.checked) false ⟨#[], #[.slice none 0 0, .slice none 0 0], []⟩ 8 (by kernel_rfl) (by kernel_rfl) (by kernel_rfl) (by kernel_rfl)) ?_
  intro W base args ds gs before hval0 hW hcnd hsz0 _
  have hsz : (DataW.weightsEach Try.prog (Try.f11.params.toList ++ Rows.fnExactGraphValidSpec.plain.varTypes Try.prog) (ds ++ gs)).all (· ≤ reachBytes) = true := hsz0
  have hval : ∀ (j : Nat) t v, Try.f11.params[j]? = some t → args[j]? = some v → Value.okWide Try.prog W .any base t v := hval0
  have hW' := hW
  obtain ⟨p, q, hA0, hV, rfl, hfz, hnd⟩ := hW
  have hA : DataW.TrodAll enc Try.prog W 0 (fun _ => true) true Try.f11.params.toList args.toList ds p := hA0
  rw [Try.params11] at hA hval hsz
  obtain ⟨v0, vs0, d0, ds0, p0, q0, hargs, rfl, rfl, h0, r0⟩ := trodAll_cons hA
  obtain ⟨v1, vs1, d1, ds1, p1, q1, rfl, rfl, rfl, h1, r1⟩ := trodAll_cons r0
  obtain ⟨rfl, rfl, rfl⟩ := trodAll_nil r1
  obtain rfl : args = #[v0, v1] := by cases args; simp_all
  obtain ⟨rfl, rfl⟩ := trodVars_none hV
  have k0 := h0
  have lt0 : ∀ x ∈ p0, x.block < W.heap.size := by obtain ⟨m, hm⟩ := k0; exact DataW.trod_lt m _ _ _ hm
  obtain ⟨A0, n0, c0, rfl⟩ := okWide_slice Try.underlying39 (hval 0 39 v0 rfl rfl)
  have y0 : n0 * 8 ≤ 140737488351232 := Opn.sized_row hsz (j := 0) (t := 39) rfl rfl Try.underlying39 (by kernel_rfl) h0
  obtain ⟨l0, rfl, hc0, hm0, hr0, hg0⟩ : ∃ xs : List (Int), xs.length = n0 ∧ n0 ≤ c0 ∧ n0 ≤ maxLen ∧ Kd.C (Kd.int .i64) W A0 xs.length xs ∧ ∀ y0 ∈ xs, (Lit.int .i64 y0).wf = true := by
    obtain ⟨fuel, hf⟩ := h0
    exact Opn.slice_row Try.underlying39 (by kernel_rfl) (Opn.opens_int Try.underlying3) hf
  have k1 := h1
  have lt1 : ∀ x ∈ p1, x.block < W.heap.size := by obtain ⟨m, hm⟩ := k1; exact DataW.trod_lt m _ _ _ hm
  obtain ⟨A1, n1, c1, rfl⟩ := okWide_slice Try.underlying60 (hval 1 60 v1 rfl rfl)
  have y1 : n1 * 24 ≤ 140737488351232 := Opn.sized_row hsz (j := 1) (t := 60) rfl rfl Try.underlying60 (by kernel_rfl) h1
  obtain ⟨l1, rfl, hc1, hm1, hr1, hg1⟩ : ∃ xs : List (List Int), xs.length = n1 ∧ n1 ≤ c1 ∧ n1 ≤ maxLen ∧ Kd.C (Kd.slice 3 (Kd.int .i64)) W A1 xs.length xs ∧ ∀ y0 ∈ xs, y0.length ≤ maxLen ∧ ∀ y1 ∈ y0, (Lit.int .i64 y1).wf = true := by
    obtain ⟨fuel, hf⟩ := h1
    exact Opn.slice_row Try.underlying60 (by kernel_rfl) (Opn.opens_slice Try.underlying39 (by kernel_rfl) (Opn.opens_int Try.underlying3)) hf
  obtain ⟨k, hk⟩ := Pure.FnExactGraphValid l0 l1 y0 ⟨hm0, hg0⟩ y1 ⟨hm1, hg1⟩
  clear hA0 hval0 hsz0 hsz
  refine (laws_FnExactGraphValid.calls k A0 c0 l0 A1 c1 l1 true W hr0 hc0 hr1 hc1 hk).mono fun e W' ⟨he, hd⟩ => ?_
  have bel := hd
  subst he
  exact ⟨_, rfl, _, _, _, [], _, [], hW', trodAll_mk1 (shut_bool Try.underlying4 _), (trodAll_cons_mk (Below.trod laidOut (by kernel_rfl) (of_decide_eq_true (by kernel_rfl)) k0 bel lt0) (trodAll_cons_mk (Below.trod laidOut (by kernel_rfl) (of_decide_eq_true (by kernel_rfl)) k1 bel lt1) trodAll_mk0)), rfl, bel.frame _, fun h => by cases h⟩
theorem closed : joinedFacts Try.prog 11 Try.f11 Rows.fnExactGraphValidSpec Rows.fnExactGraphValidRow = true := by
  simp only [joinedFacts, Head.enter, Head.lifts, Head.make]
  kernel_rfl
theorem named : Try.prog.funcNamed Rows.fnExactGraphValidRow.func = some 11 := by kernel_rfl
theorem wrapped : Try.f11.isWrapper Try.prog Rows.fnExactGraphValidRow.wrapper Rows.fnExactGraphValidRow.mainSum := by unfold Func.isWrapper; first | (rw [if_pos (by decide +kernel)]; kernel_rfl) | (rw [if_neg (by decide +kernel)]; exact ⟨rfl, rfl⟩)
theorem over : Rows.fnExactGraphValidRow.holds Try.pinned (OpenSpec.ofChange Rows.fnExactGraphValidSpec) :=
  OpenClaim.holds_of_wide 11 Try.f11 rfl rfl rfl rfl rfl rfl rfl ⟨rfl, rfl, rfl, rfl, rfl⟩ rfl rfl rfl rfl rfl named Try.func11 closed
    (of_decide_eq_true (by kernel_rfl)) wrapped
    (fun os started H enc _ => lifted os started H enc)
theorem proved : Rows.FnExactGraphValidSaid := over
#print axioms proved
end Go.Proofs.Ytkmpcmhkfnoeiaa.fnExactGraphValid
namespace Go.Proofs.Ytkmpcmhkfnoeiaa
/-- The row, under a short name, for the claim. -/
theorem fnExactGraphValid_holds : Rows.FnExactGraphValidSaid := fnExactGraphValid.proved
end Go.Proofs.Ytkmpcmhkfnoeiaa
