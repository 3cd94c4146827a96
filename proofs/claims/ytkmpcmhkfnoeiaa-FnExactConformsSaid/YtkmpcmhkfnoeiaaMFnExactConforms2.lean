/- The law FnExactConforms for every input, part 2 of its proof: what the program's functions answer, and the plain law. No condition. -/
import Derived.Test.YtkmpcmhkfnoeiaaMFnExactConforms1
import Derived.Test.YtkmpcmhkfnoeiaaWWords
import Derived.SizedLaws
import Derived.ChangeSlices
import Derived.ChangeArms
import Derived.WideShapes
import Derived.Deep.Slices
import Derived.OpenShut
import Derived.Test.YtkmpcmhkfnoeiaaRows
import Derived.JoinedOf
import Derived.KernelRfl
import Derived.WalkKit
import Derived.ProofKit
import Derived.ShutString
import Derived.ChangeOld
import Derived.Below
/- Conforms, of the program and of the reference, is one test. No condition. -/
namespace Go.Proofs.Ytkmpcmhkfnoeiaa.Conf
open Go.RowKit Go.Proofs.Ytkmpcmhkfnoeiaa.P Go.Proofs.Ytkmpcmhkfnoeiaa.Base Go.Proofs.Ytkmpcmhkfnoeiaa.Net Go.Proofs.Ytkmpcmhkfnoeiaa.Gen Go.Proofs.YtkmpcmhkfnoeiaaW.PrintWords Go.Proofs.YtkmpcmhkfnoeiaaW.PrintLast
/-- The sum of n amounts from place j on. -/
def sm (l : List Int) (j : Nat) : Nat → Int
  | 0 => 0
  | n + 1 => sm l j n + l.getD (j + n) 0
/-- All amounts are in 0..1000. -/
def Am (l : List Int) : Prop := ∀ x ∈ l, 0 ≤ x ∧ x ≤ 1000
instance (l : List Int) : Decidable (Am l) := by unfold Am; infer_instance
theorem getD_bd {l : List Int} (h : Am l) (i : Nat) : 0 ≤ l.getD i 0 ∧ l.getD i 0 ≤ 1000 := by
  rw [List.getD_eq_getElem?_getD]
  rcases Nat.lt_or_ge i l.length with hi | hi
  · rw [List.getElem?_eq_getElem hi]; exact h _ (List.getElem_mem hi)
  · rw [List.getElem?_eq_none hi]; simp
theorem sm_bd {l : List Int} (h : Am l) (j n : Nat) : 0 ≤ sm l j n ∧ sm l j n ≤ 1000 * n := by
  induction n with
  | zero => simp [sm]
  | succ n ih => have := getD_bd h (j + n); simp only [sm]; push_cast; omega
def row (b r : Int) (l : List Int) (j : Nat) : Prop := ∀ n, n < 121 → 1 ≤ n → j + n ≤ l.length → sm l j n ≤ b + r * n
instance (b r : Int) (l : List Int) (j : Nat) : Decidable (row b r l j) := by unfold row; infer_instance
def rest (b r : Int) (l : List Int) (q : Nat) : Prop := ∀ j, j < 121 → q ≤ j → row b r l j
instance (b r : Int) (l : List Int) (q : Nat) : Decidable (rest b r l q) := by unfold rest; infer_instance
theorem rest_end {b r : Int} {l : List Int} {q : Nat} (h : l.length ≤ q) : rest b r l q := fun j _ h1 n _ h2 h3 => by omega
theorem rest_succ {b r : Int} {l : List Int} {q : Nat} (hq : q < 121) : rest b r l q ↔ row b r l q ∧ rest b r l (q + 1) := by
  constructor
  · exact fun h => ⟨h q hq (Nat.le_refl q), fun j h1 h2 => h j h1 (by omega)⟩
  · rintro ⟨h1, h2⟩ j h3 h4
    rcases Nat.lt_or_ge q j with h | h
    · exact h2 j h3 h
    · obtain rfl : j = q := by omega
      exact h1
section
variable (b r : Int) (l : List Int) (hf : FV b r) (hl : l.length ≤ 120) (ha : Am l)
include hf hl ha
omit hl ha in
theorem bnd (n : Nat) (hn : n ≤ 121) : 0 ≤ r * (n : Int) ∧ r * (n : Int) ≤ 2420 := by
  unfold FV at hf
  exact mul_bd (A := 20) (B := 121) (by omega) (by omega) (by omega) (by omega)
theorem spec_l1 (j : Nat) (R : Bool) (hR : row b r l j → Ev (fun k => spec_l23Conforms.l0 k l ((j : Int) + 1) b r) R) (hN : ¬ row b r l j → R = false) :
    ∀ d n, j + n + d = l.length → (∀ m, 1 ≤ m → m ≤ n → sm l j m ≤ b + r * m) → Ev (fun k => spec_l23Conforms.l1 k l j (sm l j n) ((j + n : Nat) : Int) b r) R := by
  intro d
  induction d with
  | zero =>
    intro n hn hm
    have hrow : row b r l j := fun m h1 h2 h3 => hm m h2 (by omega)
    refine Ev.step (f := fun k => spec_l23Conforms.l0 k l ((j : Int) + 1) b r) (fun k => ?_) (hR hrow)
    simp only [spec_l23Conforms.l1]
    rw [if_neg (by omega), w64 (by omega) (by omega)]
  | succ d ih =>
    intro n hn hm
    have hs := sm_bd ha j n
    have hg := getD_bd ha (j + n)
    have hb := bnd b r hf (n + 1) (by omega)
    have hf' := hf
    unfold FV at hf'
    have e1 : sm l j (n + 1) = sm l j n + l.getD (j + n) 0 := rfl
    have e2 : rd l ((j + n : Nat) : Int) = l.getD (j + n) 0 := rfl
    have e3 : ((j + n : Nat) : Int) - j + 1 = ((n + 1 : Nat) : Int) := by push_cast; omega
    by_cases hx : sm l j (n + 1) > b + r * ((n + 1 : Nat) : Int)
    · have hrow : ¬ row b r l j := fun h => by have := h (n + 1) (by omega) (by omega) (by omega); omega
      refine Ev.step (f := fun _ => some false) (fun k => ?_) (by rw [hN hrow]; exact Ev.now _)
      simp only [spec_l23Conforms.l1]
      rw [if_pos (by omega), if_pos (by omega), e2, w64 (x := ((j + n : Nat) : Int) - j) (by omega) (by omega), w64 (x := ((j + n : Nat) : Int) - j + 1) (by omega) (by omega), e3, w64 (x := r * ((n + 1 : Nat) : Int)) (by omega) (by omega), w64 (x := b + r * ((n + 1 : Nat) : Int)) (by omega) (by omega), w64 (x := sm l j n + l.getD (j + n) 0) (by omega) (by omega), if_pos (by omega)]
    · refine Ev.step (f := fun k => spec_l23Conforms.l1 k l j (sm l j (n + 1)) ((j + (n + 1) : Nat) : Int) b r) (fun k => ?_) (ih (n + 1) (by omega) (fun m h1 h2 => ?_))
      · simp only [spec_l23Conforms.l1]
        rw [if_pos (by omega), if_pos (by omega), e2, w64 (x := ((j + n : Nat) : Int) - j) (by omega) (by omega), w64 (x := ((j + n : Nat) : Int) - j + 1) (by omega) (by omega), e3, w64 (x := r * ((n + 1 : Nat) : Int)) (by omega) (by omega), w64 (x := b + r * ((n + 1 : Nat) : Int)) (by omega) (by omega), w64 (x := sm l j n + l.getD (j + n) 0) (by omega) (by omega), if_neg (by omega), w64 (x := ((j + n : Nat) : Int) + 1) (by omega) (by omega)]
        rfl
      · rcases Nat.lt_or_ge m (n + 1) with h | h
        · exact hm m h1 (by omega)
        · obtain rfl : m = n + 1 := by omega
          omega
theorem impl_l1 (j : Nat) (hj : j ≤ l.length) (R : Bool) (hR : row b r l j → Ev (fun k => impl_Conforms.l0 k l (l.length : Int) ((j : Int) + 1) b r) R) (hN : ¬ row b r l j → R = false) :
    ∀ d n, j + n + d = l.length → (∀ m, 1 ≤ m → m ≤ n → sm l j m ≤ b + r * m) → Ev (fun k => impl_Conforms.l1 k l (sm l j n) (l.length : Int) j (l.drop j) ((l.drop j).length : Int) (n : Int) b r) R := by
  intro d
  have hdl : (l.drop j).length = l.length - j := List.length_drop
  induction d with
  | zero =>
    intro n hn hm
    have hrow : row b r l j := fun m h1 h2 h3 => hm m h2 (by omega)
    refine Ev.step (f := fun k => impl_Conforms.l0 k l (l.length : Int) ((j : Int) + 1) b r) (fun k => ?_) (hR hrow)
    simp only [impl_Conforms.l1]
    rw [if_neg (by omega), w64 (by omega) (by omega)]
  | succ d ih =>
    intro n hn hm
    have hs := sm_bd ha j n
    have hg := getD_bd ha (j + n)
    have hb := bnd b r hf (n + 1) (by omega)
    have hf' := hf
    unfold FV at hf'
    have e1 : sm l j (n + 1) = sm l j n + l.getD (j + n) 0 := rfl
    have e2 : rd (l.drop j) (n : Int) = l.getD (j + n) 0 := by unfold rd; simp [List.getD_eq_getElem?_getD]
    have e3 : (n : Int) + 1 = ((n + 1 : Nat) : Int) := by push_cast; rfl
    by_cases hx : sm l j (n + 1) > b + r * ((n + 1 : Nat) : Int)
    · have hrow : ¬ row b r l j := fun h => by have := h (n + 1) (by omega) (by omega) (by omega); omega
      refine Ev.step (f := fun _ => some false) (fun k => ?_) (by rw [hN hrow]; exact Ev.now _)
      simp only [impl_Conforms.l1]
      rw [if_pos (by omega), if_pos (by omega), if_pos (by omega), e2, w64 (x := (n : Int) + 1) (by omega) (by omega), e3, w64 (x := r * ((n + 1 : Nat) : Int)) (by omega) (by omega), w64 (x := b + r * ((n + 1 : Nat) : Int)) (by omega) (by omega), w64 (x := sm l j n + l.getD (j + n) 0) (by omega) (by omega), if_pos (by omega)]
    · refine Ev.step (f := fun k => impl_Conforms.l1 k l (sm l j (n + 1)) (l.length : Int) j (l.drop j) ((l.drop j).length : Int) ((n + 1 : Nat) : Int) b r) (fun k => ?_) (ih (n + 1) (by omega) (fun m h1 h2 => ?_))
      · simp only [impl_Conforms.l1]
        rw [if_pos (by omega), if_pos (by omega), if_pos (by omega), e2, w64 (x := (n : Int) + 1) (by omega) (by omega), e3, w64 (x := r * ((n + 1 : Nat) : Int)) (by omega) (by omega), w64 (x := b + r * ((n + 1 : Nat) : Int)) (by omega) (by omega), w64 (x := sm l j n + l.getD (j + n) 0) (by omega) (by omega), if_neg (by omega)]
        rfl
      · rcases Nat.lt_or_ge m (n + 1) with h | h
        · exact hm m h1 (by omega)
        · obtain rfl : m = n + 1 := by omega
          omega
theorem spec_l0 : ∀ d j, j + d = l.length → Ev (fun k => spec_l23Conforms.l0 k l (j : Int) b r) (decide (rest b r l j)) := by
  intro d
  induction d with
  | zero =>
    intro j hj
    have hr : rest b r l j := rest_end (by omega)
    refine Ev.step (f := fun _ => some true) (fun k => ?_) (by simp only [hr, decide_true]; exact Ev.now _)
    simp only [spec_l23Conforms.l0]
    rw [if_neg (by omega)]
  | succ d ih =>
    intro j hj
    have hi := ih (j + 1) (by omega)
    have h0 := spec_l1 b r l hf hl ha j (decide (rest b r l j)) (fun hc => by
      have : decide (rest b r l j) = decide (rest b r l (j + 1)) := by rw [decide_eq_decide, rest_succ (by omega)]; exact ⟨fun h => h.2, fun h => ⟨hc, h⟩⟩
      rw [this]; exact hi) (fun hc => by simp only [decide_eq_false_iff_not]; exact fun h => hc ((rest_succ (by omega)).1 h).1) (d + 1) 0 (by omega) (fun m h1 h2 => by omega)
    refine Ev.step (fun k => ?_) h0
    simp only [spec_l23Conforms.l0]
    rw [if_pos (by omega)]
    rfl
theorem impl_l0 : ∀ d j, j + d = l.length → Ev (fun k => impl_Conforms.l0 k l (l.length : Int) (j : Int) b r) (decide (rest b r l j)) := by
  intro d
  induction d with
  | zero =>
    intro j hj
    have hr : rest b r l j := rest_end (by omega)
    refine Ev.step (f := fun _ => some true) (fun k => ?_) (by simp only [hr, decide_true]; exact Ev.now _)
    simp only [impl_Conforms.l0]
    rw [if_neg (by omega)]
  | succ d ih =>
    intro j hj
    have hi := ih (j + 1) (by omega)
    have h0 := impl_l1 b r l hf hl ha j (by omega) (decide (rest b r l j)) (fun hc => by
      have : decide (rest b r l j) = decide (rest b r l (j + 1)) := by rw [decide_eq_decide, rest_succ (by omega)]; exact ⟨fun h => h.2, fun h => ⟨hc, h⟩⟩
      rw [this]; exact hi) (fun hc => by simp only [decide_eq_false_iff_not]; exact fun h => hc ((rest_succ (by omega)).1 h).1) (d + 1) 0 (by omega) (fun m h1 h2 => by omega)
    refine Ev.step (fun k => ?_) h0
    simp only [impl_Conforms.l0]
    rw [if_pos (by omega), if_pos (by omega), if_pos (by omega), Int.toNat_natCast]
    rfl
end
/-- Conforms, as one test. -/
def CV (b r : Int) (l : List Int) : Prop := FV b r ∧ l.length ≤ 120 ∧ Am l ∧ rest b r l 0
instance (b r : Int) (l : List Int) : Decidable (CV b r l) := by unfold CV; infer_instance
def AmOk (l : List Int) : Prop := l.length ≤ 120 ∧ Am l
instance (l : List Int) : Decidable (AmOk l) := by unfold AmOk; infer_instance
theorem amounts_f (l : List Int) : impl_amounts.f l = some (decide (AmOk l)) := by
  have ea : any_amounts.f l = some (decide (¬ Am l)) := by
    unfold any_amounts.f
    congr 1
    rw [Bool.eq_iff_iff, List.any_eq_true]
    unfold Am
    simp only [any_amounts.bad, decide_eq_true_eq]
    constructor
    · rintro ⟨x, hx, h⟩ hh
      have := hh x hx
      simp at h
      omega
    · intro hh
      refine Classical.byContradiction fun hc => hh fun x hx => ?_
      refine Classical.byContradiction fun h2 => hc ⟨x, hx, ?_⟩
      simp; omega
  unfold impl_amounts.f
  by_cases h : (l.length : Int) ≤ 120
  · rw [if_pos h, ea]
    simp only [Option.bind_some]
    congr 1
    rw [Bool.eq_iff_iff]
    unfold AmOk
    have : l.length ≤ 120 := by omega
    simp [this]
  · rw [if_neg h]
    congr 1; symm; rw [decide_eq_false_iff_not]
    unfold AmOk; omega
theorem impl_conf (b r : Int) (l : List Int) : Ev (fun k => impl_Conforms.f k b r l) (decide (CV b r l)) := by
  have no : ¬ CV b r l → Ev (fun k => impl_Conforms.j0 k l true b r) (decide (CV b r l)) := by
    intro h
    rw [decide_eq_false h]
    exact Ev.step (f := fun _ => some false) (fun k => by simp [impl_Conforms.j0]) (Ev.now _)
  by_cases h1 : FV b r
  · by_cases h2 : AmOk l
    · have h := impl_l0 b r l h1 h2.1 h2.2 l.length 0 (by omega)
      have e : decide (CV b r l) = decide (rest b r l 0) := by rw [decide_eq_decide]; exact ⟨fun h => h.2.2.2, fun h => ⟨h1, h2.1, h2.2, h⟩⟩
      rw [e]
      have hs : Ev (fun k => impl_Conforms.j0 k l (!decide (AmOk l)) b r) (decide (rest b r l 0)) := by
        refine Ev.step (fun k => ?_) h
        simp only [impl_Conforms.j0]
        rw [if_neg (by simp [h2])]
        rfl
      refine Ev.congr (fun k => ?_) hs
      unfold impl_Conforms.f
      rw [flow_f, and_bind, if_pos h1, amounts_f]; rfl
    · refine Ev.congr (fun k => ?_) (no (fun h => h2 ⟨h.2.1, h.2.2.1⟩))
      unfold impl_Conforms.f
      rw [flow_f, and_bind, if_pos h1, amounts_f]
      simp [h2]
  · refine Ev.congr (fun k => ?_) (no (fun h => h1 h.1))
    unfold impl_Conforms.f
    rw [flow_f, and_bind, if_neg h1]
theorem spec_conf (b r : Int) (l : List Int) : Ev (fun k => spec_Conforms.f k b r l) (decide (CV b r l)) := by
  have no : ¬ CV b r l → Ev (fun k => spec_Conforms.j0 k l true b r) (decide (CV b r l)) := by
    intro h
    rw [decide_eq_false h]
    exact Ev.step (f := fun _ => some false) (fun k => by simp [spec_Conforms.j0]) (Ev.now _)
  by_cases h1 : FV b r
  · by_cases h2 : l.length ≤ 120
    · -- the amounts, one by one
      have loop : ∀ d j, j + d = l.length → (∀ i (h : i < l.length), i < j → 0 ≤ l[i] ∧ l[i] ≤ 1000) → Ev (fun k => spec_Conforms.l0 k l (j : Int) b r) (decide (CV b r l)) := by
        intro d
        induction d with
        | zero =>
          intro j hj hm
          have ha : Am l := by
            intro x hx
            obtain ⟨i, hi, rfl⟩ := List.getElem_of_mem hx
            exact hm i hi (by omega)
          have e : decide (CV b r l) = decide (rest b r l 0) := by rw [decide_eq_decide]; exact ⟨fun h => h.2.2.2, fun h => ⟨h1, h2, ha, h⟩⟩
          rw [e]
          have h := spec_l0 b r l h1 h2 ha l.length 0 (by omega)
          refine Ev.step (f := fun k => (spec_l23Conforms.f k b r l).bind fun t => some t) (fun k => ?_) ?_
          · simp only [spec_Conforms.l0]
            rw [if_neg (by omega)]
          · exact Ev.bind (f := fun _ t => some t) h (Ev.now _)
        | succ d ih =>
          intro j hj hm
          have hlt : j < l.length := by omega
          by_cases hx : 0 ≤ l[j] ∧ l[j] ≤ 1000
          · refine Ev.step (f := fun k => spec_Conforms.l0 k l ((j + 1 : Nat) : Int) b r) (fun k => ?_) (ih (j + 1) (by omega) (fun i h hi => ?_))
            · simp only [spec_Conforms.l0]
              rw [if_pos (by omega), if_pos (by omega), rd_at _ _ hlt, l1In_f, and_bind, if_pos hx, w64 (by omega) (by omega)]
              rfl
            · rcases Nat.lt_or_ge i j with h' | h'
              · exact hm i h h'
              · obtain rfl : i = j := by omega
                exact hx
          · have hno : ¬ CV b r l := fun h => hx (h.2.2.1 _ (List.getElem_mem hlt))
            rw [decide_eq_false hno]
            refine Ev.step (f := fun _ => some false) (fun k => ?_) (Ev.now _)
            simp only [spec_Conforms.l0]
            rw [if_pos (by omega), if_pos (by omega), rd_at _ _ hlt, l1In_f, and_bind, if_neg hx]
      have hs : Ev (fun k => spec_Conforms.j0 k l (decide ((l.length : Int) > 120)) b r) (decide (CV b r l)) := by
        refine Ev.step (fun k => ?_) (loop l.length 0 (by omega) (fun i h hi => by omega))
        simp only [spec_Conforms.j0]
        rw [if_neg (by simp; omega)]
        rfl
      refine Ev.congr (fun k => ?_) hs
      unfold spec_Conforms.f
      rw [sflow_f, and_bind, if_pos h1]
    · refine Ev.congr (fun k => ?_) (no (fun h => h2 h.2.1))
      unfold spec_Conforms.f
      rw [sflow_f, and_bind, if_pos h1, show decide ((l.length : Int) > 120) = true from decide_eq_true (by omega)]
  · refine Ev.congr (fun k => ?_) (no (fun h => h1 h.1))
    unfold spec_Conforms.f
    rw [sflow_f, and_bind, if_neg h1]
end Go.Proofs.Ytkmpcmhkfnoeiaa.Conf
/- Conforms answers as the reference does. No condition. -/
namespace Go.Proofs.Ytkmpcmhkfnoeiaa.Pure
open Go.RowKit Go.Proofs.Ytkmpcmhkfnoeiaa.P Go.Proofs.Ytkmpcmhkfnoeiaa.Base Go.Proofs.Ytkmpcmhkfnoeiaa.Gen Go.Proofs.YtkmpcmhkfnoeiaaW.PrintWords Go.Proofs.YtkmpcmhkfnoeiaaW.PrintLast
open Go.Proofs.Ytkmpcmhkfnoeiaa.CopyInt Go.Proofs.Ytkmpcmhkfnoeiaa.Net Go.Proofs.Ytkmpcmhkfnoeiaa.Conf 
theorem FnExactConforms : laws_FnExactConforms.Pure := by
  intro b r l _ _ hy _
  apply Tot.rounds
  unfold laws_FnExactConforms.f laws_toFlow.f
  simp only [Option.bind_some]
  refine Tot.ite (fun _ => Tot.ret _ rfl) (fun hl => ?_)
  have hl2 : l.length ≤ 1048576 := by omega
  refine Tot.bind (toIntS_tot l hl2) ?_
  rintro _ rfl
  refine Tot.bind (Tot.val (spec_conf b r _)) ?_
  rintro _ rfl
  refine Tot.bind (toIntS_tot _ hl2) ?_
  rintro _ rfl
  refine Tot.bind (Tot.val (impl_conf b r _)) ?_
  rintro _ rfl
  refine Tot.no (by simp) ?_
  refine Tot.bind (toIntS_tot _ hl2) ?_
  rintro _ rfl
  refine Tot.bind (eqIntS_tot _ hl2) ?_
  rintro _ rfl
  exact Tot.yes rfl (Tot.ret _ rfl)
end Go.Proofs.Ytkmpcmhkfnoeiaa.Pure
/- Arguments of a law laid open: whatever reads as data of a type reads as a value of its kind.
   No condition. -/
namespace Go.Proofs.Ytkmpcmhkfnoeiaa.Opn
open Go.ChangeShapes Go.WideShapes Go.Deep Go.RowKit Go.Proofs.YtkmpcmhkfnoeiaaW.PrintWords
section
variable {H : Type} {enc : TypeId × Value → H} {P : Program} {W : World} {base : Nat} {spare : Nat → Bool} {held : Bool}

/-- Whatever reads as data of type t reads as a value of the kind d that is good. -/
def Opens {α : Type} (enc : TypeId × Value → H) (P : Program) (W : World) (base : Nat) (spare : Nat → Bool) (held : Bool) (t : TypeId) (d : Kd α) (G : α → Prop) : Prop :=
  ∀ (fuel : Nat) (cs : List Value) (x : DataW H × List MemPlace), DataW.trod enc P W base spare held fuel t cs = some x → ∃ a, d.K W a cs ∧ G a

theorem opens_int {t : TypeId} {k : IntKind} (hu : P.underlying t = some (.int k)) : Opens enc P W base spare held t (Kd.int k) (fun x => (Lit.int k x).wf = true) := by
  intro fuel cs x h
  obtain ⟨n, hc, _, hw⟩ := DataW.trod_int hu h
  exact ⟨n, hc, hw⟩
theorem opens_bool {t : TypeId} (hu : P.underlying t = some .bool) : Opens enc P W base spare held t Kd.bool (fun _ => True) := by
  intro fuel cs x h
  obtain ⟨n, hc, _⟩ := DataW.trod_bool hu h
  exact ⟨n, hc, trivial⟩

theorem list_of {α : Type} (m : Nat) (R : Nat → α → Prop) (h : ∀ i, i < m → ∃ a, R i a) : ∃ xs : List α, xs.length = m ∧ ∀ i a, xs[i]? = some a → R i a := by
  induction m with
  | zero => exact ⟨[], rfl, fun i a ha => by simp at ha⟩
  | succ m ih =>
    obtain ⟨xs, hl, hx⟩ := ih (fun i hi => h i (by omega))
    obtain ⟨a, ha⟩ := h m (by omega)
    refine ⟨xs ++ [a], by simp [hl], fun i b hb => ?_⟩
    rcases Nat.lt_or_ge i m with hi | hi
    · rw [List.getElem?_append_left (by omega)] at hb
      exact hx i b hb
    · have hi' : i = m := by
        have := (List.getElem?_eq_some_iff.1 hb).1
        simp at this
        omega
      subst hi'
      have : a = b := by simpa [hl] using hb
      subst this
      exact ha

/-- A slice of what opens. -/
theorem slice_row {α : Type} {t e : TypeId} {d : Kd α} {G : α → Prop} (hu : P.underlying t = some (.slice e)) (hC : P.cellsOf e = d.sz) (he : Opens enc P W base spare held e d G)
    {fuel : Nat} {A : Option Addr} {n cap : Nat} {x : DataW H × List MemPlace} (h : DataW.trod enc P W base spare held fuel t [.slice A n cap] = some x) :
    ∃ xs : List α, xs.length = n ∧ n ≤ cap ∧ n ≤ maxLen ∧ d.C W A xs.length xs ∧ ∀ y ∈ xs, G y := by
  rcases open_slice hu h with ⟨h0, _⟩ | ⟨a, len, c, m, k, D, Pl, hcs, _, hl, hm, hmm, _, hel⟩
  · simp only [List.cons.injEq, Value.slice.injEq, and_true] at h0
    obtain ⟨rfl, rfl, rfl⟩ := h0
    exact ⟨[], rfl, Nat.le_refl _, by simp [maxLen], Kd.C_nil d W, fun y hy => by simp at hy⟩
  · simp only [List.cons.injEq, Value.slice.injEq, and_true] at hcs
    obtain ⟨rfl, rfl, rfl⟩ := hcs
    have hle : n ≤ m := by rw [hmm]; split <;> omega
    obtain ⟨xs, hxl, hx⟩ := list_of (α := α) n (fun i y => G y ∧ ∃ cs', d.K W y cs' ∧ cs'.length = d.sz ∧ ∀ j, j < d.sz → W.cell? ((a.add (i * d.sz)).add j) = cs'[j]?) (by
      intro i hi
      obtain ⟨cs', hc, ht⟩ := hel i (by omega)
      obtain ⟨y, hK, hG⟩ := he _ _ _ ht
      rw [hC] at hc
      obtain ⟨_, hcl, hcc⟩ := World.cells?_some hc
      exact ⟨y, hG, cs', hK, hcl, hcc⟩)
    refine ⟨xs, hxl, hl, by omega, ⟨rfl, by simp only [maxLen] at hm; omega, fun hp => ⟨a, rfl, fun j p hj => ?_⟩⟩, fun y hy => ?_⟩
    · obtain ⟨_, cs', hK, hcl, hcc⟩ := hx j p hj
      refine ⟨cs', hcl, hK, fun i u hi => ?_⟩
      have hlt : i < d.sz := by
        have := (List.getElem?_eq_some_iff.1 hi).1
        omega
      rw [← Go.Deep.add_add, hcc i hlt, hi]
    · obtain ⟨i, hi, rfl⟩ := List.getElem_of_mem hy
      exact (hx i _ (List.getElem?_eq_getElem hi)).1
theorem opens_slice {α : Type} {t e : TypeId} {d : Kd α} {G : α → Prop} (hu : P.underlying t = some (.slice e)) (hC : P.cellsOf e = d.sz) (he : Opens enc P W base spare held e d G) :
    Opens enc P W base spare held t (Kd.slice e d) (fun xs => xs.length ≤ maxLen ∧ ∀ y ∈ xs, G y) := by
  intro fuel cs x h
  have hform : ∃ A n c, cs = [.slice A n c] := by
    rcases open_slice hu h with ⟨h0, _⟩ | ⟨a, len, c, m, k, D, Pl, hcs, _⟩
    · exact ⟨_, _, _, h0⟩
    · exact ⟨_, _, _, hcs⟩
  obtain ⟨A, n, c, rfl⟩ := hform
  obtain ⟨xs, rfl, hc, hm, hC', hG⟩ := slice_row hu hC he h
  exact ⟨xs, ⟨A, c, rfl, hc, hC'⟩, hm, hG⟩

/-- A struct of whole numbers. -/
theorem trod_ints {t : TypeId} {fs : Array Field} (hs : P.underlying t = some (.struct fs)) (hC : P.cellsOf t = fs.size) (hf : ∀ (j : Nat) (f : Field), fs[j]? = some f → f.offset = j ∧ P.cellsOf f.type = 1 ∧ P.underlying f.type = some (.int .i64))
    {fuel : Nat} {cs : List Value} {x : DataW H × List MemPlace} (h : DataW.trod enc P W base spare held fuel t cs = some x) :
    ∃ xs : List Int, xs.length = fs.size ∧ cs = xs.map (Value.int .i64) ∧ ∀ y ∈ xs, (Lit.int .i64 y).wf = true := by
  obtain ⟨ys, n, _, _, hl, hyl, hy⟩ := DataW.trod_struct hs h
  obtain ⟨xs, hxl, hx⟩ := list_of (α := Int) fs.size (fun j y => cs[j]? = some (.int .i64 y) ∧ (Lit.int .i64 y).wf = true) (by
    intro j hj
    have hfj : fs[j]? = some fs[j] := Array.getElem?_eq_getElem hj
    obtain ⟨ho, hk, hi⟩ := hf j _ hfj
    have h1 := hy j _ hfj
    rw [ho, hk] at h1
    have hjl : j < cs.length := by omega
    have e1 : (cs.drop j).take 1 = [cs[j]'hjl] := by
      rw [List.drop_eq_getElem_cons hjl]
      rfl
    rw [e1, List.getElem?_eq_getElem (by omega)] at h1
    obtain ⟨y, hc, _, hw⟩ := DataW.trod_int hi h1
    refine ⟨y, ?_, hw⟩
    rw [List.getElem?_eq_getElem hjl]
    simpa using hc)
  refine ⟨xs, hxl, ?_, fun y hy' => ?_⟩
  · apply List.ext_getElem?
    intro j
    rcases Nat.lt_or_ge j fs.size with hj | hj
    · rw [List.getElem?_map]
      have e := List.getElem?_eq_getElem (l := xs) (i := j) (by omega)
      rw [e, (hx j _ e).1]
      rfl
    · rw [List.getElem?_eq_none (by omega), List.getElem?_eq_none (by simp; omega)]
  · obtain ⟨i, hi, rfl⟩ := List.getElem_of_mem hy'
    exact (hx i _ (List.getElem?_eq_getElem hi)).2
theorem one2 {xs : List Int} (h : xs.length = 2) : ∃ a b, xs = [a, b] := by
  match xs, h with
  | [a, b], _ => exact ⟨a, b, rfl⟩
theorem one3 {xs : List Int} (h : xs.length = 3) : ∃ a b c, xs = [a, b, c] := by
  match xs, h with
  | [a, b, c], _ => exact ⟨a, b, c, rfl⟩
theorem one4 {xs : List Int} (h : xs.length = 4) : ∃ a b c d, xs = [a, b, c, d] := by
  match xs, h with
  | [a, b, c, d], _ => exact ⟨a, b, c, d, rfl⟩
theorem agg_cells (cs : Array Value) : (Value.agg cs).cells.toList = cs.toList := rfl
/-- The weight of a slice bounds its length. -/
theorem sized_row {t e : TypeId} {A : Option Addr} {n cap : Nat} {d : DataW H} {ps : List MemPlace} {ts : List TypeId} {ds : List (DataW H)} {j : Nat}
    (hsz : (DataW.weightsEach P ts ds).all (· ≤ reachBytes) = true) (ht : ts[j]? = some t) (hd : ds[j]? = some d) (hu : P.underlying t = some (.slice e)) {B : Nat} (hB : P.bytesOf e = B)
    (h : DataW.Trod enc P W base spare held t (.slice A n cap) d ps) : n * B ≤ 140737488351232 := by
  obtain ⟨fuel, hf⟩ := h
  have hf' : DataW.trod enc P W base spare held fuel t [.slice A n cap] = some (d, ps) := hf
  rcases open_slice hu hf' with ⟨h0, _⟩ | ⟨a, len, c, m, k, D, Pl, hcs, _, hl, hm, hmm, hx, hel⟩
  · simp only [List.cons.injEq, Value.slice.injEq, and_true] at h0
    obtain ⟨rfl, rfl, rfl⟩ := h0
    simp
  · simp only [List.cons.injEq, Value.slice.injEq, and_true] at hcs
    obtain ⟨rfl, rfl, rfl⟩ := hcs
    obtain ⟨hx, _⟩ := Prod.mk.inj hx
    subst hx
    have z := sized_slice hsz ht hd hu
    rw [hB] at z
    simp only [List.length_map, List.length_range] at z
    exact Nat.le_trans (Nat.mul_le_mul_right _ (by omega)) z
end
end Go.Proofs.Ytkmpcmhkfnoeiaa.Opn
/- The head of the translation: a cut, with nothing lifted. No condition. -/
namespace Go.Proofs.Ytkmpcmhkfnoeiaa.Head
open Go
def chars (l : List Nat) : List Char := l.map Char.ofNat
def w1 : List Nat := [104, 97, 114, 110, 101, 115, 115]
def w2 : List Nat := [98, 51, 101, 57, 53, 99, 48, 99, 53, 99, 48, 102, 56, 101, 53, 99, 99, 102, 102, 51, 56, 51, 55, 99, 98, 54, 57, 51, 102, 99, 102, 99, 56, 55, 101, 57, 99, 51, 54, 55, 51, 54, 57, 97, 98, 97, 48, 56, 49, 99, 55, 50, 51, 97, 97, 50, 55, 48, 99, 53, 49, 99, 55, 54]
def w3 : List Nat := [99, 117, 116]
def w4 : List Nat := [97, 116, 32, 108, 111, 111, 112, 46, 101, 120, 97, 109, 112, 108, 101, 47, 100, 101, 97, 100, 108, 105, 110, 101, 115, 99, 104, 101, 100, 117, 108, 101, 114, 47, 108, 97, 119, 115, 46, 70, 110, 69, 120, 97, 99, 116, 83, 117, 98, 116, 97, 115, 107, 87, 105, 110, 100, 111, 119, 32, 108, 111, 111, 112, 46, 101, 120, 97, 109, 112, 108, 101, 47, 100, 101, 97, 100, 108, 105, 110, 101, 115, 99, 104, 101, 100, 117, 108, 101, 114, 47, 108, 97, 119, 115, 46, 70, 110, 83, 117, 98, 116, 97, 115, 107, 87, 105, 110, 100, 111, 119, 32, 108, 111, 111, 112, 46, 101, 120, 97, 109, 112, 108, 101, 47, 100, 101, 97, 100, 108, 105, 110, 101, 115, 99, 104, 101, 100, 117, 108, 101, 114, 47, 108, 97, 119, 115, 46, 70, 110, 69, 120, 97, 99, 116, 67, 111, 110, 102, 111, 114, 109, 115, 32, 108, 111, 111, 112, 46, 101, 120, 97, 109, 112, 108, 101, 47, 100, 101, 97, 100, 108, 105, 110, 101, 115, 99, 104, 101, 100, 117, 108, 101, 114, 47, 108, 97, 119, 115, 46, 70, 110, 67, 111, 110, 102, 111, 114, 109, 115, 32, 108, 111, 111, 112, 46, 101, 120, 97, 109, 112, 108, 101, 47, 100, 101, 97, 100, 108, 105, 110, 101, 115, 99, 104, 101, 100, 117, 108, 101, 114, 47, 108, 97, 119, 115, 46, 70, 110, 69, 120, 97, 99, 116, 66, 97, 99, 107, 108, 111, 103, 115, 32, 108, 111, 111, 112, 46, 101, 120, 97, 109, 112, 108, 101, 47, 100, 101, 97, 100, 108, 105, 110, 101, 115, 99, 104, 101, 100, 117, 108, 101, 114, 47, 108, 97, 119, 115, 46, 70, 110, 66, 97, 99, 107, 108, 111, 103, 115, 32, 108, 111, 111, 112, 46, 101, 120, 97, 109, 112, 108, 101, 47, 100, 101, 97, 100, 108, 105, 110, 101, 115, 99, 104, 101, 100, 117, 108, 101, 114, 47, 108, 97, 119, 115, 46, 70, 110, 66, 97, 99, 107, 108, 111, 103, 83, 97, 102, 101, 32, 108, 111, 111, 112, 46, 101, 120, 97, 109, 112, 108, 101, 47, 100, 101, 97, 100, 108, 105, 110, 101, 115, 99, 104, 101, 100, 117, 108, 101, 114, 47, 108, 97, 119, 115, 46, 70, 110, 68, 101, 108, 97, 121, 83, 97, 102, 101, 32, 108, 111, 111, 112, 46, 101, 120, 97, 109, 112, 108, 101, 47, 100, 101, 97, 100, 108, 105, 110, 101, 115, 99, 104, 101, 100, 117, 108, 101, 114, 47, 108, 97, 119, 115, 46, 70, 110, 69, 120, 97, 99, 116, 71, 114, 97, 112, 104, 86, 97, 108, 105, 100, 32, 108, 111, 111, 112, 46, 101, 120, 97, 109, 112, 108, 101, 47, 100, 101, 97, 100, 108, 105, 110, 101, 115, 99, 104, 101, 100, 117, 108, 101, 114, 47, 108, 97, 119, 115, 46, 70, 110, 71, 114, 97, 112, 104, 86, 97, 108, 105, 100, 32, 108, 111, 111, 112, 46, 101, 120, 97, 109, 112, 108, 101, 47, 100, 101, 97, 100, 108, 105, 110, 101, 115, 99, 104, 101, 100, 117, 108, 101, 114, 47, 108, 97, 119, 115, 46, 70, 110, 69, 120, 97, 99, 116, 86, 111, 108, 117, 109, 101, 32, 108, 111, 111, 112, 46, 101, 120, 97, 109, 112, 108, 101, 47, 100, 101, 97, 100, 108, 105, 110, 101, 115, 99, 104, 101, 100, 117, 108, 101, 114, 47, 108, 97, 119, 115, 46, 70, 110, 69, 120, 97, 99, 116, 67, 114, 105, 116, 105, 99, 97, 108, 80, 97, 116, 104, 32, 108, 111, 111, 112, 46, 101, 120, 97, 109, 112, 108, 101, 47, 100, 101, 97, 100, 108, 105, 110, 101, 115, 99, 104, 101, 100, 117, 108, 101, 114, 47, 108, 97, 119, 115, 46, 70, 110, 67, 114, 105, 116, 105, 99, 97, 108, 80, 97, 116, 104, 32, 108, 111, 111, 112, 46, 101, 120, 97, 109, 112, 108, 101, 47, 100, 101, 97, 100, 108, 105, 110, 101, 115, 99, 104, 101, 100, 117, 108, 101, 114, 47, 108, 97, 119, 115, 46, 70, 110, 69, 120, 97, 99, 116, 77, 97, 107, 101, 115, 112, 97, 110, 66, 111, 117, 110, 100]
theorem io_eq : Try.prog.initOrder = String.ofList (chars (w1 ++ 32 :: (w2 ++ 32 :: (w3 ++ 32 :: w4)))) := by kernel_rfl
theorem io_list : Try.prog.initOrder.toList = chars (w1 ++ 32 :: (w2 ++ 32 :: (w3 ++ 32 :: w4))) := by rw [io_eq, String.toList_ofList]
theorem ws_one (c : Char) (r w : List Char) (ws : List (List Char)) (hc : c ≠ Char.ofNat 32) (h : wordsSigns r = w :: ws) : wordsSigns (c :: r) = (c :: w) :: ws := by
  have e : wordsSigns (c :: r) = match wordsSigns r with
    | w :: ws => (c :: w) :: ws
    | [] => [[c]] := by
    rw [wordsSigns]
    · rfl
    · exact hc
  rw [e, h]
theorem ws_word (w : List Char) (h : ∀ c ∈ w, c ≠ Char.ofNat 32) (r : List Char) : wordsSigns (w ++ Char.ofNat 32 :: r) = w :: wordsSigns r := by
  induction w with
  | nil => rfl
  | cons c w ih => exact ws_one _ _ _ _ (h c (by simp)) (ih (fun x hx => h x (by simp [hx])))
theorem ws_nat (w r : List Nat) (h : w.all (fun n => !(Char.ofNat n == Char.ofNat 32)) = true) : wordsSigns (chars (w ++ 32 :: r)) = chars w :: wordsSigns (chars r) := by
  have e : chars (w ++ 32 :: r) = chars w ++ Char.ofNat 32 :: chars r := by simp [chars]
  rw [e]
  refine ws_word _ (fun c hc => ?_) _
  obtain ⟨n, hn, rfl⟩ := List.mem_map.1 hc
  have := List.all_eq_true.1 h n hn
  simpa using this
theorem io_words : behindMainWord (wordsSigns Try.prog.initOrder.toList) = chars w3 :: wordsSigns (chars w4) := by
  rw [io_list, ws_nat _ _ (by kernel_rfl), ws_nat _ _ (by kernel_rfl), ws_nat _ _ (by kernel_rfl)]
  generalize wordsSigns (chars w4) = R
  kernel_rfl
theorem make_gen (P : Program) (c : List Char) (R : List (List Char)) (h : behindMainWord (wordsSigns P.initOrder.toList) = c :: R) (h1 : (c == "gc".toList || c == "spec".toList) = false) (h2 : (c == "cut".toList) = true) : P.make = some .cut := by
  unfold Program.make
  rw [h]
  simp only [h1, h2, Bool.true_or, if_true, Bool.false_eq_true, if_false]
theorem make : Try.prog.make = some .cut := make_gen _ _ _ io_words (by kernel_rfl) (by kernel_rfl)
theorem enter_gen (P : Program) (c : List Char) (R : List (List Char)) (h : behindMainWord (wordsSigns P.initOrder.toList) = c :: R) (h1 : ∀ R, stripLifts liftWords (c :: R) = ([], c :: R)) (h2 : (some c == some "cut".toList) = true)
    (h3 : P.laysLater = false) (h4 : P.bearsReflect = false) (h5 : P.doorFits [] = true) : P.mayEnter = true := by
  unfold Program.mayEnter
  rw [h]
  simp only [h1, h2, h3, h4, h5, List.head?_cons, Bool.not_false, Bool.or_true, Bool.and_true, List.contains_nil]
theorem enter : Try.prog.mayEnter = true := enter_gen _ _ _ io_words (fun R => by kernel_rfl) (by kernel_rfl) (by kernel_rfl) (by kernel_rfl) (by kernel_rfl)
theorem lifts : Try.prog.liftsFinal = false := by
  unfold Program.liftsFinal Program.headLifts
  simp only [io_words]
  generalize wordsSigns (chars w4) = R
  kernel_rfl
end Go.Proofs.Ytkmpcmhkfnoeiaa.Head
/- The law FnExactConforms, proved: for every input the call returns true and each argument reads as it did. No condition. -/
namespace Go.Proofs.Ytkmpcmhkfnoeiaa.fnExactConforms
open Go.ChangeShapes Go.WideShapes Go.ChangeAt Go.RowKit Go.Proofs.YtkmpcmhkfnoeiaaW.PrintWords Go.Proofs.Ytkmpcmhkfnoeiaa.P
open Go.ChangeMaps (open_string shut_string)
theorem own : ownKnob Try.prog.godebug = none := by kernel_rfl
theorem laidOut : laidOutB Try.prog = true := by kernel_rfl
theorem fieldsT38 : ∃ fs, Try.prog.underlying 38 = some (.struct fs) ∧ fs.size = 2 ∧ Try.prog.cellsOf 38 = fs.size ∧ ∀ (j : Nat) (f : Field), fs[j]? = some f → f.offset = j ∧ Try.prog.cellsOf f.type = 1 ∧ Try.prog.underlying f.type = some (.int .i64) := by
  refine ⟨_, Try.underlying38, rfl, by kernel_rfl, fun j f hj => ?_⟩
  match j, hj with
  | 0, hj => obtain rfl := Option.some.inj hj; exact ⟨rfl, by kernel_rfl, Try.underlying3⟩
  | 1, hj => obtain rfl := Option.some.inj hj; exact ⟨rfl, by kernel_rfl, Try.underlying3⟩
  | n + 2, hj => exact absurd hj (by simp)
set_option maxRecDepth 100000 in
theorem lifted (os : Os) (started : os.Started) (H : Type) (enc : TypeId × Value → H) :
    ReturnsInHanded {} Try.checked os 5 .any (Rows.fnExactConformsSpec.pre6 enc Try.prog Try.f5 Rows.fnExactConformsRow.domain false) (Rows.fnExactConformsSpec.post enc Try.prog Try.f5 false true false false) := by
  refine returnsInHanded_of_change_sized (C := Try.checked) own started (by kernel_rfl) Try.func5
    (ChangeSpec.witness6 (enc := enc) (C := Try.checked) false ⟨#[], #[.agg #[.int .i64 0, .int .i64 0], .slice none 0 0], []⟩ 8 (by kernel_rfl) (by kernel_rfl) (by kernel_rfl) (by kernel_rfl)) ?_
  intro W base args ds gs before hval0 hW hcnd hsz0 _
  have hsz : (DataW.weightsEach Try.prog (Try.f5.params.toList ++ Rows.fnExactConformsSpec.plain.varTypes Try.prog) (ds ++ gs)).all (· ≤ reachBytes) = true := hsz0
  have hval : ∀ (j : Nat) t v, Try.f5.params[j]? = some t → args[j]? = some v → Value.okWide Try.prog W .any base t v := hval0
  have hW' := hW
  obtain ⟨p, q, hA0, hV, rfl, hfz, hnd⟩ := hW
  have hA : DataW.TrodAll enc Try.prog W 0 (fun _ => true) true Try.f5.params.toList args.toList ds p := hA0
  rw [Try.params5] at hA hval hsz
  obtain ⟨v0, vs0, d0, ds0, p0, q0, hargs, rfl, rfl, h0, r0⟩ := trodAll_cons hA
  obtain ⟨v1, vs1, d1, ds1, p1, q1, rfl, rfl, rfl, h1, r1⟩ := trodAll_cons r0
  obtain ⟨rfl, rfl, rfl⟩ := trodAll_nil r1
  obtain rfl : args = #[v0, v1] := by cases args; simp_all
  obtain ⟨rfl, rfl⟩ := trodVars_none hV
  have k0 := h0
  have lt0 : ∀ x ∈ p0, x.block < W.heap.size := by obtain ⟨m, hm⟩ := k0; exact DataW.trod_lt m _ _ _ hm
  obtain ⟨cs0, rfl, _⟩ := okWide_struct Try.underlying38 (hval 0 38 v0 rfl rfl)
  obtain ⟨fu0, hf0⟩ := h0
  obtain ⟨fs0, hu0, hm0, hc0, hx0⟩ := fieldsT38
  obtain ⟨xs0, hl0, hcs0, hw0⟩ := Opn.trod_ints hu0 hc0 hx0 (show DataW.trod _ _ _ _ _ _ _ _ cs0.toList = some _ from hf0)
  obtain ⟨a0_0, a0_1, rfl⟩ := Opn.one2 (hl0.trans hm0)
  obtain rfl : cs0 = #[.int .i64 a0_0, .int .i64 a0_1] := by cases cs0; simpa using hcs0
  have k1 := h1
  have lt1 : ∀ x ∈ p1, x.block < W.heap.size := by obtain ⟨m, hm⟩ := k1; exact DataW.trod_lt m _ _ _ hm
  obtain ⟨A1, n1, c1, rfl⟩ := okWide_slice Try.underlying39 (hval 1 39 v1 rfl rfl)
  have y1 : n1 * 8 ≤ 140737488351232 := Opn.sized_row hsz (j := 1) (t := 39) rfl rfl Try.underlying39 (by kernel_rfl) h1
  obtain ⟨l1, rfl, hc1, hm1, hr1, hg1⟩ : ∃ xs : List (Int), xs.length = n1 ∧ n1 ≤ c1 ∧ n1 ≤ maxLen ∧ Kd.C (Kd.int .i64) W A1 xs.length xs ∧ ∀ y0 ∈ xs, (Lit.int .i64 y0).wf = true := by
    obtain ⟨fuel, hf⟩ := h1
    exact Opn.slice_row Try.underlying39 (by kernel_rfl) (Opn.opens_int Try.underlying3) hf
  obtain ⟨k, hk⟩ := Pure.FnExactConforms a0_0 a0_1 l1 (hw0 a0_0 (by simp)) (hw0 a0_1 (by simp)) y1 ⟨hm1, hg1⟩
  clear hA0 hval0 hsz0 hsz
  refine (laws_FnExactConforms.calls k a0_0 a0_1 A1 c1 l1 true W hr1 hc1 hk).mono fun e W' ⟨he, hd⟩ => ?_
  have bel := hd
  subst he
  exact ⟨_, rfl, _, _, _, [], _, [], hW', trodAll_mk1 (shut_bool Try.underlying4 _), (trodAll_cons_mk (Below.trod laidOut (by kernel_rfl) (of_decide_eq_true (by kernel_rfl)) k0 bel lt0) (trodAll_cons_mk (Below.trod laidOut (by kernel_rfl) (of_decide_eq_true (by kernel_rfl)) k1 bel lt1) trodAll_mk0)), rfl, bel.frame _, fun h => by cases h⟩
theorem closed : joinedFacts Try.prog 5 Try.f5 Rows.fnExactConformsSpec Rows.fnExactConformsRow = true := by
  simp only [joinedFacts, Head.enter, Head.lifts, Head.make]
  kernel_rfl
theorem named : Try.prog.funcNamed Rows.fnExactConformsRow.func = some 5 := by kernel_rfl
theorem wrapped : Try.f5.isWrapper Try.prog Rows.fnExactConformsRow.wrapper Rows.fnExactConformsRow.mainSum := by unfold Func.isWrapper; first | (rw [if_pos (by decide +kernel)]; kernel_rfl) | (rw [if_neg (by decide +kernel)]; exact ⟨rfl, rfl⟩)
theorem over : Rows.fnExactConformsRow.holds Try.pinned (OpenSpec.ofChange Rows.fnExactConformsSpec) :=
  OpenClaim.holds_of_wide 5 Try.f5 rfl rfl rfl rfl rfl rfl rfl ⟨rfl, rfl, rfl, rfl, rfl⟩ rfl rfl rfl rfl rfl named Try.func5 closed
    (of_decide_eq_true (by kernel_rfl)) wrapped
    (fun os started H enc _ => lifted os started H enc)
theorem proved : Rows.FnExactConformsSaid := over
#print axioms proved
end Go.Proofs.Ytkmpcmhkfnoeiaa.fnExactConforms
namespace Go.Proofs.Ytkmpcmhkfnoeiaa
/-- The row, under a short name, for the claim. -/
theorem fnExactConforms_holds : Rows.FnExactConformsSaid := fnExactConforms.proved
end Go.Proofs.Ytkmpcmhkfnoeiaa
