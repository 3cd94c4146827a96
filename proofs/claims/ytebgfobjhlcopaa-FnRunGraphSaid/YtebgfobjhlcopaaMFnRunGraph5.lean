/- The law FnRunGraph for every input, part 5 of its proof: what the program's functions answer, and the plain law. No condition. -/
import Derived.Test.YtebgfobjhlcopaaMFnRunGraph1
import Derived.Test.YtebgfobjhlcopaaMFnRunGraph2
import Derived.Test.YtebgfobjhlcopaaMFnRunGraph3
import Derived.Test.YtebgfobjhlcopaaMFnRunGraph4
import Derived.Laws.BitsLemmas
import Derived.SizedLaws
import Derived.ChangeSlices
import Derived.ChangeArms
import Derived.WideShapes
import Derived.Deep.Slices
import Derived.OpenShut
import Derived.Test.YtebgfobjhlcopaaRows
import Derived.JoinedOf
import Derived.KernelRfl
import Derived.WalkKit
import Derived.ProofKit
import Derived.ShutString
import Derived.ChangeOld
import Derived.Below
set_option maxRecDepth 100000
namespace Go.Proofs.Ytebgfobjhlcopaa.Gra
open Go.RowKit Go.Proofs.Ytebgfobjhlcopaa.P Go.Proofs.Ytebgfobjhlcopaa.Base Go.Proofs.Ytebgfobjhlcopaa.Gen Go.Proofs.Ytebgfobjhlcopaa.Graph Go.Proofs.Ytebgfobjhlcopaa.Crit Go.Proofs.YtebgfobjhlcopaaW.PrintWords Go.Proofs.YtebgfobjhlcopaaW.PrintLast
def blk (es : List (List Int)) (left : List Int) (i : Int) : Bool := es.any (fun e => decide (rd e 1 = i) && decide (0 < rd left (rd e 0)))
def rdy (es : List (List Int)) (left : List Int) (i : Int) : Bool := decide (0 < rd left i) && !(blk es left i)
def pck (es : List (List Int)) (left : List Int) (m : Int) : Nat → List Int
  | 0 => []
  | i + 1 => if rdy es left (i : Int) = true ∧ ((pck es left m i).length : Int) < m then pck es left m i ++ [(i : Int)] else pck es left m i
def tick (now : Int) (p : List Int × List Int) (i : Int) : List Int × List Int :=
  (p.1.set i.toNat (rd p.1 i - 1), if rd p.1 i - 1 = 0 then p.2.set i.toNat (now + 1) else p.2)
theorem zgi {es : List (List Int)} {left : List Int} {i : Int} : blk es left i = false ↔ ∀ e ∈ es, rd e 1 = i → rd left (rd e 0) ≤ 0 := by
  unfold blk
  rw [List.any_eq_false]
  constructor
  · intro h e he h1
    have := h e he
    rw [Bool.and_eq_true, decide_eq_true_eq, decide_eq_true_eq] at this
    omega
  · intro h e he
    rw [Bool.and_eq_true, decide_eq_true_eq, decide_eq_true_eq]
    intro hh
    have := h e he hh.1
    omega
theorem zdh {es : List (List Int)} {left : List Int} {i : Int} : rdy es left i = true ↔ 0 < rd left i ∧ ∀ e ∈ es, rd e 1 = i → rd left (rd e 0) ≤ 0 := by
  unfold rdy
  rw [Bool.and_eq_true, decide_eq_true_eq, Bool.not_eq_true', zgi]
section
variable {es : List (List Int)} {left : List Int} {m : Int}
theorem ze6 : ∀ n (x : Int), x ∈ pck es left m n → ∃ i : Nat, i < n ∧ x = (i : Int) ∧ rdy es left (i : Int) = true := by
  intro n
  induction n with
  | zero => intro x h; simp [pck] at h
  | succ n ih =>
    intro x h
    rw [pck] at h
    split at h
    · rename_i hc
      rw [List.mem_append, List.mem_singleton] at h
      rcases h with h | h
      · obtain ⟨i, hi, h⟩ := ih x h; exact ⟨i, by omega, h⟩
      · exact ⟨n, by omega, h, hc.1⟩
    · obtain ⟨i, hi, h⟩ := ih x h; exact ⟨i, by omega, h⟩
theorem zgj : ∀ n, (pck es left m n).Nodup := by
  intro n
  induction n with
  | zero => simp [pck]
  | succ n ih =>
    rw [pck]
    split
    · rw [List.nodup_append]
      refine ⟨ih, by simp, fun a ha b hb => ?_⟩
      rw [List.mem_singleton] at hb
      obtain ⟨i, hi, h, _⟩ := ze6 n a ha
      omega
    · exact ih
theorem zir (hm : 0 ≤ m) : ∀ n, ((pck es left m n).length : Int) ≤ m := by
  intro n
  induction n with
  | zero => simpa [pck] using hm
  | succ n ih =>
    rw [pck]
    split
    · rename_i hc
      rw [List.length_append, List.length_singleton]; omega
    · exact ih
theorem pck_le : ∀ n, (pck es left m n).length ≤ n := by
  intro n
  induction n with
  | zero => simp [pck]
  | succ n ih =>
    rw [pck]
    split
    · rw [List.length_append, List.length_singleton]; omega
    · omega
theorem pck_full (hm : 0 ≤ m) : ∀ n (i : Nat), i < n → rdy es left (i : Int) = true → (i : Int) ∉ pck es left m n → ((pck es left m n).length : Int) = m := by
  intro n
  induction n with
  | zero => intro i h; omega
  | succ n ih =>
    intro i hi hr hn
    rw [pck] at hn ⊢
    split at hn
    · rename_i hc
      rw [List.mem_append, List.mem_singleton] at hn
      have h1 : (i : Int) ∉ pck es left m n := fun h => hn (Or.inl h)
      have h2 : i ≠ n := fun h => hn (Or.inr (by rw [h]))
      have := ih i (by omega) hr h1
      omega
    · rename_i hc
      rw [if_neg hc]
      by_cases e : i = n
      · subst e
        have := zir (es := es) (left := left) hm i
        have : ¬ ((pck es left m i).length : Int) < m := fun h => hc ⟨hr, h⟩
        omega
      · exact ih i (by omega) hr hn
end
theorem zej (l : List Int) (i : Nat) (x : Int) (h : i < l.length) : rd (l.set i x) (i : Int) = x := by
  rw [zd3 _ i (by simpa using h)]
  simp
theorem zek (l : List Int) (i a : Nat) (x : Int) (h : a ≠ i) : rd (l.set i x) (a : Int) = rd l (a : Int) := by
  unfold rd
  rw [List.getD_eq_getElem?_getD, List.getD_eq_getElem?_getD, Int.toNat_natCast, List.getElem?_set_ne (by omega)]
theorem ticks_len (now : Int) : ∀ (l : List Int) (p : List Int × List Int), (l.foldl (tick now) p).1.length = p.1.length ∧ (l.foldl (tick now) p).2.length = p.2.length := by
  intro l
  induction l with
  | nil => intro p; exact ⟨rfl, rfl⟩
  | cons a l ih =>
    intro p
    have := ih (tick now p a)
    rw [List.foldl_cons, this.1, this.2]
    unfold tick
    constructor
    · simp
    · simp only; split <;> simp
theorem ticks_rd (now : Int) : ∀ (l : List Int) (p : List Int × List Int), l.Nodup → (∀ x ∈ l, ∃ i : Nat, i < p.1.length ∧ x = (i : Int)) → p.2.length = p.1.length → ∀ a : Nat, a < p.1.length →
    rd (l.foldl (tick now) p).1 (a : Int) = rd p.1 (a : Int) - (if (a : Int) ∈ l then 1 else 0) ∧
    rd (l.foldl (tick now) p).2 (a : Int) = if (a : Int) ∈ l ∧ rd p.1 (a : Int) - 1 = 0 then now + 1 else rd p.2 (a : Int) := by
  intro l
  induction l with
  | nil => intro p _ _ _ a _; simp
  | cons x l ih =>
    intro p hn hm hl a ha
    rw [List.nodup_cons] at hn
    obtain ⟨i, hi, rfl⟩ := hm x (List.mem_cons_self ..)
    have hl1 : (tick now p (i : Int)).1.length = p.1.length := by unfold tick; simp
    have hl2 : (tick now p (i : Int)).2.length = p.2.length := by unfold tick; simp only; split <;> simp
    have := ih (tick now p (i : Int)) hn.2 (fun y hy => by rw [hl1]; exact hm y (List.mem_cons_of_mem _ hy)) (by omega) a (by omega)
    rw [List.foldl_cons, this.1, this.2]
    by_cases e : a = i
    · subst e
      have h1 : rd (tick now p (a : Int)).1 (a : Int) = rd p.1 (a : Int) - 1 := by
        unfold tick; rw [Int.toNat_natCast]; exact zej _ _ _ hi
      rw [h1, if_neg hn.1, if_neg (show ¬ ((a : Int) ∈ l ∧ rd p.1 (a : Int) - 1 - 1 = 0) from fun h => hn.1 h.1), if_pos (List.mem_cons_self ..)]
      refine ⟨by omega, ?_⟩
      unfold tick
      simp only [List.mem_cons_self, true_and, Int.toNat_natCast]
      split
      · exact zej _ _ _ (by omega)
      · rfl
    · have h1 : rd (tick now p (i : Int)).1 (a : Int) = rd p.1 (a : Int) := by
        unfold tick; rw [Int.toNat_natCast]; exact zek _ _ _ _ e
      have h2 : rd (tick now p (i : Int)).2 (a : Int) = rd p.2 (a : Int) := by
        unfold tick
        simp only [Int.toNat_natCast]
        split
        · exact zek _ _ _ _ e
        · rfl
      have h3 : ((a : Int) ∈ (i : Int) :: l) ↔ (a : Int) ∈ l := by
        rw [List.mem_cons]
        constructor
        · rintro (h | h)
          · omega
          · exact h
        · exact Or.inr
      rw [h1, h2]
      simp only [h3]
      exact ⟨trivial, trivial⟩
structure Inv (es : List (List Int)) (left : List Int) : Prop where
  nn : ∀ i : Nat, i < left.length → 0 ≤ rd left (i : Int)
  up : Up left.length es
  bk : ∀ e ∈ es, 0 < rd left (rd e 0) → 1 ≤ rd left (rd e 1)
theorem zhj {es : List (List Int)} {left : List Int} (h : Inv es left) : ∀ n : Nat, n < left.length → rd left (n : Int) = 0 → EV left es n = 0 := by
  intro n
  induction n using Nat.strongRecOn with
  | ind n ih =>
    intro hn hz
    rw [ziq, hz, Int.add_zero]
    apply Int.le_antisymm
    · refine zgx _ _ _ _ _ (Int.le_refl _) (fun e he hb => ?_)
      obtain ⟨a, b, ha, hb', hab, _⟩ := zea h.up he
      obtain rfl : b = n := by omega
      rw [ha, zd0 left es b a hab]
      have h1 := h.bk e he
      rw [ha, hb', hz] at h1
      have h2 := h.nn a (by omega)
      rw [ih a hab (by omega) (by omega)]
      exact Int.le_refl _
    · exact zez _ _ _ _
structure Step (es : List (List Int)) (left new : List Int) (T : Nat → Prop) : Prop where
  len : new.length = left.length
  run : ∀ i : Nat, i < left.length → T i → rd new (i : Int) = rd left (i : Int) - 1 ∧ rdy es left (i : Int) = true
  sit : ∀ i : Nat, i < left.length → ¬ T i → rd new (i : Int) = rd left (i : Int)
section
variable {es : List (List Int)} {left new : List Int} {T : Nat → Prop}
theorem Step.inv (h : Inv es left) (s : Step es left new T) : Inv es new := by
  refine ⟨fun i hi => ?_, by rw [s.len]; exact h.up, fun e he h0 => ?_⟩
  · rw [s.len] at hi
    have := h.nn i hi
    by_cases t : T i
    · have h1 := s.run i hi t
      have := (zdh.1 h1.2).1
      omega
    · rw [s.sit i hi t]; exact this
  · obtain ⟨a, b, ha, hb, hab, hbl⟩ := zea h.up he
    rw [ha] at h0
    rw [hb]
    have hal : 0 < rd left (a : Int) := by
      by_cases t : T a
      · have := (s.run a (by omega) t).1; omega
      · rw [s.sit a (by omega) t] at h0; exact h0
    have hk := h.bk e he
    rw [ha, hb] at hk
    have t : ¬ T b := fun t => by
      have := (zdh.1 (s.run b (by omega) t).2).2 e he hb
      rw [ha] at this; omega
    rw [s.sit b (by omega) t]
    exact hk hal
theorem Step.falls (h : Inv es left) (s : Step es left new T) (ha : ∀ i : Nat, i < left.length → rdy es left (i : Int) = true → T i) : ∀ n : Nat, n < left.length → EV new es n ≤ max 0 (EV left es n - 1) := by
  have hnew := s.inv h
  intro n
  induction n using Nat.strongRecOn with
  | ind n ih =>
    intro hn
    have hnn := h.nn n hn
    by_cases hz : rd left (n : Int) = 0
    · have t : ¬ T n := fun t => by have := (zdh.1 (s.run n hn t).2).1; omega
      rw [zhj hnew n (by rw [s.len]; exact hn) (by rw [s.sit n hn t]; exact hz)]
      omega
    · by_cases hr : rdy es left (n : Int) = true
      · have hrd := (s.run n hn (ha n hn hr)).1
        have hge := EV_ge left es n
        have : bst (ends new es n) (n : Int) es 0 ≤ 0 := by
          refine zgx _ _ _ _ _ (Int.le_refl _) (fun e he hb => ?_)
          obtain ⟨a, b, ha', hb', hab, _⟩ := zea h.up he
          obtain rfl : b = n := by omega
          have h1 := (zdh.1 hr).2 e he hb
          rw [ha'] at h1
          have h2 := h.nn a (by omega)
          have t : ¬ T a := fun t => by have := (zdh.1 (s.run a (by omega) t).2).1; omega
          rw [ha', zd0 new es b a hab, zhj hnew a (by rw [s.len]; omega) (by rw [s.sit a (by omega) t]; omega)]
          exact Int.le_refl _
        rw [ziq]; omega
      · have t : ¬ T n := fun t => hr (s.run n hn t).2
        obtain ⟨e, he, hb, hp⟩ : ∃ e ∈ es, rd e 1 = (n : Int) ∧ 0 < rd left (rd e 0) := by
          refine Classical.byContradiction fun hc => hr (zdh.2 ⟨by omega, fun e he hb => ?_⟩)
          exact Classical.byContradiction fun h2 => hc ⟨e, he, hb, by omega⟩
        obtain ⟨a, b, ha', hb', hab, _⟩ := zea h.up he
        obtain rfl : b = n := by omega
        rw [ha'] at hp
        have h1 := EV_ge left es a
        have h2 : rd (ends left es b) (a : Int) ≤ bst (ends left es b) (b : Int) es 0 := by
          have := bst_ge (ends left es b) (b : Int) es 0 e he hb
          rwa [ha'] at this
        rw [zd0 left es b a hab] at h2
        have : bst (ends new es b) (b : Int) es 0 ≤ bst (ends left es b) (b : Int) es 0 - 1 := by
          refine zgx _ _ _ _ _ (by omega) (fun f hf hfb => ?_)
          obtain ⟨c, d, hc, hd, hcd, _⟩ := zea h.up hf
          obtain rfl : d = b := by omega
          rw [hc, zd0 new es d c hcd]
          have h3 := ih c hcd (by omega)
          have h4 := bst_ge (ends left es d) (d : Int) es 0 f hf hfb
          rw [hc, zd0 left es d c hcd] at h4
          omega
        rw [ziq new, ziq left, s.sit b hn t]
        omega
theorem Step.slow (h : Inv es left) (s : Step es left new T) : ∀ n : Nat, n < left.length → EV left es n ≤ EV new es n + 1 ∧ EV new es n ≤ EV left es n := by
  intro n
  induction n using Nat.strongRecOn with
  | ind n ih =>
    intro hn
    have pre : ∀ e ∈ es, rd e 1 = (n : Int) → ∃ a : Nat, rd e 0 = (a : Int) ∧ a < n := fun e he hb => by
      obtain ⟨a, b, ha', hb', hab, _⟩ := zea h.up he
      exact ⟨a, ha', by omega⟩
    have dn : bst (ends new es n) (n : Int) es 0 ≤ bst (ends left es n) (n : Int) es 0 := by
      refine zgx _ _ _ _ _ (zez ..) (fun e he hb => ?_)
      obtain ⟨a, ha, han⟩ := pre e he hb
      have h1 := bst_ge (ends left es n) (n : Int) es 0 e he hb
      rw [ha, zd0 left es n a han] at h1
      rw [ha, zd0 new es n a han]
      have := (ih a han (by omega)).2
      omega
    rw [ziq left, ziq new]
    by_cases t : T n
    · have hr := s.run n hn t
      have : bst (ends left es n) (n : Int) es 0 ≤ 0 := by
        refine zgx _ _ _ _ _ (Int.le_refl _) (fun e he hb => ?_)
        obtain ⟨a, ha, han⟩ := pre e he hb
        have h1 := (zdh.1 hr.2).2 e he hb
        rw [ha] at h1
        have h2 := h.nn a (by omega)
        rw [ha, zd0 left es n a han, zhj h a (by omega) (by omega)]
        exact Int.le_refl _
      have := zez (ends new es n) (n : Int) es 0
      omega
    · rw [s.sit n hn t]
      have : bst (ends left es n) (n : Int) es 0 ≤ bst (ends new es n) (n : Int) es 0 + 1 := by
        refine zgx _ _ _ _ _ (by have := zez (ends new es n) (n : Int) es 0; omega) (fun e he hb => ?_)
        obtain ⟨a, ha, han⟩ := pre e he hb
        have h1 := bst_ge (ends new es n) (n : Int) es 0 e he hb
        rw [ha, zd0 new es n a han] at h1
        rw [ha, zd0 left es n a han]
        have := (ih a han (by omega)).1
        omega
      omega
end
theorem pck_sum {left new : List Int} {g : Int → Prop} [DecidablePred g] : ∀ n : Nat,
    (∀ i : Nat, i < n → rd new (i : Int) = rd left (i : Int) - (if g (i : Int) then 1 else 0)) → zda new n = zda left n - ((((List.range n).filter (fun i => decide (g ((i : Nat) : Int)))).length : Nat) : Int) := by
  intro n
  induction n with
  | zero => intro _; simp [zda]
  | succ n ih =>
    intro h
    rw [zda, zda, ih (fun i hi => h i (by omega)), h n (by omega), List.range_succ, List.filter_append, List.length_append]
    by_cases hg : g (n : Int)
    · simp [hg]; omega
    · simp [hg]; omega
theorem pck_count {es : List (List Int)} {left : List Int} {m : Int} : ∀ n, ((List.range n).filter (fun i => decide (((i : Nat) : Int) ∈ pck es left m n))).length = (pck es left m n).length := by
  intro n
  induction n with
  | zero => simp [pck]
  | succ n ih =>
    rw [List.range_succ, List.filter_append, List.length_append]
    have hnot : (n : Int) ∉ pck es left m n := fun h => by
      obtain ⟨i, hi, h, _⟩ := ze6 n _ h
      omega
    have e : (List.range n).filter (fun i => decide (((i : Nat) : Int) ∈ pck es left m (n + 1))) = (List.range n).filter (fun i => decide (((i : Nat) : Int) ∈ pck es left m n)) := by
      apply List.filter_congr
      intro i hi
      rw [List.mem_range] at hi
      rw [decide_eq_decide, pck]
      split
      · rw [List.mem_append, List.mem_singleton]
        constructor
        · rintro (h | h)
          · exact h
          · omega
        · exact Or.inl
      · exact Iff.rfl
    rw [e, ih]
    rw [pck]
    split
    · simp
    · simp [hnot]
section
variable (es : List (List Int)) (m : Int) (c z : List Int)
def st : Nat → List Int × List Int
  | 0 => (c, z)
  | t + 1 => (pck es (st t).1 m c.length).foldl (tick (t : Int)) (st t)
def run (t : Nat) : List Int := pck es (st es m c z t).1 m c.length
def Done (t : Nat) : Prop := ∀ i : Nat, i < c.length → rd (st es m c z t).1 (i : Int) = 0
end
section
variable {es : List (List Int)} {m : Int} {c z : List Int}
theorem zdd (hz : z.length = c.length) : ∀ t, (st es m c z t).1.length = c.length ∧ (st es m c z t).2.length = c.length := by
  intro t
  induction t with
  | zero => exact ⟨rfl, hz⟩
  | succ t ih =>
    rw [st]
    have := ticks_len (t : Int) (pck es (st es m c z t).1 m c.length) (st es m c z t)
    omega
theorem zfo (hz : z.length = c.length) (t a : Nat) (ha : a < c.length) :
    rd (st es m c z (t + 1)).1 (a : Int) = rd (st es m c z t).1 (a : Int) - (if (a : Int) ∈ run es m c z t then 1 else 0) ∧
    rd (st es m c z (t + 1)).2 (a : Int) = if (a : Int) ∈ run es m c z t ∧ rd (st es m c z t).1 (a : Int) - 1 = 0 then (t : Int) + 1 else rd (st es m c z t).2 (a : Int) := by
  have hl := zdd (es := es) (m := m) hz t
  rw [st]
  refine ticks_rd (t : Int) _ _ (zgj _) (fun x hx => ?_) (by omega) a (by omega)
  obtain ⟨i, hi, h, _⟩ := ze6 _ _ hx
  exact ⟨i, by omega, h⟩
theorem zhk (hz : z.length = c.length) (t : Nat) : Step es (st es m c z t).1 (st es m c z (t + 1)).1 (fun i => (i : Int) ∈ run es m c z t) := by
  have hl := zdd (es := es) (m := m) hz t
  have hl2 := zdd (es := es) (m := m) hz (t + 1)
  refine ⟨by omega, fun i hi ht => ⟨?_, ?_⟩, fun i hi ht => ?_⟩
  · rw [(zfo hz t i (by omega)).1, if_pos ht]
  · obtain ⟨j, hj, h, hr⟩ := ze6 _ _ ht
    obtain rfl : i = j := by omega
    exact hr
  · rw [(zfo hz t i (by omega)).1, if_neg ht]; omega
theorem zfi (hz : z.length = c.length) (hu : Up c.length es) (hp : Pos c) : ∀ t, Inv es (st es m c z t).1 := by
  intro t
  induction t with
  | zero =>
    refine ⟨fun i hi => ?_, hu, fun e he _ => ?_⟩
    · have := hp i hi; show 0 ≤ rd c (i : Int); omega
    · obtain ⟨a, b, _, hb, _, hbl⟩ := zea hu he
      rw [hb]
      exact hp b (by omega)
  | succ t ih => exact Step.inv ih (zhk hz t)
theorem sum_zero {l : List Int} (n : Nat) (hnn : ∀ i : Nat, i < n → 0 ≤ rd l (i : Int)) : 0 ≤ zda l n ∧ (zda l n = 0 ↔ ∀ i : Nat, i < n → rd l (i : Int) = 0) := by
  induction n with
  | zero => exact ⟨Int.le_refl _, fun _ i hi => by omega, fun _ => rfl⟩
  | succ n ih =>
    have h1 := ih (fun i hi => hnn i (by omega))
    have h2 := hnn n (by omega)
    rw [zda]
    refine ⟨by omega, fun h i hi => ?_, fun h => ?_⟩
    · by_cases e : i = n
      · subst e; omega
      · exact h1.2.1 (by omega) i (by omega)
    · have := h1.2.2 (fun i hi => h i (by omega))
      have := h n (by omega)
      omega
theorem st_sum (hz : z.length = c.length) (t : Nat) : zda (st es m c z (t + 1)).1 c.length = zda (st es m c z t).1 c.length - ((run es m c z t).length : Int) := by
  rw [pck_sum (g := fun x => x ∈ run es m c z t) (left := (st es m c z t).1) (new := (st es m c z (t + 1)).1) c.length (fun i hi => (zfo hz t i hi).1)]
  congr 2
  exact pck_count c.length
theorem runs (hz : z.length = c.length) (hu : Up c.length es) (hp : Pos c) (hm : 1 ≤ m) (t : Nat) (h : ¬ Done es m c z t) : 1 ≤ (run es m c z t).length := by
  have hi := zfi (m := m) hz hu hp t
  have hl := zdd (es := es) (m := m) hz t
  have key : ∀ n : Nat, n ≤ c.length → (∀ i : Nat, i < n → rd (st es m c z t).1 (i : Int) = 0) ∨ ∃ i : Nat, i < n ∧ rdy es (st es m c z t).1 (i : Int) = true := by
    intro n
    induction n with
    | zero => intro _; exact Or.inl fun i hi => by omega
    | succ n ih =>
      intro hn
      rcases ih (by omega) with h1 | ⟨i, h1, h2⟩
      · by_cases e : rd (st es m c z t).1 (n : Int) = 0
        · left
          intro i hi
          by_cases e2 : i = n
          · subst e2; exact e
          · exact h1 i (by omega)
        · right
          refine ⟨n, by omega, zdh.2 ⟨by have := hi.nn n (by omega); omega, fun f hf hb => ?_⟩⟩
          obtain ⟨a, b, ha, hb', hab, _⟩ := zea hu hf
          rw [ha, h1 a (by omega)]
          exact Int.le_refl _
      · exact Or.inr ⟨i, by omega, h2⟩
  rcases key c.length (Nat.le_refl _) with h1 | ⟨i, h1, h2⟩
  · exact absurd h1 h
  · by_cases hin : (i : Int) ∈ run es m c z t
    · exact List.length_pos_of_mem hin
    · have := pck_full (by omega) c.length i h1 h2 hin
      unfold run
      omega
theorem zf1 (hz : z.length = c.length) (hu : Up c.length es) (hp : Pos c) (t : Nat) : 0 ≤ zda (st es m c z t).1 c.length ∧ (zda (st es m c z t).1 c.length = 0 ↔ Done es m c z t) := by
  have hi := zfi (m := m) hz hu hp t
  have hl := zdd (es := es) (m := m) hz t
  exact sum_zero c.length (fun i h => hi.nn i (by omega))
theorem lng_zero (hz : z.length = c.length) (hu : Up c.length es) (hp : Pos c) (t : Nat) (h : Done es m c z t) : lng (st es m c z t).1 es = 0 := by
  have hi := zfi (m := m) hz hu hp t
  have hl := zdd (es := es) (m := m) hz t
  apply Int.le_antisymm
  · refine lng_le _ _ _ (Int.le_refl _) (fun i hil => ?_)
    rw [zhj hi i hil (h i (by omega))]
    exact Int.le_refl _
  · exact zfn _ _
theorem lng_slow (hz : z.length = c.length) (hu : Up c.length es) (hp : Pos c) (t : Nat) : lng (st es m c z t).1 es ≤ lng (st es m c z (t + 1)).1 es + 1 ∧ lng (st es m c z (t + 1)).1 es ≤ lng (st es m c z t).1 es := by
  have hi := zfi (m := m) hz hu hp t
  have hs := zhk (es := es) (m := m) hz t
  have h0 := zfn (st es m c z (t + 1)).1 es
  constructor
  · refine lng_le _ _ _ (by omega) (fun i hil => ?_)
    have h1 := (hs.slow hi i hil).1
    have h2 := lng_ge (st es m c z (t + 1)).1 es i (by rw [hs.len]; exact hil)
    omega
  · refine lng_le _ _ _ (zfn _ _) (fun i hil => ?_)
    rw [hs.len] at hil
    have h1 := (hs.slow hi i hil).2
    have h2 := lng_ge (st es m c z t).1 es i hil
    omega
theorem lng_falls (hz : z.length = c.length) (hu : Up c.length es) (hp : Pos c) (t : Nat) (h : ∀ i : Nat, i < c.length → rdy es (st es m c z t).1 (i : Int) = true → (i : Int) ∈ run es m c z t) : lng (st es m c z (t + 1)).1 es ≤ max 0 (lng (st es m c z t).1 es - 1) := by
  have hi := zfi (m := m) hz hu hp t
  have hl := zdd (es := es) (m := m) hz t
  have hs := zhk (es := es) (m := m) hz t
  refine lng_le _ _ _ (by omega) (fun i hil => ?_)
  rw [hs.len] at hil
  have h1 := hs.falls hi (fun i hi hr => h i (by omega) hr) i hil
  have h2 := lng_ge (st es m c z t).1 es i hil
  omega
theorem graham (hz : z.length = c.length) (hu : Up c.length es) (hp : Pos c) (hm : 1 ≤ m) : ∀ t : Nat, (∀ s, s < t → ¬ Done es m c z s) →
    m * t + zda (st es m c z t).1 c.length + (m - 1) * lng (st es m c z t).1 es ≤ zda c c.length + (m - 1) * lng c es ∧
    lng c es ≤ lng (st es m c z t).1 es + t ∧ zda c c.length ≤ zda (st es m c z t).1 c.length + m * t ∧ zda (st es m c z t).1 c.length + t ≤ zda c c.length := by
  intro t
  induction t with
  | zero =>
    intro _
    refine ⟨?_, ?_, ?_, ?_⟩ <;> simp [st]
  | succ t ih =>
    intro h
    obtain ⟨h1, h2, h3, h4⟩ := ih (fun s hs => h s (by omega))
    have hr := runs hz hu hp hm t (h t (by omega))
    have hs := st_sum (es := es) (m := m) hz t
    have hlen : ((run es m c z t).length : Int) ≤ m := zir (by omega) _
    have hsl := lng_slow (m := m) hz hu hp t
    have hdn := zf1 (m := m) hz hu hp t
    have hpos : 1 ≤ lng (st es m c z t).1 es := by
      have h5 : ¬ zda (st es m c z t).1 c.length = 0 := fun e => h t (by omega) (hdn.2.1 e)
      refine Classical.byContradiction fun hc => h t (by omega) (fun i hi => ?_)
      have hl := zdd (es := es) (m := m) hz t
      have h6 := EV_ge (st es m c z t).1 es i
      have h7 := lng_ge (st es m c z t).1 es i (by omega)
      have h8 := (zfi (m := m) hz hu hp t).nn i (by omega)
      omega
    have e1 : m * ((t + 1 : Nat) : Int) = m * (t : Int) + m := by
      rw [Int.natCast_add, Int.mul_add, Int.natCast_one, Int.mul_one]
    refine ⟨?_, by omega, by omega, by omega⟩
    by_cases hf : ((run es m c z t).length : Int) = m
    · have : (m - 1) * lng (st es m c z (t + 1)).1 es ≤ (m - 1) * lng (st es m c z t).1 es := Int.mul_le_mul_of_nonneg_left hsl.2 (by omega)
      omega
    · have hall := lng_falls (m := m) hz hu hp t (fun i hi hr => Classical.byContradiction fun hn => hf (pck_full (by omega) _ i hi hr hn))
      have : (m - 1) * lng (st es m c z (t + 1)).1 es ≤ (m - 1) * (lng (st es m c z t).1 es - 1) := Int.mul_le_mul_of_nonneg_left (by omega) (by omega)
      rw [Int.mul_sub, Int.mul_one] at this
      omega
theorem ends_by (hz : z.length = c.length) (hu : Up c.length es) (hp : Pos c) (hm : 1 ≤ m) : ∃ T : Nat, (T : Int) ≤ zda c c.length ∧ Done es m c z T ∧ ∀ s, s < T → ¬ Done es m c z s := by
  have key : ∀ n : Nat, (∀ s, s < n → ¬ Done es m c z s) ∨ ∃ T : Nat, T < n ∧ Done es m c z T ∧ ∀ s, s < T → ¬ Done es m c z s := by
    intro n
    induction n with
    | zero => exact Or.inl fun s hs => by omega
    | succ n ih =>
      rcases ih with h | ⟨T, h1, h2, h3⟩
      · by_cases hd : Done es m c z n
        · exact Or.inr ⟨n, by omega, hd, h⟩
        · left
          intro s hs
          by_cases e : s = n
          · subst e; exact hd
          · exact h s (by omega)
      · exact Or.inr ⟨T, by omega, h2, h3⟩
  have h0 := zf1 (m := m) hz hu hp 0
  have h0' : 0 ≤ zda c c.length := h0.1
  rcases key ((zda c c.length).toNat + 1) with h | ⟨T, h1, h2, h3⟩
  · have h1 := (graham hz hu hp hm _ h).2.2.2
    have h2 := (zf1 (m := m) hz hu hp ((zda c c.length).toNat + 1)).1
    omega
  · exact ⟨T, by omega, h2, h3⟩
end
end Go.Proofs.Ytebgfobjhlcopaa.Gra
namespace Go.Proofs.Ytebgfobjhlcopaa.Crit
open Go.RowKit Go.Proofs.Ytebgfobjhlcopaa.P Go.Proofs.Ytebgfobjhlcopaa.Base Go.Proofs.Ytebgfobjhlcopaa.Gen Go.Proofs.Ytebgfobjhlcopaa.Graph Go.Proofs.YtebgfobjhlcopaaW.PrintWords Go.Proofs.YtebgfobjhlcopaaW.PrintLast
def VL (c : List Int) (es : List (List Int)) : Int := if GV c es then vl c else -1
theorem zh7 {c : List Int} {es : List (List Int)} (h : GV c es) (n : Nat) (hn : n ≤ c.length) : 0 ≤ zda c n ∧ zda c n ≤ 8 * n := by
  induction n with
  | zero => simp [zda]
  | succ n ih =>
    have h1 := ih (by omega)
    have h2 := zgh h n (by omega)
    rw [zda]; omega
theorem impl_vol_f {c : List Int} {es : List (List Int)} (h : GV c es) : Ev (fun k => zb2.f k c) (vl c) := by
  have loop : ∀ d i, i + d = c.length → Ev (fun k => zb2.l0 k (zda c i) c (c.length : Int) (i : Int)) (vl c) := by
    intro d
    induction d with
    | zero =>
      intro i hi
      refine Ev.step (f := fun _ => some (vl c)) (fun k => ?_) (Ev.now _)
      simp only [zb2.l0]
      rw [if_neg (by omega), vl_eq]
      congr 2
    | succ d ih =>
      intro i hi
      have hc := h.1
      have h1 := zh7 h i (by omega)
      have h2 := zgh h i (by omega)
      refine Ev.step (fun k => ?_) (ih (i + 1) (by omega))
      simp only [zb2.l0]
      rw [if_pos (by omega), if_pos (by omega), if_pos (by omega), w64 (x := zda c i + rd c i) (by omega) (by omega), w64 (by omega) (by omega)]
      rfl
  exact loop c.length 0 (by omega)
theorem impl_vol (c : List Int) (es : List (List Int)) (hc : c.length ≤ 2097152) (he : es.length ≤ 2097152) : Ev (fun k => zco.f k c es) (VL c es) := by
  unfold zco.f
  refine Ev.bind (impl_gv c es hc he) ?_
  by_cases h : GV c es
  · simp only [decide_eq_true h, if_true]
    unfold VL; rw [if_pos h]
    exact Ev.bind (impl_vol_f h) (Ev.now _)
  · simp only [decide_eq_false h]
    unfold VL; rw [if_neg h]
    exact Ev.now _
end Go.Proofs.Ytebgfobjhlcopaa.Crit
namespace Go.Proofs.Ytebgfobjhlcopaa.Rg
open Go.RowKit Go.Proofs.Ytebgfobjhlcopaa.P Go.Proofs.Ytebgfobjhlcopaa.Base Go.Proofs.Ytebgfobjhlcopaa.Gen Go.Proofs.Ytebgfobjhlcopaa.Graph Go.Proofs.Ytebgfobjhlcopaa.Crit Go.Proofs.Ytebgfobjhlcopaa.Gra Go.Proofs.YtebgfobjhlcopaaW.PrintWords Go.Proofs.YtebgfobjhlcopaaW.PrintLast
theorem blk_eq (es : List (List Int)) (left : List Int) (i : Nat) : es.any (blkE left i) = blk es left (i : Int) := by
  unfold blk
  congr 1
  funext e
  unfold blkE
  by_cases h : rd e 1 = (i : Int)
  · rw [if_pos h, decide_eq_true h, Bool.true_and]
  · rw [if_neg h, decide_eq_false h, Bool.false_and]
theorem gpick_pck (es : List (List Int)) (left : List Int) (m : Int) : ∀ n, zcm es left m n = pck es left m n := by
  intro n
  induction n with
  | zero => rfl
  | succ n ih =>
    rw [zcm, pck, ih, blk_eq]
    by_cases h1 : rd left (n : Int) > 0
    · rw [if_pos h1]
      cases hb : blk es left (n : Int) with
      | true =>
        rw [if_pos rfl, if_neg (fun hh => by have := hh.1; unfold rdy at this; rw [hb] at this; simp at this)]
      | false =>
        rw [if_neg (by simp)]
        have hr : rdy es left (n : Int) = true := by unfold rdy; rw [hb, decide_eq_true h1]; rfl
        by_cases h2 : ((pck es left m n).length : Int) < m
        · rw [if_pos h2, if_pos ⟨hr, h2⟩]
        · rw [if_neg h2, if_neg (fun hh => h2 hh.2)]
    · rw [if_neg h1, if_neg (fun hh => by have := hh.1; unfold rdy at this; rw [decide_eq_false h1] at this; simp at this)]
theorem rd_set_or (l : List Int) (i : Nat) (x a : Int) : rd (l.set i x) a = x ∨ rd (l.set i x) a = rd l a := by
  unfold rd
  rw [List.getD_eq_getElem?_getD, List.getD_eq_getElem?_getD, List.getElem?_set]
  split
  · split
    · exact Or.inl rfl
    · rename_i h1 h2
      right
      rw [← h1, List.getElem?_eq_none (by omega)]
  · exact Or.inr rfl
theorem fold_tick {now : Int} (hnow : wrap64 (now + 1) = now + 1) : ∀ (l : List Int) (p : List Int × List Int) (B : Int), (∀ a : Int, -B ≤ rd p.1 a ∧ rd p.1 a ≤ B) → B + l.length ≤ 1000 → l.foldl (zeq now) p = l.foldl (tick now) p := by
  intro l
  induction l with
  | nil => intro p B _ _; rw [List.foldl_nil, List.foldl_nil]
  | cons x l ih =>
    intro p B hB hl
    rw [List.length_cons] at hl
    have hx := hB x
    have e : zeq now p x = tick now p x := by
      unfold zeq tick
      rw [hnow, w64 (x := rd p.1 x - 1) (by omega) (by omega)]
    rw [List.foldl_cons, List.foldl_cons, e]
    refine ih _ (B + 1) (fun a => ?_) (by omega)
    unfold tick
    simp only
    have ha := hB a
    have hor := rd_set_or p.1 x.toNat (rd p.1 x - 1) a
    generalize rd (p.1.set x.toNat (rd p.1 x - 1)) a = y at hor ⊢
    generalize rd p.1 x = u at hx hor
    generalize rd p.1 a = v at ha hor
    omega
theorem zgk (l : List Int) (x : Int) (hl : l.length ≤ 1000000) : Ev (fun k => zbl.f k l x) (decide (x ∈ l)) := by
  have idx : ∀ d i : Nat, i + d = l.length → (∀ y ∈ l.take i, x ≠ y) → ∃ r : Int, Ev (fun k => zn.l0 k l x (l.length : Int) (i : Int)) r ∧ (r ≥ 0 ↔ x ∈ l) := by
    intro d
    induction d with
    | zero =>
      intro i hi hn
      obtain rfl : i = l.length := by omega
      rw [List.take_length] at hn
      refine ⟨-1, Ev.step (f := fun _ => some (-1)) (fun k => ?_) (Ev.now _), ⟨fun h => by omega, fun h => absurd rfl (hn x h)⟩⟩
      simp only [zn.l0]
      rw [if_neg (by omega)]
    | succ d ih =>
      intro i hi hn
      have hil : i < l.length := by omega
      by_cases e : x = l[i]
      · refine ⟨(i : Int), Ev.step (f := fun _ => some (i : Int)) (fun k => ?_) (Ev.now _), ⟨fun _ => e ▸ List.getElem_mem hil, fun _ => by omega⟩⟩
        simp only [zn.l0]
        rw [if_pos (by omega), if_pos (by omega), if_pos (by omega), zd3 _ _ hil, if_pos e]
      · obtain ⟨r, h1, h2⟩ := ih (i + 1) (by omega) (fun y hy => by
          rw [List.take_succ_eq_append_getElem hil] at hy
          rcases List.mem_append.1 hy with h | h
          · exact hn y h
          · rw [List.mem_singleton.1 h]; exact e)
        refine ⟨r, Ev.step (fun k => ?_) h1, h2⟩
        simp only [zn.l0]
        rw [if_pos (by omega), if_pos (by omega), if_pos (by omega), zd3 _ _ hil, if_neg e, w64 (by omega) (by omega)]
        rfl
  obtain ⟨r, h1, h2⟩ := idx l.length 0 (by omega) (fun y hy => by simp at hy)
  unfold zbl.f zn.f
  have h3 : decide (x ∈ l) = decide (r ≥ 0) := decide_eq_decide.2 h2.symm
  rw [h3]
  exact Ev.bind h1 (Ev.now _)
section
variable {es : List (List Int)} {m : Int} {c : List Int}
def zz (c : List Int) : List Int := List.replicate c.length (-1)
theorem zcw (c : List Int) : (zz c).length = c.length := by unfold zz; rw [List.length_replicate]
theorem le_c (t i : Nat) (hi : i < c.length) : rd (st es m c (zz c) t).1 (i : Int) ≤ rd c (i : Int) := by
  induction t with
  | zero => exact Int.le_refl _
  | succ t ih =>
    rw [(zfo (es := es) (m := m) (zcw c) t i hi).1]
    split <;> omega
theorem fin_rel (hp : Pos c) (t i : Nat) (hi : i < c.length) : (0 < rd (st es m c (zz c) t).1 (i : Int) ∧ rd (st es m c (zz c) t).2 (i : Int) = -1) ∨ (rd (st es m c (zz c) t).1 (i : Int) = 0 ∧ 0 ≤ rd (st es m c (zz c) t).2 (i : Int)) := by
  induction t with
  | zero =>
    left
    refine ⟨by have := hp i hi; show 0 < rd c (i : Int); omega, ?_⟩
    show rd (zz c) (i : Int) = -1
    rw [zd3 _ i (by rw [zcw]; exact hi)]
    unfold zz
    rw [List.getElem_replicate]
  | succ t ih =>
    have h := zfo (es := es) (m := m) (zcw c) t i hi
    have hs := (zhk (es := es) (m := m) (zcw c) t).run i (by rw [(zdd (es := es) (m := m) (zcw c) t).1]; exact hi)
    rw [h.1, h.2]
    by_cases hm : (i : Int) ∈ run es m c (zz c) t
    · have hl := (zdh.1 (hs hm).2).1
      rw [if_pos hm]
      by_cases hz : rd (st es m c (zz c) t).1 (i : Int) - 1 = 0
      · rw [if_pos ⟨hm, hz⟩]
        right; omega
      · rw [if_neg (fun hh => hz hh.2)]
        left
        rcases ih with ⟨_, h2⟩ | ⟨h1, _⟩
        · exact ⟨by omega, h2⟩
        · omega
    · rw [if_neg hm, if_neg (fun hh => hm hh.1), Int.sub_zero]
      exact ih
theorem has_none (hp : Pos c) (t : Nat) : (-1 ∈ (st es m c (zz c) t).2) ↔ ¬ Done es m c (zz c) t := by
  have hl := (zdd (es := es) (m := m) (zcw c) t).2
  constructor
  · intro h hd
    obtain ⟨i, hi, e⟩ := List.getElem_of_mem h
    have h1 := hd i (by omega)
    have h2 := fin_rel (es := es) (m := m) hp t i (by omega)
    rw [zd3 _ i hi, e] at h2
    omega
  · intro h
    refine Classical.byContradiction fun hn => h (fun i hi => ?_)
    rcases fin_rel (es := es) (m := m) hp t i hi with ⟨_, h2⟩ | ⟨h1, _⟩
    · exact absurd (by rw [← h2, zd3 _ i (by omega)]; exact List.getElem_mem _) hn
    · exact h1
theorem all_bd {l : List Int} {B : Int} (hB : 0 ≤ B) (h : ∀ i : Nat, i < l.length → 0 ≤ rd l (i : Int) ∧ rd l (i : Int) ≤ B) (a : Int) : -B ≤ rd l a ∧ rd l a ≤ B := by
  have e : rd l a = rd l ((a.toNat : Nat) : Int) := by unfold rd; rw [Int.toNat_natCast]
  rw [e]
  rcases Nat.lt_or_ge a.toNat l.length with h1 | h1
  · have := h _ h1; omega
  · have : rd l ((a.toNat : Nat) : Int) = 0 := by
      unfold rd
      rw [List.getD_eq_getElem?_getD, Int.toNat_natCast, List.getElem?_eq_none h1]
      rfl
    omega
theorem rg_l0 (h : GV c es) {T : Nat} (hT : T ≤ 64) (hd : Done es m c (zz c) T) (hn : ∀ s, s < T → ¬ Done es m c (zz c) s) : ∀ d t : Nat, t + d = T →
    Ev (fun k => zbg.l0 c es m k (t : Int) (st es m c (zz c) t).1 (st es m c (zz c) t).2 ((List.range t).map (run es m c (zz c)))) ((List.range T).map (run es m c (zz c)), (st es m c (zz c) T).2) := by
  have hu := gv_up h
  have hp := zgy h
  have h8 := h.1
  intro d
  induction d with
  | zero =>
    intro t ht
    obtain rfl : t = T := by omega
    have hl := (zdd (es := es) (m := m) (zcw c) t).2
    have hc := zgk (st es m c (zz c) t).2 (-1) (by omega)
    rw [decide_eq_false (fun hh => (has_none (es := es) (m := m) hp t).1 hh hd)] at hc
    refine Ev.step (f := fun k => (zbl.f k (st es m c (zz c) t).2 (-1)).bind fun b => (if b = true then (if ((List.range t).map (run es m c (zz c))).length < 1000000 then (zbg.l0 c es m k (wrap64 ((t : Int) + 1)) ((zcm es (st es m c (zz c) t).1 m c.length).foldl (zeq (t : Int)) ((st es m c (zz c) t).1, (st es m c (zz c) t).2)).1 ((zcm es (st es m c (zz c) t).1 m c.length).foldl (zeq (t : Int)) ((st es m c (zz c) t).1, (st es m c (zz c) t).2)).2 ((List.range t).map (run es m c (zz c)) ++ [zcm es (st es m c (zz c) t).1 m c.length])) else (none)) else (some ((List.range t).map (run es m c (zz c)), (st es m c (zz c) t).2)))) (fun k => by rw [zbg.l0]) ?_
    exact Ev.bind hc (Ev.step (fun k => by rw [if_neg (by simp)]) (Ev.now _))
  | succ d ih =>
    intro t ht
    have hl := (zdd (es := es) (m := m) (zcw c) t).2
    have hl1 := (zdd (es := es) (m := m) (zcw c) t).1
    have hc := zgk (st es m c (zz c) t).2 (-1) (by omega)
    rw [decide_eq_true ((has_none (es := es) (m := m) hp t).2 (hn t (by omega)))] at hc
    have hw : wrap64 ((t : Int) + 1) = (t : Int) + 1 := w64 (by omega) (by omega)
    have hpl := pck_le (es := es) (left := (st es m c (zz c) t).1) (m := m) c.length
    have hft := fold_tick hw (pck es (st es m c (zz c) t).1 m c.length) (st es m c (zz c) t) 8 (all_bd (by omega) (fun i hi => by
      have h1 := (zfi (m := m) (zcw c) hu hp t).nn i hi
      have h2 := le_c (es := es) (m := m) (c := c) t i (by omega)
      have h3 := (zgh h i (by omega)).2
      exact ⟨h1, Int.le_trans h2 h3⟩)) (by omega)
    have e : (pck es (st es m c (zz c) t).1 m c.length).foldl (zeq (t : Int)) ((st es m c (zz c) t).1, (st es m c (zz c) t).2) = st es m c (zz c) (t + 1) := hft
    have IH := ih (t + 1) (by omega)
    have hr : (List.range (t + 1)).map (run es m c (zz c)) = (List.range t).map (run es m c (zz c)) ++ [pck es (st es m c (zz c) t).1 m c.length] := by rw [List.range_succ, List.map_append]; rfl
    rw [hr] at IH
    refine Ev.step (f := fun k => (zbl.f k (st es m c (zz c) t).2 (-1)).bind fun b => (if b = true then (if ((List.range t).map (run es m c (zz c))).length < 1000000 then (zbg.l0 c es m k (((t + 1 : Nat) : Int)) (st es m c (zz c) (t + 1)).1 (st es m c (zz c) (t + 1)).2 ((List.range t).map (run es m c (zz c)) ++ [pck es (st es m c (zz c) t).1 m c.length])) else (none)) else (some ((List.range t).map (run es m c (zz c)), (st es m c (zz c) t).2)))) (fun k => by rw [zbg.l0, gpick_pck, e, hw]; rfl) ?_
    refine Ev.bind hc ?_
    exact Ev.congr (fun k => by rw [if_pos rfl, if_pos (by rw [List.length_map, List.length_range]; omega)]) IH
open Classical in
noncomputable def TT (es : List (List Int)) (m : Int) (c : List Int) : Nat := if h : ∃ T : Nat, Done es m c (zz c) T ∧ ∀ s, s < T → ¬ Done es m c (zz c) s then h.choose else 0
theorem TT_is (h : GV c es) (hm : 1 ≤ m) : (TT es m c : Int) ≤ zda c c.length ∧ Done es m c (zz c) (TT es m c) ∧ ∀ s, s < TT es m c → ¬ Done es m c (zz c) s := by
  obtain ⟨T, h1, h2, h3⟩ := ends_by (m := m) (zcw c) (gv_up h) (zgy h) hm
  have hx : ∃ T : Nat, Done es m c (zz c) T ∧ ∀ s, s < T → ¬ Done es m c (zz c) s := ⟨T, h2, h3⟩
  have e : TT es m c = hx.choose := by unfold TT; rw [dif_pos hx]
  have hs := hx.choose_spec
  rw [← e] at hs
  have eT : TT es m c = T := by
    rcases Nat.lt_trichotomy (TT es m c) T with h4 | h4 | h4
    · exact absurd hs.1 (h3 _ h4)
    · exact h4
    · exact absurd h2 (hs.2 _ h4)
  exact ⟨by rw [eT]; exact h1, hs⟩
noncomputable def RG (c : List Int) (es : List (List Int)) (m : Int) : List (List Int) × List Int := if GV c es ∧ 1 ≤ m ∧ m ≤ 5 then ((List.range (TT es m c)).map (run es m c (zz c)), (st es m c (zz c) (TT es m c)).2) else ([], [])
theorem cores_f (m : Int) : zcz.f m = some (decide (1 ≤ m ∧ m ≤ 5)) := by
  unfold zcz.f
  rw [in_f]
  rfl
theorem impl_rg (c : List Int) (es : List (List Int)) (m : Int) (hc : c.length ≤ 2097152) (he : es.length ≤ 2097152) : Ev (fun k => zbg.f k c es m) (RG c es m) := by
  unfold zbg.f RG
  refine Ev.bind (impl_gv c es hc he) ?_
  by_cases h : GV c es
  · rw [decide_eq_true h, cores_f]
    by_cases hm : 1 ≤ m ∧ m ≤ 5
    · rw [if_pos ⟨h, hm⟩]
      obtain ⟨h1, h2, h3⟩ := TT_is h hm.1
      have hb := zh7 h c.length (Nat.le_refl _)
      have h8 := h.1
      refine Ev.congr (fun k => ?_) (rg_l0 h (T := TT es m c) (by omega) h2 h3 (TT es m c) 0 (by omega))
      rw [if_pos rfl, decide_eq_true hm]
      simp only [Option.bind_some]
      rw [if_pos trivial, if_pos ⟨by omega, fun e hh => by have hE := h.2.2.2 e hh; exact ⟨hE.1, hE.2.1, by have := hE.2.2; omega⟩⟩]
      rfl
    · rw [if_neg (fun hh => hm hh.2)]
      refine Ev.congr (fun k => ?_) (Ev.now _)
      rw [if_pos rfl, decide_eq_false hm]
      rfl
  · rw [decide_eq_false h, if_neg (show ¬ (GV c es ∧ 1 ≤ m ∧ m ≤ 5) from fun hh => h hh.1)]
    exact Ev.congr (fun k => by rw [if_neg (by simp)]) (Ev.now _)
end
end Go.Proofs.Ytebgfobjhlcopaa.Rg
namespace Go.Proofs.Ytebgfobjhlcopaa.Srg
open Go.RowKit Go.Proofs.Ytebgfobjhlcopaa.P Go.Proofs.Ytebgfobjhlcopaa.Base Go.Proofs.Ytebgfobjhlcopaa.Gen Go.Proofs.Ytebgfobjhlcopaa.Graph Go.Proofs.Ytebgfobjhlcopaa.Crit Go.Proofs.Ytebgfobjhlcopaa.Gra Go.Proofs.Ytebgfobjhlcopaa.Rg Go.Proofs.YtebgfobjhlcopaaW.PrintWords Go.Proofs.YtebgfobjhlcopaaW.PrintLast
theorem zgz (xs : List (List Int)) (i : Nat) (h : i < xs.length) : zh xs (i : Int) = xs[i] := zh6 xs i h
theorem ready_ev {c : List Int} {es : List (List Int)} (h : GV c es) {left : List Int} (hl : left.length = c.length) (hnn : ∀ i : Nat, i < left.length → 0 ≤ rd left (i : Int)) (i : Nat) (hi : i < left.length) :
    Ev (fun k => zbp.f k left es (i : Int)) (rdy es left (i : Int)) := by
  have h64 := h.2.1
  have loop : ∀ d j, j + d = es.length → (∀ q (hq : q < es.length), q < j → rd es[q] 1 = (i : Int) → rd left (rd es[q] 0) ≤ 0) → Ev (fun k => zbp.l0 k left es (i : Int) (j : Int)) (!(blk es left (i : Int))) := by
    intro d
    induction d with
    | zero =>
      intro j hj hm
      have hb : blk es left (i : Int) = false := zgi.2 (fun e he => by
        obtain ⟨q, hq, rfl⟩ := List.mem_iff_getElem.1 he
        exact hm q hq (by omega))
      rw [hb]
      refine Ev.step (f := fun _ => some true) (fun k => ?_) (Ev.now _)
      rw [zbp.l0, if_neg (by omega)]
    | succ d ih =>
      intro j hj hm
      have hjl : j < es.length := by omega
      have hE := h.2.2.2 es[j] (List.getElem_mem hjl)
      have h2 := hE.1
      have hw : wrap64 ((j : Int) + 1) = ((j + 1 : Nat) : Int) := by rw [w64 (by omega) (by omega)]; omega
      by_cases e : rd es[j] 1 = (i : Int)
      · by_cases hz : rd left (rd es[j] 0) > 0
        · have hb : blk es left (i : Int) = true := by
            cases hb : blk es left (i : Int) with
            | true => rfl
            | false => exact absurd (zgi.1 hb _ (List.getElem_mem hjl) e) (by omega)
          rw [hb]
          refine Ev.step (f := fun _ => some false) (fun k => ?_) (Ev.now _)
          rw [zbp.l0, if_pos (by omega), if_pos (by omega), zgz es j hjl, if_pos (by omega), if_pos e, if_pos (by omega), if_pos hE.2.1, if_pos (by have := hE.2.2; omega), if_pos hz]
        · refine Ev.step (fun k => ?_) (ih (j + 1) (by omega) (upto (P := fun e => rd e 1 = (i : Int) → rd left (rd e 0) ≤ 0) hjl hm (fun _ => by omega)))
          rw [zbp.l0, if_pos (by omega), if_pos (by omega), zgz es j hjl, if_pos (by omega), if_pos e, if_pos (by omega), if_pos hE.2.1, if_pos (by have := hE.2.2; omega), if_neg hz, hw]
      · refine Ev.step (fun k => ?_) (ih (j + 1) (by omega) (upto (P := fun e => rd e 1 = (i : Int) → rd left (rd e 0) ≤ 0) hjl hm (fun hh => absurd hh e)))
        rw [zbp.l0, if_pos (by omega), if_pos (by omega), zgz es j hjl, if_pos (by omega), if_neg e, hw]
  have h0 := hnn i hi
  unfold zbp.f
  by_cases hz : rd left (i : Int) = 0
  · have e : rdy es left (i : Int) = false := by unfold rdy; rw [hz]; rfl
    rw [e]
    exact Ev.congr (fun k => by rw [if_pos (by omega), if_pos (by omega), if_pos hz]) (Ev.now _)
  · have e : rdy es left (i : Int) = !(blk es left (i : Int)) := by unfold rdy; rw [decide_eq_true (by omega), Bool.true_and]
    rw [e]
    exact Ev.congr (fun k => by rw [if_pos (by omega), if_pos (by omega), if_neg hz]; rfl) (loop es.length 0 (by omega) (fun q _ hq => by omega))
theorem pck_stop (es : List (List Int)) (left : List Int) (m : Int) (i : Nat) (h : ¬ ((pck es left m i).length : Int) < m) : ∀ d, pck es left m (i + d) = pck es left m i := by
  intro d
  induction d with
  | zero => rfl
  | succ d ih =>
    rw [← Nat.add_assoc, pck, ih, if_neg (fun hh => h hh.2)]
theorem pick_ev {c : List Int} {es : List (List Int)} (h : GV c es) {left : List Int} (m : Int) (hl : left.length = c.length) (hnn : ∀ i : Nat, i < left.length → 0 ≤ rd left (i : Int)) :
    ∀ d i, i + d = c.length → Ev (fun k => zl.l1 k es m left c.length (d + 1) i (pck es left m i)) (pck es left m c.length) := by
  intro d
  induction d with
  | zero =>
    intro i hi
    obtain rfl : i = c.length := by omega
    exact Ev.congr (fun k => by rw [zl.l1, if_neg (by omega)]) (Ev.now _)
  | succ d ih =>
    intro i hi
    by_cases hm : ((pck es left m i).length : Int) < m
    · have IH := ih (i + 1) (by omega)
      refine Ev.congr (f := fun k => (zbp.f k left es (i : Int)).bind fun t => zl.l1 k es m left c.length (d + 1) (i + 1) (if t = true then pck es left m i ++ [(i : Int)] else pck es left m i)) (fun k => by (conv => lhs; rw [zl.l1, if_pos (show i < c.length by omega), if_pos hm])) ?_
      refine Ev.bind (ready_ev h hl hnn i (by omega)) ?_
      have e : (if rdy es left (i : Int) = true then pck es left m i ++ [(i : Int)] else pck es left m i) = pck es left m (i + 1) := by
        rw [pck]
        by_cases hr : rdy es left (i : Int) = true
        · rw [if_pos hr, if_pos ⟨hr, hm⟩]
        · rw [if_neg hr, if_neg (fun hh => hr hh.1)]
      rw [e]
      exact IH
    · have e := pck_stop es left m i hm (d + 1)
      rw [hi] at e
      rw [e]
      exact Ev.congr (fun k => by rw [zl.l1, if_pos (by omega), if_neg hm]) (Ev.now _)
def dn (left : List Int) : Nat → Nat
  | 0 => 0
  | n + 1 => dn left n + if rd left (n : Int) = 0 then 1 else 0
theorem dn_le (left : List Int) : ∀ n, dn left n ≤ n := by
  intro n
  induction n with
  | zero => exact Nat.le_refl _
  | succ n ih => rw [dn]; split <;> omega
theorem dn_all (left : List Int) : ∀ n, dn left n = n ↔ ∀ i : Nat, i < n → rd left (i : Int) = 0 := by
  intro n
  induction n with
  | zero => exact ⟨fun _ i hi => by omega, fun _ => rfl⟩
  | succ n ih =>
    have hle := dn_le left n
    rw [dn]
    constructor
    · intro h i hi
      by_cases hz : rd left (n : Int) = 0
      · rw [if_pos hz] at h
        rcases Nat.lt_or_ge i n with h1 | h1
        · exact ih.1 (by omega) i h1
        · obtain rfl : i = n := by omega
          exact hz
      · rw [if_neg hz] at h; omega
    · intro h
      rw [if_pos (h n (by omega)), ih.2 (fun i hi => h i (by omega))]
theorem dn_zero (left : List Int) : ∀ n, (∀ i : Nat, i < n → rd left (i : Int) ≠ 0) → dn left n = 0 := by
  intro n
  induction n with
  | zero => intro _; rfl
  | succ n ih => intro h; rw [dn, ih (fun i hi => h i (by omega)), if_neg (h n (by omega))]
theorem dn_set (left : List Int) (a : Nat) (x : Int) (ha : a < left.length) (h0 : rd left (a : Int) ≠ 0) : ∀ n, dn (left.set a x) n = dn left n + if x = 0 ∧ a < n then 1 else 0 := by
  intro n
  induction n with
  | zero => rw [dn, dn, if_neg (by omega)]
  | succ n ih =>
    rw [dn, dn, ih]
    by_cases e : n = a
    · subst e
      rw [zej _ _ _ ha, if_neg h0, if_neg (show ¬ (x = 0 ∧ n < n) by omega)]
      by_cases hx : x = 0
      · rw [if_pos hx, if_pos ⟨hx, by omega⟩]
      · rw [if_neg hx, if_neg (fun hh => hx hh.1)]
    · rw [zek _ _ _ _ e]
      by_cases hx : x = 0 ∧ a < n
      · rw [if_pos hx, if_pos (show x = 0 ∧ a < n + 1 from ⟨hx.1, by omega⟩)]; omega
      · rw [if_neg hx, if_neg (show ¬ (x = 0 ∧ a < n + 1) from fun hh => hx ⟨hh.1, by omega⟩)]; omega
theorem fold_stick {now : Int} (hnow : wrap64 (now + 1) = now + 1) (n : Nat) (hn : n ≤ 1000) : ∀ (l : List Int) (p : List Int × List Int), l.Nodup → p.1.length = n → (∀ x ∈ l, ∃ i : Nat, i < n ∧ x = (i : Int) ∧ 0 < rd p.1 (i : Int) ∧ rd p.1 (i : Int) ≤ 1000) →
    l.foldl (zdq now) (p.1, p.2, (dn p.1 n : Int)) = ((l.foldl (tick now) p).1, (l.foldl (tick now) p).2, (dn (l.foldl (tick now) p).1 n : Int)) := by
  intro l
  induction l with
  | nil => intro p _ _ _; rfl
  | cons x l ih =>
    intro p hnd hlen hx
    obtain ⟨i, hi, rfl, h1, h2⟩ := hx x (List.mem_cons_self ..)
    have hnd' := List.nodup_cons.1 hnd
    have hd := dn_set p.1 i (rd p.1 (i : Int) - 1) (by omega) (by omega) n
    have hdl := dn_le p.1 n
    have hw : wrap64 (rd p.1 (i : Int) - 1) = rd p.1 (i : Int) - 1 := w64 (by omega) (by omega)
    have hw2 : wrap64 ((dn p.1 n : Int) + 1) = (dn p.1 n : Int) + 1 := w64 (by omega) (by omega)
    have e : zdq now (p.1, p.2, (dn p.1 n : Int)) (i : Int) = ((tick now p (i : Int)).1, (tick now p (i : Int)).2, (dn (tick now p (i : Int)).1 n : Int)) := by
      unfold zdq tick
      simp only [hw, hnow, hw2, Int.toNat_natCast]
      rw [hd]
      by_cases hz : rd p.1 (i : Int) - 1 = 0
      · rw [if_pos hz, if_pos hz, if_pos ⟨hz, hi⟩]; simp
      · rw [if_neg hz, if_neg hz, if_neg (fun hh => hz hh.1)]; simp
    rw [List.foldl_cons, List.foldl_cons, e]
    refine ih (tick now p (i : Int)) hnd'.2 ?_ (fun y hy => ?_)
    · unfold tick; rw [List.length_set]; exact hlen
    · obtain ⟨j, hj, rfl, h3, h4⟩ := hx y (List.mem_cons_of_mem _ hy)
      have hji : j ≠ i := fun hh => hnd'.1 (by rw [← hh]; exact hy)
      refine ⟨j, hj, rfl, ?_⟩
      have e2 : rd (tick now p (i : Int)).1 (j : Int) = rd p.1 (j : Int) := by
        unfold tick
        simp only [Int.toNat_natCast]
        exact zek _ _ _ _ hji
      rw [e2]
      exact ⟨h3, h4⟩
section
variable {es : List (List Int)} {m : Int} {c : List Int}
def z0 (c : List Int) : List Int := List.replicate c.length 0
theorem zg0 (c : List Int) : (z0 c).length = c.length := by unfold z0; rw [List.length_replicate]
theorem zfj {z z' : List Int} (hz : z.length = c.length) (hz' : z'.length = c.length) : ∀ t, (st es m c z t).1 = (st es m c z' t).1 := by
  intro t
  induction t with
  | zero => rfl
  | succ t ih =>
    have hl := zdd (es := es) (m := m) hz (t + 1)
    have hl' := zdd (es := es) (m := m) hz' (t + 1)
    refine List.ext_getElem (by omega) (fun a h1 h2 => ?_)
    rw [← zd3 _ a h1, ← zd3 _ a h2, (zfo hz t a (by omega)).1, (zfo hz' t a (by omega)).1]
    unfold run
    rw [ih]
theorem same_fin (hp : Pos c) {z z' : List Int} (hz : z.length = c.length) (hz' : z'.length = c.length) (t i : Nat) (hi : i < c.length) (h0 : rd (st es m c z t).1 (i : Int) = 0) : rd (st es m c z t).2 (i : Int) = rd (st es m c z' t).2 (i : Int) := by
  induction t with
  | zero =>
    have := hp i hi
    exact absurd h0 (by show ¬ rd c (i : Int) = 0; omega)
  | succ t ih =>
    have h1 := zfo (es := es) (m := m) hz t i hi
    have h2 := zfo (es := es) (m := m) hz' t i hi
    have e := zfj (es := es) (m := m) hz hz' t
    have er : run es m c z t = run es m c z' t := by unfold run; rw [e]
    rw [h1.1] at h0
    rw [h1.2, h2.2, ← er, ← e]
    by_cases hm : (i : Int) ∈ run es m c z t
    · rw [if_pos hm] at h0
      rw [if_pos ⟨hm, h0⟩, if_pos ⟨hm, h0⟩]
    · rw [if_neg hm] at h0
      rw [if_neg (fun hh => hm hh.1), if_neg (fun hh => hm hh.1)]
      exact ih (by omega)
theorem same_end (hp : Pos c) {z z' : List Int} (hz : z.length = c.length) (hz' : z'.length = c.length) {t : Nat} (hd : Done es m c z t) : (st es m c z t).2 = (st es m c z' t).2 := by
  have hl := zdd (es := es) (m := m) hz t
  have hl' := zdd (es := es) (m := m) hz' t
  refine List.ext_getElem (by omega) (fun a h1 h2 => ?_)
  rw [← zd3 _ a h1, ← zd3 _ a h2]
  exact same_fin hp hz hz' t a (by omega) (hd a (by omega))
theorem srg_l0 (h : GV c es) {T : Nat} (hT : T ≤ 64) (hd : Done es m c (z0 c) T) (hn : ∀ s, s < T → ¬ Done es m c (z0 c) s) : ∀ d t : Nat, t + d = T →
    Ev (fun k => zl.l0 c es m k (dn (st es m c (z0 c) t).1 c.length : Int) (t : Int) (st es m c (z0 c) t).1 (st es m c (z0 c) t).2 ((List.range t).map (run es m c (z0 c)))) ((List.range T).map (run es m c (z0 c)), (st es m c (z0 c) T).2) := by
  have hu := gv_up h
  have hp := zgy h
  have h8 := h.1
  intro d
  induction d with
  | zero =>
    intro t ht
    obtain rfl : t = T := by omega
    have e : dn (st es m c (z0 c) t).1 c.length = c.length := (dn_all _ _).2 hd
    rw [e]
    refine Ev.step (f := fun _ => some ((List.range t).map (run es m c (z0 c)), (st es m c (z0 c) t).2)) (fun k => ?_) (Ev.now _)
    rw [zl.l0, if_neg (by omega)]
  | succ d ih =>
    intro t ht
    have hl := zdd (es := es) (m := m) (zg0 c) t
    have hdn : dn (st es m c (z0 c) t).1 c.length < c.length := by
      have h1 := dn_le (st es m c (z0 c) t).1 c.length
      have h2 : dn (st es m c (z0 c) t).1 c.length ≠ c.length := fun hh => hn t (by omega) ((dn_all _ _).1 hh)
      omega
    have hw : wrap64 ((t : Int) + 1) = (t : Int) + 1 := w64 (by omega) (by omega)
    have hnn := (zfi (m := m) (zg0 c) hu hp t).nn
    have hlc : ∀ i : Nat, i < c.length → rd (st es m c (z0 c) t).1 (i : Int) ≤ 8 := fun i hi => by
      have h1 := le_c (es := es) (m := m) (c := c) t i hi
      rw [zfj (zcw c) (zg0 c)] at h1
      exact Int.le_trans h1 (zgh h i hi).2
    have hft := fold_stick hw c.length (by omega) (pck es (st es m c (z0 c) t).1 m c.length) (st es m c (z0 c) t) (zgj _) hl.1 (fun x hx => by
      obtain ⟨i, hi, h1, h2⟩ := ze6 _ _ hx
      have h3 := (zdh.1 h2).1
      have h4 := hlc i hi
      exact ⟨i, hi, h1, h3, by omega⟩)
    have e : (pck es (st es m c (z0 c) t).1 m c.length).foldl (tick (t : Int)) (st es m c (z0 c) t) = st es m c (z0 c) (t + 1) := rfl
    rw [e] at hft
    have IH := ih (t + 1) (by omega)
    have hr : (List.range (t + 1)).map (run es m c (z0 c)) = (List.range t).map (run es m c (z0 c)) ++ [pck es (st es m c (z0 c) t).1 m c.length] := by rw [List.range_succ, List.map_append]; rfl
    rw [hr] at IH
    have hpk := pick_ev h m hl.1 hnn c.length 0 (by omega)
    refine Ev.step (f := fun k => (zl.l1 k es m (st es m c (z0 c) t).1 c.length (c.length + 1) 0 []).bind fun run_ => (if (∀ x ∈ run_, 0 ≤ x ∧ x < (c.length : Int)) then (zl.l0 c es m k (run_.foldl (zdq (t : Int)) ((st es m c (z0 c) t).1, (st es m c (z0 c) t).2, (dn (st es m c (z0 c) t).1 c.length : Int))).2.2 (wrap64 ((t : Int) + 1)) (run_.foldl (zdq (t : Int)) ((st es m c (z0 c) t).1, (st es m c (z0 c) t).2, (dn (st es m c (z0 c) t).1 c.length : Int))).1 (run_.foldl (zdq (t : Int)) ((st es m c (z0 c) t).1, (st es m c (z0 c) t).2, (dn (st es m c (z0 c) t).1 c.length : Int))).2.1 ((List.range t).map (run es m c (z0 c)) ++ [run_])) else (none))) (fun k => by rw [zl.l0, if_pos (by omega), if_pos (by rw [List.length_map, List.length_range]; omega)]) ?_
    refine Ev.bind hpk ?_
    rw [hft]
    refine Ev.congr (fun k => ?_) IH
    rw [if_pos (fun x hx => by obtain ⟨i, hi, h1, _⟩ := ze6 _ _ hx; omega), hw]
    rfl
theorem spec_rg (c : List Int) (es : List (List Int)) (m : Int) : Ev (fun k => zl.f k c es m) (RG c es m) := by
  unfold zl.f RG
  refine Ev.bind (spec_gv c es) ?_
  by_cases h : GV c es
  · rw [decide_eq_true h, zgg]
    by_cases hm : 1 ≤ m ∧ m ≤ 5
    · rw [if_pos ⟨h, hm⟩]
      obtain ⟨h1, h2, h3⟩ := TT_is h hm.1
      have hb := zh7 h c.length (Nat.le_refl _)
      have h8 := h.1
      have hp := zgy h
      have hD : ∀ t, Done es m c (z0 c) t ↔ Done es m c (zz c) t := fun t => by unfold Done; rw [zfj (zg0 c) (zcw c)]
      have hR : ∀ t, run es m c (z0 c) t = run es m c (zz c) t := fun t => by unfold run; rw [zfj (zg0 c) (zcw c)]
      have L := srg_l0 h (T := TT es m c) (by omega) ((hD _).2 h2) (fun s hs hh => h3 s hs ((hD s).1 hh)) (TT es m c) 0 (by omega)
      rw [same_end hp (zg0 c) (zcw c) ((hD _).2 h2), funext hR] at L
      have e0 : dn (st es m c (z0 c) 0).1 c.length = 0 := dn_zero c _ (fun i hi => by have := hp i hi; omega)
      rw [e0] at L
      refine Ev.congr (fun k => ?_) L
      rw [if_pos rfl, decide_eq_true hm]
      simp only [Option.bind_some]
      rw [if_pos trivial, if_pos (by omega)]
      rfl
    · rw [if_neg (fun hh => hm hh.2)]
      refine Ev.congr (fun k => ?_) (Ev.now _)
      rw [if_pos rfl, decide_eq_false hm]
      rfl
  · rw [decide_eq_false h, if_neg (show ¬ (GV c es ∧ 1 ≤ m ∧ m ≤ 5) from fun hh => h hh.1)]
    exact Ev.congr (fun k => by rw [if_neg (by simp)]) (Ev.now _)
end
end Go.Proofs.Ytebgfobjhlcopaa.Srg
namespace Go.Proofs.Ytebgfobjhlcopaa.Pb
open Go.RowKit Go.Proofs.Ytebgfobjhlcopaa.P Go.Proofs.Ytebgfobjhlcopaa.Gen Go.Proofs.Ytebgfobjhlcopaa.Base Go.Proofs.YtebgfobjhlcopaaW.PrintWords Go.Proofs.YtebgfobjhlcopaaW.PrintLast
theorem xor_ok (x y : Int) (hx : 0 ≤ x) (hx1 : x < 4611686018427387904) (hy : 0 ≤ y) (hy1 : y < 4611686018427387904) : 0 ≤ Go.bits .xor .i64 x y := by
  obtain ⟨a, rfl⟩ := Int.eq_ofNat_of_zero_le hx
  obtain ⟨b, rfl⟩ := Int.eq_ofNat_of_zero_le hy
  have ha : a < 2 ^ 62 := by have e : (2 : Nat) ^ 62 = 4611686018427387904 := by decide
                             omega
  have hb : b < 2 ^ 62 := by have e : (2 : Nat) ^ 62 = 4611686018427387904 := by decide
                             omega
  have ha' : a % 2 ^ 64 = a := Nat.mod_eq_of_lt (by omega)
  have hb' : b % 2 ^ 64 = b := Nat.mod_eq_of_lt (by omega)
  have hx := Nat.xor_lt_two_pow ha hb
  simp only [Go.bits]
  rw [show IntKind.i64.bits = 64 from rfl]
  rw [BitVec.toNat_xor, BitVec.ofInt_natCast, BitVec.ofInt_natCast, BitVec.toNat_ofNat, BitVec.toNat_ofNat, ha', hb', IntKind.wrap_i64]
  have e : (2 : Nat) ^ 62 = 4611686018427387904 := by decide
  omega
def Bytes (s : List Int) : Prop := s.length ≤ 2000 ∧ ∀ x ∈ s, 0 ≤ x ∧ x ≤ 255
theorem Bytes.rd {s : List Int} (h : Bytes s) (i : Int) : 0 ≤ rd s i ∧ rd s i ≤ 255 := by
  unfold Go.Proofs.YtebgfobjhlcopaaW.PrintWords.rd
  rw [List.getD_eq_getElem?_getD]
  rcases Nat.lt_or_ge i.toNat s.length with hi | hi
  · rw [List.getElem?_eq_getElem hi]
    exact h.2 _ (List.getElem_mem hi)
  · rw [List.getElem?_eq_none hi]
    simp
theorem u8_wf {x : Int} (h : (Lit.int .u8 x).wf = true) : 0 ≤ x ∧ x ≤ 255 := by
  simp [Lit.wf, IntKind.min, IntKind.max, IntKind.bits, IntKind.signed] at h
  omega
theorem zhl (a n : Int) (ha : 0 ≤ a) (hn : 1 ≤ n) : 0 ≤ Int.tmod a n ∧ Int.tmod a n < n := by
  rw [Int.tmod_eq_emod_of_nonneg ha]
  exact ⟨Int.emod_nonneg _ (by omega), Int.emod_lt_of_pos _ (by omega)⟩
theorem tdiv_ok (a n : Int) (ha : 0 ≤ a) (hn : 1 ≤ n) : 0 ≤ Int.tdiv a n ∧ Int.tdiv a n ≤ a := by
  rw [Int.tdiv_eq_ediv_of_nonneg ha]
  exact ⟨Int.ediv_nonneg ha (by omega), Int.ediv_le_self _ ha⟩
theorem pick_at (k : Nat) (s : List Int) (p n : Int) (hs : Bytes s) (hp : 0 ≤ p) (hp2 : p ≤ 1000000000) :
    ∃ r, zg.f (k + 1) s p n = some (r, p + 1) ∧ 0 ≤ r ∧ (1 ≤ n → r < n) := by
  unfold zg.f
  rw [w64 (x := p + 1) (by omega) (by omega)]
  by_cases hn : n < 1
  · rw [if_pos hn]
    exact ⟨0, by simp [zg.j0], Int.le_refl _, fun h => by omega⟩
  · rw [if_neg hn]
    by_cases h0 : (s.length : Int) = 0
    · refine ⟨0, ?_, Int.le_refl _, fun h => by omega⟩
      simp only [zg.j0]
      rw [if_pos (by simpa using h0)]
    · simp only [zg.j0]
      rw [if_neg (by simpa using h0)]
      have hl := hs.1
      rw [w64 (x := p + 1 - 1) (by omega) (by omega), show p + 1 - 1 = p by omega]
      by_cases h1 : p < (s.length : Int)
      · have hb := hs.rd p
        rw [if_pos h1, if_pos hp, if_neg (by omega), w64 (x := rd s p) (by omega) (by omega)]
        have ht := zhl (rd s p) n hb.1 (by omega)
        exact ⟨_, rfl, ht.1, fun _ => ht.2⟩
      · rw [if_neg h1, if_neg h0]
        have m0 := zhl p (s.length : Int) hp (by omega)
        rw [if_pos m0.1, if_pos m0.2]
        rw [w64 (x := p * 7) (by omega) (by omega), w64 (x := p * 7 + 3) (by omega) (by omega)]
        have m1 := zhl (p * 7 + 3) (s.length : Int) (by omega) (by omega)
        rw [if_pos m1.1, if_pos m1.2, if_neg (by omega)]
        have b0 := hs.rd (Int.tmod p (s.length : Int))
        have b1 := hs.rd (Int.tmod (p * 7 + 3) (s.length : Int))
        have d0 := tdiv_ok p (s.length : Int) hp (by omega)
        generalize rd s (Int.tmod p (s.length : Int)) = x at b0 ⊢
        generalize rd s (Int.tmod (p * 7 + 3) (s.length : Int)) = y at b1 ⊢
        generalize Int.tdiv p (s.length : Int) = q at d0 ⊢
        rw [w64 (x := x) (by omega) (by omega), w64 (x := y) (by omega) (by omega), w64 (x := q) (by omega) (by omega)]
        rw [w64 (x := x * 131) (by omega) (by omega), w64 (x := y * 1117) (by omega) (by omega), w64 (x := p * 29) (by omega) (by omega), w64 (x := q * 53) (by omega) (by omega)]
        rw [w64 (x := x * 131 + y * 1117) (by omega) (by omega), w64 (x := x * 131 + y * 1117 + p * 29) (by omega) (by omega), w64 (x := x * 131 + y * 1117 + p * 29 + q * 53) (by omega) (by omega)]
        have e0 := tdiv_ok (x * 131 + y * 1117 + p * 29 + q * 53) 64 (by omega) (by omega)
        rw [w64 (x := Int.tdiv (x * 131 + y * 1117 + p * 29 + q * 53) 64) (by omega) (by omega)]
        have hx := xor_ok (x * 131 + y * 1117 + p * 29 + q * 53) (Int.tdiv (x * 131 + y * 1117 + p * 29 + q * 53) 64) (by omega) (by omega) e0.1 (by omega)
        have ht := zhl _ n hx (by omega)
        exact ⟨_, rfl, ht.1, fun _ => ht.2⟩
theorem open_at (l : List Int) (hl : ∀ x ∈ l, (Lit.int .u8 x).wf = true) : ∃ s, zcy.f l = some (s, 0) ∧ Bytes s := by
  unfold zcy.f
  by_cases h : (l.length : Int) > 2000
  · rw [if_pos h, if_pos (by omega)]
    exact ⟨_, rfl, by rw [List.length_take]; omega, fun x hx => u8_wf (hl x (List.mem_of_mem_take hx))⟩
  · rw [if_neg h]
    exact ⟨_, rfl, by omega, fun x hx => u8_wf (hl x hx)⟩
theorem zdt (s : List Int) (p n : Int) (hs : Bytes s) (hp : 0 ≤ p) (hp2 : p ≤ 1000000000) : Tot (fun k => zg.f k s p n) (fun r => r.2 = p + 1 ∧ 0 ≤ r.1 ∧ (1 ≤ n → r.1 < n)) := by
  obtain ⟨r, hr, h0, h1⟩ := pick_at 0 s p n hs hp hp2
  refine ⟨(r, p + 1), ⟨1, fun k hk => ?_⟩, rfl, h0, h1⟩
  obtain ⟨j, rfl⟩ : ∃ j, k = j + 1 := ⟨k - 1, by omega⟩
  obtain ⟨r', hr', h0', h1'⟩ := pick_at j s p n hs hp hp2
  have hm := zhp (g := fun k => zg.f k s p n) (fun k => zg.mono _ _ _ k) (show 1 ≤ j + 1 by omega) hr
  exact hm
theorem odd_tot (s : List Int) (p n : Int) (hs : Bytes s) (hp : 0 ≤ p) (hp2 : p ≤ 1000000000) : Tot (fun k => zby.f k s p n) (fun r => p ≤ r.2 ∧ r.2 ≤ p + 1) := by
  unfold zby.f
  refine Tot.ite (fun _ => ?_) (fun _ => Tot.ret _ ⟨Int.le_refl _, by omega⟩)
  refine Tot.bind (zdt s p n hs hp hp2) ?_
  rintro ⟨a, q⟩ ⟨rfl, _, _⟩
  exact Tot.ret _ ⟨by show p ≤ p + 1; omega, Int.le_refl _⟩
theorem open_tot {β : Type} {Q : β → Prop} (l : List Int) (hl : ∀ x ∈ l, (Lit.int .u8 x).wf = true) {f : Nat → List Int × Int → Option β} (hf : ∀ s, Bytes s → Tot (fun k => f k (s, 0)) Q) : Tot (fun k => (zcy.f l).bind (f k)) Q := by
  obtain ⟨s, hs, hb⟩ := open_at l hl
  exact Tot.bind0 hs (hf s hb)
theorem zgl {α β : Type} {Q : β → Prop} (a : α) {f : Nat → α → Option β} (h : Tot (fun k => f k a) Q) : Tot (fun k => (some a).bind (f k)) Q := h
end Go.Proofs.Ytebgfobjhlcopaa.Pb
namespace Go.Proofs.Ytebgfobjhlcopaa.Alive
open Go.RowKit Go.Proofs.Ytebgfobjhlcopaa.P Go.Proofs.Ytebgfobjhlcopaa.Base Go.Proofs.YtebgfobjhlcopaaW.PrintWords Go.Proofs.YtebgfobjhlcopaaW.PrintLast
def TV (c d p : Int) : Prop := 1 ≤ c ∧ c ≤ 8 ∧ c ≤ d ∧ d ≤ p ∧ p ≤ 12
instance (c d p : Int) : Decidable (TV c d p) := by unfold TV; infer_instance
theorem task_f (c d p : Int) : zcn.f c d p = some (decide (TV c d p)) := by
  unfold zcn.f
  rw [in_f, in_f, zdg, zdg]
  by_cases h1 : 1 ≤ c ∧ c ≤ 8
  · by_cases h2 : c ≤ d ∧ d ≤ p
    · rw [if_pos h1, if_pos h2]; congr 1; rw [decide_eq_decide]; unfold TV; omega
    · rw [if_pos h1, if_neg h2]; congr 1; symm; rw [decide_eq_false_iff_not]; unfold TV; omega
  · rw [if_neg h1]; congr 1; symm; rw [decide_eq_false_iff_not]; unfold TV; omega
theorem alive_f : zdr.f = some true := by
  unfold zdr.f
  rw [task_f]; rfl
end Go.Proofs.Ytebgfobjhlcopaa.Alive
namespace Go.Proofs.Ytebgfobjhlcopaa.DrGraph
open Go.RowKit Go.Proofs.Ytebgfobjhlcopaa.P Go.Proofs.Ytebgfobjhlcopaa.Base Go.Proofs.Ytebgfobjhlcopaa.Gen Go.Proofs.Ytebgfobjhlcopaa.Pb Go.Proofs.YtebgfobjhlcopaaW.PrintWords Go.Proofs.YtebgfobjhlcopaaW.PrintLast
def Short (r : List Int × List (List Int) × Int) : Prop := r.1.length ≤ 20 ∧ r.2.1.length ≤ 20 ∧ 0 ≤ r.2.2 ∧ r.2.2 ≤ 1000000
theorem graph_tot (s : List Int) (p n : Int) (hs : Bytes s) (hp : 0 ≤ p) (hp2 : p ≤ 100000) : Tot (fun k => zo.f k s p n) Short := by
  have last : ∀ (c : List Int) (es : List (List Int)) (x9 q : Int), c.length ≤ 8 → es.length ≤ 9 → 0 ≤ q → q ≤ 900000 → Tot (fun k => zo.j2 k n c es x9 false s q) Short := by
    intro c es x9 q h1 h2 h3 h4
    refine Tot.step (fun k => by rw [zo.j2]) (Tot.no (by simp) ?_)
    refine Tot.bind (odd_tot s q n hs h3 (by omega)) ?_
    rintro ⟨a, q2⟩ ⟨h5, h6⟩
    simp only at h5 h6 ⊢
    refine Tot.ite (fun _ => ?_) (fun _ => Tot.ret _ ⟨by simp; omega, by simp; omega, by simp; omega, by simp; omega⟩)
    refine Tot.bind (zdt s q2 4 hs (by omega) (by omega)) ?_
    rintro ⟨b, q3⟩ ⟨h7, h8, h9⟩
    simp only at h7 h8 h9 ⊢; subst h7
    refine Tot.ite (fun _ => ?_) (fun _ => ?_)
    · refine zgl _ ?_
      refine Tot.bind (zdt s (q2 + 1) 2 hs (by omega) (by omega)) ?_
      rintro ⟨d, q4⟩ ⟨h10, h11, h12⟩
      simp only at h10 h11 h12 ⊢; subst h10
      have h12 := h12 (by omega)
      refine Tot.yes h11 (Tot.yes (by simp; omega) (Tot.yes (by omega) (Tot.ret _ ⟨by simp; omega, by simp; omega, by simp; omega, by simp; omega⟩)))
    · refine Tot.ite (fun _ => Tot.yes (by omega) (Tot.ret _ ⟨by simp; omega, by simp; omega, by simp; omega, by simp; omega⟩)) (fun _ => ?_)
      refine Tot.ite (fun _ => Tot.yes (by omega) (Tot.ret _ ⟨by simp; omega, by simp; omega, by simp; omega, by simp; omega⟩)) (fun _ => ?_)
      exact Tot.yes (by omega) (Tot.ret _ ⟨by simp; omega, by simp; omega, by simp; omega, by simp; omega⟩)
  have edges : ∀ (c : List Int), c.length ≤ 8 → ∀ (d : Nat) (x9 : Int) (es : List (List Int)) (q : Int), x9 = d → (es.length : Int) + x9 ≤ 9 → 0 ≤ q → q + 2 * x9 ≤ 800000 → Tot (fun k => zo.l1 k n c es x9 s q) Short := by
    intro c hc d
    induction d with
    | zero =>
      intro x9 es q h1 h2 h3 h4
      exact Tot.step (fun k => by rw [zo.l1]) (Tot.no (by omega) (last c es x9 q hc (by omega) h3 (by omega)))
    | succ d ih =>
      intro x9 es q h1 h2 h3 h4
      refine Tot.step (fun k => by rw [zo.l1]) (Tot.yes (by omega) ?_)
      by_cases hl : (c.length : Int) > 1
      · rw [decide_eq_true hl]
        refine Tot.step (fun k => by rw [zo.j2]) (Tot.yes rfl ?_)
        rw [w64 (x := (c.length : Int) - 1) (by omega) (by omega)]
        refine Tot.bind (zdt s q _ hs h3 (by omega)) ?_
        rintro ⟨a, q2⟩ ⟨h5, h6, h7⟩
        simp only at h5 h6 h7 ⊢; subst h5
        have h7 := h7 (by omega)
        rw [w64 (x := 1 + a) (by omega) (by omega)]
        refine Tot.bind (zdt s (q + 1) _ hs (by omega) (by omega)) ?_
        rintro ⟨b, q3⟩ ⟨h8, h9, h10⟩
        simp only at h8 h9 h10 ⊢; subst h8
        rw [w64 (x := x9 - 1) (by omega) (by omega)]
        exact Tot.yes (by omega) (ih (x9 - 1) _ _ (by omega) (by simp; omega) (by omega) (by omega))
      · rw [decide_eq_false hl]
        exact last c es x9 q hc (by omega) h3 (by omega)
  have costs : ∀ (d : Nat) (x8 : Int) (c : List Int) (q : Int), x8 = d → (c.length : Int) + x8 ≤ 8 → 0 ≤ q → q + x8 ≤ 700000 → Tot (fun k => zo.l0 k n c [] x8 s q) Short := by
    intro d
    induction d with
    | zero =>
      intro x8 c q h1 h2 h3 h4
      refine Tot.step (fun k => by rw [zo.l0]) (Tot.no (by omega) ?_)
      refine Tot.bind (zdt s q 10 hs h3 (by omega)) ?_
      rintro ⟨a, q2⟩ ⟨h5, h6, h7⟩
      simp only at h5 h6 h7 ⊢; subst h5
      have h7 := h7 (by omega)
      exact edges c (by omega) a.toNat a [] _ (by omega) (by simp; omega) (by omega) (by omega)
    | succ d ih =>
      intro x8 c q h1 h2 h3 h4
      refine Tot.step (fun k => by rw [zo.l0]) (Tot.yes (by omega) ?_)
      refine Tot.bind (zdt s q 8 hs h3 (by omega)) ?_
      rintro ⟨a, q2⟩ ⟨h5, h6, h7⟩
      simp only at h5 h6 h7 ⊢; subst h5
      rw [w64 (x := x8 - 1) (by omega) (by omega)]
      exact Tot.yes (by omega) (ih (x8 - 1) _ _ (by omega) (by simp; omega) (by omega) (by omega))
  unfold zo.f
  refine Tot.bind (zdt s p 9 hs hp (by omega)) ?_
  rintro ⟨a, q2⟩ ⟨h5, h6, h7⟩
  simp only at h5 h6 h7 ⊢; subst h5
  have h7 := h7 (by omega)
  exact costs a.toNat a [] _ (by omega) (by simp; omega) (by omega) (by omega)
end Go.Proofs.Ytebgfobjhlcopaa.DrGraph
namespace Go.Proofs.Ytebgfobjhlcopaa.SameG
open Go.RowKit Go.Proofs.Ytebgfobjhlcopaa.P Go.Proofs.Ytebgfobjhlcopaa.Base Go.Proofs.Ytebgfobjhlcopaa.Gen Go.Proofs.Ytebgfobjhlcopaa.Graph Go.Proofs.Ytebgfobjhlcopaa.Crit Go.Proofs.Ytebgfobjhlcopaa.Gra Go.Proofs.Ytebgfobjhlcopaa.Rg Go.Proofs.Ytebgfobjhlcopaa.Srg Go.Proofs.Ytebgfobjhlcopaa.Pb Go.Proofs.Ytebgfobjhlcopaa.Alive Go.Proofs.Ytebgfobjhlcopaa.DrGraph Go.Proofs.YtebgfobjhlcopaaW.PrintWords Go.Proofs.YtebgfobjhlcopaaW.PrintLast
theorem zhm (l : List Int) (h : l.length ≤ 1000000) : Tot (fun k => zbe.f k l l) (fun r => r = true) := by
  have loop : ∀ d i : Nat, i + d = l.length → Tot (fun k => zbe.l0 k l l (i : Int)) (fun r => r = true) := by
    intro d
    induction d with
    | zero => intro i hi; exact Tot.step (fun k => by rw [zbe.l0]) (Tot.no (by omega) (Tot.ret _ rfl))
    | succ d ih =>
      intro i hi
      refine Tot.step (fun k => by rw [zbe.l0]) (Tot.yes (by omega) (Tot.yes (by omega) (Tot.yes (by omega) (Tot.yes rfl ?_))))
      rw [w64 (by omega) (by omega)]
      exact ih (i + 1) (by omega)
  unfold zbe.f
  exact Tot.yes rfl (loop l.length 0 (by omega))
theorem rows_tot (l : List (List Int)) (h : l.length ≤ 1000000) (h2 : ∀ x ∈ l, x.length ≤ 1000000) : Tot (fun k => zbn.f k l l) (fun r => r = true) := by
  have loop : ∀ d i : Nat, i + d = l.length → Tot (fun k => zbn.l0 k l l (i : Int)) (fun r => r = true) := by
    intro d
    induction d with
    | zero => intro i hi; exact Tot.step (fun k => by rw [zbn.l0]) (Tot.no (by omega) (Tot.ret _ rfl))
    | succ d ih =>
      intro i hi
      have hil : i < l.length := by omega
      refine Tot.step (fun k => by rw [zbn.l0]) (Tot.yes (by omega) (Tot.yes (by omega) (Tot.yes (by omega) ?_)))
      refine Tot.bind (zhm _ (by rw [zgz l i hil]; exact h2 _ (List.getElem_mem hil))) ?_
      rintro _ rfl
      refine Tot.yes rfl ?_
      rw [w64 (by omega) (by omega)]
      exact ih (i + 1) (by omega)
  unfold zbn.f
  exact Tot.yes rfl (loop l.length 0 (by omega))
theorem cores_tot (s : List Int) (p n : Int) (hs : Bytes s) (hp : 0 ≤ p) (hp2 : p ≤ 10000000) : Tot (fun k => zcf.f k s p n) (fun _ => True) := by
  unfold zcf.f
  refine Tot.bind (odd_tot s p n hs hp (by omega)) ?_
  rintro ⟨b, q⟩ ⟨h1, h2⟩
  simp only at h1 h2 ⊢
  refine Tot.ite (fun _ => ?_) (fun _ => ?_)
  · refine zgl _ (Tot.bind (zdt s q 3 hs (by omega) (by omega)) ?_)
    rintro ⟨a, q2⟩ ⟨_, h4, h5⟩
    simp only at h4 h5 ⊢
    have h6 := h5 (by omega)
    exact Tot.yes (by omega) (Tot.yes (by simp; omega) (Tot.ret _ trivial))
  · refine Tot.bind (zdt s q 4 hs (by omega) (by omega)) ?_
    rintro ⟨a, q2⟩ _
    exact Tot.ret _ trivial
theorem drg_tot (l0 : List Int) (hl : ∀ x ∈ l0, (Lit.int .u8 x).wf = true) : Tot (fun k => zcc.f k l0) (fun r => r.1.length ≤ 20 ∧ r.2.1.length ≤ 20) := by
  unfold zcc.f zb6.f
  refine Tot.bind (P := fun r => r.1.length ≤ 20 ∧ r.2.1.length ≤ 20) (open_tot l0 hl (fun s hs => Tot.bind (graph_tot s 0 12 hs (by omega) (by omega)) (fun r hr => Tot.bind (cores_tot s r.2.2 12 hs hr.2.2.1 (by have := hr.2.2.2; omega)) (fun _ _ => Tot.ret _ ⟨hr.1, hr.2.1⟩)))) ?_
  rintro ⟨c, es, m⟩ h
  exact Tot.ret _ h
section
variable {c : List Int} {es : List (List Int)} {m : Int}
theorem RG_yes (hg : GV c es) (h1 : 1 ≤ m) (h5 : m ≤ 5) : RG c es m = ((List.range (TT es m c)).map (run es m c (zz c)), (st es m c (zz c) (TT es m c)).2) := if_pos ⟨hg, h1, h5⟩
theorem RG_no (h : ¬ (GV c es ∧ 1 ≤ m ∧ m ≤ 5)) : RG c es m = ([], []) := if_neg h
theorem RG_len (c : List Int) (es : List (List Int)) (m : Int) : (RG c es m).1.length ≤ 64 ∧ (RG c es m).2.length ≤ 8 ∧ ∀ x ∈ (RG c es m).1, x.length ≤ 8 := by
  by_cases h : GV c es ∧ 1 ≤ m ∧ m ≤ 5
  · have hb := zh7 h.1 c.length (Nat.le_refl _)
    have h8 := h.1.1
    have hT := (TT_is h.1 h.2.1).1
    rw [RG_yes h.1 h.2.1 h.2.2]
    refine ⟨?_, ?_, ?_⟩
    · simp only [List.length_map, List.length_range]; omega
    · have := (zdd (es := es) (m := m) (zcw c) (TT es m c)).2
      simp only; omega
    · intro x hx
      obtain ⟨t, _, rfl⟩ := List.mem_map.1 hx
      have := pck_le (es := es) (left := (st es m c (zz c) t).1) (m := m) c.length
      unfold run; omega
  · rw [RG_no h]
    simp
theorem both_tot (c : List Int) (es : List (List Int)) (m : Int) : Tot (fun k => zbn.f k (RG c es m).1 (RG c es m).1) (fun r => r = true) ∧ Tot (fun k => zbe.f k (RG c es m).2 (RG c es m).2) (fun r => r = true) := by
  have h := RG_len c es m
  exact ⟨rows_tot _ (by omega) (fun x hx => by have := h.2.2 x hx; omega), zhm _ (by omega)⟩
theorem bounds (hg : GV c es) (hm : 1 ≤ m) : (TT es m c : Int) ≤ lng c es + (vl c - lng c es) / m ∧ lng c es ≤ (TT es m c : Int) ∧ vl c ≤ (TT es m c : Int) * m := by
  have h := TT_is hg hm
  have hu := gv_up hg
  have hp := zgy hg
  have G := graham (m := m) (zcw c) hu hp hm (TT es m c) h.2.2
  have hz := lng_zero (es := es) (m := m) (zcw c) hu hp _ h.2.1
  have hs := ((zf1 (m := m) (zcw c) hu hp (TT es m c)).2).2 h.2.1
  rw [hz, hs] at G
  have hv := vl_eq c
  rw [← hv] at G
  obtain ⟨G1, G2, G3, _⟩ := G
  refine ⟨?_, by omega, by rw [Int.mul_comm]; omega⟩
  have e : m * (TT es m c : Int) - m * lng c es ≤ vl c - lng c es := by
    have e1 : (m - 1) * lng c es = m * lng c es - lng c es := by rw [Int.sub_mul, Int.one_mul]
    omega
  have e2 : ((TT es m c : Int) - lng c es) * m ≤ vl c - lng c es := by rw [Int.sub_mul, Int.mul_comm _ m, Int.mul_comm (lng c es) m]; exact e
  have := (Int.le_ediv_iff_mul_le (c := m) (by omega)).2 e2
  omega
end
end Go.Proofs.Ytebgfobjhlcopaa.SameG
namespace Go.Proofs.Ytebgfobjhlcopaa.Pure
open Go.RowKit Go.Proofs.Ytebgfobjhlcopaa.P Go.Proofs.Ytebgfobjhlcopaa.Base Go.Proofs.Ytebgfobjhlcopaa.Gen Go.Proofs.YtebgfobjhlcopaaW.PrintWords Go.Proofs.YtebgfobjhlcopaaW.PrintLast
open Go.Proofs.Ytebgfobjhlcopaa.Pb Go.Proofs.Ytebgfobjhlcopaa.Alive Go.Proofs.Ytebgfobjhlcopaa.Graph Go.Proofs.Ytebgfobjhlcopaa.DrGraph Go.Proofs.Ytebgfobjhlcopaa.Crit Go.Proofs.Ytebgfobjhlcopaa.Gra Go.Proofs.Ytebgfobjhlcopaa.Rg Go.Proofs.Ytebgfobjhlcopaa.Srg Go.Proofs.Ytebgfobjhlcopaa.SameG
section
variable {c : List Int} {es : List (List Int)} {m : Int}
theorem fin_le (hp : Pos c) {z : List Int} (hz : z.length = c.length) (t i : Nat) (hi : i < c.length) (h0 : rd (st es m c z t).1 (i : Int) = 0) : rd (st es m c z t).2 (i : Int) ≤ (t : Int) := by
  induction t with
  | zero =>
    have := hp i hi
    exact absurd h0 (by show ¬ rd c (i : Int) = 0; omega)
  | succ t ih =>
    have h1 := zfo (es := es) (m := m) hz t i hi
    rw [h1.1] at h0
    rw [h1.2]
    by_cases hm : (i : Int) ∈ run es m c z t
    · rw [if_pos hm] at h0
      rw [if_pos ⟨hm, h0⟩]; omega
    · rw [if_neg hm] at h0
      rw [if_neg (fun hh => hm hh.1)]
      have := ih (by omega)
      omega
theorem run_rdy {z : List Int} {t : Nat} {x : Int} (h : x ∈ run es m c z t) : ∃ i : Nat, i < c.length ∧ x = (i : Int) ∧ rdy es (st es m c z t).1 (i : Int) = true := ze6 _ _ h
theorem fin_keep {z : List Int} (hz : z.length = c.length) (t i : Nat) (hi : i < c.length) (h0 : rd (st es m c z t).1 (i : Int) = 0) : ∀ d, rd (st es m c z (t + d)).1 (i : Int) = 0 ∧ rd (st es m c z (t + d)).2 (i : Int) = rd (st es m c z t).2 (i : Int) := by
  intro d
  induction d with
  | zero => exact ⟨h0, rfl⟩
  | succ d ih =>
    have h1 := zfo (es := es) (m := m) hz (t + d) i hi
    have hn : ¬ (i : Int) ∈ run es m c z (t + d) := fun hh => by
      obtain ⟨j, hj, e, hr⟩ := run_rdy hh
      obtain rfl : i = j := by omega
      have := (zdh.1 hr).1
      omega
    rw [← Nat.add_assoc, h1.1, h1.2, if_neg hn, if_neg (fun hh => hn hh.1)]
    exact ⟨by omega, ih.2⟩
def Cnt (es : List (List Int)) (m : Int) (c : List Int) (t j : Nat) (y : List Int) : Prop := y.length = c.length ∧ ∀ i : Nat, i < c.length → rd y (i : Int) = rd c (i : Int) - rd (st es m c (zz c) t).1 (i : Int) + (if (i : Int) ∈ (run es m c (zz c) t).take j then 1 else 0)
theorem Cnt.next {t : Nat} {y : List Int} (h : Cnt es m c t (run es m c (zz c) t).length y) : Cnt es m c (t + 1) 0 y := by
  refine ⟨h.1, fun i hi => ?_⟩
  rw [h.2 i hi, (zfo (zcw c) t i hi).1, List.take_length, List.take_zero, if_neg (show ¬ ((i : Int) ∈ ([] : List Int)) by simp)]
  omega
theorem Cnt.step {t j : Nat} {y : List Int} (h : Cnt es m c t j y) (hj : j < (run es m c (zz c) t).length) (a : Nat) (ha : a < c.length) (e : (run es m c (zz c) t)[j] = (a : Int)) : rd y (a : Int) = rd c (a : Int) - rd (st es m c (zz c) t).1 (a : Int) ∧ Cnt es m c t (j + 1) (y.set a (rd y (a : Int) + 1)) := by
  have hnd : (run es m c (zz c) t).Nodup := zgj _
  have hna : ¬ (a : Int) ∈ (run es m c (zz c) t).take j := fun hh => by
    obtain ⟨q, hq, e2⟩ := List.getElem_of_mem hh
    rw [List.length_take] at hq
    rw [List.getElem_take] at e2
    have := (List.getElem_inj hnd).1 (e2.trans e.symm)
    omega
  have h0 := h.2 a ha
  rw [if_neg hna] at h0
  refine ⟨by omega, by rw [List.length_set]; exact h.1, fun i hi => ?_⟩
  rw [List.take_succ_eq_append_getElem hj, e]
  by_cases hia : i = a
  · subst hia
    rw [zej _ _ _ (by rw [h.1]; exact hi), if_pos (by simp)]
    omega
  · rw [zek _ _ _ _ hia, h.2 i hi]
    have : ((i : Int) ∈ (run es m c (zz c) t).take j ++ [(a : Int)]) ↔ (i : Int) ∈ (run es m c (zz c) t).take j := by
      rw [List.mem_append, List.mem_singleton]
      constructor
      · rintro (hh | hh)
        · exact hh
        · omega
      · exact Or.inl
    simp only [this]
theorem rg_end (hg : GV c es) {f : Nat → Option Bool} (hf : ∀ k, f (k + 1) = (zbg.f k c es 1).bind fun bt267 => ((zbe.f k c c).bind fun t274 => (if t274 = true then ((zco.f k c es).bind fun t275 => (some ((bt267.1.length : Int) == t275))) else (some false)))) : Tot f (fun r => r = true) := by
  have h8 := hg.1
  refine Tot.step hf ?_
  refine Tot.bind (Tot.val (impl_rg c es 1 (by omega) (by have := hg.2.1; omega))) ?_
  rintro _ rfl
  refine Tot.bind (zhm c (by omega)) ?_
  rintro _ rfl
  refine Tot.yes rfl (Tot.bind (Tot.val (impl_vol c es (by omega) (by have := hg.2.1; omega))) ?_)
  rintro _ rfl
  refine Tot.ret _ ?_
  have hB := bounds hg (m := 1) (by omega)
  have e3 : VL c es = vl c := if_pos hg
  have hT : ((RG c es 1).1.length : Int) = (TT es 1 c : Int) := by rw [RG_yes hg (by omega) (by omega)]; simp
  rw [hT, e3, beq_iff_eq]
  have h1 := hB.1
  have h2 := hB.2.2
  rw [Int.ediv_one] at h1
  omega
theorem ticks (hg : GV c es) (hm1 : 1 ≤ m) : ∀ d t : Nat, t + d = TT es m c → ∀ y, Cnt es m c t 0 y →
    Tot (fun k => laws_FnRunGraph.l0 k c es m y (t : Int) ((List.range (TT es m c)).map (run es m c (zz c))) (st es m c (zz c) (TT es m c)).2) (fun r => r = true) := by
  have hTT := TT_is hg hm1
  have hb := zh7 hg c.length (Nat.le_refl _)
  have h8 := hg.1
  have h64 := hg.2.1
  have hu := gv_up hg
  have hp := zgy hg
  have hfl := (zdd (es := es) (m := m) (zcw c) (TT es m c)).2
  have hT : TT es m c ≤ 64 := by omega
  have hrl : ((List.range (TT es m c)).map (run es m c (zz c))).length = TT es m c := by simp
  intro d
  induction d with
  | zero =>
    intro t ht y hy
    obtain rfl : t = TT es m c := by omega
    have ey : y = c := by
      refine List.ext_getElem hy.1 (fun i h1 h2 => ?_)
      have h3 := hy.2 i h2
      rw [List.take_zero, if_neg (show ¬ ((i : Int) ∈ ([] : List Int)) by simp), hTT.2.1 i h2, zd3 y i h1, zd3 c i h2] at h3
      omega
    rw [ey]
    exact rg_end hg (fun k => by rw [laws_FnRunGraph.l0, if_neg (by rw [hrl]; omega)])
  | succ d ih =>
    intro t ht y hy
    have htl : t < TT es m c := by omega
    have hrow : zh ((List.range (TT es m c)).map (run es m c (zz c))) (t : Int) = run es m c (zz c) t := by
      rw [zgz _ t (by rw [hrl]; exact htl)]; simp
    have hlen : ((run es m c (zz c) t).length : Int) ≤ m := zir (by omega) _
    have hlen8 : (run es m c (zz c) t).length ≤ c.length := pck_le c.length
    have hnn := (zfi (m := m) (zcw c) hu hp t).nn
    have hl := (zdd (es := es) (m := m) (zcw c) t).1
    have rows : ∀ q j, j + q = (run es m c (zz c) t).length → ∀ y, Cnt es m c t j y → Tot (fun k => laws_FnRunGraph.l1 k c es m y (t : Int) (j : Int) ((List.range (TT es m c)).map (run es m c (zz c))) (st es m c (zz c) (TT es m c)).2) (fun r => r = true) := by
      intro q
      induction q with
      | zero =>
        intro j hj y hy
        obtain rfl : j = (run es m c (zz c) t).length := by omega
        refine Tot.step (fun k => by rw [laws_FnRunGraph.l1]) (Tot.yes (by omega) (Tot.yes (by rw [hrl]; omega) ?_))
        rw [hrow]
        refine Tot.no (by omega) ?_
        rw [w64 (x := (t : Int) + 1) (by omega) (by omega)]
        exact ih (t + 1) (by omega) y hy.next
      | succ q ihq =>
        intro j hj y hy
        have hjl : j < (run es m c (zz c) t).length := by omega
        obtain ⟨a, ha, e, hr⟩ := run_rdy (List.getElem_mem hjl)
        have hrd := zdh.1 hr
        have hst := hy.step hjl a ha e
        have hca := zgh hg a ha
        have hla := hnn a (by omega)
        have hlc := le_c (es := es) (m := m) (c := c) t a ha
        have edges : ∀ p e', e' + p = es.length → Tot (fun k => laws_FnRunGraph.l2 k c es m y (t : Int) (j : Int) (a : Int) (e' : Int) ((List.range (TT es m c)).map (run es m c (zz c))) (st es m c (zz c) (TT es m c)).2) (fun r => r = true) := by
          intro p
          induction p with
          | zero =>
            intro e' he'
            refine Tot.step (fun k => by rw [laws_FnRunGraph.l2]) (Tot.no (by omega) (Tot.yes (by omega) (Tot.yes (by rw [hy.1]; omega) ?_)))
            refine zgl _ (Tot.yes (by omega) ?_)
            have ew : wrap64 (rd y (a : Int) + 1) = rd y (a : Int) + 1 := w64 (by omega) (by omega)
            have es2 : rd (y.set (a : Int).toNat (wrap64 (rd y (a : Int) + 1))) (a : Int) = rd y (a : Int) + 1 := by
              rw [ew, Int.toNat_natCast, zej _ _ _ (by rw [hy.1]; exact ha)]
            rw [es2]
            have go := ihq (j + 1) (by omega) _ hst.2
            have last : Tot (fun k => (if rd y (a : Int) + 1 > rd c (a : Int) then (some false) else (laws_FnRunGraph.l1 k c es m (y.set (a : Int).toNat (wrap64 (rd y (a : Int) + 1))) (t : Int) (wrap64 ((j : Int) + 1)) ((List.range (TT es m c)).map (run es m c (zz c))) (st es m c (zz c) (TT es m c)).2))) (fun r => r = true) := by
              refine Tot.no (by omega) ?_
              rw [ew, Int.toNat_natCast, w64 (x := (j : Int) + 1) (by omega) (by omega)]
              exact go
            refine Tot.ite (fun hc => ?_) (fun _ => last)
            refine Tot.yes (by rw [hfl]; omega) (Tot.yes ?_ last)
            have h1 := zfo (es := es) (m := m) (zcw c) t a ha
            have hmem : (a : Int) ∈ run es m c (zz c) t := e ▸ List.getElem_mem hjl
            have hz : rd (st es m c (zz c) t).1 (a : Int) - 1 = 0 := by omega
            rw [if_pos hmem, hz] at h1
            rw [if_pos ⟨hmem, rfl⟩] at h1
            have hk := (fin_keep (es := es) (m := m) (zcw c) (t + 1) a ha h1.1 d).2
            rw [show t + 1 + d = TT es m c by omega] at hk
            rw [hk, h1.2, w64 (by omega) (by omega)]
          | succ p ihp =>
            intro e' he'
            have hel : e' < es.length := by omega
            have hE := hg.2.2.2 es[e'] (List.getElem_mem hel)
            have h2 := hE.1
            have next : Tot (fun k => laws_FnRunGraph.l2 k c es m y (t : Int) (j : Int) (a : Int) (wrap64 ((e' : Int) + 1)) ((List.range (TT es m c)).map (run es m c (zz c))) (st es m c (zz c) (TT es m c)).2) (fun r => r = true) := by
              rw [w64 (by omega) (by omega)]
              exact ihp (e' + 1) (by omega)
            refine Tot.step (fun k => by rw [laws_FnRunGraph.l2]) (Tot.yes (by omega) (Tot.yes (by omega) ?_))
            rw [zgz es e' hel]
            refine Tot.yes (by omega) (Tot.ite (fun hx => ?_) (fun _ => next))
            refine Tot.yes (by omega) (Tot.yes hE.2.1 (Tot.yes (by rw [hfl]; have := hE.2.2; omega) (Tot.no ?_ next)))
            obtain ⟨b, hb0⟩ : ∃ b : Nat, rd es[e'] 0 = (b : Int) := ⟨(rd es[e'] 0).toNat, by have := hE.2.1; omega⟩
            have hbl : b < c.length := by have := hE.2.2; omega
            have hlb := hrd.2 es[e'] (List.getElem_mem hel) hx
            rw [hb0] at hlb ⊢
            have hlb0 : rd (st es m c (zz c) t).1 (b : Int) = 0 := by have := hnn b (by omega); omega
            have hk := (fin_keep (es := es) (m := m) (zcw c) t b hbl hlb0 (d + 1)).2
            rw [show t + (d + 1) = TT es m c by omega] at hk
            have := fin_le (es := es) (m := m) hp (zcw c) t b hbl hlb0
            omega
        refine Tot.step (fun k => by rw [laws_FnRunGraph.l1]) (Tot.yes (by omega) (Tot.yes (by rw [hrl]; omega) ?_))
        rw [hrow]
        refine Tot.yes (by omega) (Tot.yes (by omega) ?_)
        rw [zd3 _ j hjl, e]
        exact edges es.length 0 (by omega)
    refine Tot.step (fun k => by rw [laws_FnRunGraph.l0]) (Tot.yes (by rw [hrl]; omega) (Tot.yes (by omega) ?_))
    rw [hrow]
    exact Tot.no (by omega) (rows (run es m c (zz c) t).length 0 (by omega) y hy)
end
theorem FnRunGraph : laws_FnRunGraph.Pure := by
  intro l0 _ hl
  apply Tot.rounds
  unfold laws_FnRunGraph.f
  refine Tot.ite (fun _ => Tot.ret _ rfl) (fun _ => ?_)
  refine Tot.bind (drg_tot l0 hl.2) ?_
  rintro ⟨c, es, m⟩ ⟨hc, he⟩
  simp only at hc he ⊢
  refine Tot.bind (Tot.val (impl_rg c es m (by omega) (by omega))) ?_
  rintro _ rfl
  refine Tot.bind (Tot.val (spec_rg c es m)) ?_
  rintro _ rfl
  refine Tot.bind (both_tot c es m).1 ?_
  rintro _ rfl
  refine Tot.yes rfl (Tot.bind (both_tot c es m).2 ?_)
  rintro _ rfl
  have stop : ∀ rows fins, Tot (fun k => laws_FnRunGraph.j1 k c es m true rows fins) (fun r => r = true) := fun rows fins =>
    Tot.step (fun k => by rw [laws_FnRunGraph.j1]) (Tot.yes rfl (Tot.bind0 alive_f (Tot.ret _ rfl)))
  refine Tot.step (fun k => by rw [laws_FnRunGraph.j0]) (Tot.no (by simp) ?_)
  refine Tot.ite (fun hfl => ?_) (fun _ => stop _ _)
  refine Tot.bind (Tot.val (spec_gv c es)) ?_
  rintro _ rfl
  by_cases hg : GV c es
  · rw [decide_eq_true hg]
    have hcl : ((c.length : Int) : Int).toNat = c.length := Int.toNat_natCast _
    refine Tot.step (fun k => by rw [laws_FnRunGraph.j1]) (Tot.no (by simp) (Tot.yes (by omega) (Tot.yes (by omega) ?_)))
    rw [hcl]
    by_cases hm : 1 ≤ m ∧ m ≤ 5
    · rw [RG_yes hg hm.1 hm.2]
      refine ticks hg hm.1 (TT es m c) 0 (by omega) _ ⟨List.length_replicate .., fun i hi => ?_⟩
      rw [zd3 _ i (by rw [List.length_replicate]; exact hi), List.getElem_replicate, List.take_zero, if_neg (show ¬ ((i : Int) ∈ ([] : List Int)) by simp)]
      show (0 : Int) = rd c (i : Int) - rd c (i : Int) + 0
      omega
    · rw [RG_no (fun h => hm h.2)] at hfl ⊢
      have h0 : c.length = 0 := by simp only [List.length_nil] at hfl; omega
      obtain rfl := List.length_eq_zero_iff.1 h0
      exact rg_end hg (fun k => by rw [laws_FnRunGraph.l0, if_neg (by simp)]; rfl)
  · rw [decide_eq_false hg]
    exact stop _ _
end Go.Proofs.Ytebgfobjhlcopaa.Pure
namespace Go.Proofs.Ytebgfobjhlcopaa.Opn
open Go.ChangeShapes Go.WideShapes Go.Deep Go.RowKit Go.Proofs.YtebgfobjhlcopaaW.PrintWords
section
variable {H : Type} {enc : TypeId × Value → H} {P : Program} {W : World} {base : Nat} {spare : Nat → Bool} {held : Bool}
def Opens {α : Type} (enc : TypeId × Value → H) (P : Program) (W : World) (base : Nat) (spare : Nat → Bool) (held : Bool) (t : TypeId) (d : Kd α) (G : α → Prop) : Prop :=
  ∀ (fuel : Nat) (cs : List Value) (x : DataW H × List MemPlace), DataW.trod enc P W base spare held fuel t cs = some x → ∃ a, d.K W a cs ∧ G a
theorem opens_int {t : TypeId} {k : IntKind} (hu : P.underlying t = some (.int k)) : Opens enc P W base spare held t (Kd.int k) (fun x => (Lit.int k x).wf = true) := by
  intro fuel cs x h
  obtain ⟨n, hc, _, hw⟩ := DataW.trod_int hu h
  exact ⟨n, hc, hw⟩
theorem list_of {α : Type} (m : Nat) (R : Nat → α → Prop) (h : ∀ i, i < m → ∃ a, R i a) : ∃ xs : List α, xs.length = m ∧ ∀ i a, xs[i]? = some a → R i a := by
  induction m with
  | zero => exact ⟨[], rfl, fun i a ha => by simp at ha⟩
  | succ m ih =>
    obtain ⟨xs, hl, hx⟩ := ih (fun i hi => h i (by omega))
    obtain ⟨a, ha⟩ := h m (by omega)
    refine ⟨xs ++ [a], by simp [hl], fun i b hb => ?_⟩
    rcases Nat.lt_or_ge i m with hi | hi
    · rw [List.getElem?_append_left (by omega)] at hb
      exact hx i b hb
    · have hi' : i = m := by
        have := (List.getElem?_eq_some_iff.1 hb).1
        simp at this
        omega
      subst hi'
      have : a = b := by simpa [hl] using hb
      subst this
      exact ha
theorem slice_row {α : Type} {t e : TypeId} {d : Kd α} {G : α → Prop} (hu : P.underlying t = some (.slice e)) (hC : P.cellsOf e = d.sz) (he : Opens enc P W base spare held e d G)
    {fuel : Nat} {A : Option Addr} {n cap : Nat} {x : DataW H × List MemPlace} (h : DataW.trod enc P W base spare held fuel t [.slice A n cap] = some x) :
    ∃ xs : List α, xs.length = n ∧ n ≤ cap ∧ n ≤ maxLen ∧ d.C W A xs.length xs ∧ ∀ y ∈ xs, G y := by
  rcases open_slice hu h with ⟨h0, _⟩ | ⟨a, len, c, m, k, D, Pl, hcs, _, hl, hm, hmm, _, hel⟩
  · simp only [List.cons.injEq, Value.slice.injEq, and_true] at h0
    obtain ⟨rfl, rfl, rfl⟩ := h0
    exact ⟨[], rfl, Nat.le_refl _, by simp [maxLen], Kd.C_nil d W, fun y hy => by simp at hy⟩
  · simp only [List.cons.injEq, Value.slice.injEq, and_true] at hcs
    obtain ⟨rfl, rfl, rfl⟩ := hcs
    have hle : n ≤ m := by rw [hmm]; split <;> omega
    obtain ⟨xs, hxl, hx⟩ := list_of (α := α) n (fun i y => G y ∧ ∃ cs', d.K W y cs' ∧ cs'.length = d.sz ∧ ∀ j, j < d.sz → W.cell? ((a.add (i * d.sz)).add j) = cs'[j]?) (by
      intro i hi
      obtain ⟨cs', hc, ht⟩ := hel i (by omega)
      obtain ⟨y, hK, hG⟩ := he _ _ _ ht
      rw [hC] at hc
      obtain ⟨_, hcl, hcc⟩ := World.cells?_some hc
      exact ⟨y, hG, cs', hK, hcl, hcc⟩)
    refine ⟨xs, hxl, hl, by omega, ⟨rfl, by simp only [maxLen] at hm; omega, fun hp => ⟨a, rfl, fun j p hj => ?_⟩⟩, fun y hy => ?_⟩
    · obtain ⟨_, cs', hK, hcl, hcc⟩ := hx j p hj
      refine ⟨cs', hcl, hK, fun i u hi => ?_⟩
      have hlt : i < d.sz := by
        have := (List.getElem?_eq_some_iff.1 hi).1
        omega
      rw [← Go.Deep.add_add, hcc i hlt, hi]
    · obtain ⟨i, hi, rfl⟩ := List.getElem_of_mem hy
      exact (hx i _ (List.getElem?_eq_getElem hi)).1
theorem sized_row {t e : TypeId} {A : Option Addr} {n cap : Nat} {d : DataW H} {ps : List MemPlace} {ts : List TypeId} {ds : List (DataW H)} {j : Nat}
    (hsz : (DataW.weightsEach P ts ds).all (· ≤ reachBytes) = true) (ht : ts[j]? = some t) (hd : ds[j]? = some d) (hu : P.underlying t = some (.slice e)) {B : Nat} (hB : P.bytesOf e = B)
    (h : DataW.Trod enc P W base spare held t (.slice A n cap) d ps) : n * B ≤ 140737488351232 := by
  obtain ⟨fuel, hf⟩ := h
  have hf' : DataW.trod enc P W base spare held fuel t [.slice A n cap] = some (d, ps) := hf
  rcases open_slice hu hf' with ⟨h0, _⟩ | ⟨a, len, c, m, k, D, Pl, hcs, _, hl, hm, hmm, hx, hel⟩
  · simp only [List.cons.injEq, Value.slice.injEq, and_true] at h0
    obtain ⟨rfl, rfl, rfl⟩ := h0
    simp
  · simp only [List.cons.injEq, Value.slice.injEq, and_true] at hcs
    obtain ⟨rfl, rfl, rfl⟩ := hcs
    obtain ⟨hx, _⟩ := Prod.mk.inj hx
    subst hx
    have z := sized_slice hsz ht hd hu
    rw [hB] at z
    simp only [List.length_map, List.length_range] at z
    exact Nat.le_trans (Nat.mul_le_mul_right _ (by omega)) z
end
end Go.Proofs.Ytebgfobjhlcopaa.Opn
namespace Go.Proofs.Ytebgfobjhlcopaa.Head
open Go
def chars (l : List Nat) : List Char := l.map Char.ofNat
def w1 : List Nat := [104, 97, 114, 110, 101, 115, 115]
def w2 : List Nat := [53, 57, 99, 56, 55, 98, 101, 99, 57, 52, 48, 54, 101, 57, 48, 57, 53, 52, 100, 53, 57, 57, 100, 55, 55, 100, 99, 57, 51, 55, 50, 48, 54, 55, 57, 57, 99, 49, 48, 97, 101, 56, 98, 49, 53, 51, 50, 57, 100, 102, 53, 52, 49, 101, 55, 54, 98, 100, 55, 98, 98, 97, 55, 48]
def w3 : List Nat := [99, 117, 116]
def w4 : List Nat := [97, 116, 32, 108, 111, 111, 112, 46, 101, 120, 97, 109, 112, 108, 101, 47, 100, 101, 97, 100, 108, 105, 110, 101, 115, 99, 104, 101, 100, 117, 108, 101, 114, 47, 108, 97, 119, 115, 46, 70, 110, 82, 117, 110, 71, 114, 97, 112, 104, 32, 108, 111, 111, 112, 46, 101, 120, 97, 109, 112, 108, 101, 47, 100, 101, 97, 100, 108, 105, 110, 101, 115, 99, 104, 101, 100, 117, 108, 101, 114, 47, 108, 97, 119, 115, 46, 70, 110, 71, 114, 97, 112, 104, 87, 105, 100, 101, 32, 108, 111, 111, 112, 46, 101, 120, 97, 109, 112, 108, 101, 47, 100, 101, 97, 100, 108, 105, 110, 101, 115, 99, 104, 101, 100, 117, 108, 101, 114, 47, 108, 97, 119, 115, 46, 70, 110, 69, 120, 97, 99, 116, 82, 117, 110, 71, 114, 97, 112, 104, 32, 108, 111, 111, 112, 46, 101, 120, 97, 109, 112, 108, 101, 47, 100, 101, 97, 100, 108, 105, 110, 101, 115, 99, 104, 101, 100, 117, 108, 101, 114, 47, 108, 97, 119, 115, 46, 70, 110, 71, 114, 97, 104, 97, 109, 32, 108, 111, 111, 112, 46, 101, 120, 97, 109, 112, 108, 101, 47, 100, 101, 97, 100, 108, 105, 110, 101, 115, 99, 104, 101, 100, 117, 108, 101, 114, 47, 108, 97, 119, 115, 46, 70, 110, 71, 114, 97, 112, 104, 69, 120, 97, 109, 112, 108, 101]
theorem io_eq : Try.prog.initOrder = String.ofList (chars (w1 ++ 32 :: (w2 ++ 32 :: (w3 ++ 32 :: w4)))) := by kernel_rfl
theorem io_list : Try.prog.initOrder.toList = chars (w1 ++ 32 :: (w2 ++ 32 :: (w3 ++ 32 :: w4))) := by rw [io_eq, String.toList_ofList]
theorem ws_one (c : Char) (r w : List Char) (ws : List (List Char)) (hc : c ≠ Char.ofNat 32) (h : wordsSigns r = w :: ws) : wordsSigns (c :: r) = (c :: w) :: ws := by
  have e : wordsSigns (c :: r) = match wordsSigns r with
    | w :: ws => (c :: w) :: ws
    | [] => [[c]] := by
    rw [wordsSigns]
    · rfl
    · exact hc
  rw [e, h]
theorem ws_word (w : List Char) (h : ∀ c ∈ w, c ≠ Char.ofNat 32) (r : List Char) : wordsSigns (w ++ Char.ofNat 32 :: r) = w :: wordsSigns r := by
  induction w with
  | nil => rfl
  | cons c w ih => exact ws_one _ _ _ _ (h c (by simp)) (ih (fun x hx => h x (by simp [hx])))
theorem ws_nat (w r : List Nat) (h : w.all (fun n => !(Char.ofNat n == Char.ofNat 32)) = true) : wordsSigns (chars (w ++ 32 :: r)) = chars w :: wordsSigns (chars r) := by
  have e : chars (w ++ 32 :: r) = chars w ++ Char.ofNat 32 :: chars r := by simp [chars]
  rw [e]
  refine ws_word _ (fun c hc => ?_) _
  obtain ⟨n, hn, rfl⟩ := List.mem_map.1 hc
  have := List.all_eq_true.1 h n hn
  simpa using this
theorem zhn : behindMainWord (wordsSigns Try.prog.initOrder.toList) = chars w3 :: wordsSigns (chars w4) := by
  rw [io_list, ws_nat _ _ (by kernel_rfl), ws_nat _ _ (by kernel_rfl), ws_nat _ _ (by kernel_rfl)]
  generalize wordsSigns (chars w4) = R
  kernel_rfl
theorem make_gen (P : Program) (c : List Char) (R : List (List Char)) (h : behindMainWord (wordsSigns P.initOrder.toList) = c :: R) (h1 : (c == "gc".toList || c == "spec".toList) = false) (h2 : (c == "cut".toList) = true) : P.make = some .cut := by
  unfold Program.make
  rw [h]
  simp only [h1, h2, Bool.true_or, if_true, Bool.false_eq_true, if_false]
theorem make : Try.prog.make = some .cut := make_gen _ _ _ zhn (by kernel_rfl) (by kernel_rfl)
theorem enter_gen (P : Program) (c : List Char) (R : List (List Char)) (h : behindMainWord (wordsSigns P.initOrder.toList) = c :: R) (h1 : ∀ R, stripLifts liftWords (c :: R) = ([], c :: R)) (h2 : (some c == some "cut".toList) = true)
    (h3 : P.laysLater = false) (h4 : P.bearsReflect = false) (h5 : P.doorFits [] = true) : P.mayEnter = true := by
  unfold Program.mayEnter
  rw [h]
  simp only [h1, h2, h3, h4, h5, List.head?_cons, Bool.not_false, Bool.or_true, Bool.and_true, List.contains_nil]
theorem enter : Try.prog.mayEnter = true := enter_gen _ _ _ zhn (fun R => by kernel_rfl) (by kernel_rfl) (by kernel_rfl) (by kernel_rfl) (by kernel_rfl)
theorem lifts : Try.prog.liftsFinal = false := by
  unfold Program.liftsFinal Program.headLifts
  simp only [zhn]
  generalize wordsSigns (chars w4) = R
  kernel_rfl
end Go.Proofs.Ytebgfobjhlcopaa.Head
namespace Go.Proofs.Ytebgfobjhlcopaa.fnRunGraph
open Go.ChangeShapes Go.WideShapes Go.ChangeAt Go.RowKit Go.Proofs.YtebgfobjhlcopaaW.PrintWords Go.Proofs.Ytebgfobjhlcopaa.P
open Go.ChangeMaps (open_string shut_string)
theorem own : ownKnob Try.prog.godebug = none := by kernel_rfl
theorem laidOut : laidOutB Try.prog = true := by kernel_rfl
theorem lifted (os : Os) (started : os.Started) (H : Type) (enc : TypeId × Value → H) :
    ReturnsInHanded {} Try.checked os 3 .any (Rows.fnRunGraphSpec.pre6 enc Try.prog Try.f3 Rows.fnRunGraphRow.domain false) (Rows.fnRunGraphSpec.post enc Try.prog Try.f3 false true false false) := by
  refine returnsInHanded_of_change_sized (C := Try.checked) own started (by kernel_rfl) Try.func3
    (ChangeSpec.witness6 (enc := enc) (C := Try.checked) false ⟨#[], #[.slice none 0 0], []⟩ 8 (by kernel_rfl) (by kernel_rfl) (by kernel_rfl) (by kernel_rfl)) ?_
  intro W base args ds gs before hval0 hW hcnd hsz0 _
  have hsz : (DataW.weightsEach Try.prog (Try.f3.params.toList ++ Rows.fnRunGraphSpec.plain.varTypes Try.prog) (ds ++ gs)).all (· ≤ reachBytes) = true := hsz0
  have hval : ∀ (j : Nat) t v, Try.f3.params[j]? = some t → args[j]? = some v → Value.okWide Try.prog W .any base t v := hval0
  have hW' := hW
  obtain ⟨p, q, hA0, hV, rfl, hfz, hnd⟩ := hW
  have hA : DataW.TrodAll enc Try.prog W 0 (fun _ => true) true Try.f3.params.toList args.toList ds p := hA0
  rw [Try.params3] at hA hval hsz
  obtain ⟨v0, vs0, d0, ds0, p0, q0, hargs, rfl, rfl, h0, r0⟩ := trodAll_cons hA
  obtain ⟨rfl, rfl, rfl⟩ := trodAll_nil r0
  obtain rfl : args = #[v0] := by cases args; simp_all
  obtain ⟨rfl, rfl⟩ := trodVars_none hV
  have k0 := h0
  have lt0 : ∀ x ∈ p0, x.block < W.heap.size := by obtain ⟨m, hm⟩ := k0; exact DataW.trod_lt m _ _ _ hm
  obtain ⟨A0, n0, c0, rfl⟩ := okWide_slice Try.underlying22 (hval 0 22 v0 rfl rfl)
  have y0 : n0 * 1 ≤ 140737488351232 := Opn.sized_row hsz (j := 0) (t := 22) rfl rfl Try.underlying22 (by kernel_rfl) h0
  obtain ⟨l0, rfl, hc0, hm0, hr0, hg0⟩ : ∃ xs : List (Int), xs.length = n0 ∧ n0 ≤ c0 ∧ n0 ≤ maxLen ∧ Kd.C (Kd.int .u8) W A0 xs.length xs ∧ ∀ y0 ∈ xs, (Lit.int .u8 y0).wf = true := by
    obtain ⟨fuel, hf⟩ := h0
    exact Opn.slice_row Try.underlying22 (by kernel_rfl) (Opn.opens_int Try.underlying5) hf
  obtain ⟨k, hk⟩ := Pure.FnRunGraph l0 y0 ⟨hm0, hg0⟩
  clear hA0 hval0 hsz0 hsz
  refine (laws_FnRunGraph.calls k A0 c0 l0 true W hr0 hc0 hk rfl).mono fun e W' ⟨he, hd⟩ => ?_
  have bel := hd
  subst he
  exact ⟨_, rfl, _, _, _, [], _, [], hW', trodAll_mk1 (shut_bool Try.underlying4 _), (trodAll_cons_mk (Below.trod laidOut (by kernel_rfl) (of_decide_eq_true (by kernel_rfl)) k0 bel lt0) trodAll_mk0), rfl, bel.frame _, fun h => by cases h⟩
theorem closed : joinedFacts Try.prog 3 Try.f3 Rows.fnRunGraphSpec Rows.fnRunGraphRow = true := by
  simp only [joinedFacts, Head.enter, Head.lifts, Head.make]
  kernel_rfl
theorem named : Try.prog.funcNamed Rows.fnRunGraphRow.func = some 3 := by kernel_rfl
theorem wrapped : Try.f3.isWrapper Try.prog Rows.fnRunGraphRow.wrapper Rows.fnRunGraphRow.mainSum := by unfold Func.isWrapper; first | (rw [if_pos (by decide +kernel)]; kernel_rfl) | (rw [if_neg (by decide +kernel)]; exact ⟨rfl, rfl⟩)
theorem over : Rows.fnRunGraphRow.holds Try.pinned (OpenSpec.ofChange Rows.fnRunGraphSpec) :=
  OpenClaim.holds_of_wide 3 Try.f3 rfl rfl rfl rfl rfl rfl rfl ⟨rfl, rfl, rfl, rfl, rfl⟩ rfl rfl rfl rfl rfl named Try.func3 closed
    (of_decide_eq_true (by kernel_rfl)) wrapped
    (fun os started H enc _ => lifted os started H enc)
theorem proved : Rows.FnRunGraphSaid := over
#print axioms proved
end Go.Proofs.Ytebgfobjhlcopaa.fnRunGraph
namespace Go.Proofs.Ytebgfobjhlcopaa
theorem fnRunGraph_holds : Rows.FnRunGraphSaid := fnRunGraph.proved
end Go.Proofs.Ytebgfobjhlcopaa
