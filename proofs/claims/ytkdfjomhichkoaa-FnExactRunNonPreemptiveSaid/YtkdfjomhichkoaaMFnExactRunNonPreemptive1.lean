/- The law FnExactRunNonPreemptive for every input, part 1 of its proof: what the program's functions answer, and the plain law. No condition. -/
import Derived.Below
import Derived.Deep.Draws
import Derived.Deep.AppendLies
import Derived.Maps.AppendAt
import Derived.OwnWalk
import Derived.Laws.BytesArg
import Derived.Laws.MakeOwn
import Derived.Laws.OwnMore
import Derived.Deep.OwnRows
import Derived.Tactics
import Derived.Lib.ConvBytes
import Derived.Laws.Slices
import Derived.WalkKit
import Derived.KernelRfl
import Derived.RowKit3
import Derived.Deep.LoopGhost
import Derived.Deep.QuietTactic
import Derived.BigQuiet
import Derived.WideLaws
import Derived.Deep.DeepCutAuto
import Derived.Deep.CutBlock
import Derived.Deep.RegionHeld3
import Derived.Laws.Rows
import Derived.Lib.AppendStr
import Derived.ArgAppend
import Derived.Laws.IdiomCopy
import Derived.RowKit
import Derived.OrdersHeld
import Derived.Laws.BitsLemmas
import Derived.Laws.StructEq
import Derived.Test.YtkdfjomhichkoaaProg
import Derived.Shelf.Abstract
import Derived.Deep.RegionLaw
import Derived.Maps.OwnSet
import Derived.Maps.OwnOps
import Derived.Carry
-- PRINTED WORDS (module Derived/Print/Words.lean): go-wishes' parts 1 to 38 and go-gate-2's additions: AI agents of Go's test side, Mon Nov 16 2026; no person has read them. Plain theorems and definitions: no macro, no elab, no axiom.
set_option linter.unusedVariables false
set_option linter.unusedSimpArgs false
namespace Go.Proofs.YtkdfjomhichkoaaW.PrintWords
open Go.RowKit

/-- A fact that the walk's simp doesn't look into. -/
structure Aside0 (p : Prop) : Prop where mk :: (out : p)
/-- The world is the old one, some orders having been drawn. -/
structure Drawn0 (w w' : World) : Prop where mk :: (out : ∃ n, w' = w.drewN n)
theorem Drawn0.refl (w : World) : Drawn0 w w := ⟨⟨0, rfl⟩⟩
theorem Drawn0.step {w w' : World} (h : Drawn0 w w') (n : Nat) : Drawn0 w (w'.drewN n) := by
  obtain ⟨m, rfl⟩ := h
  exact ⟨⟨m + n, World.drewN_drewN ..⟩⟩
theorem Drawn0.grown {w w' : World} (h : Drawn0 w w') : Grown w w' := by
  obtain ⟨n, rfl⟩ := h
  induction n with
  | zero => exact Grown.refl _
  | succ n ih => rw [← World.drew_drewN]; exact Grown.drew ih
theorem Drawn0.below {w w' : World} (h : Drawn0 w w') : Below w.heap.size w w' := by
  obtain ⟨n, rfl⟩ := h
  induction n with
  | zero => exact Below.refl _ _
  | succ n ih => rw [← World.drew_drewN]; exact ih.drew

/-! ### 1. Values and lists -/
def rd (xs : List Int) (i : Int) : Int := xs.getD i.toNat 0
/-! ### 2. The world -/
theorem below_alloc {w W : World} (h : Below w.heap.size w W) (o : Obj) : Below w.heap.size w (W.alloc o) := h.alloc h.size o
theorem below_drew {B : Nat} {w W : World} (h : Below B w W) : Below B w W.drew := ⟨h.os, h.tape, h.output, h.size, h.block⟩
theorem pw_below_drewN {B : Nat} {w W : World} (h : Below B w W) (n : Nat) : Below B w (W.drewN n) := ⟨h.os, h.tape, h.output, h.size, h.block⟩
theorem below_then {B : Nat} {w w1 w2 : World} (h : Below B w w1) (hB : B ≤ w1.heap.size) (k : Below w1.heap.size w1 w2) : Below B w w2 :=
  h.trans ⟨k.os, k.tape, k.output, k.size, fun i hi => k.block i (Nat.lt_of_lt_of_le hi hB)⟩
theorem grown_of_below {w w1 : World} (h : Below w.heap.size w w1) (row : Option Nat) : w.grownBy w1 row := ⟨h.os, h.tape, h.output, h.size, fun i hi _ => h.block i hi⟩
theorem pw_cell_below {w w1 : World} (h : Below w.heap.size w w1) {a : Addr} {v : Value} (hc : w.cell? a = some v) : w1.cell? a = some v := (h.cell (World.block_lt_of_cell? w a hc)).trans hc

theorem add_plain (g j : Nat) : (⟨g, 0, none⟩ : Addr).add j = ⟨g, j, none⟩ := by unfold Addr.add; split <;> simp_all

/-! ### 3. A slice of whole numbers that is read; nil, empty and other slices alike -/
def ReadsInt (w : World) (k : IntKind) (A : Option Addr) (n : Nat) (xs : List Int) : Prop :=
  xs.length = n ∧ n ≤ 9223372036854775807 ∧ (0 < n → ∃ ad, A = some ad ∧ ∀ j, j < n → w.cell? (ad.add j) = some (.int k (xs.getD j 0)))
theorem ReadsInt.at_ {w : World} {k : IntKind} {A : Option Addr} {n : Nat} {xs : List Int} (h : ReadsInt w k A n xs) (i : Int) (h0 : 0 ≤ i) (h1 : i < n) : ∃ ad, A = some ad ∧ w.cell? (ad.add i.toNat) = some (.int k (rd xs i)) := by
  obtain ⟨ad, e, hc⟩ := h.2.2 (by omega)
  exact ⟨ad, e, hc _ (by omega)⟩
theorem ReadsInt.below {w w1 : World} {k : IntKind} {A : Option Addr} {n : Nat} {xs : List Int} (h : ReadsInt w k A n xs) (hb : Below w.heap.size w w1) : ReadsInt w1 k A n xs :=
  ⟨h.1, h.2.1, fun hn => by
    obtain ⟨ad, e, hc⟩ := h.2.2 hn
    exact ⟨ad, e, fun j hj => pw_cell_below hb (hc j hj)⟩⟩

/-! ### 4. A row of the call's own -/
theorem own_nil (W : World) (base : Nat) (e : TypeId) (size : Nat) : W.ownsRow base e size (.slice none 0 0) 0 [] := ⟨by simp, .inl ⟨rfl, rfl⟩⟩
theorem own_base {w : World} {base : Nat} {e : TypeId} {size n : Nat} {v : Value} {xs : List Value} (h : w.ownsRow base e size v n xs) (k : Nat) (hk : v.ownBlock = some k) : base ≤ k := by
  rcases h.2 with ⟨rfl, _⟩ | ⟨g, cap, cur, rfl, hb, _⟩
  · simp [Value.ownBlock] at hk
  · have : g = k := by simpa [Value.ownBlock] using hk
    omega
theorem own_lt {w : World} {base : Nat} {e : TypeId} {size n : Nat} {v : Value} {xs : List Value} (h : w.ownsRow base e size v n xs) (k : Nat) (hk : v.ownBlock = some k) : k < w.heap.size := by
  rcases h.2 with ⟨rfl, _⟩ | ⟨g, cap, cur, rfl, hb, hh, _⟩
  · simp [Value.ownBlock] at hk
  · have : g = k := by simpa [Value.ownBlock] using hk
    subst this
    exact (Array.getElem?_eq_some_iff.1 hh).1
theorem pw_own_below {w w1 : World} {base : Nat} {e : TypeId} {size n : Nat} {v : Value} {xs : List Value} (h : w.ownsRow base e size v n xs) (hb : Below w.heap.size w w1) : w1.ownsRow base e size v n xs :=
  h.kept (grown_of_below hb none) (by cases v.ownBlock <;> simp)
/-- What is written is another row: this one lives on. -/
theorem own_other {w w1 : World} {base : Nat} {e : TypeId} {size n : Nat} {v : Value} {xs : List Value} (h : w.ownsRow base e size v n xs) {row : Option Nat} (hg : w.grownBy w1 row) (hne : v.ownBlock = none ∨ v.ownBlock ≠ row) : w1.ownsRow base e size v n xs := h.kept hg hne
/-- The shape of whatever is owned. -/
theorem own_slice {w : World} {base n : Nat} {e : TypeId} {size : Nat} {v : Value} {xs : List Value} (h : w.ownsRow base e size v n xs) : ∃ A c, v = .slice A n c := by
  rcases h.2 with ⟨rfl, rfl⟩ | ⟨g, cap, cur, rfl, _⟩
  · exact ⟨none, 0, rfl⟩
  · exact ⟨_, cap, rfl⟩
/-! ### 5. append(v, x): behind 'at_builtin'; the goal's world is 'W.alloc' of the variadic's box -/
section
variable {P : Program} {ops : Array Oper} {rest : List Oper} {o : Oper} {a : Act} {Q : Exit → Act → World → Prop}

end

/-! ### 6. make([]T, n), n an Int; a literal -/
section
variable {P : Program}
end
/-! ### 8. append(v, ys...): ys a slice that is read, nil let in; behind 'at_builtin' -/
section
variable {P : Program} {ops : Array Oper} {rest : List Oper} {o : Oper} {a : Act} {Q : Exit → Act → World → Prop}
end

/-! ### 9. []byte(s): a slice that is read (its row bears a conversion's mark: no row of one's own); cuts of a slice that is read -/
def bytesOf (s : ByteArray) : List Int := s.data.toList.map fun b => (b.toNat : Int)
/-- 'xs[:k]' and 'xs[k:]' of a slice that is read; the address of the second as_ the walk has it. -/
theorem ReadsInt.take_ {w : World} {k : IntKind} {A : Option Addr} {n : Nat} {xs : List Int} (h : ReadsInt w k A n xs) (i : Nat) (hi : i ≤ n) : ReadsInt w k A i (xs.take i) := by
  refine ⟨by rw [List.length_take, h.1]; omega, by have := h.2.1; omega, fun hp => ?_⟩
  obtain ⟨ad, e, hc⟩ := h.2.2 (by omega)
  refine ⟨ad, e, fun j hj => ?_⟩
  rw [hc j (by omega)]
  simp [List.getD_eq_getElem?_getD, hj]
/-! ### 10. Rounds: more rounds give the same answer; what ends gives a number of rounds -/
/-- Where the first answers, the second answers the same. -/
def LeO {α : Type} (a b : Option α) : Prop := ∀ r, a = some r → b = some r
theorem LeO.refl {α : Type} (a : Option α) : LeO a a := fun _ h => h
theorem LeO.none {α : Type} (b : Option α) : LeO Option.none b := fun _ h => by cases h
theorem LeO.trans {α : Type} {a b c : Option α} (h : LeO a b) (k : LeO b c) : LeO a c := fun r hr => k r (h r hr)
theorem LeO.ite {α : Type} {c : Prop} [Decidable c] {a a' b b' : Option α} (h : LeO a a') (k : LeO b b') : LeO (if c then a else b) (if c then a' else b') := by
  split
  · exact h
  · exact k
theorem LeO.bind {α β : Type} {a a' : Option α} {f f' : α → Option β} (h : LeO a a') (k : ∀ x, LeO (f x) (f' x)) : LeO (a.bind f) (a'.bind f') := by
  intro r hr
  obtain ⟨x, hx, hf⟩ := Option.bind_eq_some_iff.1 hr
  exact Option.bind_eq_some_iff.2 ⟨x, h x hx, k x r hf⟩
theorem LeO.map {α β : Type} {a a' : Option α} (f : α → β) (h : LeO a a') : LeO (a.map f) (a'.map f) := by
  intro r hr
  obtain ⟨x, hx, hf⟩ := Option.map_eq_some_iff.1 hr
  exact Option.map_eq_some_iff.2 ⟨x, h x hx, hf⟩
theorem more_rounds {α : Type} {g : Nat → Option α} (h : ∀ k, LeO (g k) (g (k + 1))) (k : Nat) : ∀ j, LeO (g k) (g (k + j))
  | 0 => LeO.refl _
  | j + 1 => (more_rounds h k j).trans (h (k + j))
theorem at_rounds {α : Type} {g : Nat → Option α} (h : ∀ k, LeO (g k) (g (k + 1))) {k k' : Nat} (hk : k ≤ k') {r : α} (hr : g k = some r) : g k' = some r := by
  have := more_rounds h k (k' - k) r hr
  rwa [Nat.add_sub_cancel' hk] at this
/-! ### 11. Rows of elements of several cells (structs): read, made. R: what an element's cells say ('RepItem w': printed for each type) -/
def Reps {α : Type} (R : α → List Value → Prop) (size : Nat) (ps : List α) (cs : List Value) : Prop :=
  cs.length = ps.length * size ∧ ∀ j p, ps[j]? = some p → R p ((cs.drop (j * size)).take size)
theorem Reps.none {α : Type} (R : α → List Value → Prop) (size : Nat) : Reps R size [] [] := ⟨by simp, fun j p h => by simp at h⟩
theorem Reps.snoc {α : Type} {R : α → List Value → Prop} {size : Nat} {ps : List α} {cs c : List Value} {p : α} (h : Reps R size ps cs) (hp : R p c) (hc : c.length = size) : Reps R size (ps ++ [p]) (cs ++ c) := by
  refine ⟨by rw [List.length_append, h.1, hc, List.length_append, List.length_singleton, Nat.add_mul, Nat.one_mul], fun j q hq => ?_⟩
  rcases Nat.lt_or_ge j ps.length with hj | hj
  · rw [List.getElem?_append_left hj] at hq
    have h1 : j * size + size ≤ cs.length := by rw [h.1, ← Nat.succ_mul]; exact Nat.mul_le_mul_right _ hj
    have h2 := h.2 j q hq
    rw [List.drop_append_of_le_length (by omega), List.take_append_of_le_length (by rw [List.length_drop]; omega)]
    exact h2
  · have hj' : j = ps.length := by
      have := (List.getElem?_eq_some_iff.1 hq).1
      rw [List.length_append, List.length_singleton] at this
      omega
    subst hj'
    have hq' : p = q := by simpa using hq
    subst hq'
    rw [← h.1, List.drop_left, ← hc, List.take_length]
    exact hp
theorem Reps.imp_ {α : Type} {R R' : α → List Value → Prop} {size : Nat} {ps : List α} {cs : List Value} (h : Reps R size ps cs) (hR : ∀ p c, R p c → R' p c) : Reps R' size ps cs := ⟨h.1, fun j p hj => hR _ _ (h.2 j p hj)⟩

def ReadsRow {α : Type} (R : α → List Value → Prop) (size : Nat) (w : World) (A : Option Addr) (n : Nat) (ps : List α) : Prop :=
  ps.length = n ∧ n ≤ 9223372036854775807 ∧ (0 < n → ∃ ad, A = some ad ∧ ∀ j p, ps[j]? = some p → ∃ c, c.length = size ∧ R p c ∧ ∀ i u, c[i]? = some u → w.cell? (ad.add (j * size + i)) = some u)
theorem ReadsRow.get_ {α : Type} {R : α → List Value → Prop} {size : Nat} {w : World} {A : Option Addr} {n : Nat} {ps : List α} (h : ReadsRow R size w A n ps) (d : α) (i : Int) (h0 : 0 ≤ i) (h1 : i < n) :
    ∃ ad c, A = some ad ∧ c.length = size ∧ R (ps.getD i.toNat d) c ∧ ∀ j u, c[j]? = some u → w.cell? (ad.add (i.toNat * size + j)) = some u := by
  obtain ⟨ad, e, hc⟩ := h.2.2 (by omega)
  have hl : i.toNat < ps.length := by have := h.1; omega
  obtain ⟨c, hs, hr, hcell⟩ := hc i.toNat _ (List.getElem?_eq_getElem hl)
  refine ⟨ad, c, e, hs, ?_, hcell⟩
  rw [List.getD_eq_getElem?_getD, List.getElem?_eq_getElem hl]
  exact hr
theorem ReadsRow.imp_ {α : Type} {R R' : α → List Value → Prop} {size : Nat} {w w1 : World} {A : Option Addr} {n : Nat} {ps : List α} (h : ReadsRow R size w A n ps) (hb : Below w.heap.size w w1) (hR : ∀ p c, R p c → R' p c) : ReadsRow R' size w1 A n ps :=
  ⟨h.1, h.2.1, fun hn => by
    obtain ⟨ad, e, hc⟩ := h.2.2 hn
    refine ⟨ad, e, fun j p hj => ?_⟩
    obtain ⟨c, hs, hr, hcell⟩ := hc j p hj
    exact ⟨c, hs, hR _ _ hr, fun i u hu => pw_cell_below hb (hcell i u hu)⟩⟩
theorem own_reads_row {α : Type} {R : α → List Value → Prop} {w : World} {base n size : Nat} {e : TypeId} {v : Value} {ps : List α} {cs : List Value} (h : w.ownsRow base e size v n cs) (hR : Reps R size ps cs) (hn : ps.length = n) :
    ∃ A c, v = .slice A n c ∧ ReadsRow R size w A n ps := by
  rcases Nat.eq_zero_or_pos n with h0 | h0
  · rcases h.2 with ⟨rfl, rfl⟩ | ⟨g, cap, cur, rfl, _⟩
    · exact ⟨none, 0, rfl, hn, by omega, fun hp => absurd hp (by omega)⟩
    · exact ⟨_, cap, rfl, hn, by omega, fun hp => absurd hp (by omega)⟩
  · obtain ⟨g, cap, rfl, _, _⟩ := h.form h0
    have hm : n ≤ 9223372036854775807 := by
      rcases h.2 with ⟨_, h1⟩ | ⟨g', cap', cur, he, _, _, h1, h2, _⟩
      · omega
      · simp only [maxLen] at h2
        omega
    refine ⟨_, cap, rfl, hn, hm, fun _ => ⟨_, rfl, fun j p hj => ⟨(cs.drop (j * size)).take size, ?_, hR.2 j p hj, fun i u hu => ?_⟩⟩⟩
    · have hjl := (List.getElem?_eq_some_iff.1 hj).1
      have h1 : j * size + size ≤ cs.length := by rw [hR.1, ← Nat.succ_mul]; exact Nat.mul_le_mul_right _ hjl
      rw [List.length_take, List.length_drop]
      omega
    · refine h.cells (g := g) rfl _ u ?_
      rw [List.getElem?_take] at hu
      split at hu
      · rw [List.getElem?_drop] at hu
        exact hu
      · cases hu
/-- A field's address as_ the walk spells it. -/
theorem add_field (ad : Addr) (m j : Nat) (hj : 0 < j) : ad.add (m + j) = ⟨(ad.add m).block, (ad.add m).off + j, none⟩ := by
  unfold Addr.add
  by_cases hm : m = 0
  · subst hm
    simp [Nat.ne_of_gt hj]
  · simp [hm, Nat.add_assoc]

section
variable {P : Program} {ops : Array Oper} {rest : List Oper} {o : Oper} {a : Act} {Q : Exit → Act → World → Prop}
/-- append(v, x), x of several cells; behind 'at_builtin'; the goal's world is 'W.alloc' of the variadic's box. -/
theorem print_append_cells {w0 W : World} (base : Nat) (hgd : o.guard = none) (s x : Operand) (t e : TypeId) (z : Value) (size bytes : Nat)
    (ho : o.op = .call { callee := .builtin .append, args := #[s, x], argTypes := #[t, t] })
    (ht : P.underlying t = some (.slice e)) (hinfo : (P.info? e).map (fun i => (i.zero, i.size, i.bytes)) = some (some z, size, bytes)) (hz : z.cells.size = size) (hs0 : 0 < size) (hb0 : 0 < bytes)
    (v : Value) (n : Nat) (xs ys : List Value) (hs : a.eval s = v) (hx : a.eval x = .slice (some ⟨W.heap.size, 0, none⟩) 1 1) (hys : ys.length = size) (h1 : ∀ u ∈ ys, u.oneCell' = true)
    (HO : W.ownsRow base e size v n xs) (HB : Below base w0 W) (hbase : base ≤ W.heap.size) (hl : (n + 1) * bytes ≤ 140737488355328)
    (h : ∀ v1 w1, w1.ownsRow base e size v1 (n + 1) (xs ++ ys) → Below base w0 w1 → W.grownBy w1 v.ownBlock → (v1.ownBlock = v.ownBlock ∨ ∃ b, v1.ownBlock = some b ∧ W.heap.size ≤ b) → wpList P ops Q rest (a.put o.dst v1) w1) :
    wpList P ops Q (o :: rest) a (W.alloc (.cells ys.toArray e)) := by
  obtain ⟨i0, hi, hzz⟩ := Option.map_eq_some_iff.1 hinfo
  simp only [Prod.mk.injEq] at hzz
  obtain ⟨hz0, hz1, hz2⟩ := hzz
  have hlen : n + 1 ≤ 140737488355328 := Nat.le_trans (Nat.le_mul_of_pos_right _ hb0) hl
  refine wpList_append_own_at (W.alloc (.cells ys.toArray e)) hgd s x t ho base e i0 z size bytes ht hi hz0 hz1 hz2 hz hs0 v n xs hs (HO.alloc _) ⟨W.heap.size, 0, none⟩ 1 1 ys hx (by rw [hys]; simp)
    (by simpa using World.news_of_block (cs := ys.toArray) (t := e) (fr := (0, 0)) (heap_alloc_new W (.cells ys.toArray e))) h1 (by simp only [maxLen]; omega) hl (by simp; omega) ?_
  intro v1 w1 hown hg _ hat
  refine h v1 w1 hown ((HB.alloc hbase _).grown hg (by simp; omega) (own_base HO)) (World.grownBy.trans (World.grownBy_alloc W _ _) hg) ?_
  rcases hat with hat | hat
  · exact .inl hat
  · exact .inr ⟨_, hat, by simp⟩
end

/-! ### 12. A block of one's own that is a state: its cells, what a store leaves -/
theorem own_ne {w : World} {base : Nat} {e t : TypeId} {size n g : Nat} {v : Value} {xs : List Value} {cs : Array Value} (h : w.ownsRow base e size v n xs) (hg : w.heap[g]? = some (.cells cs t (0, 0))) (hne : e ≠ t) : some g ≠ v.ownBlock := by
  rcases h.2 with ⟨rfl, _⟩ | ⟨g', cap, cur, rfl, _, hh, _⟩
  · simp [Value.ownBlock]
  · intro he
    have : g = g' := by simpa [Value.ownBlock] using he
    subst this
    rw [hg] at hh
    injection hh with hh
    injection hh with _ ht
    exact hne ht.symm
theorem blk_set {w : World} {g : Nat} {t : TypeId} {cs : Array Value} (h : w.heap[g]? = some (.cells cs t (0, 0))) (i : Nat) (u : Value) : (w.setCell ⟨g, i, none⟩ u).heap[g]? = some (.cells (cs.setIfInBounds i u) t (0, 0)) := by
  simp [World.setCell, Array.getElem?_modify, h]
theorem blk_far {w : World} {g : Nat} {t : TypeId} {cs : Array Value} (h : w.heap[g]? = some (.cells cs t (0, 0))) {p : Addr} (hp : g ≠ p.block) (u : Value) : (w.setCell p u).heap[g]? = some (.cells cs t (0, 0)) := (Below.heap_setCell w p u g hp).trans h
theorem blk_lt {w : World} {g : Nat} {o : Obj} (h : w.heap[g]? = some o) : g < w.heap.size := (Array.getElem?_eq_some_iff.1 h).1
theorem blk_cell {w : World} {g : Nat} {t : TypeId} {cs : Array Value} (h : w.heap[g]? = some (.cells cs t (0, 0))) (i : Nat) : w.cell? ⟨g, i, none⟩ = cs[i]? := cell_of_row w g i cs t (0, 0) h
theorem blk_frozen {w : World} {g : Nat} {t : TypeId} {cs : Array Value} (h : w.heap[g]? = some (.cells cs t (0, 0))) (i : Nat) : w.frozen? ⟨g, i, none⟩ = false := by simp [World.frozen?, h]
theorem blk_grown {w w1 : World} {g : Nat} {o : Obj} {row : Option Nat} (h : w.heap[g]? = some o) (hg : w.grownBy w1 row) (hne : some g ≠ row) : w1.heap[g]? = some o := (hg.block g (blk_lt h) hne).trans h
/-! ### 13. Two states at once: what a call on the state at block g (its row before: 'row') has turned -/
def KeepBut (w w' : World) (g : Nat) (row : Option Nat) : Prop := w.heap.size ≤ w'.heap.size ∧ ∀ i, i < w.heap.size → i ≠ g → some i ≠ row → w'.heap[i]? = w.heap[i]?
theorem KeepBut.refl (w : World) (g : Nat) (row : Option Nat) : KeepBut w w g row := ⟨Nat.le_refl _, fun _ _ _ _ => rfl⟩
theorem KeepBut.of_grown {w w1 : World} {row : Option Nat} (h : w.grownBy w1 row) (g : Nat) : KeepBut w w1 g row := ⟨h.size, fun i hi _ hr => h.block i hi hr⟩
theorem KeepBut.of_below {w w1 : World} (h : Below w.heap.size w w1) (g : Nat) (row : Option Nat) : KeepBut w w1 g row := ⟨h.size, fun i hi _ _ => h.block i hi⟩
theorem KeepBut.trans {w w1 w2 : World} {g : Nat} {row row1 : Option Nat} (h : KeepBut w w1 g row) (k : KeepBut w1 w2 g row1) (hr : row1 = row ∨ ∃ b, row1 = some b ∧ w.heap.size ≤ b) : KeepBut w w2 g row :=
  ⟨Nat.le_trans h.1 k.1, fun i hi hg hn => by
    refine (k.2 i (Nat.lt_of_lt_of_le hi h.1) hg ?_).trans (h.2 i hi hg hn)
    rcases hr with rfl | ⟨b, rfl, hb⟩
    · exact hn
    · intro e
      injection e with e
      omega⟩
/-- Another block, another row: they live on. -/
theorem KeepBut.blk {w w1 : World} {g g' : Nat} {row : Option Nat} {o : Obj} (h : KeepBut w w1 g row) (hb : w.heap[g']? = some o) (hg : g' ≠ g) (hr : some g' ≠ row) : w1.heap[g']? = some o := (h.2 g' (blk_lt hb) hg hr).trans hb
theorem KeepBut.own {w w1 : World} {g : Nat} {row : Option Nat} {base : Nat} {e : TypeId} {size n : Nat} {v : Value} {xs : List Value} (h : KeepBut w w1 g row) (ho : w.ownsRow base e size v n xs) (hg : v.ownBlock ≠ some g) (hr : v.ownBlock = none ∨ v.ownBlock ≠ row) : w1.ownsRow base e size v n xs := by
  obtain ⟨h1, h2⟩ := ho
  refine ⟨h1, ?_⟩
  rcases h2 with h2 | ⟨b, cap, cur, rfl, hb, hh, r⟩
  · exact .inl h2
  · refine .inr ⟨b, cap, cur, rfl, hb, h.blk hh ?_ ?_, r⟩
    · intro e
      exact hg (by rw [← e]; rfl)
    · rcases hr with hr | hr
      · simp [Value.ownBlock] at hr
      · exact hr
/-! ### 10b. From some number of rounds on -/
def Ev {α : Type} (g : Nat → Option α) (r : α) : Prop := ∃ K, ∀ k, K ≤ k → g k = some r
theorem Ev.of {α : Type} {g : Nat → Option α} {r : α} (hg : ∀ k, LeO (g k) (g (k + 1))) {k : Nat} (h : g k = some r) : Ev g r := ⟨k, fun _ hk => at_rounds hg hk h⟩
theorem Ev.now {α : Type} (r : α) : Ev (fun _ => some r) r := ⟨0, fun _ _ => rfl⟩
theorem Ev.rounds {α : Type} {g : Nat → Option α} {r : α} (h : Ev g r) : ∃ k, g k = some r := by
  obtain ⟨K, h⟩ := h
  exact ⟨K, h K (Nat.le_refl _)⟩
theorem Ev.bind {α β : Type} {g : Nat → Option α} {f : Nat → α → Option β} {a : α} {r : β} (h : Ev g a) (k : Ev (fun n => f n a) r) : Ev (fun n => (g n).bind (f n)) r := by
  obtain ⟨K, h⟩ := h
  obtain ⟨K', k⟩ := k
  refine ⟨max K K', fun n hn => ?_⟩
  have h1 := h n (by omega)
  have h2 := k n (by omega)
  simp only [h1, Option.bind_some]
  exact h2
/-- One round of a loop. -/
theorem Ev.step {α : Type} {g f : Nat → Option α} {r : α} (h : ∀ k, g (k + 1) = f k) (k : Ev f r) : Ev g r := by
  obtain ⟨K, k⟩ := k
  refine ⟨K + 1, fun n hn => ?_⟩
  obtain ⟨m, rfl⟩ : ∃ m, n = m + 1 := ⟨n - 1, by omega⟩
  rw [h]
  exact k m (by omega)
theorem Ev.congr {α : Type} {g f : Nat → Option α} {r : α} (h : ∀ k, g k = f k) (k : Ev f r) : Ev g r := by
  obtain ⟨K, k⟩ := k
  exact ⟨K, fun n hn => (h n).trans (k n hn)⟩
/-! ### 14. append as_ one step of a region that draws its order: for 'go_region_law' (and a region walked by hand) -/
section
variable {P : Program} {ops : Array Oper} {o : Oper} {a : Act} {Q : Exit → Act → World → Prop} {K : Act → World → Prop}
end
/-! ### 15. A row's base may be lowered -/
theorem own_weaken {w : World} {base base' : Nat} {e : TypeId} {size n : Nat} {v : Value} {xs : List Value} (h : w.ownsRow base e size v n xs) (hb : base' ≤ base) : w.ownsRow base' e size v n xs := by
  obtain ⟨h1, h2⟩ := h
  refine ⟨h1, ?_⟩
  rcases h2 with h2 | ⟨g, cap, cur, rfl, hg, r⟩
  · exact .inl h2
  · exact .inr ⟨g, cap, cur, rfl, Nat.le_trans hb hg, r⟩
/-! ### 16. Parts 3 to 9 for ANY element of one cell: 'enc' (Value.int k, Value.string, Value.bool), a default 'd' -/
section
variable {α : Type} {enc : α → Value} {d : α}
def encs (enc : α → Value) (xs : List α) : List Value := xs.map enc
def rdOf (d : α) (xs : List α) (i : Int) : α := xs.getD i.toNat d
theorem encs_length (xs : List α) : (encs enc xs).length = xs.length := by simp [encs]
theorem encs_append (xs ys : List α) : encs enc (xs ++ ys) = encs enc xs ++ encs enc ys := by simp [encs]
theorem encs_get (xs : List α) (j : Nat) (h : j < xs.length) : (encs enc xs)[j]? = some (enc (xs.getD j d)) := by
  simp [encs, List.getElem?_eq_getElem h, List.getD_eq_getElem?_getD]
def ReadsOf (enc : α → Value) (d : α) (w : World) (A : Option Addr) (n : Nat) (xs : List α) : Prop :=
  xs.length = n ∧ n ≤ 9223372036854775807 ∧ (0 < n → ∃ ad, A = some ad ∧ ∀ j, j < n → w.cell? (ad.add j) = some (enc (xs.getD j d)))
theorem ReadsOf.at_ {w : World} {A : Option Addr} {n : Nat} {xs : List α} (h : ReadsOf enc d w A n xs) (i : Int) (h0 : 0 ≤ i) (h1 : i < n) : ∃ ad, A = some ad ∧ w.cell? (ad.add i.toNat) = some (enc (rdOf d xs i)) := by
  obtain ⟨ad, e, hc⟩ := h.2.2 (by omega)
  exact ⟨ad, e, hc _ (by omega)⟩
theorem ReadsOf.below {w w1 : World} {A : Option Addr} {n : Nat} {xs : List α} (h : ReadsOf enc d w A n xs) (hb : Below w.heap.size w w1) : ReadsOf enc d w1 A n xs :=
  ⟨h.1, h.2.1, fun hn => by
    obtain ⟨ad, e, hc⟩ := h.2.2 hn
    exact ⟨ad, e, fun j hj => pw_cell_below hb (hc j hj)⟩⟩
theorem ReadsOf.take_ {w : World} {A : Option Addr} {n : Nat} {xs : List α} (h : ReadsOf enc d w A n xs) (i : Nat) (hi : i ≤ n) : ReadsOf enc d w A i (xs.take i) := by
  refine ⟨by rw [List.length_take, h.1]; omega, by have := h.2.1; omega, fun hp => ?_⟩
  obtain ⟨ad, e, hc⟩ := h.2.2 (by omega)
  refine ⟨ad, e, fun j hj => ?_⟩
  rw [hc j (by omega)]
  simp [List.getD_eq_getElem?_getD, hj]
theorem own_at_of {W : World} {base g n cap : Nat} {e : TypeId} {xs : List α} (h : W.ownsRow base e 1 (.slice (some ⟨g, 0, none⟩) n cap) n (encs enc xs)) (i : Int) (h0 : 0 ≤ i) (h1 : i < n) :
    W.cell? ⟨g, i.toNat, none⟩ = some (enc (rdOf d xs i)) ∧ W.frozen? ⟨g, i.toNat, none⟩ = false := by
  have hl : xs.length = n := by have := h.1; simp [encs] at this; exact this
  constructor
  · have hc := h.cells (g := g) rfl i.toNat _ (encs_get (d := d) xs i.toNat (by omega))
    rwa [add_plain] at hc
  · rcases h.2 with ⟨h', _⟩ | ⟨g', cap', cur, h', _, hh, _⟩
    · cases h'
    · have : g = g' := by injection h' with h'; injection h' with h'; injection h' with h'
      subst this
      simp [World.frozen?, hh]
theorem own_store_of {W : World} {base g n cap : Nat} {e : TypeId} {xs : List α} (h : W.ownsRow base e 1 (.slice (some ⟨g, 0, none⟩) n cap) n (encs enc xs)) (i : Int) (x : α) :
    (W.setCell ⟨g, i.toNat, none⟩ (enc x)).ownsRow base e 1 (.slice (some ⟨g, 0, none⟩) n cap) n (encs enc (xs.set i.toNat x)) ∧ W.grownBy (W.setCell ⟨g, i.toNat, none⟩ (enc x)) (some g) := by
  have hs := h.stored i.toNat (enc x)
  have he : (encs enc xs).set i.toNat (enc x) = encs enc (xs.set i.toNat x) := by simp [encs, List.map_set]
  rwa [he] at hs
end
section
variable {α : Type} {P : Program} {ops : Array Oper} {rest : List Oper} {o : Oper} {a : Act} {Q : Exit → Act → World → Prop}
end

/-! ### 18. A block behind a new one; behind a draw -/
theorem blk_alloc {w : World} {g : Nat} {o : Obj} (h : w.heap[g]? = some o) (o' : Obj) : (w.alloc o').heap[g]? = some o := (Below.heap_alloc w o' g (blk_lt h)).trans h
theorem blk_drew {w : World} {g : Nat} {o : Obj} (h : w.heap[g]? = some o) : w.drew.heap[g]? = some o := h
theorem blk_drewN {w : World} {g : Nat} {o : Obj} (h : w.heap[g]? = some o) (n : Nat) : (w.drewN n).heap[g]? = some o := h
theorem blk_below {w w1 : World} {g : Nat} {o : Obj} (h : w.heap[g]? = some o) (hb : Below w.heap.size w w1) : w1.heap[g]? = some o := (hb.block g (blk_lt h)).trans h
theorem blk_new (w : World) (o : Obj) : (w.alloc o).heap[w.heap.size]? = some o := heap_alloc_new w o
/-! ### 19. Results that lie in memory beside others -/
section
variable {P : Program}
end
/-! ### 20. Rows of elements of any kind: R is what an element's cells say -/
theorem own_le {w : World} {base n m c size : Nat} {e : TypeId} {A : Option Addr} {xs : List Value} (h : w.ownsRow base e size (.slice A m c) n xs) : m ≤ c := by
  rcases h.2 with ⟨he, _⟩ | ⟨g, cap, cur, he, _, _, hnc, _⟩
  · injection he with _ h2 h3
    omega
  · injection he with _ h2 h3
    omega
def OwnRow {α : Type} (R : α → List Value → Prop) (e : TypeId) (size : Nat) (w : World) (base : Nat) (v : Value) (ps : List α) : Prop :=
  ∃ inner, w.ownsRow base e size v ps.length inner ∧ Reps R size ps inner
section
variable {α : Type} {R R' : α → List Value → Prop} {e : TypeId} {size : Nat} {w w1 : World} {base : Nat} {v : Value} {ps : List α}
theorem OwnRow.none_ (R : α → List Value → Prop) (e : TypeId) (size : Nat) (w : World) (base : Nat) : OwnRow R e size w base (.slice none 0 0) [] := ⟨[], own_nil _ _ _ _, Reps.none _ _⟩
theorem OwnRow.imp_ (h : OwnRow R e size w base v ps) (hR : ∀ p c, R p c → R' p c) : OwnRow R' e size w base v ps := by
  obtain ⟨inner, ho, hr⟩ := h
  exact ⟨inner, ho, hr.imp_ hR⟩
theorem OwnRow.below (h : OwnRow R e size w base v ps) (hb : Below w.heap.size w w1) : OwnRow R e size w1 base v ps := by
  obtain ⟨inner, ho, hr⟩ := h
  exact ⟨inner, pw_own_below ho hb, hr⟩
theorem OwnRow.other (h : OwnRow R e size w base v ps) {row : Option Nat} (hg : w.grownBy w1 row) (hne : v.ownBlock = none ∨ v.ownBlock ≠ row) : OwnRow R e size w1 base v ps := by
  obtain ⟨inner, ho, hr⟩ := h
  exact ⟨inner, own_other ho hg hne, hr⟩
theorem OwnRow.reads (h : OwnRow R e size w base v ps) : ∃ A c, v = .slice A ps.length c ∧ ps.length ≤ c ∧ ReadsRow R size w A ps.length ps := by
  obtain ⟨inner, ho, hr⟩ := h
  obtain ⟨A, c, rfl, hrow⟩ := own_reads_row ho hr rfl
  exact ⟨A, c, rfl, own_le ho, hrow⟩
theorem OwnRow.ne_block (h : OwnRow R e size w base v ps) {g : Nat} {t : TypeId} {cells : Array Value} (hb : w.heap[g]? = some (.cells cells t (0, 0))) (ht : e ≠ t) : some g ≠ v.ownBlock := by
  obtain ⟨inner, ho, hr⟩ := h
  exact own_ne ho hb ht
/-- A literal: the elements' cells one behind the other. -/
theorem OwnRow.lit (W : World) (base : Nat) {inner : List Value} (hr : Reps R size ps inner) (hb : base ≤ W.heap.size) (hm : ps.length ≤ 9223372036854775807) :
    OwnRow R e size (W.alloc (.cells inner.toArray e)) base (.slice (some ⟨W.heap.size, 0, none⟩) ps.length ps.length) ps := by
  have h := World.ownsRow_lit (base := base) (e := e) (size := size) W inner.toArray ps.length hb (by simpa [maxLen] using hm) (by simpa using hr.1)
  exact ⟨inner, by simpa using h, hr⟩
end
section
variable {P : Program} {ops : Array Oper} {rest : List Oper} {o : Oper} {a : Act} {Q : Exit → Act → World → Prop} {α : Type} {R : α → List Value → Prop}
/-- append(v, x): x's cells are cs. R is that of the world AHEAD; move it over hg ('OwnRow.imp_'). -/
theorem OwnRow.append {w0 W : World} (base : Nat) (hgd : o.guard = none) (s x : Operand) (t e : TypeId) (z : Value) (size bytes : Nat)
    (ho : o.op = .call { callee := .builtin .append, args := #[s, x], argTypes := #[t, t] })
    (ht : P.underlying t = some (.slice e)) (hinfo : (P.info? e).map (fun i => (i.zero, i.size, i.bytes)) = some (some z, size, bytes)) (hz : z.cells.size = size) (hs0 : 0 < size) (hb0 : 0 < bytes)
    (v : Value) (ps : List α) (p : α) (cs : List Value) (hs : a.eval s = v) (hx : a.eval x = .slice (some ⟨W.heap.size, 0, none⟩) 1 1) (hp : R p cs) (hcs : cs.length = size) (h1 : ∀ u ∈ cs, u.oneCell' = true)
    (HO : OwnRow R e size W base v ps) (HB : Below base w0 W) (hbase : base ≤ W.heap.size) (hl : (ps.length + 1) * bytes ≤ 140737488355328)
    (h : ∀ v1 w1, OwnRow R e size w1 base v1 (ps ++ [p]) → Below base w0 w1 → W.grownBy w1 v.ownBlock → (v1.ownBlock = v.ownBlock ∨ ∃ b, v1.ownBlock = some b ∧ W.heap.size ≤ b) → wpList P ops Q rest (a.put o.dst v1) w1) :
    wpList P ops Q (o :: rest) a (W.alloc (.cells cs.toArray e)) := by
  obtain ⟨inner, hown, hr⟩ := HO
  refine print_append_cells base hgd s x t e z size bytes ho ht hinfo hz hs0 hb0 v ps.length inner cs hs hx hcs h1 hown HB hbase hl ?_
  intro v1 w1 hown1 hb1 hg1 hat1
  exact h v1 w1 ⟨inner ++ cs, by rw [List.length_append, List.length_singleton]; exact hown1, hr.snoc hp hcs⟩ hb1 hg1 hat1
end
section
variable {P : Program} {ops : Array Oper} {o : Oper} {a : Act} {Q : Exit → Act → World → Prop} {K : Act → World → Prop} {α : Type} {R : α → List Value → Prop}
end
/-! ### 21. Cuts of a slice that came in, lengths spelled as_ the lists' -/
section
variable {α : Type} {P : Program}
end

/-! ### 22. append([]byte, s...), s a string; behind 'at_builtin'. (No word on where the new row lies: two rows of bytes at once don't go by it.) -/
section
variable {P : Program} {ops : Array Oper} {rest : List Oper} {o : Oper} {a : Act} {Q : Exit → Act → World → Prop}
end
/-! ### 23. KINDS: what a value's cells say, read (K) and made (M), kind by kind; every mover proved once -/
/-- ok: which blocks the rows inside may be ('not the row that is being written'). -/
structure Kd (α : Type) where
  sz : Nat
  E : List Nat
  K : World → α → List Value → Prop
  M : World → Nat → (Nat → Prop) → α → List Value → Prop
  K_len : ∀ {w x cs}, K w x cs → cs.length = sz
  K_one : ∀ {w x cs}, K w x cs → ∀ u ∈ cs, u.oneCell' = true
  K_below : ∀ {w w1 : World} {x cs}, Below w.heap.size w w1 → K w x cs → K w1 x cs
  K_of_M : ∀ {w base ok x cs}, M w base ok x cs → K w x cs
  M_mono : ∀ {w base ok ok' x cs}, (∀ k, ok k → ok' k) → M w base ok x cs → M w base ok' x cs
  M_bound : ∀ {w : World} {base ok x cs}, M w base ok x cs → M w base (fun k => ok k ∧ base ≤ k ∧ k < w.heap.size ∧ ∃ q, q ∈ E ∧ ∃ cells, w.heap[k]? = some (.cells cells q (0, 0))) x cs
  M_move : ∀ {w w1 : World} {base ok x cs}, (∀ k, ok k → w1.heap[k]? = w.heap[k]?) → M w base ok x cs → M w1 base ok x cs
  M_lower : ∀ {w base base' ok x cs}, base' ≤ base → M w base ok x cs → M w base' ok x cs

theorem own_move {w w1 : World} {base : Nat} {e : TypeId} {size n : Nat} {v : Value} {xs : List Value} (h : w.ownsRow base e size v n xs) (hm : ∀ k, v.ownBlock = some k → w1.heap[k]? = w.heap[k]?) : w1.ownsRow base e size v n xs := by
  obtain ⟨h1, h2⟩ := h
  refine ⟨h1, ?_⟩
  rcases h2 with h2 | ⟨g, cap, cur, rfl, hg, hh, r⟩
  · exact .inl h2
  · exact .inr ⟨g, cap, cur, rfl, hg, (hm g (by simp [Value.ownBlock])).trans hh, r⟩
theorem own_typed {w : World} {base : Nat} {e : TypeId} {size n : Nat} {v : Value} {xs : List Value} (h : w.ownsRow base e size v n xs) (k : Nat) (hk : v.ownBlock = some k) : ∃ cells, w.heap[k]? = some (.cells cells e (0, 0)) := by
  rcases h.2 with ⟨rfl, _⟩ | ⟨g, cap, cur, rfl, hg, hh, r⟩
  · simp [Value.ownBlock] at hk
  · have : g = k := by simpa [Value.ownBlock] using hk
    subst this
    exact ⟨cur, hh⟩

namespace Kd
/-- A row of elements that is read. -/
def C {α : Type} (d : Kd α) (w : World) (A : Option Addr) (n : Nat) (xs : List α) : Prop := ReadsRow (d.K w) d.sz w A n xs
/-- A row of elements (type e) of the call's own; the elements' rows are not this one. -/
def R {α : Type} (d : Kd α) (e : Nat) (w : World) (base : Nat) (ok : Nat → Prop) (v : Value) (xs : List α) : Prop :=
  (∀ k, v.ownBlock = some k → ok k) ∧ OwnRow (d.M w base (fun k => ok k ∧ some k ≠ v.ownBlock)) e d.sz w base v xs
section
variable {α : Type} {d : Kd α} {e : Nat} {w w1 : World} {base : Nat} {ok ok' : Nat → Prop} {v : Value} {xs : List α}
theorem C_below {A : Option Addr} {n : Nat} (h : d.C w A n xs) (hb : Below w.heap.size w w1) : d.C w1 A n xs := ReadsRow.imp_ h hb (fun _ _ hp => d.K_below hb hp)
theorem R_nil (d : Kd α) (e : Nat) (w : World) (base : Nat) (ok : Nat → Prop) : d.R e w base ok (.slice none 0 0) [] := ⟨fun k hk => by simp [Value.ownBlock] at hk, OwnRow.none_ _ _ _ _ _⟩
theorem R_mono (h : d.R e w base ok v xs) (hok : ∀ k, ok k → ok' k) : d.R e w base ok' v xs := ⟨fun k hk => hok k (h.1 k hk), h.2.imp_ (fun _ _ hp => d.M_mono (fun k hk => ⟨hok k hk.1, hk.2⟩) hp)⟩
theorem R_bound (h : d.R e w base ok v xs) : d.R e w base (fun k => ok k ∧ base ≤ k ∧ k < w.heap.size ∧ ∃ q, q ∈ e :: d.E ∧ ∃ cells, w.heap[k]? = some (.cells cells q (0, 0))) v xs := by
  obtain ⟨h0, inner, ho, hr⟩ := h
  refine ⟨fun k hk => ?_, inner, ho, hr.imp_ (fun _ _ hp => d.M_mono (fun k hk => ?_) (d.M_bound hp))⟩
  · obtain ⟨cells, hc⟩ := own_typed ho k hk
    exact ⟨h0 k hk, own_base ho k hk, own_lt ho k hk, e, List.mem_cons_self, cells, hc⟩
  · obtain ⟨⟨h1, h2⟩, h3, h4, q, hq, hc⟩ := hk
    exact ⟨⟨h1, h3, h4, q, List.mem_cons_of_mem _ hq, hc⟩, h2⟩
theorem R_move (h : d.R e w base ok v xs) (hm : ∀ k, ok k → w1.heap[k]? = w.heap[k]?) : d.R e w1 base ok v xs := by
  obtain ⟨h0, inner, ho, hr⟩ := h
  exact ⟨h0, inner, own_move ho (fun k hk => hm k (h0 k hk)), hr.imp_ (fun _ _ hp => d.M_move (fun k hk => hm k hk.1) hp)⟩
theorem R_lower {base' : Nat} (h : d.R e w base ok v xs) (hb : base' ≤ base) : d.R e w base' ok v xs := by
  obtain ⟨h0, inner, ho, hr⟩ := h
  exact ⟨h0, inner, own_weaken ho hb, hr.imp_ (fun _ _ hp => d.M_lower hb hp)⟩
/-- Any mover: what is ok, and a block of w's, stays. -/
theorem R_step (h : d.R e w base ok v xs) (hm : ∀ k, ok k → k < w.heap.size → w1.heap[k]? = w.heap[k]?) : d.R e w1 base ok v xs :=
  R_mono (R_move (R_bound h) (fun k hk => hm k hk.1 hk.2.2.1)) (fun _ hk => hk.1)
theorem M_step {x : α} {cs : List Value} (h : d.M w base ok x cs) (hm : ∀ k, ok k → k < w.heap.size → w1.heap[k]? = w.heap[k]?) : d.M w1 base ok x cs :=
  d.M_mono (fun _ hk => hk.1) (d.M_move (fun k hk => hm k hk.1 hk.2.2.1) (d.M_bound h))
theorem R_below (h : d.R e w base ok v xs) (hb : Below w.heap.size w w1) : d.R e w1 base ok v xs := R_step h (fun k _ hk => hb.block k hk)
theorem M_below {x : α} {cs : List Value} (h : d.M w base ok x cs) (hb : Below w.heap.size w w1) : d.M w1 base ok x cs := M_step h (fun k _ hk => hb.block k hk)
/-- A store into another block. -/
theorem R_far (h : d.R e w base ok v xs) {p : Addr} (hok : ∀ k, ok k → k ≠ p.block) (u : Value) : d.R e (w.setCell p u) base ok v xs := R_step h (fun k ho _ => Below.heap_setCell w p u k (hok k ho))
/-- By types alone: the rows inside are none of a block of type t. -/
theorem R_types (h : d.R e w base ok v xs) {g t : Nat} {cells : Array Value} (hb : w.heap[g]? = some (.cells cells t (0, 0))) (ht : ∀ q, q ∈ e :: d.E → q ≠ t) : d.R e w base (fun k => ok k ∧ k ≠ g) v xs :=
  R_mono (R_bound h) (fun k hk => ⟨hk.1, by
    obtain ⟨_, _, _, q, hq, cells', hc⟩ := hk
    rintro rfl
    rw [hc] at hb
    injection hb with hb
    injection hb with _ hb
    exact ht q hq hb⟩)
theorem R_reads (h : d.R e w base ok v xs) : ∃ A c, v = .slice A xs.length c ∧ xs.length ≤ c ∧ d.C w A xs.length xs := by
  obtain ⟨A, c, he, hl, hr⟩ := OwnRow.reads h.2
  exact ⟨A, c, he, hl, hr.imp_ (Below.refl _ _) (fun _ _ hp => d.K_of_M hp)⟩
theorem R_slice (h : d.R e w base ok v xs) : ∃ A c, v = .slice A xs.length c := by
  obtain ⟨A, c, he, _⟩ := R_reads h
  exact ⟨A, c, he⟩
theorem R_own (h : d.R e w base ok v xs) : ∃ inner, w.ownsRow base e d.sz v xs.length inner := by
  obtain ⟨_, inner, ho, _⟩ := h
  exact ⟨inner, ho⟩
theorem R_ne (h : d.R e w base ok v xs) {g t : Nat} {cells : Array Value} (hb : w.heap[g]? = some (.cells cells t (0, 0))) (ht : e ≠ t) : some g ≠ v.ownBlock := OwnRow.ne_block h.2 hb ht
end

/-! #### the kinds -/
def scalar {α : Type} (enc : α → Value) (h1 : ∀ x, (enc x).oneCell' = true) : Kd α where
  sz := 1
  E := []
  K := fun _ x cs => cs = [enc x]
  M := fun _ _ _ x cs => cs = [enc x]
  K_len := fun h => by rw [h]; rfl
  K_one := fun h u hu => by
    rw [h] at hu
    rw [List.mem_singleton.1 hu]
    exact h1 _
  K_below := fun _ h => h
  K_of_M := fun h => h
  M_mono := fun _ h => h
  M_bound := fun h => h
  M_move := fun _ h => h
  M_lower := fun _ h => h
def int (k : IntKind) : Kd Int := scalar (Value.int k) (fun _ => rfl)
def bool : Kd Bool := scalar Value.bool (fun _ => rfl)
def slice {α : Type} (e : Nat) (d : Kd α) : Kd (List α) where
  sz := 1
  E := e :: d.E
  K := fun w xs cs => ∃ A c, cs = [.slice A xs.length c] ∧ xs.length ≤ c ∧ d.C w A xs.length xs
  M := fun w base ok xs cs => ∃ v, cs = [v] ∧ d.R e w base ok v xs
  K_len := by
    rintro w x cs ⟨A, c, rfl, _⟩
    rfl
  K_one := by
    rintro w x cs ⟨A, c, rfl, _⟩ u hu
    rw [List.mem_singleton.1 hu]
    rfl
  K_below := by
    rintro w w1 x cs hb ⟨A, c, rfl, hl, hr⟩
    exact ⟨A, c, rfl, hl, C_below hr hb⟩
  K_of_M := by
    rintro w base ok x cs ⟨v, rfl, h⟩
    obtain ⟨A, c, rfl, hl, hr⟩ := R_reads h
    exact ⟨A, c, rfl, hl, hr⟩
  M_mono := by
    rintro w base ok ok' x cs hok ⟨v, rfl, h⟩
    exact ⟨v, rfl, R_mono h hok⟩
  M_bound := by
    rintro w base ok x cs ⟨v, rfl, h⟩
    exact ⟨v, rfl, R_bound h⟩
  M_move := by
    rintro w w1 base ok x cs hm ⟨v, rfl, h⟩
    exact ⟨v, rfl, R_move h hm⟩
  M_lower := by
    rintro w base base' ok x cs hb ⟨v, rfl, h⟩
    exact ⟨v, rfl, R_lower h hb⟩
/-- Two in line. -/
def pair {α β : Type} (a : Kd α) (b : Kd β) : Kd (α × β) where
  sz := a.sz + b.sz
  E := a.E ++ b.E
  K := fun w x cs => ∃ c0 c1, cs = c0 ++ c1 ∧ a.K w x.1 c0 ∧ b.K w x.2 c1
  M := fun w base ok x cs => ∃ c0 c1, cs = c0 ++ c1 ∧ a.M w base ok x.1 c0 ∧ b.M w base ok x.2 c1
  K_len := by
    rintro w x cs ⟨c0, c1, rfl, h0, h1⟩
    rw [List.length_append, a.K_len h0, b.K_len h1]
  K_one := by
    rintro w x cs ⟨c0, c1, rfl, h0, h1⟩ u hu
    rcases List.mem_append.1 hu with hu | hu
    · exact a.K_one h0 u hu
    · exact b.K_one h1 u hu
  K_below := by
    rintro w w1 x cs hb ⟨c0, c1, rfl, h0, h1⟩
    exact ⟨c0, c1, rfl, a.K_below hb h0, b.K_below hb h1⟩
  K_of_M := by
    rintro w base ok x cs ⟨c0, c1, rfl, h0, h1⟩
    exact ⟨c0, c1, rfl, a.K_of_M h0, b.K_of_M h1⟩
  M_mono := by
    rintro w base ok ok' x cs hok ⟨c0, c1, rfl, h0, h1⟩
    exact ⟨c0, c1, rfl, a.M_mono hok h0, b.M_mono hok h1⟩
  M_bound := by
    rintro w base ok x cs ⟨c0, c1, rfl, h0, h1⟩
    refine ⟨c0, c1, rfl, a.M_mono ?_ (a.M_bound h0), b.M_mono ?_ (b.M_bound h1)⟩
    · rintro k ⟨h2, h3, h4, q, hq, hc⟩
      exact ⟨h2, h3, h4, q, List.mem_append_left _ hq, hc⟩
    · rintro k ⟨h2, h3, h4, q, hq, hc⟩
      exact ⟨h2, h3, h4, q, List.mem_append_right _ hq, hc⟩
  M_move := by
    rintro w w1 base ok x cs hm ⟨c0, c1, rfl, h0, h1⟩
    exact ⟨c0, c1, rfl, a.M_move hm h0, b.M_move hm h1⟩
  M_lower := by
    rintro w base base' ok x cs hb ⟨c0, c1, rfl, h0, h1⟩
    exact ⟨c0, c1, rfl, a.M_lower hb h0, b.M_lower hb h1⟩
/-- A Lean structure by its fields. -/
def iso {α β : Type} (d : Kd α) (f : β → α) : Kd β where
  sz := d.sz
  E := d.E
  K := fun w x cs => d.K w (f x) cs
  M := fun w base ok x cs => d.M w base ok (f x) cs
  K_len := d.K_len
  K_one := d.K_one
  K_below := d.K_below
  K_of_M := d.K_of_M
  M_mono := d.M_mono
  M_bound := d.M_bound
  M_move := d.M_move
  M_lower := d.M_lower
/-- Nothing is of this kind: where the nesting's depth is used up. -/
def bot {α : Type} (sz : Nat) (E : List Nat) : Kd α where
  sz := sz
  E := E
  K := fun _ _ _ => False
  M := fun _ _ _ _ _ => False
  K_len := fun h => h.elim
  K_one := fun h => h.elim
  K_below := fun _ h => h
  K_of_M := fun h => h
  M_mono := fun _ h => h
  M_bound := fun h => h
  M_move := fun _ h => h
  M_lower := fun _ h => h
/-- A type nested in itself: nested at most n deep .. -/
def upto {α : Type} (F : Kd α → Kd α) (sz : Nat) (E : List Nat) : Nat → Kd α
  | 0 => bot sz E
  | n + 1 => F (upto F sz E n)
/-! #### an element of a row that is read; an element appended -/
theorem C_get {α : Type} {d : Kd α} {w : World} {A : Option Addr} {n : Nat} {xs : List α} (h : d.C w A n xs) (z : α) (i : Int) (h0 : 0 ≤ i) (h1 : i < n) :
    ∃ ad c, A = some ad ∧ c.length = d.sz ∧ d.K w (xs.getD i.toNat z) c ∧ ∀ j u, c[j]? = some u → w.cell? (ad.add (i.toNat * d.sz + j)) = some u := ReadsRow.get_ h z i h0 h1
/-- What an append leaves: the old elements' rows and the new one's are not the new row's block. -/
theorem R_appended {α : Type} {d : Kd α} {e base : Nat} {ok okp : Nat → Prop} {W w1 : World} {v v1 : Value} {xs : List α} {p : α} {inner cs : List Value} (h0 : ∀ k, v.ownBlock = some k → ok k) (hr : Reps (d.M W base (fun k => ok k ∧ some k ≠ v.ownBlock)) d.sz xs inner) (hp : d.M W base okp p cs) (hokp : ∀ k, okp k → ok k ∧ some k ≠ v.ownBlock) (hfresh : ∀ k, W.heap.size ≤ k → ok k)
    (hown : w1.ownsRow base e d.sz v1 (xs.length + 1) (inner ++ cs)) (hg : W.grownBy w1 v.ownBlock) (hat : v1.ownBlock = v.ownBlock ∨ ∃ b, v1.ownBlock = some b ∧ W.heap.size ≤ b) : d.R e w1 base ok v1 (xs ++ [p]) := by
  have hne : ∀ k, some k ≠ v.ownBlock → k < W.heap.size → some k ≠ v1.ownBlock := by
    intro k hk hlt
    rcases hat with hat | ⟨b, hb, hle⟩
    · rw [hat]; exact hk
    · rw [hb]
      intro he
      injection he with he
      omega
  have step : ∀ {q : α} {c : List Value} {o : Nat → Prop}, d.M W base o q c → (∀ k, o k → ok k ∧ some k ≠ v.ownBlock) → d.M w1 base (fun k => ok k ∧ some k ≠ v1.ownBlock) q c := by
    intro q c o hq ho
    have h1 := d.M_move (w1 := w1) (fun k hk => hg.block k hk.2.2.1 (ho k hk.1).2) (d.M_bound hq)
    exact d.M_mono (fun k hk => ⟨(ho k hk.1).1, hne k (ho k hk.1).2 hk.2.2.1⟩) h1
  refine ⟨fun k hk => ?_, inner ++ cs, by rw [List.length_append, List.length_singleton]; exact hown, ?_⟩
  · rcases hat with hat | ⟨b, hb, hle⟩
    · exact h0 k (hat ▸ hk)
    · rw [hb] at hk
      injection hk with hk
      exact hfresh k (by omega)
  · exact (hr.imp_ (fun _ _ hq => step hq (fun _ hk => hk))).snoc (step hp hokp) (d.K_len (d.K_of_M hp))
section
variable {P : Program} {ops : Array Oper} {rest : List Oper} {o : Oper} {a : Act} {Q : Exit → Act → World → Prop} {α : Type}
/-- append(v, x), behind 'at_builtin'; the goal's world is 'W.alloc' of the variadic's box; x's cells are cs, made (its rows satisfy okp). hfresh: a block that is new at W is ok. -/
theorem R_append (d : Kd α) {w0 W : World} (base : Nat) (hgd : o.guard = none) (s x : Operand) (t e : TypeId) (z : Value) (bytes : Nat)
    (ho : o.op = .call { callee := .builtin .append, args := #[s, x], argTypes := #[t, t] })
    (ht : P.underlying t = some (.slice e)) (hinfo : (P.info? e).map (fun i => (i.zero, i.size, i.bytes)) = some (some z, d.sz, bytes)) (hz : z.cells.size = d.sz) (hs0 : 0 < d.sz) (hb0 : 0 < bytes)
    (v : Value) (xs : List α) (p : α) (cs : List Value) (ok okp : Nat → Prop) (hs : a.eval s = v) (hx : a.eval x = .slice (some ⟨W.heap.size, 0, none⟩) 1 1) (hp : d.M W base okp p cs) (hokp : ∀ k, okp k → ok k ∧ some k ≠ v.ownBlock) (hfresh : ∀ k, W.heap.size ≤ k → ok k)
    (HO : d.R e W base ok v xs) (HB : Below base w0 W) (hbase : base ≤ W.heap.size) (hl : (xs.length + 1) * bytes ≤ 140737488355328)
    (h : ∀ v1 w1, d.R e w1 base ok v1 (xs ++ [p]) → Below base w0 w1 → W.grownBy w1 v.ownBlock → (v1.ownBlock = v.ownBlock ∨ ∃ b, v1.ownBlock = some b ∧ W.heap.size ≤ b) → wpList P ops Q rest (a.put o.dst v1) w1) :
    wpList P ops Q (o :: rest) a (W.alloc (.cells cs.toArray e)) := by
  obtain ⟨h0, inner, hown, hr⟩ := HO
  refine print_append_cells base hgd s x t e z d.sz bytes ho ht hinfo hz hs0 hb0 v xs.length inner cs hs hx (d.K_len (d.K_of_M hp)) (d.K_one (d.K_of_M hp)) hown HB hbase hl ?_
  intro v1 w1 hown1 hb1 hg1 hat1
  exact h v1 w1 (R_appended h0 hr hp hokp hfresh hown1 hg1 hat1) hb1 hg1 hat1
end
section
variable {P : Program} {ops : Array Oper} {o : Oper} {a : Act} {Q : Exit → Act → World → Prop} {Kc : Act → World → Prop} {α : Type}
end
/-- A row of scalars is the elder form. -/
theorem reps_scalar {α : Type} {enc : α → Value} (xs : List α) : Reps (fun (x : α) (cs : List Value) => cs = [enc x]) 1 xs (encs enc xs) := by
  refine ⟨by simp [encs], fun j p hj => ?_⟩
  obtain ⟨hl, hp⟩ := List.getElem?_eq_some_iff.1 hj
  have hl' : j < (encs enc xs).length := by rw [encs_length]; exact hl
  rw [Nat.mul_one, List.drop_eq_getElem_cons hl']
  simp [encs, hp]
theorem R_of_own {α : Type} {enc : α → Value} {h1 : ∀ x, (enc x).oneCell' = true} {e : Nat} {w : World} {base : Nat} {ok : Nat → Prop} {v : Value} {xs : List α} (ho : w.ownsRow base e 1 v xs.length (encs enc xs)) (hok : ∀ k, v.ownBlock = some k → ok k) : (scalar enc h1).R e w base ok v xs := ⟨hok, encs enc xs, ho, reps_scalar xs⟩
theorem own_of_R {α : Type} {enc : α → Value} {h1 : ∀ x, (enc x).oneCell' = true} {e : Nat} {w : World} {base : Nat} {ok : Nat → Prop} {v : Value} {xs : List α} (h : (scalar enc h1).R e w base ok v xs) : w.ownsRow base e 1 v xs.length (encs enc xs) := by
  obtain ⟨_, inner, ho, hr⟩ := h
  have : inner = encs enc xs := by
    apply List.ext_getElem?
    intro j
    rcases Nat.lt_or_ge j xs.length with hj | hj
    · have h2 := hr.2 j _ (List.getElem?_eq_getElem hj)
      have hl : j < inner.length := by have := hr.1; simp [scalar] at this; omega
      have h3 : (inner.drop (j * 1)).take 1 = [enc xs[j]] := h2
      rw [Nat.mul_one, List.drop_eq_getElem_cons hl] at h3
      have h4 : inner[j] = enc xs[j] := by
        have h5 := congrArg List.head? h3
        rw [List.take_succ_cons] at h5
        exact Option.some.inj h5
      rw [List.getElem?_eq_getElem hl, h4]
      simp [encs, List.getElem?_eq_getElem hj]
    · have h3 : inner.length = xs.length := by have := hr.1; simp [scalar] at this; omega
      rw [List.getElem?_eq_none (by omega), List.getElem?_eq_none (by rw [encs_length]; omega)]
  rw [← this]
  exact ho
theorem reads_of_C {α : Type} {enc : α → Value} {d : α} {h1 : ∀ x, (enc x).oneCell' = true} {w : World} {A : Option Addr} {n : Nat} {xs : List α} (h : (scalar enc h1).C w A n xs) : ReadsOf enc d w A n xs := by
  refine ⟨h.1, h.2.1, fun hn => ?_⟩
  obtain ⟨ad, e, hc⟩ := h.2.2 hn
  refine ⟨ad, e, fun j hj => ?_⟩
  have hl : j < xs.length := by have := h.1; omega
  obtain ⟨c, _, hK, hcell⟩ := hc j _ (List.getElem?_eq_getElem hl)
  have hK' : c = [enc xs[j]] := hK
  subst hK'
  have := hcell 0 _ rfl
  simpa [scalar, List.getD_eq_getElem?_getD, List.getElem?_eq_getElem hl] using this
end Kd
/-! ### 24. Kinds nested in themselves -/
namespace Kd
section
variable {α : Type} {F : Kd α → Kd α} {sz : Nat} {E : List Nat} {hs : ∀ n, (upto F sz E n).sz = sz} {hE : ∀ n q, q ∈ (upto F sz E n).E → q ∈ E}
end
end Kd
/-! ### 25. What is held while another row is written: 'ok' says that its rows are none of that row's block -/
namespace Kd
/-- Behind an append to v (it left v1): what is held apart from v is held apart from v1. -/
theorem R_after {α : Type} {d : Kd α} {e base : Nat} {ok : Nat → Prop} {W w1 : World} {u v v1 : Value} {xs : List α} (h : d.R e W base (fun k => ok k ∧ some k ≠ v.ownBlock) u xs) (hg : W.grownBy w1 v.ownBlock) (hat : v1.ownBlock = v.ownBlock ∨ ∃ b, v1.ownBlock = some b ∧ W.heap.size ≤ b) : d.R e w1 base (fun k => ok k ∧ some k ≠ v1.ownBlock) u xs := by
  refine R_mono (R_move (R_bound h) (fun k hk => hg.block k hk.2.2.1 hk.1.2)) (fun k hk => ⟨hk.1.1, ?_⟩)
  rcases hat with hat | ⟨b, hb, hle⟩
  · rw [hat]; exact hk.1.2
  · rw [hb]
    intro he
    injection he with he
    have := hk.2.2.1
    omega
end Kd
/-! ### 26. Words for a printer that takes every slice by its kind -/
namespace Kd
section
variable {α β : Type} {d : Kd α} {d' : Kd β} {e e' : Nat} {w w1 W : World} {base b b' : Nat} {ok ok' okv oku : Nat → Prop} {v u : Value} {xs : List α} {ys : List β}
theorem R_alloc (h : d.R e w base ok v xs) (o : Obj) : d.R e (w.alloc o) base ok v xs := R_below h (below_alloc (Below.refl _ _) o)
theorem R_drew (h : d.R e w base ok v xs) : d.R e w.drew base ok v xs := R_below h (below_drew (Below.refl _ _))
theorem R_drewN (h : d.R e w base ok v xs) (m : Nat) : d.R e (w.drewN m) base ok v xs := R_below h (pw_below_drewN (Below.refl _ _) m)
theorem C_alloc {A : Option Addr} {n : Nat} (h : d.C w A n xs) (o : Obj) : d.C (w.alloc o) A n xs := C_below h (below_alloc (Below.refl _ _) o)
theorem C_drew {A : Option Addr} {n : Nat} (h : d.C w A n xs) : d.C w.drew A n xs := C_below h (below_drew (Below.refl _ _))
theorem C_drewN {A : Option Addr} {n : Nat} (h : d.C w A n xs) (m : Nat) : d.C (w.drewN m) A n xs := C_below h (pw_below_drewN (Below.refl _ _) m)
theorem C_nil (d : Kd α) (w : World) : d.C w none ([] : List α).length [] := ⟨rfl, by simp, fun h => absurd h (Nat.lt_irrefl 0)⟩
theorem C_max {A : Option Addr} {n : Nat} (h : d.C w A n xs) : n ≤ 9223372036854775807 := h.2.1
theorem R_reads' {A : Option Addr} {n c : Nat} (h : d.R e w base ok (.slice A n c) xs) : n = xs.length ∧ n ≤ c ∧ d.C w A xs.length xs := by
  obtain ⟨A', c', he, hl, hr⟩ := R_reads h
  injection he with h1 h2 h3
  subst h1
  exact ⟨h2, by omega, hr⟩
theorem R_lt (h : d.R e w base ok v xs) : ∀ k, v.ownBlock = some k → k < w.heap.size := by
  obtain ⟨inner, ho⟩ := R_own h
  exact own_lt ho
theorem R_base (h : d.R e w base ok v xs) : ∀ k, v.ownBlock = some k → base ≤ k := by
  obtain ⟨inner, ho⟩ := R_own h
  exact own_base ho
theorem R_form (h : d.R e w base ok v xs) (hp : 0 < xs.length) : ∃ g cap, v = .slice (some ⟨g, 0, none⟩) xs.length cap ∧ base ≤ g ∧ g < w.heap.size ∧ ∃ cells, w.heap[g]? = some (.cells cells e (0, 0)) := by
  obtain ⟨inner, ho⟩ := R_own h
  obtain ⟨g, cap, he, hb, hl⟩ := ho.form hp
  obtain ⟨cells, hc⟩ := own_typed ho g (by rw [he]; simp [Value.ownBlock])
  exact ⟨g, cap, he, hb, hl, cells, hc⟩
end
/-! #### scalars -/
section
variable {w W : World} {A : Option Addr} {n : Nat}
theorem at_int {k : IntKind} {xs : List Int} (h : (Kd.int k).C w A n xs) (i : Int) (h0 : 0 ≤ i) (h1 : i < n) : ∃ ad, A = some ad ∧ w.cell? (ad.add i.toNat) = some (.int k (rd xs i)) :=
  ReadsOf.at_ (reads_of_C (enc := Value.int k) (d := (0 : Int)) (h1 := fun _ => rfl) h) i h0 h1
variable {α : Type} {enc : α → Value} {h1 : ∀ x, (enc x).oneCell' = true} {e base g cap : Nat} {ok : Nat → Prop} {xs : List α}
theorem R_cell (d : α) (h : (scalar enc h1).R e W base ok (.slice (some ⟨g, 0, none⟩) xs.length cap) xs) (i : Int) (h0 : 0 ≤ i) (hi : i < xs.length) : W.cell? ⟨g, i.toNat, none⟩ = some (enc (rdOf d xs i)) ∧ W.frozen? ⟨g, i.toNat, none⟩ = false := own_at_of (own_of_R h) i h0 hi
theorem R_put (h : (scalar enc h1).R e W base ok (.slice (some ⟨g, 0, none⟩) xs.length cap) xs) (i : Int) (x : α) : (scalar enc h1).R e (W.setCell ⟨g, i.toNat, none⟩ (enc x)) base ok (.slice (some ⟨g, 0, none⟩) xs.length cap) (xs.set i.toNat x) ∧ W.grownBy (W.setCell ⟨g, i.toNat, none⟩ (enc x)) (some g) := by
  obtain ⟨ho, hg⟩ := own_store_of (own_of_R h) i x
  exact ⟨R_of_own (by rw [List.length_set]; exact ho) h.1, hg⟩
end

/-! #### events: a letter for what make and a literal leave -/
section
variable {P : Program} {ops : Array Oper} {rest : List Oper} {o : Oper} {a : Act} {Q : Exit → Act → World → Prop}
theorem event_run {W w1 : World} {v : Value} (hgd : o.guard = none) (hrun : (execOp a.eval o).run P W = .ok (.value v) w1) (h : wpList P ops Q rest (a.put o.dst v) w1) : wpList P ops Q (o :: rest) a W := by
  refine wpList_plain hgd fun K hK => ?_
  unfold Oper.wp
  rw [hrun]
  exact hK _ _ h
variable {α : Type}
/-- A literal '[]T{..}': inner its cells. 'hd' picks the operation; 'hrun' by '(by go_simp; rfl)'. -/
theorem R_lit (d : Kd α) {w0 W : World} (base e : Nat) (hgd : o.guard = none) {N : Tmp} (_hd : o.dst = some N) {xs : List α} {inner : List Value} {ok okp : Nat → Prop}
    (hrun : (execOp a.eval o).run P W = .ok (.value (.slice (some ⟨W.heap.size, 0, none⟩) xs.length xs.length)) (W.alloc (.cells inner.toArray e)))
    (hrep : Reps (d.M W base okp) d.sz xs inner) (hok : ∀ k, okp k → ok k) (hfresh : ok W.heap.size) (HB : Below base w0 W) (hbase : base ≤ W.heap.size) (hm : xs.length ≤ 9223372036854775807)
    (h : ∀ v1 w1, d.R e w1 base ok v1 xs → Below base w0 w1 → W.grownBy w1 none → (∃ b, v1.ownBlock = some b ∧ W.heap.size ≤ b) → wpList P ops Q rest (a.put o.dst v1) w1) : wpList P ops Q (o :: rest) a W := by
  refine event_run hgd hrun (h _ _ ⟨fun k hk => ?_, inner, ?_, ?_⟩ (HB.alloc hbase _) (World.grownBy_alloc W _ none) ⟨W.heap.size, by simp [Value.ownBlock], Nat.le_refl _⟩)
  · have : W.heap.size = k := by simpa [Value.ownBlock] using hk
    subst this
    exact hfresh
  · have h2 := World.ownsRow_lit (base := base) (e := e) (size := d.sz) W inner.toArray xs.length hbase (by simpa [maxLen] using hm) (by simpa using hrep.1)
    simpa using h2
  · refine hrep.imp_ (fun p c hp => d.M_mono (fun k hk => ⟨hok k hk.1, fun he => ?_⟩) (M_below (d.M_bound hp) (below_alloc (Below.refl _ _) _)))
    have h3 : k = W.heap.size := by simpa [Value.ownBlock] using he
    have := hk.2.2.1
    omega
theorem reps_made {α : Type} {R : α → List Value → Prop} {z : Value} {size : Nat} {z0 : α} (hz : z.cells.size = size) (hs : 0 < size) (h0 : R z0 z.cells.toList) (m : Nat) : Reps R size (List.replicate m z0) (madeCells z.cells (m * size)).toList := by
  refine ⟨by simp [size_madeCells], fun j p hj => ?_⟩
  obtain ⟨hjl, hp⟩ := List.getElem?_eq_some_iff.1 hj
  have hjm : j < m := by simpa using hjl
  have hp' : z0 = p := by simpa using hp
  subst hp'
  have hle : j * size + size ≤ m * size := by rw [← Nat.succ_mul]; exact Nat.mul_le_mul_right _ hjm
  have : ((madeCells z.cells (m * size)).toList.drop (j * size)).take size = z.cells.toList := by
    apply List.ext_getElem
    · simp [size_madeCells, hz]
      omega
    · intro i h1 h2
      have hi : i < size := by rw [Array.length_toList, hz] at h2; exact h2
      have hmod : (j * size + i) % size = i := by
        rw [Nat.mul_comm, Nat.mul_add_mod]
        exact Nat.mod_eq_of_lt hi
      simp [madeCells, hz, hmod]
      rw [getElem!_pos z.cells i (by omega)]
  rw [this]
  exact h0
/-- make([]T, n): every element is z0, whose cells are the type's zero's. -/
theorem R_make (d : Kd α) {w0 W : World} (base e : Nat) (hgd : o.guard = none) {N : Tmp} (hd : o.dst = some N) (t : TypeId) (x y : Operand) (ho : o.op = .makeSlice t x y) (n : Int) (hx : a.eval x = .int .i64 n) (hy : a.eval y = .int .i64 n)
    (ht : P.underlying t = some (.slice e)) (z : Value) (bytes : Nat) (hinfo : (P.info? e).map (fun i => (i.zero, i.size, i.bytes)) = some (some z, d.sz, bytes)) (hz : z.cells.size = d.sz) (hs0 : 0 < d.sz) (hb0 : 0 < bytes)
    (z0 : α) {ok okp : Nat → Prop} (hzero : d.M W base okp z0 z.cells.toList) (hok : ∀ k, okp k → ok k) (hfresh : ok W.heap.size) (h0 : 0 ≤ n) (hl : n.toNat * bytes ≤ 281474976710656) (HB : Below base w0 W) (hbase : base ≤ W.heap.size)
    (h : ∀ v1 w1, d.R e w1 base ok v1 (List.replicate n.toNat z0) → Below base w0 w1 → W.grownBy w1 none → (∃ b, v1.ownBlock = some b ∧ W.heap.size ≤ b) → wpList P ops Q rest (a.put o.dst v1) w1) : wpList P ops Q (o :: rest) a W := by
  obtain ⟨m, rfl⟩ := Int.eq_ofNat_of_zero_le h0
  simp only [Int.toNat_natCast] at hl h
  obtain ⟨i0, hi, hzz⟩ := Option.map_eq_some_iff.1 hinfo
  simp only [Prod.mk.injEq] at hzz
  obtain ⟨hz0, hz1, hz2⟩ := hzz
  have hm : m ≤ 281474976710656 := Nat.le_trans (Nat.le_mul_of_pos_right _ hb0) hl
  have hr := run_make (P := P) W t e i0 z ht hi hz0 .i64 .i64 (m : Int) (m : Int) (by omega) (by omega)
    (by
      have h3 : ((i0.bytes * m : Nat) : Int) ≤ 281474976710656 := by rw [hz2, Nat.mul_comm]; omega
      rwa [Int.natCast_mul] at h3) (by omega)
  simp only [Int.toNat_natCast] at hr
  rw [hz1] at hr
  refine R_lit d base e hgd hd (xs := List.replicate m z0) (inner := (madeCells z.cells (m * d.sz)).toList) (okp := okp) (ok := ok) ?_ (reps_made hz hs0 hzero m) hok hfresh HB hbase (by simp; omega) h
  simp [execOp, ho, hx, hy, hr]
end
end Kd
section
variable {P : Program}
end
/-- A row of one's own that may begin inside its block. -/
def QRow (w : World) (base : Nat) (e : TypeId) (size : Nat) (v : Value) (n : Nat) (xs : List Value) : Prop :=
  xs.length = n * size ∧
  ((n = 0 ∧ ∃ A, v = .slice A 0 0 ∧ ∀ a, A = some a → base ≤ a.block ∧ ∃ cur, w.heap[a.block]? = some (.cells cur e (0, 0))) ∨
   ∃ g off cap cur, v = .slice (some ⟨g, off * size, none⟩) n cap ∧ base ≤ g ∧ w.heap[g]? = some (.cells cur e (0, 0)) ∧ n ≤ cap ∧ off + cap ≤ maxLen ∧ cur.size = (off + cap) * size ∧ (cur.toList.drop (off * size)).take (n * size) = xs)
section
variable {w w1 : World} {base n size : Nat} {e : TypeId} {v : Value} {xs : List Value}
theorem q_of_own (h : w.ownsRow base e size v n xs) : QRow w base e size v n xs := by
  obtain ⟨h1, h2⟩ := h
  refine ⟨h1, ?_⟩
  rcases h2 with ⟨rfl, h0⟩ | ⟨g, cap, cur, rfl, hb, hh, hnc, hcm, hcs, ht⟩
  · exact .inl ⟨h0, none, rfl, fun a ha => by cases ha⟩
  · exact .inr ⟨g, 0, cap, cur, by rw [Nat.zero_mul], hb, hh, hnc, by rw [Nat.zero_add]; exact hcm, by rw [Nat.zero_add]; exact hcs, by rw [Nat.zero_mul, List.drop_zero]; exact ht⟩
theorem add_at (g o j : Nat) : (⟨g, o, none⟩ : Addr).add j = ⟨g, o + j, none⟩ := by unfold Addr.add; split <;> simp_all
/-- What a run of cells written leaves. -/
theorem setCells_far {g : Nat} : ∀ (vs : List Value) (o : Nat) {w : World} (k : Nat), k ≠ g → (w.setCells g o vs).heap[k]? = w.heap[k]?
  | [], _, _, _, _ => rfl
  | v :: r, o, w, k, hk => by
    rw [World.setCells, setCells_far r (o + 1) k hk]
    exact Below.heap_setCell w ⟨g, o, none⟩ v k hk
theorem setCells_same (g : Nat) : ∀ (vs : List Value) (o : Nat) (w : World), (w.setCells g o vs).os = w.os ∧ (w.setCells g o vs).tape = w.tape ∧ (w.setCells g o vs).output = w.output ∧ (w.setCells g o vs).heap.size = w.heap.size
  | [], _, _ => ⟨rfl, rfl, rfl, rfl⟩
  | v :: r, o, w => by
    obtain ⟨h1, h2, h3, h4⟩ := setCells_same g r (o + 1) (w.setCell ⟨g, o, none⟩ v)
    rw [World.setCells]
    exact ⟨h1, h2, h3, by rw [h4]; simp [World.setCell]⟩
theorem setCells_row {g : Nat} {e : TypeId} : ∀ (vs : List Value) (o : Nat) (w : World) (cur : Array Value), w.heap[g]? = some (.cells cur e (0, 0)) → o + vs.length ≤ cur.size →
    ∃ cur', (w.setCells g o vs).heap[g]? = some (.cells cur' e (0, 0)) ∧ cur'.size = cur.size ∧ cur'.toList = cur.toList.take o ++ vs ++ cur.toList.drop (o + vs.length)
  | [], o, w, cur, h, _ => ⟨cur, h, rfl, by simp⟩
  | v :: r, o, w, cur, h, hl => by
    have h2 := blk_set h o v
    simp only [List.length_cons] at hl
    obtain ⟨cur', h3, h4, h5⟩ := setCells_row r (o + 1) (w.setCell ⟨g, o, none⟩ v) _ h2 (by simp; omega)
    refine ⟨cur', h3, by rw [h4]; simp, ?_⟩
    rw [h5, Array.toList_setIfInBounds]
    have ho : o < cur.toList.length := by rw [Array.length_toList]; omega
    rw [List.take_set, List.drop_set_of_lt (by omega)]
    simp only [List.length_cons]
    rw [show o + 1 + r.length = o + (r.length + 1) by omega]
    congr 1
    rw [List.take_succ_eq_append_getElem ho, List.set_append_right _ _ (by rw [List.length_take]; omega)]
    have ho' : o < cur.size := by omega
    simp [Nat.min_eq_left (Nat.le_of_lt ho')]
end
section
variable {P : Program}
end
/-! ### 28. The kinds' words for cuts: R_take; Q (a row that may begin inside its block) with all of R's movers -/
namespace Kd
def Q {α : Type} (d : Kd α) (e : Nat) (w : World) (base : Nat) (ok : Nat → Prop) (v : Value) (xs : List α) : Prop :=
  (∀ k, v.ownBlock = some k → ok k) ∧ ∃ inner, QRow w base e d.sz v xs.length inner ∧ Reps (d.M w base (fun k => ok k ∧ some k ≠ v.ownBlock)) d.sz xs inner
section
variable {α : Type} {d : Kd α} {e : Nat} {w w1 W : World} {base : Nat} {ok ok' : Nat → Prop} {v : Value} {xs : List α}
theorem Q_of_R (h : d.R e w base ok v xs) : d.Q e w base ok v xs := by
  obtain ⟨h0, inner, ho, hr⟩ := h
  exact ⟨h0, inner, q_of_own ho, hr⟩
theorem Q_nil (d : Kd α) (e : Nat) (w : World) (base : Nat) (ok : Nat → Prop) : d.Q e w base ok (.slice none 0 0) [] := Q_of_R (R_nil d e w base ok)
end
section
variable {P : Program} {ops : Array Oper} {rest : List Oper} {o : Oper} {a : Act} {Q' : Exit → Act → World → Prop} {Kc : Act → World → Prop} {α : Type}
end
end Kd
/-! ### 29. Movers that ask of another row no more than they need: for R and for Q -/
namespace Kd
section
variable {α : Type} {d : Kd α} {e e' : Nat} {w w1 W : World} {base : Nat} {ok : Nat → Prop} {u v : Value} {xs : List α}
theorem R_typed (h : d.R e w base ok v xs) : ∀ k, v.ownBlock = some k → ∃ cells, w.heap[k]? = some (.cells cells e (0, 0)) := by
  obtain ⟨inner, ho⟩ := R_own h
  exact fun k hk => own_typed ho k hk
theorem R_apart' (h : d.R e W base ok u xs) (hty : ∀ k, v.ownBlock = some k → ∃ cells, W.heap[k]? = some (.cells cells e' (0, 0))) (ht : ∀ q, q ∈ e :: d.E → q ≠ e') : d.R e W base (fun k => ok k ∧ some k ≠ v.ownBlock) u xs := by
  refine R_mono (R_bound h) (fun k hk => ⟨hk.1, fun he => ?_⟩)
  obtain ⟨_, _, _, q, hq, cells, hc⟩ := hk
  obtain ⟨cells', hc'⟩ := hty k he.symm
  rw [hc] at hc'
  injection hc' with hc'
  injection hc' with _ hc'
  exact ht q hq hc'
theorem R_elder' (hu : d.R e W base ok u xs) (hbase : ∀ k, v.ownBlock = some k → W.heap.size ≤ k) (hb : Below W.heap.size W w1) : d.R e w1 base (fun k => ok k ∧ some k ≠ v.ownBlock) u xs :=
  R_mono (R_move (R_bound hu) (fun k hk => hb.block k hk.2.2.1)) (fun k hk => ⟨hk.1, fun he => by have := hbase k he.symm; have := hk.2.2.1; omega⟩)
theorem R_new' (h : d.R e w1 W.heap.size ok v xs) (hlt : ∀ k, u.ownBlock = some k → k < W.heap.size) : d.R e w1 W.heap.size (fun k => ok k ∧ some k ≠ u.ownBlock) v xs :=
  R_mono (R_bound h) (fun k hk => ⟨hk.1, fun he => by have := hlt k he.symm; have := hk.2.1; omega⟩)

theorem fresh' (hlt : ∀ k, u.ownBlock = some k → k < W.heap.size) : ∀ k, W.heap.size ≤ k → some k ≠ u.ownBlock := fun k hk he => by have := hlt k he.symm; omega
end
end Kd
/-! ### 30. Elements written: x[i] = T{..}, x[i].f = v, swaps, in a row of elements of any kind -/
theorem seg_get {α : Type} (a seg : List α) (o : Nat) (h : o + seg.length ≤ a.length) (q : Nat) :
    (a.take o ++ seg ++ a.drop (o + seg.length))[q]? = if q < o then a[q]? else if q < o + seg.length then seg[q - o]? else a[q]? := by
  have hl : (a.take o).length = o := by rw [List.length_take]; omega
  rw [List.append_assoc]
  by_cases h1 : q < o
  · rw [if_pos h1, List.getElem?_append_left (by omega), List.getElem?_take, if_pos h1]
  · rw [if_neg h1, List.getElem?_append_right (by omega), hl]
    by_cases h2 : q < o + seg.length
    · rw [if_pos h2, List.getElem?_append_left (by omega)]
    · rw [if_neg h2, List.getElem?_append_right (by omega), List.getElem?_drop]
      congr 1
      omega
namespace Kd
section
variable {α : Type} {d : Kd α} {e base g n cap : Nat} {ok okp : Nat → Prop} {W : World} {xs : List α}
/-- Element i of a row of one's own: its cells. -/
theorem R_elem (h : d.R e W base ok (.slice (some ⟨g, 0, none⟩) n cap) xs) (z : α) (i : Int) (h0 : 0 ≤ i) (h1 : i < n) :
    ∃ c, c.length = d.sz ∧ d.M W base (fun k => ok k ∧ k ≠ g) (xs.getD i.toNat z) c ∧ (∀ j u, c[j]? = some u → W.cell? ⟨g, i.toNat * d.sz + j, none⟩ = some u) ∧ ∀ j, W.frozen? ⟨g, i.toNat * d.sz + j, none⟩ = false := by
  obtain ⟨hn, hnc, hC⟩ := R_reads' h
  obtain ⟨_, inner, ho, hr⟩ := h
  have hil : i.toNat < xs.length := by omega
  have hseg : i.toNat * d.sz + d.sz ≤ inner.length := by rw [hr.1, ← Nat.succ_mul]; exact Nat.mul_le_mul_right _ hil
  have hM := hr.2 i.toNat _ (List.getElem?_eq_getElem hil)
  refine ⟨(inner.drop (i.toNat * d.sz)).take d.sz, by rw [List.length_take, List.length_drop]; omega, ?_, fun j u hu => ?_, fun j => ?_⟩
  · rw [List.getD_eq_getElem?_getD, List.getElem?_eq_getElem hil]
    exact d.M_mono (fun k hk => ⟨hk.1, fun he => hk.2 (by rw [he]; simp [Value.ownBlock])⟩) hM
  · rw [List.getElem?_take] at hu
    split at hu
    · rw [List.getElem?_drop] at hu
      have := ho.cells (g := g) (by simp [Value.ownBlock]) _ u hu
      rwa [add_plain] at this
    · cases hu
  · obtain ⟨cells, hc⟩ := own_typed ho g (by simp [Value.ownBlock])
    exact blk_frozen hc _
/-- A run of cells of element i is written: element i is x' then. c: the element's cells before (R_elem). -/
theorem R_seg (h : d.R e W base ok (.slice (some ⟨g, 0, none⟩) n cap) xs) (i : Int) (h0 : 0 ≤ i) (h1 : i < n) {c seg : List Value} {j : Nat} (hcl : c.length = d.sz) (hcc : ∀ j u, c[j]? = some u → W.cell? ⟨g, i.toNat * d.sz + j, none⟩ = some u)
    (hj : j + seg.length ≤ d.sz) {x' : α} (hM : d.M W base okp x' (c.take j ++ seg ++ c.drop (j + seg.length))) (hokp : ∀ k, okp k → ok k ∧ k ≠ g) :
    d.R e (W.setCells g (i.toNat * d.sz + j) seg) base ok (.slice (some ⟨g, 0, none⟩) n cap) (xs.set i.toNat x') ∧ W.grownBy (W.setCells g (i.toNat * d.sz + j) seg) (some g) := by
  obtain ⟨hn, hnc, _⟩ := R_reads' h
  obtain ⟨hok, inner, ho, hr⟩ := h
  have hil : i.toNat < xs.length := by omega
  have hseg : i.toNat * d.sz + d.sz ≤ inner.length := by rw [hr.1, ← Nat.succ_mul]; exact Nat.mul_le_mul_right _ hil
  have hin : inner.length = n * d.sz := by rw [hr.1, hn]
  obtain ⟨ho1, ho2⟩ := ho
  rcases ho2 with ⟨hv, _⟩ | ⟨g', cap', cur, hv, hb, hh, hnc', hcm, hcs, ht⟩
  · cases hv
  injection hv with ha _ hc
  injection ha with ha
  injection ha with hg
  subst hg; subst hc
  have hfit : i.toNat * d.sz + j + seg.length ≤ cur.size := by
    have : n * d.sz ≤ cap * d.sz := Nat.mul_le_mul_right _ hnc
    omega
  obtain ⟨cur', h3, h4, h5⟩ := setCells_row seg (i.toNat * d.sz + j) W cur hh hfit
  obtain ⟨s1, s2, s3, s4⟩ := setCells_same g seg (i.toNat * d.sz + j) W
  have hfar : ∀ k, k ≠ g → (W.setCells g (i.toNat * d.sz + j) seg).heap[k]? = W.heap[k]? := fun k hk => setCells_far seg _ k hk
  -- the element's cells before are what was read
  have hcin : ∀ q, q < d.sz → c[q]? = inner[i.toNat * d.sz + q]? := by
    intro q hq
    have hq' : q < c.length := by omega
    have h6 := hcc q _ (List.getElem?_eq_getElem hq')
    rw [cell_of_row W g _ cur e (0, 0) hh] at h6
    rw [List.getElem?_eq_getElem hq', ← h6, ← ht, List.getElem?_take, if_pos (by rw [← hn]; omega), Array.getElem?_toList]
  refine ⟨⟨hok, inner.take (i.toNat * d.sz + j) ++ seg ++ inner.drop (i.toNat * d.sz + j + seg.length), ⟨?_, .inr ⟨g, cap, cur', by rw [List.length_set, hn], hb, h3, by rw [List.length_set, ← hn]; exact hnc, hcm, by rw [h4, hcs], ?_⟩⟩, ?_⟩,
    ⟨s1, s2, s3, by rw [s4]; exact Nat.le_refl _, fun k _ hk => hfar k (fun he => hk (by rw [he]))⟩⟩
  · rw [List.length_set]
    simp only [List.length_append, List.length_take, List.length_drop]
    rw [hr.1] at hseg ⊢
    omega
  · rw [List.length_set, ← hn]
    apply List.ext_getElem?
    intro q
    rw [List.getElem?_take, h5]
    rw [seg_get cur.toList seg (i.toNat * d.sz + j) (by rw [Array.length_toList]; omega) q, seg_get inner seg (i.toNat * d.sz + j) (by omega) q]
    have hcur : ∀ q, q < n * d.sz → cur.toList[q]? = inner[q]? := by
      intro q hq
      rw [← ht, List.getElem?_take, if_pos (by rw [← hn]; exact hq)]
    by_cases hq : q < n * d.sz
    · rw [if_pos hq, hcur q hq]
    · rw [if_neg hq, if_neg (by omega), if_neg (by omega), List.getElem?_eq_none (by omega)]
  · refine ⟨?_, fun m p hm => ?_⟩
    · rw [List.length_set]
      simp only [List.length_append, List.length_take, List.length_drop]
      rw [hr.1] at hseg ⊢
      omega
    · have hml : m < xs.length := by
        have := (List.getElem?_eq_some_iff.1 hm).1
        rwa [List.length_set] at this
      have hmfit : m * d.sz + d.sz ≤ inner.length := by rw [hr.1, ← Nat.succ_mul]; exact Nat.mul_le_mul_right _ hml
      have hgo : some g = (Value.slice (some ⟨g, 0, none⟩) n cap).ownBlock := by simp [Value.ownBlock]
      by_cases hmi : m = i.toNat
      · subst hmi
        rw [List.getElem?_set_self (by omega)] at hm
        injection hm with hm
        subst hm
        have hcells : ((inner.take (i.toNat * d.sz + j) ++ seg ++ inner.drop (i.toNat * d.sz + j + seg.length)).drop (i.toNat * d.sz)).take d.sz = c.take j ++ seg ++ c.drop (j + seg.length) := by
          apply List.ext_getElem?
          intro q
          rw [List.getElem?_take, List.getElem?_drop, seg_get inner seg _ (by omega), seg_get c seg j (by omega) q]
          by_cases hq : q < d.sz
          · rw [if_pos hq, hcin q hq]
            by_cases hq1 : q < j
            · rw [if_pos (by omega), if_pos hq1]
            · rw [if_neg (by omega), if_neg hq1]
              by_cases hq2 : q < j + seg.length
              · rw [if_pos (by omega), if_pos hq2]
                congr 1
                omega
              · rw [if_neg (by omega), if_neg hq2]
          · rw [if_neg hq, if_neg (by omega), if_neg (by omega), List.getElem?_eq_none (by omega)]
        rw [hcells]
        refine d.M_mono (fun k hk => ?_) (d.M_move (w1 := W.setCells g (i.toNat * d.sz + j) seg) (fun k hk => hfar k (hokp k hk).2) hM)
        exact ⟨(hokp k hk).1, fun he => (hokp k hk).2 (by rw [← hgo] at he; injection he)⟩
      · rw [List.getElem?_set_ne (by omega)] at hm
        have hold := hr.2 m p hm
        have hcells : ((inner.take (i.toNat * d.sz + j) ++ seg ++ inner.drop (i.toNat * d.sz + j + seg.length)).drop (m * d.sz)).take d.sz = (inner.drop (m * d.sz)).take d.sz := by
          apply List.ext_getElem?
          intro q
          rw [List.getElem?_take, List.getElem?_take, List.getElem?_drop, List.getElem?_drop, seg_get inner seg _ (by omega)]
          by_cases hq : q < d.sz
          · rw [if_pos hq, if_pos hq]
            rcases Nat.lt_or_gt_of_ne hmi with hlt | hgt
            · have : m * d.sz + d.sz ≤ i.toNat * d.sz := by rw [← Nat.succ_mul]; exact Nat.mul_le_mul_right _ hlt
              rw [if_pos (by omega)]
            · have : i.toNat * d.sz + d.sz ≤ m * d.sz := by rw [← Nat.succ_mul]; exact Nat.mul_le_mul_right _ hgt
              rw [if_neg (by omega), if_neg (by omega)]
          · rw [if_neg hq, if_neg hq]
        rw [hcells]
        refine d.M_move (fun k hk => hfar k (fun he => hk.2 (by rw [he]; exact hgo))) hold
end
end Kd
/-! ### 31. What came in, put into what is made: 'fixed d w0' (read in w0, whatever happens since), 'or_ a b', 'mix' (a slice that came in, or one that is made) -/
namespace Kd
section
variable {α : Type} {F : Kd α → Kd α} {sz : Nat} {E : List Nat} {hs : ∀ n, (upto F sz E n).sz = sz} {hE : ∀ n q, q ∈ (upto F sz E n).E → q ∈ E}
end
end Kd
/-! ### 32. A whole row appended, of elements of any kind; copy onto a row of scalars of one's own -/
namespace Kd
section
variable {P : Program} {ops : Array Oper} {rest : List Oper} {o : Oper} {a : Act} {Q : Exit → Act → World → Prop} {α : Type}
/-- copy(v, ys), v a row of scalars of one's own: its first cells are ys' then. -/
theorem R_copy {enc : α → Value} {h1 : ∀ x, (enc x).oneCell' = true} (d : α) {w0 W : World} (base : Nat) (hgd : o.guard = none) (s x : Operand) (t t' e : TypeId)
    (ho : o.op = .call { callee := .builtin .copy, args := #[s, x], argTypes := #[t, t'] }) (ht : P.underlying t = some (.slice e)) (hinfo : (P.info? e).map (·.size) = some 1)
    (v : Value) (xs ys : List α) (A : Option Addr) (m c : Nat) (ok : Nat → Prop) (hs : a.eval s = v) (hx : a.eval x = .slice A m c)
    (HO : (scalar enc h1).R e W base ok v xs) (HR : (scalar enc h1).C W A m ys) (HB : Below base w0 W) (hbase : base ≤ W.heap.size)
    (h : ∀ w1, (scalar enc h1).R e w1 base ok v (ys.take (min m xs.length) ++ xs.drop (min m xs.length)) → Below base w0 w1 → W.grownBy w1 v.ownBlock → wpList P ops Q rest (a.put o.dst (.int .i64 ((min m xs.length : Nat) : Int))) w1) :
    wpList P ops Q (o :: rest) a W := by
  have hR := reads_of_C (enc := enc) (d := d) (h1 := h1) HR
  have hm : ys.length = m := hR.1
  have hown := own_of_R HO
  have fin : ∀ w1, (Builtin.copy_ #[t, t'] o.type #[v, .slice A m c]).run P W = .ok (goInt ((min m xs.length : Nat) : Int)) w1 → (scalar enc h1).R e w1 base ok v (ys.take (min m xs.length) ++ xs.drop (min m xs.length)) → W.grownBy w1 v.ownBlock → wpList P ops Q (o :: rest) a W := by
    intro w1 hr hrow hg
    refine wpList_plain hgd fun K hK => ?_
    unfold Oper.wp execOp
    simp only [ho, resolve, invoke, builtin, Sem.run_bind, Sem.run_pure, Result.andThen_ok, List.map_toArray, List.map_cons, List.map_nil, hs, hx, hr]
    exact hK _ _ (h w1 hrow (HB.grown hg hbase (own_base hown)) hg)
  rcases Nat.eq_zero_or_pos (min m xs.length) with h0 | hp
  · obtain ⟨A', c', hv⟩ := own_slice hown
    refine fin W ?_ (by rw [h0, List.take_zero, List.drop_zero, List.nil_append]; exact HO) (World.grownBy.refl W _)
    rw [h0, hv]
    exact run_copy_none W t t' o.type e A' A xs.length c' m c ht hinfo h0
  · obtain ⟨ad, hA, hc⟩ := hR.2.2 (by omega)
    rcases hown.2 with ⟨_, hx0⟩ | ⟨g, cap, cur, hv, hb, hh, hnc, hcm, hcs, htake⟩
    · omega
    have hcs1 : cur.size = cap := by omega
    have hsrc : ∀ j u, (encs enc (ys.take (min m xs.length)))[j]? = some u → W.cell? (ad.add j) = some u := by
      intro j u hu
      have hj : j < (ys.take (min m xs.length)).length := by
        rcases Nat.lt_or_ge j (ys.take (min m xs.length)).length with h | h
        · exact h
        · rw [List.getElem?_eq_none (by rw [encs_length]; exact h)] at hu
          cases hu
      have hjm : j < min m xs.length := by rw [List.length_take] at hj; omega
      rw [encs_get (d := d) _ j hj] at hu
      rw [hc j (by omega), ← hu]
      simp [List.getD_eq_getElem?_getD, hjm]
    have hkl : (encs enc (ys.take (min m xs.length))).length = min m xs.length := by rw [encs_length, List.length_take]; omega
    have hr := run_copy_cells (P := P) W t t' o.type e g 0 xs.length cap ad m c (encs enc (ys.take (min m xs.length))) ht hinfo (by rw [hkl]) hsrc
      (fun j hj => by rw [cell_of_row W g _ cur e (0, 0) hh]; simp; omega) (fun j _ => blk_frozen hh _) (by intro u hu; simp only [encs, List.mem_map] at hu; obtain ⟨q, _, rfl⟩ := hu; exact h1 q)
    obtain ⟨cur', h3, h4, h5⟩ := setCells_row (encs enc (ys.take (min m xs.length))) 0 W cur hh (by rw [hkl]; omega)
    obtain ⟨s1, s2, s3, s4⟩ := setCells_same g (encs enc (ys.take (min m xs.length))) 0 W
    refine fin _ (by rw [hv, hA, hr, hkl]) (R_of_own ?_ HO.1) ⟨s1, s2, s3, by rw [s4]; exact Nat.le_refl _, fun k _ hk => setCells_far _ _ k (fun he => hk (by rw [hv, he]; simp [Value.ownBlock]))⟩
    have hln : (ys.take (min m xs.length) ++ xs.drop (min m xs.length)).length = xs.length := by
      rw [List.length_append, List.length_take, List.length_drop]
      omega
    rw [hln]
    refine ⟨by rw [encs_length, hln, Nat.mul_one], .inr ⟨g, cap, cur', hv, hb, h3, hnc, hcm, by rw [h4, hcs], ?_⟩⟩
    rw [h5, List.take_zero, List.nil_append, hkl, Nat.zero_add, encs_append, Nat.mul_one]
    rw [List.take_append, hkl, List.take_of_length_le (by rw [hkl]; omega)]
    congr 1
    have htk : cur.toList.take xs.length = encs enc xs := by rw [← htake, Nat.mul_one]
    have hd : encs enc (xs.drop (min m xs.length)) = (encs enc xs).drop (min m xs.length) := by simp [encs, List.map_drop]
    rw [hd, ← htk, List.drop_take]
end
end Kd
namespace Kd
section
variable {P : Program} {ops : Array Oper} {rest : List Oper} {o : Oper} {a : Act} {Q : Exit → Act → World → Prop} {α : Type}
end
end Kd
/-! ### 34. Cuts that are only read, of any row -/
theorem add_add (a : Addr) (i j : Nat) : (a.add i).add j = a.add (i + j) := by
  unfold Addr.add
  by_cases h1 : i = 0 <;> by_cases h2 : j = 0 <;> simp [h1, h2, Nat.add_assoc]
namespace Kd
section
variable {α : Type} {k : Kd α} {w : World} {A : Option Addr} {xs : List α} {m c : Nat}
end
end Kd
section
variable {P : Program}
end
/-! ### 6. What the printer adds -/
theorem below_size {w W : World} (h : Below w.heap.size w W) : w.heap.size ≤ W.heap.size := h.size
theorem below_step {w W w2 : World} (h : Below w.heap.size w W) (k : Below W.heap.size W w2) : Below w.heap.size w w2 := below_then h h.size k
theorem ReadsInt.nil (W : World) (k : IntKind) : ReadsInt W k none ([] : List Int).length [] := ⟨rfl, by simp, fun h => absurd h (Nat.lt_irrefl 0)⟩
theorem ReadsInt.drewN {W : World} {k : IntKind} {A : Option Addr} {n : Nat} {xs : List Int} (h : ReadsInt W k A n xs) (m : Nat) : ReadsInt (W.drewN m) k A n xs := h
theorem below_set {w W : World} {g j : Nat} {v : Value} (h : Below w.heap.size w W) (hg : w.heap.size ≤ g) : Below w.heap.size w (W.setCell ⟨g, j, none⟩ v) := h.setCell hg _
theorem add_block (a : Addr) (i : Nat) : (a.add i).block = a.block := by unfold Addr.add; split <;> rfl
theorem below_weaken {w0 w w1 : World} {B : Nat} (h : Below w0.heap.size w0 w) (hB : w0.heap.size ≤ B) (k : Below B w w1) : Below w0.heap.size w0 w1 :=
  h.trans ⟨k.os, k.tape, k.output, k.size, fun i hi => k.block i (Nat.lt_of_lt_of_le hi hB)⟩
theorem ReadsOf.nil {α : Type} (enc : α → Value) (d : α) (W : World) : ReadsOf enc d W none ([] : List α).length [] := ⟨rfl, by simp, fun h => absurd h (Nat.lt_irrefl 0)⟩
theorem ReadsOf.drewN {α : Type} {enc : α → Value} {d : α} {W : World} {A : Option Addr} {n : Nat} {xs : List α} (h : ReadsOf enc d W A n xs) (m : Nat) : ReadsOf enc d (W.drewN m) A n xs := h
theorem cell_far {W : World} {p a : Addr} (h : a.block ≠ p.block) (u : Value) : (W.setCell p u).cell? a = W.cell? a := by
  have := Below.heap_setCell W p u a.block h
  simp [World.cell?, this]
theorem blk_put {w : World} {g : Nat} {t : TypeId} {cs cs' : Array Value} (h : w.heap[g]? = some (.cells cs t (0, 0))) (i : Nat) (u : Value) (e : cs.setIfInBounds i u = cs') : (w.setCell ⟨g, i, none⟩ u).heap[g]? = some (.cells cs' t (0, 0)) := e ▸ blk_set h i u
theorem own_blk {W : World} {base n c : Nat} {e : TypeId} {size g : Nat} {ad : Addr} {xs : List Value} (_ : W.ownsRow base e size (.slice (some ad) n c) n xs) (hne : some g ≠ (Value.slice (some ad) n c).ownBlock) : ad.block ≠ g := by
  rintro rfl
  exact hne (by simp [Value.ownBlock])
theorem below_drew1 {base : Nat} {w W : World} (h : Below base w W) : Below base w W.drew := h.drew
namespace Kd
section
variable {α β : Type} {d : Kd α} {d' : Kd β} {e e' base base' n : Nat} {ok ok' : Nat → Prop} {w W w1 W1 : World} {v u : Value} {xs : List α} {ys : List β} {A : Option Addr} {c : Nat}
theorem own_blk {ad : Addr} {g : Nat} (hne : some g ≠ (Value.slice (some ad) n c).ownBlock) : ad.block ≠ g := by
  rintro rfl
  exact hne (by simp [Value.ownBlock])
end
section
variable {α : Type} {enc : α → Value} {h1 : ∀ x, (enc x).oneCell' = true} {w W : World} {A : Option Addr} {n g : Nat} {xs : List α}
end
end Kd
namespace Kd
section
variable {α : Type} {d : Kd α} {e base g : Nat} {ok : Nat → Prop} {w w1 : World} {v : Value} {xs : List α} {o : Obj}
end
end Kd
section
variable {P : Program} {ops : Array Oper} {rest : List Oper} {o : Oper} {a : Act} {Q : Exit → Act → World → Prop}
theorem box_event {W : World} (hgd : o.guard = none) {N : Tmp} (_hd : o.dst = some N) {cs : Array Value} {t : TypeId}
    (hrun : (execOp a.eval o).run P W = .ok (.value (.pointer (some ⟨W.heap.size, 0, none⟩))) (W.alloc (.cells cs t (0, 0))))
    (h : ∀ g, g = W.heap.size → ∀ w1, w1.heap[g]? = some (.cells cs t (0, 0)) → Below W.heap.size W w1 → wpList P ops Q rest (a.put o.dst (.pointer (some ⟨g, 0, none⟩))) w1) : wpList P ops Q (o :: rest) a W :=
  Kd.event_run hgd hrun (h _ rfl _ (blk_new W _) (below_alloc (Below.refl _ _) _))
end
namespace Kd
section
variable {α : Type} {enc : α → Value} {h1 : ∀ x, (enc x).oneCell' = true} {e base g n cap : Nat} {ok : Nat → Prop} {W : World} {xs : List α}
theorem R_celln (d : α) (h : (scalar enc h1).R e W base ok (.slice (some ⟨g, 0, none⟩) n cap) xs) (i : Int) (h0 : 0 ≤ i) (hi : i < n) : W.cell? ⟨g, i.toNat, none⟩ = some (enc (rdOf d xs i)) ∧ W.frozen? ⟨g, i.toNat, none⟩ = false := by
  obtain ⟨rfl, _⟩ := R_reads' h
  exact R_cell d h i h0 hi
end
end Kd
section
variable {P : Program} {ops : Array Oper} {rest : List Oper} {o : Oper} {a : Act} {Q : Exit → Act → World → Prop}
theorem store_event {W w1 : World} (hgd : o.guard = none) {t : TypeId} {p : Tmp} {v : Operand} (_ho : o.op = .store t (.tmp p) v) (hN : o.dst = none)
    (hrun : (execOp a.eval o).run P W = .ok .skip w1) (h : ∀ w', w' = w1 → wpList P ops Q rest a w') : wpList P ops Q (o :: rest) a W := by
  refine wpList_plain hgd fun K hK => ?_
  unfold Oper.wp
  rw [hrun]
  show K (a.put o.dst undef) w1
  rw [hN]
  exact hK _ _ (h _ rfl)
end
namespace Kd
section
variable {α : Type} {enc : α → Value} {h1 : ∀ x, (enc x).oneCell' = true} {e base g n cap : Nat} {ok : Nat → Prop} {W : World} {xs : List α}
theorem R_putg (h : (scalar enc h1).R e W base ok (.slice (some ⟨g, 0, none⟩) n cap) xs) (i : Int) (x : α) : (scalar enc h1).R e (W.setCell ⟨g, i.toNat, none⟩ (enc x)) base ok (.slice (some ⟨g, 0, none⟩) n cap) (xs.set i.toNat x) ∧ W.grownBy (W.setCell ⟨g, i.toNat, none⟩ (enc x)) (some g) := by
  obtain ⟨rfl, _⟩ := R_reads' h
  exact R_put h i x
end
end Kd
section
variable {P : Program} {ops : Array Oper} {rest : List Oper} {o : Oper} {a : Act} {Q : Exit → Act → World → Prop} {W : World}
theorem gate_dst {N : Tmp} (_hN : o.dst = some N) (h : wpList P ops Q (o :: rest) a W) : wpList P ops Q (o :: rest) a W := h
theorem gate_store {t : TypeId} {p : Tmp} {v : Operand} (_ho : o.op = .store t (.tmp p) v) (h : wpList P ops Q (o :: rest) a W) : wpList P ops Q (o :: rest) a W := h
end
/-! ### 36. Events as_ one step of a region that draws (for one_, two_, three_) -/
section
variable {P : Program} {ops : Array Oper} {o : Oper} {a : Act} {Q : Exit → Act → World → Prop} {Kc : Act → World → Prop}
namespace Kd
variable {α : Type}
end Kd
end
section
variable {P : Program} {tmps : Array Value} {w : World}
end
/-! ### 38. 'out = append(out[:k], out[k+1:]...)': an element taken out of a row of one's own, in place -/
namespace Kd
section
variable {P : Program} {α : Type}
end
section
variable {P : Program} {ops : Array Oper} {rest : List Oper} {o : Oper} {a : Act} {Q : Exit → Act → World → Prop} {Kc : Act → World → Prop} {α : Type}
end
end Kd

end Go.Proofs.YtkdfjomhichkoaaW.PrintWords
/-
  PRINTED WORDS, second file: A REGION THAT DRAWS ITS ORDER, WALKED BY HAND, where its last store writes what its own loads read ('x.f = append(x.f, f(i))'). Plain theorems; no macro, no elab. A claim may hold it (turn the namespace's name).
  A load may be taken first in every world that meets S; behind the operations of ds nothing is shown; sound because each of ds waits for what is taken (Region.lastB). The kernel checks it.
  By an AI agent of Go's test side, Mon Nov 16 2026. No person has read it.
-/
namespace Go.Proofs.YtkdfjomhichkoaaW.PrintLast

section
variable {P : Program} {ops : Array Oper} {Q : Exit → Act → World → Prop} {md : Region.Mode} {S : World → Prop} {ds : List Nat}

/-- Operation d waits for operation i, by a chain of at most 'fuel' edges. -/
def Region.reachB (md : Region.Mode) (ops : Array Oper) (i : Nat) : Nat → Nat → Bool
  | 0, _ => false
  | fuel + 1, d => match ops[d]? with
    | some o => o.after.any fun e => Region.binds md e && (e.on == i || Region.reachB md ops i fuel e.on)
    | none => false

/-- What is listed is closed under the edges. -/
def Region.closedB (md : Region.Mode) (ops : Array Oper) (listed : Array Bool) : Bool :=
  (List.range ops.size).all fun j => !listed.getD j false || match ops[j]? with
    | some o => o.after.all fun e => !Region.binds md e || listed.getD e.on false
    | none => true

/-- Each of ds that has not come up yet waits for number i. -/
def Region.lastB (md : Region.Mode) (ops : Array Oper) (listed : Array Bool) (ds : List Nat) (i : Nat) : Bool :=
  ds.all fun d => listed.getD d true || Region.reachB md ops i ops.size d

def ListedClosed (md : Region.Mode) (ops : Array Oper) (listed : Array Bool) : Prop :=
  ∀ j oj, ops[j]? = some oj → listed.getD j false = true → ∀ e ∈ oj.after, Region.binds md e = true → listed.getD e.on false = true

theorem Region.closedB_spec {listed : Array Bool} (h : Region.closedB md ops listed = true) : ListedClosed md ops listed := by
  intro j oj hj hl e he hb
  have hlt : j < ops.size := (Array.getElem?_eq_some_iff.1 hj).1
  have h1 := List.all_eq_true.1 h j (List.mem_range.2 hlt)
  simp only [hl, hj, Bool.not_true, Bool.false_or] at h1
  have h2 := Array.all_eq_true_iff_forall_mem.1 h1 e he
  simpa [hb] using h2

theorem ListedClosed.set {listed : Array Bool} {i : Nat} (h : ListedClosed md ops listed) (hi : i ∈ Region.ready md ops listed) : ListedClosed md ops (listed.setIfInBounds i true) := by
  obtain ⟨_, oi, hoi, hall⟩ := mem_ready.1 hi
  intro j oj hj hl e he hb
  by_cases hij : i = j
  · subst hij
    have : oj = oi := Option.some.inj (hj.symm.trans hoi)
    subst this
    exact getD_set_true (hall e he hb)
  · rw [getD_set_ne false hij] at hl
    exact getD_set_true (h j oj hj hl e he hb)

theorem Region.reach_listed {listed : Array Bool} {i : Nat} (hc : ListedClosed md ops listed) : ∀ (fuel d : Nat), Region.reachB md ops i fuel d = true → listed.getD d false = true → listed.getD i false = true
  | 0, _, h, _ => by simp [Region.reachB] at h
  | fuel + 1, d, h, hl => by
    unfold Region.reachB at h
    cases ho : ops[d]? with
    | none => rw [ho] at h; simp at h
    | some o =>
      rw [ho] at h
      obtain ⟨e, he, h1⟩ := Array.any_eq_true'.1 h
      simp only [Bool.and_eq_true, Bool.or_eq_true, beq_iff_eq] at h1
      have hle := hc d o ho hl e he h1.1
      rcases h1.2 with h2 | h2
      · rw [← h2]; exact hle
      · exact Region.reach_listed hc fuel e.on h2 hle

/-- What waits for i cannot come up before i is listed. -/
theorem Region.reach_not_ready {listed : Array Bool} {i d fuel : Nat} (hc : ListedClosed md ops listed) (hr : Region.reachB md ops i fuel d = true) (hun : listed.getD i true = false) : d ∉ Region.ready md ops listed := by
  intro hd
  obtain ⟨_, o, ho, hall⟩ := mem_ready.1 hd
  have hi : listed.getD i false = true := by
    cases fuel with
    | zero => simp [Region.reachB] at hr
    | succ n =>
      unfold Region.reachB at hr
      rw [ho] at hr
      obtain ⟨e, he, h1⟩ := Array.any_eq_true'.1 hr
      simp only [Bool.and_eq_true, Bool.or_eq_true, beq_iff_eq] at h1
      have hle := hall e he h1.1
      rcases h1.2 with h2 | h2
      · rw [← h2]; exact hle
      · exact Region.reach_listed hc n e.on h2 hle
  rcases Nat.lt_or_ge i listed.size with h' | h'
  · simp [h'] at hun hi
    rw [hun] at hi
    cases hi
  · simp [Array.getElem?_eq_none h'] at hun

/-- Whatever order is picked from here on, AND 'S' HOLDS BEHIND EVERY OPERATION THAT IS CARRIED OUT, those of ds apart. -/
def wpAnyLast (P : Program) (md : Region.Mode) (ops : Array Oper) (Q : Exit → Act → World → Prop) (S : World → Prop) (ds : List Nat) : Nat → Array Bool → Act → World → Prop
  | 0, listed, a, w => Region.ready md ops listed = [] ∧ Q .normal a w
  | fuel + 1, listed, a, w =>
    (Region.ready md ops listed = [] → Q .normal a w) ∧
    ∀ i ∈ Region.ready md ops listed, wpOp P ops Q i (fun a' w' => (i ∉ ds → S w → S w') ∧ wpAnyLast P md ops Q S ds fuel (listed.setIfInBounds i true) a' w') a w

theorem wpAny_of_last : ∀ (fuel : Nat) (listed : Array Bool) (a : Act) (w : World), wpAnyLast P md ops Q S ds fuel listed a w → wpAny P md ops Q fuel listed a w
  | 0, _, _, _, h => h
  | fuel + 1, _, _, _, h => ⟨h.1, fun i hi => wpOp_mono (fun a' w' h' => wpAny_of_last fuel _ a' w' h'.2) (h.2 i hi)⟩

theorem wpAnyLast_first {i : Nat} {oi : Oper} {v : Value} (hi : ops[i]? = some oi) (hsel : ∀ (j : Nat) (o : Oper) cs b, ops[j]? = some o → o.op ≠ .select cs b)
    (hQ : ∀ c a w, Q (.panic c) (a.put oi.dst v) w → Q (.panic c) a w) (n : Nat) :
    ∀ (fuel : Nat) (listed : Array Bool) (a : Act) (w : World),
      (∀ j oj, ops[j]? = some oj → j ≠ i → listed.getD j true = false → (∀ e ∈ oj.after, Region.binds md e = true → e.on ≠ i) → oi.apart ops oj = true) →
      ListedClosed md ops listed → (∀ d ∈ ds, listed.getD d true = false → Region.reachB md ops i n d = true) →
      i ∈ Region.ready md ops listed → YieldsIf P ops S oi v a → S w →
      wpAnyLast P md ops Q S ds fuel (listed.setIfInBounds i true) (a.put oi.dst v) w → wpAnyLast P md ops Q S ds (fuel + 1) listed a w := by
  intro fuel
  induction fuel with
  | zero =>
    intro listed a w _ _ _ hr hy hS H
    refine ⟨fun h => (by rw [h] at hr; cases hr), fun j hj => ?_⟩
    by_cases hji : j = i
    · subst hji; exact hy.wpOp hi hS ⟨fun _ h => h, H⟩
    · have := ready_mono hj hji
      rw [H.1] at this
      cases this
  | succ fuel ih =>
    intro listed a w hfree hc hd hr hy hS H
    refine ⟨fun h => (by rw [h] at hr; cases hr), fun j hj => ?_⟩
    by_cases hji : j = i
    · subst hji; exact hy.wpOp hi hS ⟨fun _ h => h, H⟩
    · have h1 := H.2 j (ready_mono hj hji)
      obtain ⟨hjun, oj, hoj, hall⟩ := mem_ready.1 hj
      have hiun := (mem_ready.1 hr).1
      have hnot : ∀ e ∈ oj.after, Region.binds md e = true → e.on ≠ i := fun e he hb heq => by
        have h1 := hall e he hb
        rw [heq] at h1
        rcases Nat.lt_or_ge i listed.size with h' | h'
        · simp [h'] at hiun h1; rw [hiun] at h1; cases h1
        · simp [Array.getElem?_eq_none h'] at h1
      have hjd : j ∉ ds := fun hm => Region.reach_not_ready hc (hd j hm hjun) hiun hj
      have h2 := wpOp_putIf hoj (hfree j oj hoj hji hjun hnot) (fun cs b => hsel i oi cs b hi) (fun cs b => hsel j oj cs b hoj) hQ hy h1
      have hfree' : ∀ k ok, ops[k]? = some ok → k ≠ i → (listed.setIfInBounds j true).getD k true = false →
          (∀ e ∈ ok.after, Region.binds md e = true → e.on ≠ i) → oi.apart ops ok = true := fun k ok hk hki hun hno => by
        refine hfree k ok hk hki ?_ hno
        by_cases hjk : j = k
        · subst hjk; exact hjun
        · rw [getD_set_ne true hjk] at hun; exact hun
      have hd' : ∀ d ∈ ds, (listed.setIfInBounds j true).getD d true = false → Region.reachB md ops i n d = true := fun d hm hun => by
        refine hd d hm ?_
        by_cases hjk : j = d
        · subst hjk; exact hjun
        · rw [getD_set_ne true hjk] at hun; exact hun
      refine wpOp_mono (fun a' w' h3 => ⟨h3.2.1, ih (listed.setIfInBounds j true) a' w' hfree' (hc.set hj) hd' (ready_mono hr (Ne.symm hji)) h3.1 (h3.2.1 hjd hS) ?_⟩) h2
      rw [Array.setIfInBounds_comm _ _ hji]
      exact h3.2.2

/-- Take number 'i' first, which yields whatever the world: no S is asked for, nor that anything waits for it. -/
theorem wpAnyLast_any {i : Nat} {oi : Oper} {v : Value} (hi : ops[i]? = some oi) (hsel : ∀ (j : Nat) (o : Oper) cs b, ops[j]? = some o → o.op ≠ .select cs b)
    (hQ : ∀ c a w, Q (.panic c) (a.put oi.dst v) w → Q (.panic c) a w) :
    ∀ (fuel : Nat) (listed : Array Bool) (a : Act) (w : World),
      (∀ j oj, ops[j]? = some oj → j ≠ i → listed.getD j true = false → (∀ e ∈ oj.after, Region.binds md e = true → e.on ≠ i) → oi.apart ops oj = true) →
      i ∈ Region.ready md ops listed → Yields P ops oi v a →
      wpAnyLast P md ops Q S ds fuel (listed.setIfInBounds i true) (a.put oi.dst v) w → wpAnyLast P md ops Q S ds (fuel + 1) listed a w := by
  intro fuel
  induction fuel with
  | zero =>
    intro listed a w _ hr hy H
    refine ⟨fun h => (by rw [h] at hr; cases hr), fun j hj => ?_⟩
    by_cases hji : j = i
    · subst hji; exact (hy.yieldsIf (S := fun _ => True)).wpOp hi trivial ⟨fun _ h => h, H⟩
    · have := ready_mono hj hji
      rw [H.1] at this
      cases this
  | succ fuel ih =>
    intro listed a w hfree hr hy H
    refine ⟨fun h => (by rw [h] at hr; cases hr), fun j hj => ?_⟩
    by_cases hji : j = i
    · subst hji; exact (hy.yieldsIf (S := fun _ => True)).wpOp hi trivial ⟨fun _ h => h, H⟩
    · have h1 := H.2 j (ready_mono hj hji)
      obtain ⟨hjun, oj, hoj, hall⟩ := mem_ready.1 hj
      have hiun := (mem_ready.1 hr).1
      have hnot : ∀ e ∈ oj.after, Region.binds md e = true → e.on ≠ i := fun e he hb heq => by
        have h1 := hall e he hb
        rw [heq] at h1
        rcases Nat.lt_or_ge i listed.size with h' | h'
        · simp [h'] at hiun h1; rw [hiun] at h1; cases h1
        · simp [Array.getElem?_eq_none h'] at h1
      have h2 := wpOp_put hoj (hfree j oj hoj hji hjun hnot) (fun cs b => hsel i oi cs b hi) (fun cs b => hsel j oj cs b hoj) hQ hy h1
      have hfree' : ∀ k ok, ops[k]? = some ok → k ≠ i → (listed.setIfInBounds j true).getD k true = false →
          (∀ e ∈ ok.after, Region.binds md e = true → e.on ≠ i) → oi.apart ops ok = true := fun k ok hk hki hun hno => by
        refine hfree k ok hk hki ?_ hno
        by_cases hjk : j = k
        · subst hjk; exact hjun
        · rw [getD_set_ne true hjk] at hun; exact hun
      refine wpOp_mono (fun a' w' h3 => ⟨h3.2.1, ih (listed.setIfInBounds j true) a' w' hfree' (ready_mono hr (Ne.symm hji)) h3.1 ?_⟩) h2
      rw [Array.setIfInBounds_comm _ _ hji]
      exact h3.2.2

/-- Take number 'i' first. -/
theorem wpAnyLast_take {i : Nat} {oi : Oper} {v : Value} {fuel : Nat} {listed : Array Bool} {a : Act} {w : World} (hi : ops[i]? = some oi)
    (hs : Region.noSelect ops = true) (hf : Region.free md ops listed i = true) (hr : (Region.ready md ops listed).contains i = true)
    (hc : Region.closedB md ops listed = true) (hl : Region.lastB md ops listed ds i = true)
    (hQ : ∀ c a w, Q (.panic c) (a.put oi.dst v) w → Q (.panic c) a w) (hy : YieldsIf P ops S oi v a) (hS : S w)
    (h : wpAnyLast P md ops Q S ds fuel (listed.setIfInBounds i true) (a.put oi.dst v) w) : wpAnyLast P md ops Q S ds (fuel + 1) listed a w :=
  wpAnyLast_first hi (Region.noSelect_spec hs) hQ ops.size fuel listed a w (Region.free_spec hi hf) (Region.closedB_spec hc)
    (fun d hm hun => by have := List.all_eq_true.1 hl d hm; rw [hun] at this; simpa using this) (by simpa using hr) hy hS h

theorem wpAnyLast_all {rs : List Nat} {fuel : Nat} {listed : Array Bool} {a : Act} {w : World} (hr : Region.ready md ops listed = rs) (hne : rs ≠ [])
    (h : ∀ i ∈ rs, wpOp P ops Q i (fun a' w' => (i ∉ ds → S w → S w') ∧ wpAnyLast P md ops Q S ds fuel (listed.setIfInBounds i true) a' w') a w) : wpAnyLast P md ops Q S ds (fuel + 1) listed a w :=
  ⟨fun h0 => absurd (hr ▸ h0) hne, hr ▸ h⟩

theorem wpAnyLast_done {listed : Array Bool} {a : Act} {w : World} (hr : Region.ready md ops listed = []) (h : Q .normal a w) :
    ∀ fuel, wpAnyLast P md ops Q S ds fuel listed a w
  | 0 => ⟨hr, h⟩
  | _ + 1 => ⟨fun _ => h, by rw [hr]; simp⟩

theorem wp_region_last {id : Nat} {a : Act} {w : World} (hm : P.follows .mixedOrders = true)
    (h : wpAnyLast P .any ops Q S ds ops.size (Array.replicate ops.size false) a { w with drawn := w.drawn + 1 }) : (Code.region id ops true).wp P Q a w :=
  wp_region_any hm (wpAny_of_last _ _ _ _ h)

end

section
variable {P : Program} {ops : Array Oper} {Q : Exit → Act → World → Prop} {md : Region.Mode} {S : World → Prop} {ds : List Nat}

def AllReadyL (P : Program) (md : Region.Mode) (ops : Array Oper) (Q : Exit → Act → World → Prop) (S : World → Prop) (ds : List Nat) (fuel : Nat) (listed : Array Bool) (a : Act) (w : World) (rs : List Nat) : Prop :=
  ∀ i ∈ rs, wpOp P ops Q i (fun a' w' => (i ∉ ds → S w → S w') ∧ wpAnyLast P md ops Q S ds fuel (listed.setIfInBounds i true) a' w') a w
theorem AllReadyL.nil {fuel : Nat} {listed : Array Bool} {a : Act} {w : World} : AllReadyL P md ops Q S ds fuel listed a w [] := fun _ h => by cases h
theorem AllReadyL.cons {fuel : Nat} {listed : Array Bool} {a : Act} {w : World} {i : Nat} {o : Oper} {rs : List Nat} (ho : ops[i]? = some o) (hd : i ∉ ds)
    (h : ∀ K' : Act → World → Prop, Shut (∀ a w, S w → (S w → wpAnyLast P md ops Q S ds fuel (listed.setIfInBounds i true) a w) → K' a w) → if Region.wanted o (yielded ops a.tmps) = true then Oper.wp P o a w K' Q else K' (a.put o.dst undef) w)
    (hs : AllReadyL P md ops Q S ds fuel listed a w rs) : AllReadyL P md ops Q S ds fuel listed a w (i :: rs) := fun j hj => by
  rcases List.mem_cons.1 hj with rfl | hj
  · exact wpOp_step ho (fun K' hK => h K' (fun a w hS hW => hK a w ⟨fun _ _ => hS, hW hS⟩))
  · exact hs j hj
theorem wpAnyLast_ready {rs : List Nat} {fuel : Nat} {listed : Array Bool} {a : Act} {w : World} (hr : Region.ready md ops listed = rs) (hne : rs ≠ [])
    (h : AllReadyL P md ops Q S ds fuel listed a w rs) : wpAnyLast P md ops Q S ds (fuel + 1) listed a w := wpAnyLast_all hr hne h
/-- THE SAME STEPS WITH WHAT HAS COME UP WRITTEN OUT (a literal array of Bools) and one check a step: quicker, and what is printed stays short. -/
theorem start_ {id n : Nat} {a : Act} {w : World} (l : Array Bool) (hm : P.follows .mixedOrders = true) (hn : ops.size = n) (hl : Array.replicate n false = l) (hS : S w.drew)
    (h : S w.drew → wpAnyLast P .any ops Q S ds n l a w.drew) : (Code.region id ops true).wp P Q a w := by
  subst hn
  subst hl
  exact wp_region_last hm (h hS)
def takeB (md : Region.Mode) (ops : Array Oper) (ds : List Nat) (l l' : Array Bool) (i : Nat) : Bool :=
  Region.noSelect ops && Region.free md ops l i && (Region.ready md ops l).contains i && Region.closedB md ops l && Region.lastB md ops l ds i && (l.setIfInBounds i true == l')
theorem take_ {i : Nat} {N : Option Tmp} {oi : Oper} {v : Value} {fuel : Nat} {l : Array Bool} {a : Act} {w : World} (l' : Array Bool) (hi : ops[i]? = some oi) (hN : oi.dst = N) (hc : takeB md ops ds l l' i = true)
    (hQ : ∀ c a w, Q (.panic c) (a.put oi.dst v) w → Q (.panic c) a w) (hy : YieldsIf P ops S oi v a) (hS : S w) {a' : Act} (ha : a.put N v = a')
    (h : wpAnyLast P md ops Q S ds fuel l' a' w) : wpAnyLast P md ops Q S ds (fuel + 1) l a w := by
  subst ha
  subst hN
  simp only [takeB, Bool.and_eq_true, beq_iff_eq] at hc
  obtain ⟨⟨⟨⟨⟨h1, h2⟩, h3⟩, h4⟩, h5⟩, h6⟩ := hc
  subst h6
  exact wpAnyLast_take hi h1 h2 h3 h4 h5 hQ hy hS h
def anyB (md : Region.Mode) (ops : Array Oper) (l l' : Array Bool) (i : Nat) : Bool :=
  Region.noSelect ops && Region.free md ops l i && (Region.ready md ops l).contains i && (l.setIfInBounds i true == l')
/-- An operation that yields in every world (a move, a number, an address): taken first wherever it may come up, behind a store too. -/
theorem pure_ {i : Nat} {N : Option Tmp} {oi : Oper} {v : Value} {fuel : Nat} {l : Array Bool} {a : Act} {w : World} (l' : Array Bool) (hi : ops[i]? = some oi) (hN : oi.dst = N) (hc : anyB md ops l l' i = true)
    (hQ : ∀ c a w, Q (.panic c) (a.put oi.dst v) w → Q (.panic c) a w) (hy : Yields P ops oi v a) {a' : Act} (ha : a.put N v = a')
    (h : wpAnyLast P md ops Q S ds fuel l' a' w) : wpAnyLast P md ops Q S ds (fuel + 1) l a w := by
  subst ha
  subst hN
  simp only [anyB, Bool.and_eq_true, beq_iff_eq] at hc
  obtain ⟨⟨⟨h1, h2⟩, h3⟩, h6⟩ := hc
  subst h6
  exact wpAnyLast_any hi (Region.noSelect_spec h1) hQ fuel l a w (Region.free_spec hi h2) (by simpa using h3) hy h
def readyB (md : Region.Mode) (ops : Array Oper) (l l' : Array Bool) (i : Nat) : Bool := (Region.ready md ops l == [i]) && (l.setIfInBounds i true == l')
/-- One operation alone may come up now (a call, a build, an append ..): it is run, S is shown behind it. -/
theorem one_ {i : Nat} {N : Option Tmp} {oi : Oper} {fuel : Nat} {l : Array Bool} {a : Act} {w : World} (l' : Array Bool) (hi : ops[i]? = some oi) (hN : oi.dst = N) (hc : readyB md ops l l' i = true) (hd : i ∉ ds)
    (h : ∀ K : Act → World → Prop, Shut (∀ a' w', S w' → (S w' → wpAnyLast P md ops Q S ds fuel l' a' w') → K a' w') → if Region.wanted oi (yielded ops a.tmps) = true then Oper.wp P oi a w K Q else K (a.put N undef) w) :
    wpAnyLast P md ops Q S ds (fuel + 1) l a w := by
  subst hN
  simp only [readyB, Bool.and_eq_true, beq_iff_eq] at hc
  obtain ⟨h1, h2⟩ := hc
  subst h2
  exact wpAnyLast_ready h1 (by simp) (AllReadyL.cons hi hd (fun K hK => h K hK) AllReadyL.nil)
theorem done_ {l : Array Bool} {a : Act} {w : World} {n : Nat} (hr : (Region.ready md ops l == []) = true) (h : Q .normal a w) : wpAnyLast P md ops Q S ds n l a w := wpAnyLast_done (by simpa using hr) h n
/-- The act written out. -/
theorem norm_ {fuel : Nat} {l : Array Bool} {a a' : Act} {w : World} (ha : a = a') (h : wpAnyLast P md ops Q S ds fuel l a' w) : wpAnyLast P md ops Q S ds fuel l a w := by
  subst ha
  exact h
/-- A call of a Go function, by its contract. -/
theorem call_ {oi : Oper} {N : Option Tmp} {a : Act} {w : World} {K : Act → World → Prop} (f : FuncId) (args : Array Value) (hw : Region.wanted oi (yielded ops a.tmps) = true) (hN : oi.dst = N) (hrun : (execOp a.eval oi).run P w = .ok (.enter f args) w)
    (h : Calls P f args w fun e w' => ∃ v, e = .returned v ∧ K (a.put N v) w') : if Region.wanted oi (yielded ops a.tmps) = true then Oper.wp P oi a w K Q else K (a.put N undef) w := by
  rw [if_pos hw]
  subst hN
  unfold Oper.wp
  rw [hrun, Oper.upon_enter]
  refine h.mono fun e w'' hh => ?_
  obtain ⟨v, rfl, hk⟩ := hh
  exact hk
theorem enters_ {f : FuncId} {fn : Func} (hf : P.funcs[f]? = some fn) (hname : (fn.name == "runtime.NumGoroutine") = false) (hb : fn.body.isSome = true) (args : Array Value) (w : World) : (callFunc f args).run P w = .ok (.enter f args) w := by
  have h1 : fn.name ≠ "runtime.NumGoroutine" := by simpa using hname
  obtain ⟨c, hc⟩ := Option.isSome_iff_exists.1 hb
  simp [callFunc, hf, h1, hc]
/-- The same, the operation's run shown here: 'goes_ A.func3 (by kernel_rfl) rfl #[..] (by rfl) rfl rfl (by rfl) ?_'. -/
theorem goes_ {oi : Oper} {N : Option Tmp} {a : Act} {w : World} {K : Act → World → Prop} {f : FuncId} {fn : Func} {as_ : Array Operand} {ts : Array TypeId} (hf : P.funcs[f]? = some fn) (hname : (fn.name == "runtime.NumGoroutine") = false) (hb : fn.body.isSome = true) (args : Array Value)
    (hw : Region.wanted oi (yielded ops a.tmps) = true) (hN : oi.dst = N) (hop : oi.op = .call { callee := .value (.func f), args := as_, argTypes := ts }) (hargs : as_.map a.eval = args)
    (h : Calls P f args w fun e w' => ∃ v, e = .returned v ∧ K (a.put N v) w') : if Region.wanted oi (yielded ops a.tmps) = true then Oper.wp P oi a w K Q else K (a.put N undef) w := by
  refine call_ f args hw hN ?_ h
  have he := enters_ hf hname hb args w
  unfold execOp
  simp [hop, resolve, Deferred.ofValue, invoke, Act.eval, hargs, he]
/-- A call in a plain region, as_ an arm of go_wp2_with ('hd' first: it fails at once at another operation). -/
theorem goesL_ {rest : List Oper} {oi : Oper} {a : Act} {w : World} (N : Option Tmp) (hd : oi.dst = N) (hg : oi.guard = none) {f : FuncId} {fn : Func} {as_ : Array Operand} {ts : Array TypeId} (hf : P.funcs[f]? = some fn) (hname : (fn.name == "runtime.NumGoroutine") = false) (hb : fn.body.isSome = true) (args : Array Value)
    (hop : oi.op = .call { callee := .value (.func f), args := as_, argTypes := ts }) (hargs : as_.map a.eval = args)
    (h : Calls P f args w fun e w' => ∃ v, e = .returned v ∧ wpList P ops Q rest (a.put N v) w') : wpList P ops Q (oi :: rest) a w := by
  refine wpList_plain hg fun K hK => ?_
  have he := enters_ hf hname hb args w
  have hrun : (execOp a.eval oi).run P w = .ok (.enter f args) w := by
    unfold execOp
    simp [hop, resolve, Deferred.ofValue, invoke, Act.eval, hargs, he]
  unfold Oper.wp
  rw [hrun, Oper.upon_enter]
  refine h.mono fun e w'' hh => ?_
  obtain ⟨v, rfl, hk⟩ := hh
  subst hd
  exact hK _ _ hk
theorem i64_w (n : Int) : IntKind.i64.wrap n = Go.RowKit.wrap64 n := by unfold Go.RowKit.wrap64; exact IntKind.wrap_i64 n
theorem i32_w (n : Int) : IntKind.i32.wrap n = Go.RowKit.wrap32 n := by unfold Go.RowKit.wrap32; exact IntKind.wrap_i32 n
end
end Go.Proofs.YtkdfjomhichkoaaW.PrintLast
/-! ### 50. A region's order in a table, made once a region: each step asks the table (numbers alone), not the operations -/
namespace Go.Proofs.YtkdfjomhichkoaaW.PrintLast
open Go.Proofs.YtkdfjomhichkoaaW.PrintWords (Aside0)
def needsOf (md : Region.Mode) (o : Oper) : List Nat := (o.after.toList.filter (fun e => Region.binds md e)).map (fun e => e.on)
def clashOf (md : Region.Mode) (ops : Array Oper) (i : Nat) (oi : Oper) : List Nat := (List.range ops.size).filter fun j => !(j == i) && match ops[j]? with
  | some oj => !(oj.after.any (fun e => Region.binds md e && e.on == i) || oi.apart ops oj)
  | none => false
/-- No select in it; for each operation: what must have come up before it, and what may not come up behind it if it is taken first. -/
def rtab (md : Region.Mode) (ops : Array Oper) : Bool × List (List Nat × List Nat) := (Region.noSelect ops, (List.range ops.size).map fun i => match ops[i]? with
  | some o => (needsOf md o, clashOf md ops i o)
  | none => ([], []))
def readyAt (T : List (List Nat × List Nat)) (l : List Bool) (i : Nat) : Bool := !l.getD i true && match T[i]? with
  | some r => r.1.all (fun j => l.getD j false)
  | none => false
def readyT (T : List (List Nat × List Nat)) (l : List Bool) : List Nat := (List.range T.length).filter (readyAt T l)
def freeT (T : List (List Nat × List Nat)) (l : List Bool) (i : Nat) : Bool := match T[i]? with
  | some r => r.2.all (fun j => l.getD j true)
  | none => false
def closedT (T : List (List Nat × List Nat)) (l : List Bool) : Bool := (List.range T.length).all fun j => !l.getD j false || match T[j]? with
  | some r => r.1.all (fun k => l.getD k false)
  | none => true
def reachT (T : List (List Nat × List Nat)) (i : Nat) : Nat → Nat → Bool
  | 0, _ => false
  | fuel + 1, d => match T[d]? with
    | some r => r.1.any fun j => j == i || reachT T i fuel j
    | none => false
def lastT (T : List (List Nat × List Nat)) (l : List Bool) (ds : List Nat) (i : Nat) : Bool := ds.all fun d => l.getD d true || reachT T i T.length d
section
variable {md : Region.Mode} {ops : Array Oper} {T : Bool × List (List Nat × List Nat)} {l l' li lj lk : Array Bool} {ds : List Nat} {i j k : Nat}
theorem gd (l : Array Bool) (j : Nat) (b : Bool) : l.getD j b = l.toList.getD j b := by simp [Array.getD_eq_getD_getElem?, List.getD_eq_getElem?_getD]
theorem needs_all (o : Oper) (p : Nat → Bool) : o.after.all (fun e => !Region.binds md e || p e.on) = (needsOf md o).all p := by
  unfold needsOf
  rw [← Array.all_toList]
  induction o.after.toList with
  | nil => rfl
  | cons e r ih =>
    rw [List.all_cons, ih, List.filter_cons]
    cases h : Region.binds md e <;> simp
theorem needs_any (o : Oper) (p : Nat → Bool) : o.after.any (fun e => Region.binds md e && p e.on) = (needsOf md o).any p := by
  unfold needsOf
  rw [← Array.any_toList]
  induction o.after.toList with
  | nil => rfl
  | cons e r ih =>
    rw [List.any_cons, ih, List.filter_cons]
    cases h : Region.binds md e <;> simp
theorem rtab_length : (rtab md ops).2.length = ops.size := by simp [rtab]
theorem rtab_some {o : Oper} (h : ops[i]? = some o) : (rtab md ops).2[i]? = some (needsOf md o, clashOf md ops i o) := by
  have hi := (Array.getElem?_eq_some_iff.1 h).1
  unfold rtab
  rw [List.getElem?_map, List.getElem?_range hi, Option.map_some, h]
theorem rtab_none (h : ops[i]? = none) : (rtab md ops).2[i]? = none := by
  have hi : ops.size ≤ i := Array.getElem?_eq_none_iff.1 h
  exact List.getElem?_eq_none (by rw [rtab_length]; exact hi)
theorem readyAt_eq : readyAt (rtab md ops).2 l.toList i = (!l.getD i true && ((ops[i]?).map (·.after.all fun e => !Region.binds md e || l.getD e.on false)).getD false) := by
  unfold readyAt
  rw [gd]
  cases h : ops[i]? with
  | none => rw [rtab_none h]; rfl
  | some o =>
    rw [rtab_some h]
    simp only [Option.map_some, Option.getD_some]
    rw [← needs_all]
    simp only [gd]
theorem ready_eq : Region.ready md ops l = readyT (rtab md ops).2 l.toList := by
  unfold Region.ready readyT
  rw [rtab_length]
  refine List.filter_congr (fun i _ => ?_)
  rw [readyAt_eq]
theorem free_eq : Region.free md ops l i = freeT (rtab md ops).2 l.toList i := by
  unfold Region.free freeT
  cases h : ops[i]? with
  | none => rw [rtab_none h]
  | some oi =>
    rw [rtab_some h]
    simp only [clashOf]
    rw [List.all_filter]
    congr 1
    funext j
    rw [gd]
    cases hj : ops[j]? with
    | none => cases (j == i) <;> cases (l.toList.getD j true) <;> simp
    | some oj =>
      cases (j == i) <;> cases (l.toList.getD j true) <;> cases (oj.after.any (fun e => Region.binds md e && e.on == i) || oi.apart ops oj) <;> simp_all
theorem closed_eq : Region.closedB md ops l = closedT (rtab md ops).2 l.toList := by
  unfold Region.closedB closedT
  rw [rtab_length]
  congr 1
  funext j
  rw [gd]
  cases h : ops[j]? with
  | none => rw [rtab_none h]
  | some o =>
    rw [rtab_some h]
    simp only
    rw [← needs_all]
    simp only [gd]
theorem reach_eq : ∀ (fuel d : Nat), Region.reachB md ops i fuel d = reachT (rtab md ops).2 i fuel d
  | 0, _ => rfl
  | fuel + 1, d => by
    unfold Region.reachB reachT
    cases h : ops[d]? with
    | none => rw [rtab_none h]
    | some o =>
      rw [rtab_some h]
      simp only
      rw [← needs_any]
      congr 1
      funext e
      rw [reach_eq fuel]
theorem last_eq : Region.lastB md ops l ds i = lastT (rtab md ops).2 l.toList ds i := by
  unfold Region.lastB lastT
  rw [rtab_length]
  congr 1
  funext d
  rw [gd, reach_eq]
theorem readyAt_mem (h : readyAt T.2 l.toList i = true) (hT : rtab md ops = T) : (Region.ready md ops l).contains i = true := by
  subst hT
  rw [ready_eq]
  unfold readyT
  rw [List.contains_iff_mem, List.mem_filter, List.mem_range]
  refine ⟨?_, h⟩
  unfold readyAt at h
  rw [Bool.and_eq_true] at h
  cases hq : (rtab md ops).2[i]? with
  | none => rw [hq] at h; simp at h
  | some r => exact (List.getElem?_eq_some_iff.1 hq).1
theorem set_of (h : (l.toList.set i true == l'.toList) = true) : (l.setIfInBounds i true == l') = true := by
  rw [beq_iff_eq] at h ⊢
  apply Array.ext'
  rw [Array.toList_setIfInBounds]
  exact h
def anyT (T : Bool × List (List Nat × List Nat)) (l l' : List Bool) (i : Nat) : Bool := T.1 && freeT T.2 l i && readyAt T.2 l i && (l.set i true == l')
/-- pure_'s condition out of the table. -/
theorem any_of (hT : rtab md ops = T) (h : anyT T l.toList l'.toList i = true) : anyB md ops l l' i = true := by
  simp only [anyT, Bool.and_eq_true] at h
  obtain ⟨⟨⟨h1, h2⟩, h3⟩, h4⟩ := h
  have h5 := readyAt_mem h3 hT
  have h6 := set_of h4
  subst hT
  simp only [anyB, Bool.and_eq_true]
  exact ⟨⟨⟨h1, by rw [free_eq]; exact h2⟩, h5⟩, h6⟩
def takeT (T : Bool × List (List Nat × List Nat)) (ds : List Nat) (l l' : List Bool) (i : Nat) : Bool := T.1 && freeT T.2 l i && readyAt T.2 l i && closedT T.2 l && lastT T.2 l ds i && (l.set i true == l')
/-- take_'s. -/
theorem take_of (hT : rtab md ops = T) (h : takeT T ds l.toList l'.toList i = true) : takeB md ops ds l l' i = true := by
  simp only [takeT, Bool.and_eq_true] at h
  obtain ⟨⟨⟨⟨⟨h1, h2⟩, h3⟩, h4⟩, h5⟩, h6⟩ := h
  have h7 := readyAt_mem h3 hT
  have h8 := set_of h6
  subst hT
  simp only [takeB, Bool.and_eq_true]
  exact ⟨⟨⟨⟨⟨h1, by rw [free_eq]; exact h2⟩, h7⟩, by rw [closed_eq]; exact h4⟩, by rw [last_eq]; exact h5⟩, h8⟩
/-- one_'s and last_'s. -/
theorem one_of (hT : rtab md ops = T) (h : (readyT T.2 l.toList == [i] && l.toList.set i true == l'.toList) = true) : readyB md ops l l' i = true := by
  simp only [Bool.and_eq_true] at h
  obtain ⟨h1, h2⟩ := h
  subst hT
  simp only [readyB, Bool.and_eq_true]
  exact ⟨by rw [ready_eq]; exact h1, set_of h2⟩
/-- done_'s. -/
theorem done_of (hT : rtab md ops = T) (h : (readyT T.2 l.toList == []) = true) : (Region.ready md ops l == []) = true := by
  subst hT
  rw [ready_eq]
  exact h
/-- What d waits for, as_ bits: told in the table (B), checked in one pass: each bit is a need of d, or a bit of an earlier need's. -/
def upM (B : List Nat) (d : Nat) : List Nat → Nat
  | [] => 0
  | n :: r => (2 ^ n ||| (if n < d then B.getD n 0 else 0)) ||| upM B d r
def waitsOk (T : List (List Nat × List Nat)) (B : List Nat) : Bool := (List.range T.length).all fun d => match T[d]? with
  | some r => (B.getD d 0 ||| upM B d r.1) == upM B d r.1
  | none => false
theorem upM_bit {B : List Nat} {d i : Nat} : ∀ {ns : List Nat}, (upM B d ns).testBit i = true → ∃ n ∈ ns, n = i ∨ (n < d ∧ (B.getD n 0).testBit i = true)
  | [], h => by simp [upM] at h
  | n :: r, h => by
    unfold upM at h
    rw [Nat.testBit_or, Nat.testBit_or, Bool.or_eq_true, Bool.or_eq_true] at h
    rcases h with (h | h) | h
    · rw [Nat.testBit_two_pow] at h
      exact ⟨n, List.mem_cons_self, .inl (by simpa using h)⟩
    · by_cases hn : n < d
      · rw [if_pos hn] at h
        exact ⟨n, List.mem_cons_self, .inr ⟨hn, h⟩⟩
      · rw [if_neg hn] at h
        simp at h
    · obtain ⟨m, hm, h2⟩ := upM_bit h
      exact ⟨m, List.mem_cons_of_mem _ hm, h2⟩
theorem reach_bit {T : List (List Nat × List Nat)} {B : List Nat} (hB : waitsOk T B = true) : ∀ (fuel d : Nat), d < fuel → d < T.length → (B.getD d 0).testBit i = true → reachT T i fuel d = true
  | 0, d, h, _, _ => by omega
  | fuel + 1, d, h, hd, hb => by
    have h1 := List.all_eq_true.1 hB d (List.mem_range.2 hd)
    cases hr : T[d]? with
    | none => rw [hr] at h1; simp at h1
    | some r =>
      rw [hr] at h1
      simp only [beq_iff_eq] at h1
      have h2 : (upM B d r.1).testBit i = true := by rw [← h1, Nat.testBit_or, hb, Bool.true_or]
      obtain ⟨n, hn, h3⟩ := upM_bit h2
      unfold reachT
      rw [hr]
      simp only
      rw [List.any_eq_true]
      refine ⟨n, hn, ?_⟩
      rcases h3 with rfl | ⟨h4, h5⟩
      · simp
      · rw [reach_bit hB fuel n (by omega) (by omega) h5, Bool.or_true]
def lastW (T : List (List Nat × List Nat)) (B : List Nat) (l : List Bool) (ds : List Nat) (i : Nat) : Bool := ds.all fun d => l.getD d true || (decide (d < T.length) && (B.getD d 0).testBit i)
def takeW (T : Bool × List (List Nat × List Nat)) (B : List Nat) (ds : List Nat) (l l' : List Bool) (i : Nat) : Bool := T.1 && freeT T.2 l i && readyAt T.2 l i && closedT T.2 l && lastW T.2 B l ds i && (l.set i true == l')
/-- take_'s, by the bits. -/
theorem take_ofW {B : List Nat} (hT : rtab md ops = T) (hB : waitsOk T.2 B = true) (h : takeW T B ds l.toList l'.toList i = true) : takeB md ops ds l l' i = true := by
  refine take_of hT ?_
  simp only [takeW, takeT, Bool.and_eq_true] at h ⊢
  obtain ⟨⟨⟨⟨⟨h1, h2⟩, h3⟩, h4⟩, h5⟩, h6⟩ := h
  refine ⟨⟨⟨⟨⟨h1, h2⟩, h3⟩, h4⟩, ?_⟩, h6⟩
  unfold lastW at h5
  unfold lastT
  rw [List.all_eq_true] at h5 ⊢
  intro d hd
  have h7 := h5 d hd
  rw [Bool.or_eq_true, Bool.and_eq_true, decide_eq_true_eq] at h7
  rcases h7 with h7 | ⟨h8, h9⟩
  · rw [h7, Bool.true_or]
  · rw [reach_bit hB _ d h8 h8 h9, Bool.or_true]
theorem with_tabW {P : Program} {Q : Exit → Act → World → Prop} {S : World → Prop} {n : Nat} {a : Act} {w : World} {B : List Nat} (hT : rtab md ops = T) (hB : waitsOk T.2 B = true) (h : Aside0 (rtab md ops = T) → Aside0 (waitsOk T.2 B = true) → wpAnyLast P md ops Q S ds n l a w) : wpAnyLast P md ops Q S ds n l a w := h ⟨hT⟩ ⟨hB⟩
end
/-- The operations of a region, by its number. -/
def opsIn : Code → Nat → Option (Array Oper)
  | .region id ops _, k => if id == k then some ops else none
  | .seq a b, k => match opsIn a k with
    | some o => some o
    | none => opsIn b k
  | .cond _ a b, k => match opsIn a k with
    | some o => some o
    | none => opsIn b k
  | .block _ c, k => opsIn c k
  | .loop c, k => opsIn c k
  | .scope c, k => opsIn c k
  | .rangeFunc _ _ a b, k => match opsIn a k with
    | some o => some o
    | none => opsIn b k
  | _, _ => none
def opsOf (f : Func) (k : Nat) : Array Oper := ((f.body.bind fun c => opsIn c k)).getD #[]
end Go.Proofs.YtkdfjomhichkoaaW.PrintLast
/-! ### 40. Elements whose inner rows lie apart: what is stored into one says nothing of the others.
   S: as_ R, with an owner function f (block to element's index). H: as_ S with a hole: of element i its cells alone are told, its blocks are oki. -/
namespace Go.Proofs.YtkdfjomhichkoaaW.PrintWords
open Go.RowKit
namespace Kd
/-- An element with its index: its blocks are those that f gives to it. -/
def tag {α : Type} (f : Nat → Nat) (d : Kd α) : Kd (α × Nat) where
  sz := d.sz
  E := d.E
  K := fun w x cs => d.K w x.1 cs
  M := fun w base ok x cs => d.M w base (fun k => ok k ∧ f k = x.2) x.1 cs
  K_len := fun h => d.K_len h
  K_one := fun h => d.K_one h
  K_below := fun hb h => d.K_below hb h
  K_of_M := fun h => d.K_of_M h
  M_mono := fun hok h => d.M_mono (fun k hk => ⟨hok k hk.1, hk.2⟩) h
  M_bound := fun h => d.M_mono (fun _ hk => ⟨⟨hk.1.1, hk.2⟩, hk.1.2⟩) (d.M_bound h)
  M_move := fun hm h => d.M_move (fun k hk => hm k hk.1) h
  M_lower := fun hb h => d.M_lower hb h
/-- The cells themselves. -/
def raw (sz : Nat) : Kd (List Value) where
  sz := sz
  E := []
  K := fun _ x cs => cs = x ∧ cs.length = sz ∧ ∀ u ∈ cs, u.oneCell' = true
  M := fun _ _ _ x cs => cs = x ∧ cs.length = sz ∧ ∀ u ∈ cs, u.oneCell' = true
  K_len := fun h => h.2.1
  K_one := fun h => h.2.2
  K_below := fun _ h => h
  K_of_M := fun h => h
  M_mono := fun _ h => h
  M_bound := fun h => h
  M_move := fun _ h => h
  M_lower := fun _ h => h
/-- A row of elements (type e) of the call's own, no two of which lead to one block. -/
def S {α : Type} (d : Kd α) (e : Nat) (w : World) (base : Nat) (ok : Nat → Prop) (v : Value) (xs : List α) : Prop := ∃ f, (tag f d).R e w base ok v xs.zipIdx
section
variable {α β : Type} {d : Kd α} {d' : Kd β} {e e' : Nat} {w w1 W : World} {base b : Nat} {ok ok' okv oku : Nat → Prop} {u v : Value} {xs : List α} {ys : List β}
/-- A row whose elements lead to nothing: its blocks are its own one. -/
theorem R_tight (hE : d.E = []) (h : d.R e w base ok v xs) : d.R e w base (fun k => some k = v.ownBlock) v xs := by
  obtain ⟨h0, inner, ho, hr⟩ := h
  refine ⟨fun k hk => hk.symm, inner, ho, hr.imp_ (fun p c hp => d.M_mono (fun k hk => ?_) (d.M_bound hp))⟩
  obtain ⟨_, _, _, q, hq, _⟩ := hk
  rw [hE] at hq
  cases hq
theorem S_nil (d : Kd α) (e : Nat) (w : World) (base : Nat) (ok : Nat → Prop) : S d e w base ok (.slice none 0 0) [] := ⟨fun _ => 0, R_nil _ _ _ _ _⟩
end
section
variable {α β : Type} {d : Kd α} {d' : Kd β} {e e' g : Nat} {w w1 W : World} {base b : Nat} {ok ok' okv oku : Nat → Prop} {u v : Value} {xs : List α} {ys : List β}
end
/-! #### append, make, literals: the new element's blocks are none of the elder ones' -/
section
open Classical in
variable {P : Program} {ops : Array Oper} {rest : List Oper} {o : Oper} {a : Act} {Q : Exit → Act → World → Prop} {Kc : Act → World → Prop} {α : Type}
end
/-! #### a row with a hole: element i is lent, its blocks are oki; of it the row says its cells alone -/
/-- Element i is these cells; the others are d's. -/
def gap {α : Type} (f : Nat → Nat) (d : Kd α) (i : Nat) (c : List Value) : Kd (α × Nat) where
  sz := d.sz
  E := d.E
  K := fun w x cs => (x.2 = i → cs = c ∧ cs.length = d.sz ∧ ∀ u ∈ cs, u.oneCell' = true) ∧ (x.2 ≠ i → d.K w x.1 cs)
  M := fun w base ok x cs => (x.2 = i → cs = c ∧ cs.length = d.sz ∧ ∀ u ∈ cs, u.oneCell' = true) ∧ (x.2 ≠ i → d.M w base (fun k => ok k ∧ f k = x.2) x.1 cs)
  K_len := fun {w x cs} h => by
    by_cases hx : x.2 = i
    · exact (h.1 hx).2.1
    · exact d.K_len (h.2 hx)
  K_one := fun {w x cs} h => by
    by_cases hx : x.2 = i
    · exact (h.1 hx).2.2
    · exact d.K_one (h.2 hx)
  K_below := fun hb h => ⟨h.1, fun hx => d.K_below hb (h.2 hx)⟩
  K_of_M := fun h => ⟨h.1, fun hx => d.K_of_M (h.2 hx)⟩
  M_mono := fun hok h => ⟨h.1, fun hx => d.M_mono (fun k hk => ⟨hok k hk.1, hk.2⟩) (h.2 hx)⟩
  M_bound := fun h => ⟨h.1, fun hx => d.M_mono (fun _ hk => ⟨⟨hk.1.1, hk.2⟩, hk.1.2⟩) (d.M_bound (h.2 hx))⟩
  M_move := fun hm h => ⟨h.1, fun hx => d.M_move (fun k hk => hm k hk.1) (h.2 hx)⟩
  M_lower := fun hb h => ⟨h.1, fun hx => d.M_lower hb (h.2 hx)⟩
def H {α : Type} (d : Kd α) (e : Nat) (w : World) (base : Nat) (ok : Nat → Prop) (v : Value) (xs : List α) (i : Int) (oki : Nat → Prop) (c : List Value) : Prop :=
  (∀ k, oki k → ok k) ∧ ∃ f, (gap f d i.toNat c).R e w base (fun k => ok k ∧ ¬ oki k) v xs.zipIdx
section
variable {α β : Type} {d : Kd α} {e e' g n cap : Nat} {w w1 W : World} {base : Nat} {ok ok' oki okp : Nat → Prop} {u v : Value} {xs : List α} {i : Int} {c : List Value}
open Classical in
end
section
variable {P : Program} {ops : Array Oper} {rest : List Oper} {o : Oper} {a : Act} {Q : Exit → Act → World → Prop} {α : Type}
end
end Kd
end Go.Proofs.YtkdfjomhichkoaaW.PrintWords
/-! ### 43. What is read beside a state: it stays read whatever the state's calls turn ('∀ W', KeepBut w W' g none → d.C W' A n xs') -/
namespace Go.Proofs.YtkdfjomhichkoaaW.PrintWords
open Go.RowKit
namespace Kd
/-- What a kind reads lies in the blocks: nothing else of the world is looked at. -/
structure Heap {α : Type} (d : Kd α) : Prop where
  K : ∀ {w w1 : World} {x : α} {cs : List Value}, (∀ k, k < w.heap.size → w1.heap[k]? = w.heap[k]?) → d.K w x cs → d.K w1 x cs
theorem cell_heap {w w1 : World} (hb : ∀ k, k < w.heap.size → w1.heap[k]? = w.heap[k]?) {a : Addr} {v : Value} (h : w.cell? a = some v) : w1.cell? a = some v := by
  have := hb a.block (World.block_lt_of_cell? w a h)
  simpa [World.cell?, this] using h
theorem Heap.C {α : Type} {d : Kd α} (hd : Heap d) {w w1 : World} {A : Option Addr} {n : Nat} {xs : List α} (hb : ∀ k, k < w.heap.size → w1.heap[k]? = w.heap[k]?) (h : d.C w A n xs) : d.C w1 A n xs :=
  ⟨h.1, h.2.1, fun hn => by
    obtain ⟨ad, e, hc⟩ := h.2.2 hn
    refine ⟨ad, e, fun j p hj => ?_⟩
    obtain ⟨c, hs, hr, hcell⟩ := hc j p hj
    exact ⟨c, hs, hd.K hb hr, fun i u hu => cell_heap hb (hcell i u hu)⟩⟩
section
variable {α : Type} {d : Kd α} {e base g n c : Nat} {ok : Nat → Prop} {w w0 W : World} {A : Option Addr} {xs : List α}
end
end Kd
end Go.Proofs.YtkdfjomhichkoaaW.PrintWords
/-! ### 45. What a call keeps: all but the blocks of S (the rows that it was given to write) and what is new since -/
namespace Go.Proofs.YtkdfjomhichkoaaW.PrintWords
open Go.RowKit
def Kept (w W : World) (S : Nat → Prop) : Prop := w.heap.size ≤ W.heap.size ∧ ∀ i, i < w.heap.size → ¬ S i → W.heap[i]? = w.heap[i]?
section
variable {w W W2 : World} {S S2 S' : Nat → Prop}
theorem Kept.refl (w : World) (S : Nat → Prop) : Kept w w S := ⟨Nat.le_refl _, fun _ _ _ => rfl⟩
theorem Kept.of_below (h : Below w.heap.size w W) (S : Nat → Prop) : Kept w W S := ⟨h.size, fun i hi _ => h.block i hi⟩
theorem Kept.mono (h : Kept w W S) (hs : ∀ k, S k → S' k) : Kept w W S' := ⟨h.1, fun i hi hn => h.2 i hi (fun hk => hn (hs i hk))⟩
theorem Kept.then_ (h : Kept w W S) (k : Kept W W2 S2) (hs : ∀ k, S2 k → S k ∨ w.heap.size ≤ k) : Kept w W2 S :=
  ⟨Nat.le_trans h.1 k.1, fun i hi hn => (k.2 i (Nat.lt_of_lt_of_le hi h.1) (fun h2 => (hs i h2).elim hn (fun h3 => by omega))).trans (h.2 i hi hn)⟩
theorem Kept.of_grown {row : Option Nat} (hg : W.grownBy W2 row) (h : Kept w W S) (hr : ∀ k, row = some k → S k ∨ w.heap.size ≤ k) : Kept w W2 S :=
  h.then_ (S2 := fun k => row = some k) ⟨hg.size, fun i hi hn => hg.block i hi (fun he => hn he.symm)⟩ hr
theorem Kept.below (h : Kept w W S) (hb : Below W.heap.size W W2) : Kept w W2 S := h.then_ (Kept.of_below hb (fun _ => False)) (fun _ hk => hk.elim)
theorem Kept.alloc (h : Kept w W S) (o : Obj) : Kept w (W.alloc o) S := h.below (below_alloc (Below.refl _ _) o)
theorem Kept.drew (h : Kept w W S) : Kept w W.drew S := h
theorem Kept.drewN (h : Kept w W S) (m : Nat) : Kept w (W.drewN m) S := h
theorem Kept.setCell (h : Kept w W S) {p : Addr} (hp : S p.block ∨ w.heap.size ≤ p.block) (u : Value) : Kept w (W.setCell p u) S :=
  h.then_ (S2 := fun k => k = p.block) ⟨by simp [World.setCell], fun i _ hn => Below.heap_setCell W p u i hn⟩ (fun k hk => by rw [hk]; exact hp)
theorem blk_kept {g : Nat} {o : Obj} (hb : W.heap[g]? = some o) (hk : Kept W W2 S) (hne : ¬ S g) : W2.heap[g]? = some o := (hk.2 g (blk_lt hb) hne).trans hb
end
namespace Kd
section
variable {α : Type} {d : Kd α} {e base n c : Nat} {ok oki S S2 : Nat → Prop} {w w0 W W1 W2 : World} {v : Value} {A : Option Addr} {xs : List α} {i : Int} {cs : List Value}
theorem R_kept (h : d.R e W base ok v xs) (hk : Kept W W2 S) (hne : ∀ k, ok k → ¬ S k) : d.R e W2 base ok v xs := R_step h (fun k ho hlt => hk.2 k hlt (hne k ho))
end
end Kd
end Go.Proofs.YtkdfjomhichkoaaW.PrintWords
/-! ### 46. Values that share: what is only read, with the blocks it lies in (its footprint 'ok'): Foot, F (a row that is read), FK (an element's cells) -/
namespace Go.Proofs.YtkdfjomhichkoaaW.PrintWords
open Go.RowKit
/-- P holds in W and in every world that has W's blocks of ok. -/
def Foot (P : World → Prop) (W : World) (ok : Nat → Prop) : Prop := ∀ W' : World, (∀ k, ok k → k < W.heap.size → W'.heap[k]? = W.heap[k]?) → P W'
theorem heap_lt {W W1 : World} {k : Nat} (h : W1.heap[k]? = W.heap[k]?) (hlt : k < W.heap.size) : k < W1.heap.size := by
  rw [Array.getElem?_eq_getElem hlt] at h
  exact (Array.getElem?_eq_some_iff.1 h).1
namespace Foot
variable {P Q : World → Prop} {W W1 : World} {ok ok' : Nat → Prop}
theorem now (h : Foot P W ok) : P W := h W (fun _ _ _ => rfl)
theorem mono (h : Foot P W ok) (hok : ∀ k, ok k → ok' k) : Foot P W ok' := fun W' hW => h W' (fun k hk hlt => hW k (hok k hk) hlt)
theorem bound (h : Foot P W ok) : Foot P W (fun k => ok k ∧ k < W.heap.size) := fun W' hW => h W' (fun k hk hlt => hW k ⟨hk, hlt⟩ hlt)
theorem step (h : Foot P W ok) (hm : ∀ k, ok k → k < W.heap.size → W1.heap[k]? = W.heap[k]?) : Foot P W1 ok := fun W' hW => h W' (fun k hk hlt => (hW k hk (heap_lt (hm k hk hlt) hlt)).trans (hm k hk hlt))
/-- Moved, and still elder than what is new since W. -/
theorem old (h : Foot P W ok) (hb : Below W.heap.size W W1) : Foot P W1 (fun k => ok k ∧ k < W.heap.size) := (h.bound).step (fun k _ hlt => hb.block k hlt)
end Foot
namespace Kd
/-- A row that is only read: what it leads to lies in ok. -/
def F {α : Type} (d : Kd α) (W : World) (ok : Nat → Prop) (A : Option Addr) (n : Nat) (xs : List α) : Prop := Foot (fun W => d.C W A n xs) W ok
/-- An element's cells: what they lead to lies in ok. -/
def FK {α : Type} (d : Kd α) (W : World) (ok : Nat → Prop) (x : α) (c : List Value) : Prop := Foot (fun W => d.K W x c) W ok
section
variable {α β : Type} {d : Kd α} {e base n n' cc g N : Nat} {ok ok' okp S : Nat → Prop} {w w0 w1 W W1 : World} {A A' : Option Addr} {u v v1 : Value} {xs : List α} {xs' : List β} {d' : Kd β} {x : α} {c : List Value}
theorem F_nil (d : Kd α) (W : World) (ok : Nat → Prop) : F d W ok none ([] : List α).length [] := fun W' _ => C_nil d W'
theorem FK_of_M (h : d.M W base ok x c) : FK d W ok x c := fun _ hW => d.K_of_M (M_step h hW)
end
end Kd
end Go.Proofs.YtkdfjomhichkoaaW.PrintWords
/-! ### 47. N: a row of the call's own whose elements share (what they lead to is only read) -/
namespace Go.Proofs.YtkdfjomhichkoaaW.PrintWords
open Go.RowKit
namespace Kd
/-- The cells one behind the other, element by element. -/
def chunks (sz : Nat) (n : Nat) (inner : List Value) : List (List Value) := (List.range n).map fun j => (inner.drop (j * sz)).take sz
theorem chunks_length (sz n : Nat) (inner : List Value) : (chunks sz n inner).length = n := by simp [chunks]
theorem chunks_at {sz n : Nat} {inner : List Value} {j : Nat} (hj : j < n) : (chunks sz n inner)[j]? = some ((inner.drop (j * sz)).take sz) := by simp [chunks, hj]
theorem chunks_get {sz n : Nat} {inner : List Value} {j : Nat} {c : List Value} (h : (chunks sz n inner)[j]? = some c) : c = (inner.drop (j * sz)).take sz := by
  have hj : j < n := by have := (List.getElem?_eq_some_iff.1 h).1; rwa [chunks_length] at this
  rw [chunks_at hj] at h
  injection h with h
  exact h.symm
theorem reps_raw {α : Type} {Rr : α → List Value → Prop} {sz : Nat} {xs : List α} {inner : List Value} (h : Reps Rr sz xs inner) (hR : ∀ x c, Rr x c → c.length = sz ∧ ∀ u ∈ c, u.oneCell' = true) : Reps (fun x cs => cs = x ∧ cs.length = sz ∧ ∀ u ∈ cs, u.oneCell' = true) sz (chunks sz xs.length inner) inner := by
  refine ⟨by rw [chunks_length]; exact h.1, fun j p hj => ?_⟩
  have hjl : j < xs.length := by have := (List.getElem?_eq_some_iff.1 hj).1; rwa [chunks_length] at this
  have hp := chunks_get hj
  exact ⟨hp.symm, hR _ _ (h.2 j _ (List.getElem?_eq_getElem hjl))⟩
section
variable {α : Type} {d : Kd α} {e base n cc g : Nat} {ok ok' okp S : Nat → Prop} {w w1 W W1 : World} {A : Option Addr} {u v v1 : Value} {xs : List α} {x : α} {c : List Value}
/-- A row of elements (type e) of the call's own; what the elements lead to is only read, and is not this row. -/
def N {α : Type} (d : Kd α) (e : Nat) (w : World) (base : Nat) (ok : Nat → Prop) (v : Value) (xs : List α) : Prop :=
  (∀ k, v.ownBlock = some k → ok k) ∧ ∃ rows : List (List Value), rows.length = xs.length ∧ (raw d.sz).R e w base (fun k => some k = v.ownBlock) v rows ∧ ∀ (j : Nat) (x : α) (c : List Value), xs[j]? = some x → rows[j]? = some c → FK d w (fun k => ok k ∧ some k ≠ v.ownBlock) x c
theorem R_N (h : d.R e w base ok v xs) : N d e w base ok v xs := by
  obtain ⟨h0, inner, ho, hr⟩ := h
  refine ⟨h0, chunks d.sz xs.length inner, chunks_length _ _ _, ⟨fun k hk => hk.symm, inner, by rw [chunks_length]; exact ho, reps_raw hr (fun x c hp => ⟨d.K_len (d.K_of_M hp), d.K_one (d.K_of_M hp)⟩)⟩, fun j x c hx hc => ?_⟩
  rw [chunks_get hc]
  exact FK_of_M (hr.2 j x hx)
theorem N_nil (d : Kd α) (e : Nat) (w : World) (base : Nat) (ok : Nat → Prop) : N d e w base ok (.slice none 0 0) [] := R_N (R_nil _ _ _ _ _)
end
end Kd
end Go.Proofs.YtkdfjomhichkoaaW.PrintWords
/-! ### 54. Behind orders that were drawn quietly: the same facts at the world's new name; a flat row's foot -/
namespace Go.Proofs.YtkdfjomhichkoaaW.PrintWords
open Go.RowKit
section
variable {w w' u : World} {m B g : Nat} {o : Obj} {row : Option Nat} {S : Nat → Prop} {a : Addr} {v : Value}
theorem below_at (hq : w.drewN m = w') (h : Below B u w) : Below B u w' := by subst hq; exact pw_below_drewN h m
theorem blk_at (hq : w.drewN m = w') (h : w.heap[g]? = some o) : w'.heap[g]? = some o := by subst hq; exact h
end
namespace Kd
section
variable {α : Type} {d : Kd α} {e base n m : Nat} {ok : Nat → Prop} {w w' : World} {v : Value} {A : Option Addr} {xs : List α}
theorem R_at (hq : w.drewN m = w') (h : d.R e w base ok v xs) : d.R e w' base ok v xs := by subst hq; exact R_drewN h m
end
end Kd
end Go.Proofs.YtkdfjomhichkoaaW.PrintWords
/-! ### 55. Reps told from the front, no append: for rows of one-cell elements and of wider ones -/
namespace Go.Proofs.YtkdfjomhichkoaaW.PrintWords
/-- One cell an element. -/
theorem Reps.one {α : Type} {R : α → List Value → Prop} {ps : List α} {cs : List Value} {p : α} {v : Value} (hp : R p [v]) (h : Reps R 1 ps cs) : Reps R 1 (p :: ps) (v :: cs) := by
  refine ⟨by simp [h.1], fun j q hq => ?_⟩
  cases j with
  | zero =>
    simp only [List.getElem?_cons_zero, Option.some.injEq] at hq
    subst hq
    simpa using hp
  | succ j =>
    simp only [List.getElem?_cons_succ] at hq
    have h1 := h.2 j q hq
    simpa [Nat.mul_one] using h1
/-- More cells an element: told apart by the cells' list. -/
theorem Reps.front {α : Type} {R : α → List Value → Prop} {size : Nat} {ps : List α} {cs c all : List Value} {p : α} (hp : R p c) (hc : c.length = size) (h : Reps R size ps cs) (ha : c ++ cs = all) : Reps R size (p :: ps) all := by
  subst ha
  refine ⟨by rw [List.length_append, hc, h.1, List.length_cons, Nat.succ_mul, Nat.add_comm], fun j q hq => ?_⟩
  cases j with
  | zero =>
    simp only [List.getElem?_cons_zero, Option.some.injEq] at hq
    subst hq
    rw [Nat.zero_mul, List.drop_zero, List.take_append_of_le_length (by omega), List.take_of_length_le (by omega)]
    exact hp
  | succ j =>
    simp only [List.getElem?_cons_succ] at hq
    have h1 := h.2 j q hq
    rw [Nat.succ_mul, List.drop_append, List.drop_of_length_le (by rw [hc]; exact Nat.le_add_left _ _), List.nil_append, hc, Nat.add_sub_cancel]
    exact h1
theorem Reps.c2 {α : Type} {R : α → List Value → Prop} {ps : List α} {cs : List Value} {p : α} {va vb : Value} (hp : R p [va, vb]) (h : Reps R 2 ps cs) : Reps R 2 (p :: ps) (va :: vb :: cs) := Reps.front hp rfl h rfl
theorem Reps.c3 {α : Type} {R : α → List Value → Prop} {ps : List α} {cs : List Value} {p : α} {va vb vc : Value} (hp : R p [va, vb, vc]) (h : Reps R 3 ps cs) : Reps R 3 (p :: ps) (va :: vb :: vc :: cs) := Reps.front hp rfl h rfl
theorem Reps.c4 {α : Type} {R : α → List Value → Prop} {ps : List α} {cs : List Value} {p : α} {va vb vc vd : Value} (hp : R p [va, vb, vc, vd]) (h : Reps R 4 ps cs) : Reps R 4 (p :: ps) (va :: vb :: vc :: vd :: cs) := Reps.front hp rfl h rfl
theorem Reps.c5 {α : Type} {R : α → List Value → Prop} {ps : List α} {cs : List Value} {p : α} {va vb vc vd ve : Value} (hp : R p [va, vb, vc, vd, ve]) (h : Reps R 5 ps cs) : Reps R 5 (p :: ps) (va :: vb :: vc :: vd :: ve :: cs) := Reps.front hp rfl h rfl
theorem Reps.c6 {α : Type} {R : α → List Value → Prop} {ps : List α} {cs : List Value} {p : α} {va vb vc vd ve vf : Value} (hp : R p [va, vb, vc, vd, ve, vf]) (h : Reps R 6 ps cs) : Reps R 6 (p :: ps) (va :: vb :: vc :: vd :: ve :: vf :: cs) := Reps.front hp rfl h rfl
theorem Reps.c7 {α : Type} {R : α → List Value → Prop} {ps : List α} {cs : List Value} {p : α} {va vb vc vd ve vf vg : Value} (hp : R p [va, vb, vc, vd, ve, vf, vg]) (h : Reps R 7 ps cs) : Reps R 7 (p :: ps) (va :: vb :: vc :: vd :: ve :: vf :: vg :: cs) := Reps.front hp rfl h rfl
theorem Reps.c8 {α : Type} {R : α → List Value → Prop} {ps : List α} {cs : List Value} {p : α} {va vb vc vd ve vf vg vh : Value} (hp : R p [va, vb, vc, vd, ve, vf, vg, vh]) (h : Reps R 8 ps cs) : Reps R 8 (p :: ps) (va :: vb :: vc :: vd :: ve :: vf :: vg :: vh :: cs) := Reps.front hp rfl h rfl
theorem Reps.c9 {α : Type} {R : α → List Value → Prop} {ps : List α} {cs : List Value} {p : α} {va vb vc vd ve vf vg vh vi : Value} (hp : R p [va, vb, vc, vd, ve, vf, vg, vh, vi]) (h : Reps R 9 ps cs) : Reps R 9 (p :: ps) (va :: vb :: vc :: vd :: ve :: vf :: vg :: vh :: vi :: cs) := Reps.front hp rfl h rfl
theorem Reps.c10 {α : Type} {R : α → List Value → Prop} {ps : List α} {cs : List Value} {p : α} {va vb vc vd ve vf vg vh vi vj : Value} (hp : R p [va, vb, vc, vd, ve, vf, vg, vh, vi, vj]) (h : Reps R 10 ps cs) : Reps R 10 (p :: ps) (va :: vb :: vc :: vd :: ve :: vf :: vg :: vh :: vi :: vj :: cs) := Reps.front hp rfl h rfl
end Go.Proofs.YtkdfjomhichkoaaW.PrintWords
/-! ### 57. A region of open order by ONE relation over what is listed so far: each operation is shown once, whatever came up before it -/
namespace Go.Proofs.YtkdfjomhichkoaaW.PrintLast
/-- Number i is listed too. -/
def up (b : Nat → Bool) (i : Nat) : Nat → Bool := fun j => if j = i then true else b j
section
variable {P : Program} {ops : Array Oper} {Q : Exit → Act → World → Prop} {md : Region.Mode} {T : Bool × List (List Nat × List Nat)} {B : List Nat} {O : List Nat} {b : Nat → Bool} {i j n : Nat}
end
end Go.Proofs.YtkdfjomhichkoaaW.PrintLast
/-! ### 58. A guarded operation whose guard is known to want it: the same goal without the guard -/
namespace Go.Proofs.YtkdfjomhichkoaaW.PrintWords
open Go.RowKit
section
variable {P : Program} {ops : Array Oper} {rest : List Oper} {o : Oper} {a : Act} {Q : Exit → Act → World → Prop} {W : World}
/-- The gate takes the guard off (hw: 'by rfl', 'by kernel_rfl': the guard's slot holds what is wanted). -/
theorem gate_guard (hw : Region.wanted o (yielded ops a.tmps) = true) (h : wpList P ops Q ({ o with guard := none } :: rest) a W) : wpList P ops Q (o :: rest) a W := by
  have h1 : Region.wanted { o with guard := none } (yielded ops a.tmps) = true := rfl
  unfold wpList at h ⊢
  rw [if_pos h1] at h
  rw [if_pos hw]
  exact h
end
end Go.Proofs.YtkdfjomhichkoaaW.PrintWords
-- PRINTED WORDS (module Derived/Print/More.lean): go-gate-2's additions: an AI agent of Go's test side, Tue Nov 17 2026; no person has read it. Lean checks it.
namespace Go.Proofs.YtkdfjomhichkoaaW.PrintMore
open Go.RowKit Go.Proofs.YtkdfjomhichkoaaW.PrintWords
namespace Kd
open Go.Proofs.YtkdfjomhichkoaaW.PrintWords.Kd
end Kd

namespace Kd
open Go.Proofs.YtkdfjomhichkoaaW.PrintWords.Kd
section
variable {α : Type} {d : Kd α} {e base g N : Nat} {ok : Nat → Prop} {W w1 : World} {u v : Value} {xs : List α}
/-- An elder row over an event that only makes: its blocks are elder than what was made. -/
theorem R_old (hu : d.R e W base ok u xs) (hb : Below W.heap.size W w1) : d.R e w1 base (fun k => ok k ∧ k < W.heap.size) u xs :=
  R_mono (R_below (R_bound hu) hb) (fun _ h => ⟨h.1, h.2.2.1⟩)
/-- It is none of the rows made since. -/
theorem R_told (h : d.R e w1 base (fun k => ok k ∧ k < N) u xs) (hbase : ∀ k, v.ownBlock = some k → N ≤ k) : d.R e w1 base (fun k => (ok k ∧ some k ≠ v.ownBlock) ∧ k < N) u xs :=
  R_mono h (fun k hk => ⟨⟨hk.1, fun e => Nat.lt_irrefl _ (Nat.lt_of_lt_of_le hk.2 (hbase k e.symm))⟩, hk.2⟩)
end
end Kd
/-- 'max' and 'min' of two whole numbers. -/
theorem max2_int (k k' : IntKind) (x y : Int) : Builtin.max2 (.int k x) (.int k' y) = pure (.int k (if x < y then y else x)) := by simp only [Builtin.max2, gt_iff_lt]
theorem min2_int (k k' : IntKind) (x y : Int) : Builtin.min2 (.int k x) (.int k' y) = pure (.int k (if y < x then y else x)) := by simp only [Builtin.min2]
theorem max_two (ats : Array TypeId) (ty : TypeId) (a b : Value) : Builtin.max_ ats ty #[a, b] = (Builtin.max2 a b >>= fun s => pure s) := by simp only [Builtin.max_, List.foldlM_cons, List.foldlM_nil]
theorem min_two (ats : Array TypeId) (ty : TypeId) (a b : Value) : Builtin.min_ ats ty #[a, b] = (Builtin.min2 a b >>= fun s => pure s) := by simp only [Builtin.min_, List.foldlM_cons, List.foldlM_nil]
theorem max_three (ats : Array TypeId) (ty : TypeId) (a b c : Value) : Builtin.max_ ats ty #[a, b, c] = (Builtin.max2 a b >>= fun s => Builtin.max2 s c >>= fun s => pure s) := by simp only [Builtin.max_, List.foldlM_cons, List.foldlM_nil]
theorem min_three (ats : Array TypeId) (ty : TypeId) (a b c : Value) : Builtin.min_ ats ty #[a, b, c] = (Builtin.min2 a b >>= fun s => Builtin.min2 s c >>= fun s => pure s) := by simp only [Builtin.min_, List.foldlM_cons, List.foldlM_nil]
theorem max_four (ats : Array TypeId) (ty : TypeId) (a b c d : Value) : Builtin.max_ ats ty #[a, b, c, d] = (Builtin.max2 a b >>= fun s => Builtin.max2 s c >>= fun s => Builtin.max2 s d >>= fun s => pure s) := by simp only [Builtin.max_, List.foldlM_cons, List.foldlM_nil]
theorem min_four (ats : Array TypeId) (ty : TypeId) (a b c d : Value) : Builtin.min_ ats ty #[a, b, c, d] = (Builtin.min2 a b >>= fun s => Builtin.min2 s c >>= fun s => Builtin.min2 s d >>= fun s => pure s) := by simp only [Builtin.min_, List.foldlM_cons, List.foldlM_nil]
end Go.Proofs.YtkdfjomhichkoaaW.PrintMore
namespace Go.Proofs.YtkdfjomhichkoaaW.PrintWords
open Go.RowKit
section
variable {P : Program} {ops : Array Oper} {rest : List Oper} {o : Oper} {a : Act} {Q : Exit → Act → World → Prop} {W : World}
/-- The operation is a call of this function (a cheap look ahead of a dear step). -/
theorem gate_callee {f : FuncId} {as_ : Array Operand} {ts : Array TypeId} (_ho : o.op = .call { callee := .value (.func f), args := as_, argTypes := ts }) (h : wpList P ops Q (o :: rest) a W) : wpList P ops Q (o :: rest) a W := h
/-- The operation is a builtin over these places. -/
theorem gate_builtin {b : Builtin} {xs : Array Operand} {ts : Array TypeId} (_ho : o.op = .call { callee := .builtin b, args := xs, argTypes := ts }) (h : wpList P ops Q (o :: rest) a W) : wpList P ops Q (o :: rest) a W := h
end
/-- The smaller of two whole numbers, as_ Go's min tells it. -/
def mn (a b : Int) : Int := if b < a then b else a
/-- It says x = x, and that is its use: 'rw [drewN_self w]' fails where the world was not drawn, and the row behind it is skipped. -/
theorem drewN_self (w : World) (n : Nat) : w.drewN n = w.drewN n := rfl
namespace Kd
section
variable {α : Type} {d : Kd α} {e base : Nat} {ok : Nat → Prop} {W w1 : World} {v : Value} {xs : List α}
end
section
variable {α : Type} {d : Kd α} {e base g n cap : Nat} {ok oki okp : Nat → Prop} {W : World} {xs : List α} {i : Int} {c : List Value}
end
section
variable {α : Type} {d : Kd α} {e base b b' g N : Nat} {ok ok1 : Nat → Prop} {W W2 w1 : World} {u v : Value} {xs ys : List α} {S : Nat → Prop}
theorem R_tight2 (hE : d.E = []) (h : d.R e W base ok v xs) : d.R e W base (fun k => some k = v.ownBlock ∧ ok k) v xs := R_mono (R_tight hE h) (fun k hk => ⟨hk, h.1 k hk.symm⟩)
theorem R_reok (hE : d.E = []) (h : d.R e W base ok1 v xs) (hok : ∀ k, v.ownBlock = some k → ok k) : d.R e W base ok v xs := R_mono (R_tight hE h) (fun k hk => hok k hk.symm)
theorem R_keptB (h : d.R e W base ok v xs) (hk : Kept W W2 S) (hne : ∀ k, ok k → ¬ S k) : d.R e W2 base (fun k => ok k ∧ (¬ S k ∧ k < W.heap.size)) v xs :=
  R_kept (R_mono (R_bound h) (fun k hk => ⟨hk.1, hne k hk.1, hk.2.2.1⟩)) hk (fun _ hk => hk.2.1)
end
end Kd
end Go.Proofs.YtkdfjomhichkoaaW.PrintWords
namespace Go.Proofs.YtkdfjomhichkoaaW.PrintWords
open Go.RowKit
namespace Kd
/-- A row that is only read, told by its value: its form, its length, what it leads to (in ok). e and base say nothing; they make it as_ the others are. -/
def V {α : Type} (d : Kd α) (_e : Nat) (W : World) (_base : Nat) (ok : Nat → Prop) (v : Value) (xs : List α) : Prop := ∃ A c, v = .slice A xs.length c ∧ xs.length ≤ c ∧ F d W ok A xs.length xs
section
variable {α β : Type} {d : Kd α} {e base base' n m c g N' lo hi : Nat} {ok ok' S : Nat → Prop} {w W w1 : World} {A : Option Addr} {ad : Addr} {u v v1 : Value} {xs : List α}
theorem V_nil (d : Kd α) (e : Nat) (W : World) (base : Nat) (ok : Nat → Prop) : V d e W base ok (.slice none 0 0) [] := ⟨none, 0, rfl, Nat.le_refl _, F_nil d W ok⟩
end
end Kd
end Go.Proofs.YtkdfjomhichkoaaW.PrintWords
-- Laid by a program of this work.
namespace Go.Proofs.Ytkdfjomhichkoaa.P
open Go.RowKit Go.Proofs.YtkdfjomhichkoaaW.PrintWords Go.Proofs.YtkdfjomhichkoaaW.PrintLast Go.Proofs.YtkdfjomhichkoaaW.PrintMore
attribute [local go_sem] max2_int min2_int max_two min_two max_three min_three max_four min_four   -- for this text's walks alone
set_option linter.unusedVariables false
set_option linter.unusedSimpArgs false

def errW : Option Int → Value
 | none => .nilIface
 | some c => .iface 0 (.int .i64 c)
theorem errW_none : errW none = .nilIface := rfl
theorem errW_some (c : Int) : errW (some c) = .iface 0 (.int .i64 c) := rfl

theorem info3 : (Try.prog.info? 3).map (fun i => (i.zero, i.size, i.bytes)) = some (some (.int .i64 0), 1, 8) := by kernel_rfl
theorem info34 : (Try.prog.info? 34).map (fun i => (i.zero, i.size, i.bytes)) = some (some (.agg #[(.int .i64 0), (.int .i64 0), (.int .i64 0), (.int .i64 0)]), 4, 32) := by kernel_rfl
theorem info88 : (Try.prog.info? 88).map (fun i => (i.zero, i.size, i.bytes)) = some (some (.agg #[(.int .i64 0), (.int .i64 0), (.int .i64 0)]), 3, 24) := by kernel_rfl
-- the values' own types
/-! #### struct type 88 -/
structure S88 where
 f0 : Int
 f1 : Int
 f2 : Int
def z88 : S88 := ⟨(0 : Int), (0 : Int), (0 : Int)⟩
def k88 : Kd S88 := Kd.iso (Kd.pair (Kd.int .i64) (Kd.pair (Kd.int .i64) (Kd.int .i64))) (fun x : S88 => (x.f0, x.f1, x.f2))
theorem k88_open {w : World} {x : S88} {cs : List Value} (h : k88.K w x cs) : cs = [.int .i64 x.f0, .int .i64 x.f1, .int .i64 x.f2] := by
 obtain ⟨_, _, rfl, rfl, ⟨_, _, rfl, rfl, rfl⟩⟩ := h
 exact rfl
theorem k88_openM {w : World} {base : Nat} {ok : Nat → Prop} {x : S88} {cs : List Value} (h : k88.M w base ok x cs) : cs = [.int .i64 x.f0, .int .i64 x.f1, .int .i64 x.f2] := by
 obtain ⟨_, _, rfl, rfl, ⟨_, _, rfl, rfl, rfl⟩⟩ := h
 exact rfl
theorem k88_mkM (w : World) (base : Nat) (ok : Nat → Prop) (x : S88)  : k88.M w base ok x [.int .i64 x.f0, .int .i64 x.f1, .int .i64 x.f2] := ⟨[.int .i64 x.f0], [.int .i64 x.f1, .int .i64 x.f2], rfl, rfl, ⟨[.int .i64 x.f1], [.int .i64 x.f2], rfl, rfl, rfl⟩⟩
def rd_T88 (xs : List S88) (i : Int) : S88 := xs.getD i.toNat z88
theorem at_T88 {w : World} {A : Option Addr} {n : Nat} {xs : List S88} (h : Kd.C k88 w A n xs) (i : Int) (h0 : 0 ≤ i) (h1 : i < n) : ∃ ad , A = some ad ∧ w.cell? (ad.add (i.toNat * 3)) = some (.int .i64 (rd_T88 xs i).f0) ∧ w.cell? ⟨(ad.add (i.toNat * 3)).block, (ad.add (i.toNat * 3)).off + 1, none⟩ = some (.int .i64 (rd_T88 xs i).f1) ∧ w.cell? ⟨(ad.add (i.toNat * 3)).block, (ad.add (i.toNat * 3)).off + 2, none⟩ = some (.int .i64 (rd_T88 xs i).f2) := by
 obtain ⟨ad, c, e, _, hK, hc0⟩ := Kd.C_get h z88 i h0 h1
 have hc : ∀ j u, c[j]? = some u → w.cell? (ad.add (i.toNat * 3 + j)) = some u := hc0
 obtain rfl := k88_open hK
 exact ⟨ad, e, hc 0 _ rfl, by rw [← add_field _ _ 1 (by omega)]; exact hc 1 _ rfl, by rw [← add_field _ _ 2 (by omega)]; exact hc 2 _ rfl⟩

/-! #### struct type 34 -/
structure S34 where
 f0 : Int
 f1 : Int
 f2 : Int
 f3 : Int
def z34 : S34 := ⟨(0 : Int), (0 : Int), (0 : Int), (0 : Int)⟩
def k34 : Kd S34 := Kd.iso (Kd.pair (Kd.int .i64) (Kd.pair (Kd.int .i64) (Kd.pair (Kd.int .i64) (Kd.int .i64)))) (fun x : S34 => (x.f0, x.f1, x.f2, x.f3))
theorem k34_open {w : World} {x : S34} {cs : List Value} (h : k34.K w x cs) : cs = [.int .i64 x.f0, .int .i64 x.f1, .int .i64 x.f2, .int .i64 x.f3] := by
 obtain ⟨_, _, rfl, rfl, ⟨_, _, rfl, rfl, ⟨_, _, rfl, rfl, rfl⟩⟩⟩ := h
 exact rfl
theorem k34_openM {w : World} {base : Nat} {ok : Nat → Prop} {x : S34} {cs : List Value} (h : k34.M w base ok x cs) : cs = [.int .i64 x.f0, .int .i64 x.f1, .int .i64 x.f2, .int .i64 x.f3] := by
 obtain ⟨_, _, rfl, rfl, ⟨_, _, rfl, rfl, ⟨_, _, rfl, rfl, rfl⟩⟩⟩ := h
 exact rfl
theorem k34_mkM (w : World) (base : Nat) (ok : Nat → Prop) (x : S34)  : k34.M w base ok x [.int .i64 x.f0, .int .i64 x.f1, .int .i64 x.f2, .int .i64 x.f3] := ⟨[.int .i64 x.f0], [.int .i64 x.f1, .int .i64 x.f2, .int .i64 x.f3], rfl, rfl, ⟨[.int .i64 x.f1], [.int .i64 x.f2, .int .i64 x.f3], rfl, rfl, ⟨[.int .i64 x.f2], [.int .i64 x.f3], rfl, rfl, rfl⟩⟩⟩
def rd_T34 (xs : List S34) (i : Int) : S34 := xs.getD i.toNat z34
theorem at_T34 {w : World} {A : Option Addr} {n : Nat} {xs : List S34} (h : Kd.C k34 w A n xs) (i : Int) (h0 : 0 ≤ i) (h1 : i < n) : ∃ ad , A = some ad ∧ w.cell? (ad.add (i.toNat * 4)) = some (.int .i64 (rd_T34 xs i).f0) ∧ w.cell? ⟨(ad.add (i.toNat * 4)).block, (ad.add (i.toNat * 4)).off + 1, none⟩ = some (.int .i64 (rd_T34 xs i).f1) ∧ w.cell? ⟨(ad.add (i.toNat * 4)).block, (ad.add (i.toNat * 4)).off + 2, none⟩ = some (.int .i64 (rd_T34 xs i).f2) ∧ w.cell? ⟨(ad.add (i.toNat * 4)).block, (ad.add (i.toNat * 4)).off + 3, none⟩ = some (.int .i64 (rd_T34 xs i).f3) := by
 obtain ⟨ad, c, e, _, hK, hc0⟩ := Kd.C_get h z34 i h0 h1
 have hc : ∀ j u, c[j]? = some u → w.cell? (ad.add (i.toNat * 4 + j)) = some u := hc0
 obtain rfl := k34_open hK
 exact ⟨ad, e, hc 0 _ rfl, by rw [← add_field _ _ 1 (by omega)]; exact hc 1 _ rfl, by rw [← add_field _ _ 2 (by omega)]; exact hc 2 _ rfl, by rw [← add_field _ _ 3 (by omega)]; exact hc 3 _ rfl⟩

/-! #### struct type 90 -/
structure S90 where
 f0 : Int
 f1 : Int
 f2 : Int
def z90 : S90 := ⟨(0 : Int), (0 : Int), (0 : Int)⟩
def k90 : Kd S90 := Kd.iso (Kd.pair (Kd.int .i64) (Kd.pair (Kd.int .i64) (Kd.int .i64))) (fun x : S90 => (x.f0, x.f1, x.f2))
theorem k90_open {w : World} {x : S90} {cs : List Value} (h : k90.K w x cs) : cs = [.int .i64 x.f0, .int .i64 x.f1, .int .i64 x.f2] := by
 obtain ⟨_, _, rfl, rfl, ⟨_, _, rfl, rfl, rfl⟩⟩ := h
 exact rfl
theorem k90_mk (w : World) (x : S90)  : k90.K w x [.int .i64 x.f0, .int .i64 x.f1, .int .i64 x.f2] := ⟨[.int .i64 x.f0], [.int .i64 x.f1, .int .i64 x.f2], rfl, rfl, ⟨[.int .i64 x.f1], [.int .i64 x.f2], rfl, rfl, rfl⟩⟩
def rd_T90 (xs : List S90) (i : Int) : S90 := xs.getD i.toNat z90
theorem at_T90 {w : World} {A : Option Addr} {n : Nat} {xs : List S90} (h : Kd.C k90 w A n xs) (i : Int) (h0 : 0 ≤ i) (h1 : i < n) : ∃ ad , A = some ad ∧ w.cell? (ad.add (i.toNat * 3)) = some (.int .i64 (rd_T90 xs i).f0) ∧ w.cell? ⟨(ad.add (i.toNat * 3)).block, (ad.add (i.toNat * 3)).off + 1, none⟩ = some (.int .i64 (rd_T90 xs i).f1) ∧ w.cell? ⟨(ad.add (i.toNat * 3)).block, (ad.add (i.toNat * 3)).off + 2, none⟩ = some (.int .i64 (rd_T90 xs i).f2) := by
 obtain ⟨ad, c, e, _, hK, hc0⟩ := Kd.C_get h z90 i h0 h1
 have hc : ∀ j u, c[j]? = some u → w.cell? (ad.add (i.toNat * 3 + j)) = some u := hc0
 obtain rfl := k90_open hK
 exact ⟨ad, e, hc 0 _ rfl, by rw [← add_field _ _ 1 (by omega)]; exact hc 1 _ rfl, by rw [← add_field _ _ 2 (by omega)]; exact hc 2 _ rfl⟩

/-! #### struct type 92 -/
structure S92 where
 f0 : Int
 f1 : Int
 f2 : Int
 f3 : Int
def z92 : S92 := ⟨(0 : Int), (0 : Int), (0 : Int), (0 : Int)⟩
def k92 : Kd S92 := Kd.iso (Kd.pair (Kd.int .i64) (Kd.pair (Kd.int .i64) (Kd.pair (Kd.int .i64) (Kd.int .i64)))) (fun x : S92 => (x.f0, x.f1, x.f2, x.f3))
theorem k92_open {w : World} {x : S92} {cs : List Value} (h : k92.K w x cs) : cs = [.int .i64 x.f0, .int .i64 x.f1, .int .i64 x.f2, .int .i64 x.f3] := by
 obtain ⟨_, _, rfl, rfl, ⟨_, _, rfl, rfl, ⟨_, _, rfl, rfl, rfl⟩⟩⟩ := h
 exact rfl
theorem k92_mk (w : World) (x : S92)  : k92.K w x [.int .i64 x.f0, .int .i64 x.f1, .int .i64 x.f2, .int .i64 x.f3] := ⟨[.int .i64 x.f0], [.int .i64 x.f1, .int .i64 x.f2, .int .i64 x.f3], rfl, rfl, ⟨[.int .i64 x.f1], [.int .i64 x.f2, .int .i64 x.f3], rfl, rfl, ⟨[.int .i64 x.f2], [.int .i64 x.f3], rfl, rfl, rfl⟩⟩⟩
def rd_T92 (xs : List S92) (i : Int) : S92 := xs.getD i.toNat z92
theorem at_T92 {w : World} {A : Option Addr} {n : Nat} {xs : List S92} (h : Kd.C k92 w A n xs) (i : Int) (h0 : 0 ≤ i) (h1 : i < n) : ∃ ad , A = some ad ∧ w.cell? (ad.add (i.toNat * 4)) = some (.int .i64 (rd_T92 xs i).f0) ∧ w.cell? ⟨(ad.add (i.toNat * 4)).block, (ad.add (i.toNat * 4)).off + 1, none⟩ = some (.int .i64 (rd_T92 xs i).f1) ∧ w.cell? ⟨(ad.add (i.toNat * 4)).block, (ad.add (i.toNat * 4)).off + 2, none⟩ = some (.int .i64 (rd_T92 xs i).f2) ∧ w.cell? ⟨(ad.add (i.toNat * 4)).block, (ad.add (i.toNat * 4)).off + 3, none⟩ = some (.int .i64 (rd_T92 xs i).f3) := by
 obtain ⟨ad, c, e, _, hK, hc0⟩ := Kd.C_get h z92 i h0 h1
 have hc : ∀ j u, c[j]? = some u → w.cell? (ad.add (i.toNat * 4 + j)) = some u := hc0
 obtain rfl := k92_open hK
 exact ⟨ad, e, hc 0 _ rfl, by rw [← add_field _ _ 1 (by omega)]; exact hc 1 _ rfl, by rw [← add_field _ _ 2 (by omega)]; exact hc 2 _ rfl, by rw [← add_field _ _ 3 (by omega)]; exact hc 3 _ rfl⟩

end Go.Proofs.Ytkdfjomhichkoaa.P
-- Laid by a program of this work.
namespace Go.Proofs.Ytkdfjomhichkoaa.P
open Go.RowKit Go.Proofs.YtkdfjomhichkoaaW.PrintWords Go.Proofs.YtkdfjomhichkoaaW.PrintLast Go.Proofs.YtkdfjomhichkoaaW.PrintMore
attribute [local go_sem] max2_int min2_int max_two min_two max_three min_three max_four min_four   -- for this text's walks alone
set_option linter.unusedVariables false
set_option linter.unusedSimpArgs false

-- by hand
/-! The machine of a simulation, by hand: its jobs, what is done, the time. -/
abbrev JobT := S34
structure Mach (W : World) (g : Nat) (A : Option Addr) (c : Nat) (js : List JobT) (D : Option Addr) (cd : Nat) (dn : List Int) (now : Int) : Prop where
  jobs : W.cell? ⟨g, 0, none⟩ = some (.slice A js.length c)
  done : W.cell? ⟨g, 1, none⟩ = some (.slice D dn.length cd)
  time : W.cell? ⟨g, 2, none⟩ = some (.int .i64 now)
  row : Kd.C k34 W A js.length js
  drow : Kd.C (Kd.int .i64) W D dn.length dn
  len : dn.length = js.length
theorem Mach.below {W W' : World} {g : Nat} {A : Option Addr} {c : Nat} {js : List JobT} {D : Option Addr} {cd : Nat} {dn : List Int} {now : Int} (h : Mach W g A c js D cd dn now) (hb : Below W.heap.size W W') : Mach W' g A c js D cd dn now :=
  ⟨(hb.cell (World.block_lt_of_cell? _ _ h.jobs)).trans h.jobs, (hb.cell (World.block_lt_of_cell? _ _ h.done)).trans h.done, (hb.cell (World.block_lt_of_cell? _ _ h.time)).trans h.time, Kd.C_below h.row hb, Kd.C_below h.drow hb, h.len⟩
def jrd (js : List JobT) (i : Nat) : JobT := rd_T34 js (i : Int)
/-- Released and unfinished. -/
def rdyD (js : List JobT) (dn : List Int) (now : Int) (i : Nat) : Bool := decide ((jrd js i).f1 ≤ now) && decide (rd dn (i : Int) < (jrd js i).f3)
set_option maxHeartbeats 4000000 in
set_option maxRecDepth 100000 in
theorem ready_calls (g : Nat) (A : Option Addr) (c : Nat) (js : List JobT) (D : Option Addr) (cd : Nat) (dn : List Int) (now : Int) (i : Nat) (hi : i < js.length) (w : World) (h : Mach w g A c js D cd dn now) :
    Calls Try.prog 100 #[.pointer (some ⟨g, 0, none⟩), .int .i64 i] w fun e w' => e = .returned (.bool (rdyD js dn now i)) ∧ Below w.heap.size w w' := by
  obtain ⟨h0, h1, h2, hr, hd, hl⟩ := h
  have hi0 : (0 : Int) ≤ (i : Int) := by omega
  have hi1 : (i : Int) < (js.length : Int) := by omega
  have hi2 : (i : Int) < (dn.length : Int) := by omega
  obtain ⟨ad, ea, hx0, hx1, hx2, hx3⟩ := at_T34 hr (i : Int) hi0 hi1
  obtain ⟨ad2, ea2, hy⟩ := Kd.at_int hd (i : Int) hi0 hi2
  cases ea
  cases ea2
  unfold rdyD jrd
  rw [Int.toNat_natCast] at hx1 hx3 hy
  clear hr hd hx0 hx2
  generalize (rd_T34 js (i : Int)).f1 = x at hx1 ⊢
  generalize (rd_T34 js (i : Int)).f3 = y at hx3 ⊢
  generalize rd dn (i : Int) = z at hy ⊢
  by_cases hc : x ≤ now
  · have hc1 : decide (x ≤ now) = true := decide_eq_true hc
    go_enter Try.func100, Try.ntmps100
    go_wp2_with fail
    go_big_region
    all_goals go_wp2
    go_ret
    refine ⟨?_, below_drew1 (Below.refl _ _)⟩
    simp [hc]
  · have hc1 : decide (x ≤ now) = false := decide_eq_false hc
    have hc2 : ¬ x ≤ now := hc
    go_enter Try.func100, Try.ntmps100
    go_wp2_with fail
    go_big_region
    all_goals go_wp2
    go_ret
    refine ⟨?_, below_drew1 (Below.refl _ _)⟩
    rw [hc1]; rfl
set_option maxHeartbeats 4000000 in
set_option maxRecDepth 100000 in
theorem deadline_calls (g : Nat) (A : Option Addr) (c : Nat) (js : List JobT) (D : Option Addr) (cd : Nat) (dn : List Int) (now : Int) (i : Nat) (hi : i < js.length) (w : World) (h : Mach w g A c js D cd dn now) :
    Calls Try.prog 52 #[.pointer (some ⟨g, 0, none⟩), .int .i64 i] w fun e w' => e = .returned (.int .i64 (jrd js i).f2) ∧ Below w.heap.size w w' := by
  obtain ⟨h0, h1, h2, hr, hd, hl⟩ := h
  have hi0 : (0 : Int) ≤ (i : Int) := by omega
  have hi1 : (i : Int) < (js.length : Int) := by omega
  obtain ⟨ad, ea, hx0, hx1, hx2, hx3⟩ := at_T34 hr (i : Int) hi0 hi1
  cases ea
  unfold jrd
  rw [Int.toNat_natCast] at hx2
  clear hr hd hx0 hx1 hx3 h1 h2
  generalize (rd_T34 js (i : Int)).f2 = x at hx2 ⊢
  go_enter Try.func52, Try.ntmps52
  go_wp2
  go_ret
  exact ⟨rfl, Below.refl _ _⟩
set_option maxHeartbeats 4000000 in
set_option maxRecDepth 100000 in
theorem any_calls (g : Nat) (i : Nat) (w : World) :
    Calls Try.prog 101 #[.pointer (some ⟨g, 0, none⟩), .int .i64 i] w fun e w' => e = .returned (.bool true) ∧ Below w.heap.size w w' := by
  go_enter Try.func101, Try.ntmps101
  go_wp2
  go_ret
  exact ⟨rfl, Below.refl _ _⟩
/-- The choice of best: as the plain rule chooses. -/
def bestD (ok : Nat → Bool) (key : Nat → Int) : Nat → Int
  | 0 => -1
  | n + 1 => if ok n = true ∧ (bestD ok key n < 0 ∨ key n < key (bestD ok key n).toNat) then (n : Int) else bestD ok key n
theorem bestD_rng (ok : Nat → Bool) (key : Nat → Int) : ∀ n, bestD ok key n = -1 ∨ ∃ b : Nat, b < n ∧ bestD ok key n = (b : Int)
  | 0 => Or.inl rfl
  | n + 1 => by
    rw [bestD]
    split
    · exact Or.inr ⟨n, by omega, rfl⟩
    · rcases bestD_rng ok key n with h | ⟨b, hb, h⟩
      · exact Or.inl h
      · exact Or.inr ⟨b, by omega, h⟩
set_option maxHeartbeats 8000000 in
set_option maxRecDepth 100000 in
/-- best, whatever the key and whatever may run. -/
theorem best_calls (key : Nat → Int) (may : Nat → Bool) (kn mn : Nat) (kb kl mb ml : Array Value) (ek : ∀ args w, (callFunc kn args).run Try.prog w = .ok (.enter kn args) w) (em : ∀ args w, (callFunc mn args).run Try.prog w = .ok (.enter mn args) w) (hne : kn ≠ mn)
    (g : Nat) (A : Option Addr) (c : Nat) (js : List JobT) (D : Option Addr) (cd : Nat) (dn : List Int) (now : Int) (w : World) (h : Mach w g A c js D cd dn now)
    (hk : ∀ (W : World) (i : Nat), Below w.heap.size w W → i < js.length → Calls Try.prog kn (kb ++ #[.int .i64 i] ++ kl) W fun e w' => e = .returned (.int .i64 (key i)) ∧ Below W.heap.size W w')
    (hm : ∀ (W : World) (i : Nat), Below w.heap.size w W → i < js.length → Calls Try.prog mn (mb ++ #[.int .i64 i] ++ ml) W fun e w' => e = .returned (.bool (may i)) ∧ Below W.heap.size W w') :
    Calls Try.prog 51 #[.pointer (some ⟨g, 0, none⟩), .func (.func kn) kb kl, .func (.func mn) mb ml] w fun e w' => e = .returned (.int .i64 (bestD (fun i => rdyD js dn now i && may i) key js.length)) ∧ Below w.heap.size w w' := by
  have HM := Aside0.mk h
  have HKY := Aside0.mk hk
  have HMY := Aside0.mk hm
  have hj := h.jobs
  have hjl : js.length ≤ 9223372036854775807 := h.row.2.1
  clear h hk hm
  go_enter Try.func51, Try.ntmps51
  go_wp2
  go_loopg [7, 14] js.length (fun gg v7 v14 wr => ∃ i : Nat, v14 = .int .i64 i ∧ i ≤ js.length ∧ js.length - i ≤ gg ∧ v7 = .int .i64 (bestD (fun i => rdyD js dn now i && may i) key i) ∧ Aside0 (Below w.heap.size w wr))
  case atStart => exact ⟨0, by go_num, by omega, by omega, rfl, ⟨Below.refl _ _⟩⟩
  case round =>
    obtain ⟨i, rfl, hil, hgg, rfl, BW⟩ := hrel
    by_cases hlt : i < js.length
    · have hltz : (i : Int) < (js.length : Int) := by omega
      obtain ⟨b, hb⟩ : ∃ b, bestD (fun i => rdyD js dn now i && may i) key i = b := ⟨_, rfl⟩
      have hrng := bestD_rng (fun i => rdyD js dn now i && may i) key i
      have hnext : ∀ v : Bool, (rdyD js dn now i && may i) = v → bestD (fun i => rdyD js dn now i && may i) key (i + 1) = if v = true ∧ (b < 0 ∨ key i < key b.toNat) then (i : Int) else b := fun v hv => by
        rw [bestD, hb]
        simp only [hv]
      rw [hb] at hrng ⊢
      have HN := Aside0.mk hnext
      clear hnext hb
      cases hr : rdyD js dn now i with
      | false =>
        have hv := HN.out false (by rw [hr]; rfl)
        rw [if_neg (by simp)] at hv
        have HV := Aside0.mk hv
        clear hv hrng
        go_wp2_with (go_at_call 100; refine (ready_calls g A c js D cd dn now i hlt _ (HM.out.below BW.out)).mono ?_; rw [hr]; rintro e w1 ⟨rfl, hb1⟩; have BW1 := Aside0.mk (below_step BW.out hb1); clear hb1)
        go_roundg (js.length - (i + 1))
        case measure => omega
        case rel => exact ⟨i + 1, by go_num, by omega, by omega, by rw [HV.out], BW1⟩
      | true =>
        cases hmm : may i with
        | false =>
          have hv := HN.out false (by rw [hr, hmm]; rfl)
          rw [if_neg (by simp)] at hv
          have HV := Aside0.mk hv
          clear hv hrng
          go_wp2_with (first | (go_at_call 100; refine (ready_calls g A c js D cd dn now i hlt _ (HM.out.below BW.out)).mono ?_; rw [hr]; rintro e w1 ⟨rfl, hb1⟩; have BW1 := Aside0.mk (below_step BW.out hb1); clear hb1) | (go_at_fn mn; refine (HMY.out _ i BW1.out hlt).mono ?_; rw [hmm]; rintro e w2 ⟨rfl, hb2⟩; have BW2 := Aside0.mk (below_step BW1.out hb2); clear hb2))
          go_roundg (js.length - (i + 1))
          case measure => omega
          case rel => exact ⟨i + 1, by go_num, by omega, by omega, by rw [HV.out], BW2⟩
        | true =>
          have hv := HN.out true (by rw [hr, hmm]; rfl)
          rcases hrng with rfl | ⟨bn, hbn, rfl⟩
          · rw [if_pos ⟨rfl, Or.inl (by omega)⟩] at hv
            have HV := Aside0.mk hv
            clear hv
            go_wp2_with (first | (go_at_call 100; refine (ready_calls g A c js D cd dn now i hlt _ (HM.out.below BW.out)).mono ?_; rw [hr]; rintro e w1 ⟨rfl, hb1⟩; have BW1 := Aside0.mk (below_step BW.out hb1); clear hb1) | (go_at_fn mn; refine (HMY.out _ i BW1.out hlt).mono ?_; rw [hmm]; rintro e w2 ⟨rfl, hb2⟩; have BW2 := Aside0.mk (below_step BW1.out hb2); clear hb2))
            go_roundg (js.length - (i + 1))
            case measure => omega
            case rel => exact ⟨i + 1, by go_num, by omega, by omega, by rw [HV.out], BW2⟩
          · have hbl : bn < js.length := by omega
            have hb0 : ¬ (bn : Int) < 0 := by omega
            obtain ⟨ki, hki⟩ : ∃ ki, key i = ki := ⟨_, rfl⟩
            obtain ⟨kq, hkb⟩ : ∃ kq, key bn = kq := ⟨_, rfl⟩
            rw [Int.toNat_natCast, hki, hkb] at hv
            have tok1 : True := trivial
            by_cases hlk : ki < kq
            · rw [if_pos ⟨rfl, Or.inr hlk⟩] at hv
              have HV := Aside0.mk hv
              clear hv
              go_wp2_with (first | (go_at_call 100; refine (ready_calls g A c js D cd dn now i hlt _ (HM.out.below BW.out)).mono ?_; rw [hr]; rintro e w1 ⟨rfl, hb1⟩; have BW1 := Aside0.mk (below_step BW.out hb1); clear hb1) | (go_at_fn mn; refine (HMY.out _ i BW1.out hlt).mono ?_; rw [hmm]; rintro e w2 ⟨rfl, hb2⟩; have BW2 := Aside0.mk (below_step BW1.out hb2); clear hb2) | (go_at_fn kn; have _t := tok1; refine (HKY.out _ i BW2.out hlt).mono ?_; rw [hki]; rintro e w3 ⟨rfl, hb3⟩; have BW3 := Aside0.mk (below_step BW2.out hb3); clear hb3 tok1) | (go_at_fn kn; refine (HKY.out _ bn BW3.out hbl).mono ?_; rw [hkb]; rintro e w4 ⟨rfl, hb4⟩; have BW4 := Aside0.mk (below_step BW3.out hb4); clear hb4))
              go_roundg (js.length - (i + 1))
              case measure => omega
              case rel => exact ⟨i + 1, by go_num, by omega, by omega, by rw [HV.out], BW4⟩
            · rw [if_neg (fun h => h.2.elim hb0 hlk)] at hv
              have HV := Aside0.mk hv
              clear hv
              go_wp2_with (first | (go_at_call 100; refine (ready_calls g A c js D cd dn now i hlt _ (HM.out.below BW.out)).mono ?_; rw [hr]; rintro e w1 ⟨rfl, hb1⟩; have BW1 := Aside0.mk (below_step BW.out hb1); clear hb1) | (go_at_fn mn; refine (HMY.out _ i BW1.out hlt).mono ?_; rw [hmm]; rintro e w2 ⟨rfl, hb2⟩; have BW2 := Aside0.mk (below_step BW1.out hb2); clear hb2) | (go_at_fn kn; have _t := tok1; refine (HKY.out _ i BW2.out hlt).mono ?_; rw [hki]; rintro e w3 ⟨rfl, hb3⟩; have BW3 := Aside0.mk (below_step BW2.out hb3); clear hb3 tok1) | (go_at_fn kn; refine (HKY.out _ bn BW3.out hbl).mono ?_; rw [hkb]; rintro e w4 ⟨rfl, hb4⟩; have BW4 := Aside0.mk (below_step BW3.out hb4); clear hb4))
              go_roundg (js.length - (i + 1))
              case measure => omega
              case rel => exact ⟨i + 1, by go_num, by omega, by omega, by rw [HV.out], BW4⟩
    · have hltz : ¬ (i : Int) < (js.length : Int) := by omega
      go_wp2
      go_ret
      exact ⟨by rw [show i = js.length by omega]; rfl, BW.out⟩
def edfD (js : List JobT) (dn : List Int) (now : Int) : Int := bestD (fun i => rdyD js dn now i) (fun i => (jrd js i).f2) js.length
def startD (js : List JobT) (dn : List Int) (now : Int) : Int := bestD (fun i => rdyD js dn now i && decide (rd dn (i : Int) > 0)) (fun i => (jrd js i).f2) js.length
def npD (js : List JobT) (dn : List Int) (now : Int) : Int := if startD js dn now ≥ 0 then startD js dn now else edfD js dn now
set_option maxHeartbeats 4000000 in
set_option maxRecDepth 100000 in
theorem edf_calls (g : Nat) (A : Option Addr) (c : Nat) (js : List JobT) (D : Option Addr) (cd : Nat) (dn : List Int) (now : Int) (w : World) (h : Mach w g A c js D cd dn now) :
    Calls Try.prog 54 #[.pointer (some ⟨g, 0, none⟩)] w fun e w' => e = .returned (.int .i64 (edfD js dn now)) ∧ Below w.heap.size w w' := by
  have HC := Aside0.mk (fun W (hW : W = w) => best_calls (fun i => (jrd js i).f2) (fun _ => true) 52 101 #[.pointer (some ⟨g, 0, none⟩)] #[] #[.pointer (some ⟨g, 0, none⟩)] #[]
    (enters_of Try.func52 (by kernel_rfl) rfl) (enters_of Try.func101 (by kernel_rfl) rfl) (by decide)
    g A c js D cd dn now W (by subst hW; exact h) (fun W' i hb hi => deadline_calls g A c js D cd dn now i hi W' ((show Mach W g A c js D cd dn now by subst hW; exact h).below hb)) (fun W' i _ _ => any_calls g i W'))
  clear h
  go_enter Try.func54, Try.ntmps54
  go_wp2_with (go_at_call 51; refine (HC.out _ rfl).mono ?_; rintro e w1 ⟨rfl, hb⟩; have HB := Aside0.mk hb; clear hb)
  go_ret
  exact ⟨rfl, HB.out⟩
set_option maxHeartbeats 4000000 in
set_option maxRecDepth 100000 in
theorem started_calls (g : Nat) (A : Option Addr) (c : Nat) (js : List JobT) (D : Option Addr) (cd : Nat) (dn : List Int) (now : Int) (i : Nat) (hi : i < js.length) (B : Addr) (w : World) (hB : w.cell? B = some (.pointer (some ⟨g, 0, none⟩))) (h : Mach w g A c js D cd dn now) :
    Calls Try.prog 53 #[.int .i64 i, .pointer (some B)] w fun e w' => e = .returned (.bool (decide (rd dn (i : Int) > 0))) ∧ Below w.heap.size w w' := by
  obtain ⟨h0, h1, h2, hr, hd, hl⟩ := h
  have hi0 : (0 : Int) ≤ (i : Int) := by omega
  have hi2 : (i : Int) < (dn.length : Int) := by omega
  obtain ⟨ad2, ea2, hy⟩ := Kd.at_int hd (i : Int) hi0 hi2
  cases ea2
  rw [Int.toNat_natCast] at hy
  clear hr hd h0 h2
  generalize rd dn (i : Int) = z at hy ⊢
  go_enter Try.func53, Try.ntmps53
  go_wp2
  go_ret
  exact ⟨rfl, Below.refl _ _⟩
set_option maxHeartbeats 4000000 in
set_option maxRecDepth 100000 in
theorem np_calls (g : Nat) (A : Option Addr) (c : Nat) (js : List JobT) (D : Option Addr) (cd : Nat) (dn : List Int) (now : Int) (w : World) (h : Mach w g A c js D cd dn now) :
    Calls Try.prog 50 #[.pointer (some ⟨g, 0, none⟩)] w fun e w' => e = .returned (.int .i64 (npD js dn now)) ∧ Below w.heap.size w w' := by
  have HM := Aside0.mk h
  have HC := Aside0.mk (fun (W : World) (B : Addr) (hB : W.cell? B = some (.pointer (some ⟨g, 0, none⟩))) (h : Mach W g A c js D cd dn now) => best_calls (fun i => (jrd js i).f2) (fun i => decide (rd dn (i : Int) > 0)) 52 53 #[.pointer (some ⟨g, 0, none⟩)] #[] #[] #[.pointer (some B)]
    (enters_of Try.func52 (by kernel_rfl) rfl) (enters_of Try.func53 (by kernel_rfl) rfl) (by decide)
    g A c js D cd dn now W h (fun W' i hb hi => deadline_calls g A c js D cd dn now i hi W' (h.below hb)) (fun W' i hb hi => started_calls g A c js D cd dn now i hi B W' ((hb.cell (World.block_lt_of_cell? _ _ hB)).trans hB) (h.below hb)))
  clear h
  by_cases hs : startD js dn now ≥ 0
  · have e : npD js dn now = startD js dn now := if_pos hs
    rw [e]
    clear e
    go_enter Try.func50, Try.ntmps50
    go_wp2_with (go_at_call 51; refine (HC.out _ ⟨w.heap.size, 0, none⟩ (by simp) (HM.out.below (below_alloc (Below.refl _ _) _))).mono ?_; rintro e w1 ⟨he, hb⟩; rw [show bestD (fun i => rdyD js dn now i && decide (rd dn (i : Int) > 0)) (fun i => (jrd js i).f2) js.length = startD js dn now from rfl] at he; subst he; have HB := Aside0.mk hb; clear hb)
    go_ret
    exact ⟨rfl, below_weaken (below_alloc (Below.refl _ _) _) (by simp) HB.out⟩
  · have e : npD js dn now = edfD js dn now := if_neg hs
    rw [e]
    clear e
    go_enter Try.func50, Try.ntmps50
    go_wp2_with (first
      | (go_at_call 51; refine (HC.out _ ⟨w.heap.size, 0, none⟩ (by simp) (HM.out.below (below_alloc (Below.refl _ _) _))).mono ?_; rintro e w1 ⟨he, hb⟩; rw [show bestD (fun i => rdyD js dn now i && decide (rd dn (i : Int) > 0)) (fun i => (jrd js i).f2) js.length = startD js dn now from rfl] at he; subst he; have hcell : w1.cell? ⟨w.heap.size, 0, none⟩ = some (.pointer (some ⟨g, 0, none⟩)) := (hb.cell (p := ⟨w.heap.size, 0, none⟩) (by simp)).trans (by simp); have HB := Aside0.mk (below_weaken (below_alloc (Below.refl _ _) _) (by simp) hb : Below w.heap.size w w1); clear hb)
      | (go_at_call 54; refine (edf_calls g A c js D cd dn now _ (HM.out.below HB.out)).mono ?_; rintro e w2 ⟨rfl, hb⟩; have HB2 := Aside0.mk (below_step HB.out hb); clear hb))
    go_ret
    exact ⟨rfl, HB2.out⟩

end Go.Proofs.Ytkdfjomhichkoaa.P
-- Laid by a program of this work.
namespace Go.Proofs.Ytkdfjomhichkoaa.P
open Go.RowKit Go.Proofs.YtkdfjomhichkoaaW.PrintWords Go.Proofs.YtkdfjomhichkoaaW.PrintLast Go.Proofs.YtkdfjomhichkoaaW.PrintMore
attribute [local go_sem] max2_int min2_int max_two min_two max_three min_three max_four min_four   -- for this text's walks alone
set_option linter.unusedVariables false
set_option linter.unusedSimpArgs false

/-! ### bits_Mul64: function 118 -/
def bits_Mul64.f (a0 : Int) (a1 : Int) : Option (Int × Int) := some (IntKind.u64.wrap ((IntKind.u64.wrap ((IntKind.u64.wrap ((a0 / 4294967296) * (a1 / 4294967296))) + ((IntKind.u64.wrap ((IntKind.u64.wrap ((a0 / 4294967296) * (Go.bits .and .u64 a1 4294967295))) + ((IntKind.u64.wrap ((Go.bits .and .u64 a0 4294967295) * (Go.bits .and .u64 a1 4294967295))) / 4294967296))) / 4294967296))) + ((IntKind.u64.wrap ((Go.bits .and .u64 (IntKind.u64.wrap ((IntKind.u64.wrap ((a0 / 4294967296) * (Go.bits .and .u64 a1 4294967295))) + ((IntKind.u64.wrap ((Go.bits .and .u64 a0 4294967295) * (Go.bits .and .u64 a1 4294967295))) / 4294967296))) 4294967295) + (IntKind.u64.wrap ((Go.bits .and .u64 a0 4294967295) * (a1 / 4294967296))))) / 4294967296)), IntKind.u64.wrap (a0 * a1))
set_option maxHeartbeats 8000000 in
set_option maxRecDepth 100000 in
theorem bits_Mul64.calls (a0 : Int) (a1 : Int) (r1 : Int) (r2 : Int) (w : World) (h : bits_Mul64.f a0 a1 = some (r1, r2)) :
  Calls Try.prog 118 #[.int .u64 a0, .int .u64 a1] w fun e w' => e = .returned (.tuple #[.int .u64 r1, .int .u64 r2]) ∧ Drawn0 w w' := by
 have H : (some (IntKind.u64.wrap ((IntKind.u64.wrap ((IntKind.u64.wrap ((a0 / 4294967296) * (a1 / 4294967296))) + ((IntKind.u64.wrap ((IntKind.u64.wrap ((a0 / 4294967296) * (Go.bits .and .u64 a1 4294967295))) + ((IntKind.u64.wrap ((Go.bits .and .u64 a0 4294967295) * (Go.bits .and .u64 a1 4294967295))) / 4294967296))) / 4294967296))) + ((IntKind.u64.wrap ((Go.bits .and .u64 (IntKind.u64.wrap ((IntKind.u64.wrap ((a0 / 4294967296) * (Go.bits .and .u64 a1 4294967295))) + ((IntKind.u64.wrap ((Go.bits .and .u64 a0 4294967295) * (Go.bits .and .u64 a1 4294967295))) / 4294967296))) 4294967295) + (IntKind.u64.wrap ((Go.bits .and .u64 a0 4294967295) * (a1 / 4294967296))))) / 4294967296)), IntKind.u64.wrap (a0 * a1))) = some (r1, r2) := h
 clear h
 simp only [Option.some.injEq, Prod.mk.injEq] at H
 obtain ⟨rfl, rfl⟩ := H
 go_enter Try.func118, Try.ntmps118
 go_wp2
 go_ret2
 exact ⟨by first | rfl | (simp; done) | (simp [*]; done), by repeat (first | exact Drawn0.refl _ | apply Drawn0.step)⟩

end Go.Proofs.Ytkdfjomhichkoaa.P
-- Laid by a program of this work.
namespace Go.Proofs.Ytkdfjomhichkoaa.P
open Go.RowKit Go.Proofs.YtkdfjomhichkoaaW.PrintWords Go.Proofs.YtkdfjomhichkoaaW.PrintLast Go.Proofs.YtkdfjomhichkoaaW.PrintMore
attribute [local go_sem] max2_int min2_int max_two min_two max_three min_three max_four min_four   -- for this text's walks alone
set_option linter.unusedVariables false
set_option linter.unusedSimpArgs false

/-! ### bits_Mul: function 116 -/
def bits_Mul.f (a0 : Int) (a1 : Int) : Option (Int × Int) := (bits_Mul64.f a0 a1).bind fun bt300 => (some (bt300.1, bt300.2))
set_option maxHeartbeats 8000000 in
set_option maxRecDepth 100000 in
theorem bits_Mul.calls (a0 : Int) (a1 : Int) (r1 : Int) (r2 : Int) (w : World) (h : bits_Mul.f a0 a1 = some (r1, r2)) :
  Calls Try.prog 116 #[.int .u64 a0, .int .u64 a1] w fun e w' => e = .returned (.tuple #[.int .u64 r1, .int .u64 r2]) ∧ Drawn0 w w' := by
 have H : ((bits_Mul64.f a0 a1).bind fun bt300 => (some (bt300.1, bt300.2))) = some (r1, r2) := h
 clear h
 replace H := Option.bind_eq_some_iff.mp H
 obtain ⟨⟨t300, t301⟩, A30, H⟩ := H
 replace H : (some (t300, t301)) = some (r1, r2) := H
 have A3 := Aside0.mk A30
 clear A30
 simp only [Option.some.injEq, Prod.mk.injEq] at H
 obtain ⟨rfl, rfl⟩ := H
 go_enter Try.func116, Try.ntmps116
 go_wp2_with (first | ((with_reducible refine gate_callee (f := 118) rfl ?_); refine goesL_ (some 25) rfl rfl Try.func118 (by kernel_rfl) rfl #[.int .u64 a0, .int .u64 a1] rfl (by (try simp only [List.map_toArray, List.map_cons, List.map_nil]); first | done | rfl | (simp only [List.length_drop, List.length_take]; rfl)) ?_; (with_reducible refine (bits_Mul64.calls a0 a1 t300 t301 _ A3.out).mono ?_); rintro e w' ⟨rfl, ⟨nd, rfl⟩⟩; refine ⟨_, rfl, ?_⟩))
 go_ret2
 exact ⟨by first | rfl | (simp; done) | (simp [*]; done), by repeat (first | exact Drawn0.refl _ | apply Drawn0.step)⟩

end Go.Proofs.Ytkdfjomhichkoaa.P
-- Laid by a program of this work.
namespace Go.Proofs.Ytkdfjomhichkoaa.P
open Go.RowKit Go.Proofs.YtkdfjomhichkoaaW.PrintWords Go.Proofs.YtkdfjomhichkoaaW.PrintLast Go.Proofs.YtkdfjomhichkoaaW.PrintMore
attribute [local go_sem] max2_int min2_int max_two min_two max_three min_three max_four min_four   -- for this text's walks alone
set_option linter.unusedVariables false
set_option linter.unusedSimpArgs false

/-! ### impl_none: function 99: by hand -/
/-! slices.Repeat of one number, by hand. -/
theorem and_lo (x : Int) (h0 : 0 ≤ x) (h1 : x < 4294967296) : Go.bits .and .u64 x 4294967295 = x := by
  obtain ⟨a, rfl⟩ := Int.eq_ofNat_of_zero_le h0
  have ha : a < 4294967296 := by omega
  have hb : (4294967295 : Int) = ((4294967295 : Nat) : Int) := rfl
  simp only [Go.bits]
  rw [show IntKind.u64.bits = 64 from rfl, hb, BitVec.toNat_and, BitVec.ofInt_natCast, BitVec.ofInt_natCast, BitVec.toNat_ofNat, BitVec.toNat_ofNat, Nat.mod_eq_of_lt (show a < 2 ^ 64 by omega), Nat.mod_eq_of_lt (show 4294967295 < 2 ^ 64 by omega)]
  rw [show (4294967295 : Nat) = 2 ^ 32 - 1 by decide, Nat.and_two_pow_sub_one_eq_mod, Nat.mod_eq_of_lt (by omega)]
  rw [IntKind.wrap_u64]
  omega
theorem mul_one_f (n : Int) (h0 : 0 ≤ n) (h1 : n ≤ 1000000) : bits_Mul.f 1 n = some (0, n) := by
  have hd : n / 4294967296 = 0 := Int.ediv_eq_zero_of_lt h0 (by omega)
  have w0 : ∀ x : Int, 0 ≤ x → x ≤ 1000000 → IntKind.u64.wrap x = x := fun x h h' => by rw [IntKind.wrap_u64]; omega
  unfold bits_Mul.f bits_Mul64.f
  rw [and_lo 1 (by omega) (by omega), and_lo n h0 (by omega), hd]
  simp only [Int.one_mul, show (1 : Int) / 4294967296 = 0 by decide, Int.zero_mul, w0 0 (by omega) (by omega), w0 n h0 h1, hd, Int.add_zero, Int.mul_zero, and_lo 0 (by omega) (by omega), show (0 : Int) / 4294967296 = 0 by decide, Option.bind_some]
/-- A row of n numbers, the first m of them -1. -/
def rowAt (n m : Nat) : List Int := List.replicate m (-1) ++ List.replicate (n - m) 0
theorem rowAt_set (n m : Nat) (h : m < n) : (rowAt n m).set m (-1) = rowAt n (m + 1) := by
  unfold rowAt
  rw [List.set_append_right _ _ (by simp), List.length_replicate, Nat.sub_self, show n - m = (n - (m + 1)) + 1 by omega, List.replicate_succ, List.set_cons_zero, List.replicate_succ', List.append_assoc, List.singleton_append]
theorem rowAt_rd (n m i : Nat) (h : i < m) (hm : m ≤ n) : rdOf 0 (rowAt n m) (i : Int) = -1 := by
  unfold rdOf rowAt
  rw [List.getD_eq_getElem?_getD, Int.toNat_natCast, List.getElem?_append_left (by simpa using h), List.getElem?_replicate, if_pos h]
  rfl
theorem R_rowAt {e base : Nat} {ok : Nat → Prop} {g n cap : Nat} : ∀ (q m : Nat) (W : World), m + q ≤ n → Kd.R (Kd.int .i64) e W base ok (.slice (some ⟨g, 0, none⟩) n cap) (rowAt n m) → Kd.R (Kd.int .i64) e (W.setCells g m (List.replicate q (.int .i64 (-1)))) base ok (.slice (some ⟨g, 0, none⟩) n cap) (rowAt n (m + q))
  | 0, m, W, _, h => h
  | q + 1, m, W, hq, h => by
    rw [List.replicate_succ, World.setCells]
    have h1 := (Kd.R_putg h (m : Int) (-1)).1
    rw [Int.toNat_natCast, rowAt_set n m (by omega)] at h1
    have := R_rowAt q (m + 1) _ (by omega) h1
    rwa [show m + 1 + q = m + (q + 1) by omega] at this
theorem below_setCells {base : Nat} {w : World} {g : Nat} (hg : base ≤ g) : ∀ (vs : List Value) (o : Nat) (W : World), Below base w W → Below base w (W.setCells g o vs)
  | [], _, _, h => h
  | v :: vs, o, W, h => below_setCells hg vs (o + 1) _ (h.setCell hg _)
/-- copy(row[m:], row[:m]) in one row. -/
theorem self_copy {base : Nat} {ok : Nat → Prop} {g n cap m : Nat} {W : World} (hm : 1 ≤ m) (hmn : m ≤ n) (h : Kd.R (Kd.int .i64) 3 W base ok (.slice (some ⟨g, 0, none⟩) n cap) (rowAt n m)) (ty dc sc : Nat) :
    (Builtin.copy_ #[27, 27] ty #[.slice (some ⟨g, m, none⟩) (n - m) dc, .slice (some ⟨g, 0, none⟩) m sc]).run Try.prog W = .ok (goInt ((List.replicate (min m (n - m)) (Value.int .i64 (-1))).length)) (W.setCells g m (List.replicate (min m (n - m)) (.int .i64 (-1)))) := by
  have hc := fun (i : Nat) (hi : i < n) => Kd.R_celln 0 h (i : Int) (by omega) (by omega)
  refine run_copy_cells W 27 27 ty 3 g m (n - m) dc ⟨g, 0, none⟩ m sc _ Try.underlying27 (by kernel_rfl) (by rw [List.length_replicate]) (fun j v hj => ?_) (fun j hj => ?_) (fun j hj => ?_) (fun v hv => ?_)
  · rw [List.getElem?_replicate] at hj
    split at hj
    · rename_i hlt
      have := (hc j (by omega)).1
      rw [rowAt_rd n m j (by omega) hmn, Int.toNat_natCast] at this
      injection hj with hj
      rw [← hj, ← this]
      simp only [Addr.add]
      split
      · rename_i h0; subst h0; rfl
      · simp
    · cases hj
  · rw [List.length_replicate] at hj
    have := (hc (m + j) (by omega)).1
    rw [Int.toNat_natCast] at this
    rw [this]; rfl
  · rw [List.length_replicate] at hj
    have := (hc (m + j) (by omega)).2
    rwa [Int.toNat_natCast] at this
  · rw [List.eq_of_mem_replicate hv]; rfl
theorem wp_copy_run1 {P : Program} (w : World) {o : Oper} {a : Act} {K : Act → World → Prop} {Q : Exit → Act → World → Prop} (d s : Operand) (t t' : TypeId)
    (ho : o.op = .call { callee := .builtin .copy, args := #[d, s], argTypes := #[t, t'] }) (v u : Value) (hd : a.eval d = v) (hs : a.eval s = u) {v' : Value} {w' : World}
    (hr : (Builtin.copy_ #[t, t'] o.type #[v, u]).run P w = .ok v' w') (h : K (a.put o.dst v') w') : o.wp P a w K Q := by
  unfold Oper.wp execOp
  simp only [ho, resolve, invoke, builtin, Sem.run_bind, Sem.run_pure, Result.andThen_ok, List.map_toArray, List.map_cons, List.map_nil, hd, hs, hr]
  exact h
theorem step_copy_run1 {P : Program} {ops : Array Oper} {o : Oper} {a : Act} {w : World} {K : Act → World → Prop} {Q : Exit → Act → World → Prop} {E : Prop}
    (hg : o.guard = none) (d x : Operand) (dT sT : TypeId) (hop : o.op = Op.call { callee := Callee.builtin Builtin.copy, args := #[d, x], argTypes := #[dT, sT] })
    (v u : Value) (hd : a.eval d = v) (hx : a.eval x = u) {v' : Value} {w' : World} (hr : (Builtin.copy_ #[dT, sT] o.type #[v, u]).run P w = .ok v' w') (hK : K (a.put o.dst v') w') :
    if Region.wanted o (yielded ops a.tmps) = true then Oper.wp P o a w K Q else E := by
  have hw : Region.wanted o (yielded ops a.tmps) = true := by simp [Region.wanted, hg]
  rw [if_pos hw]
  exact wp_copy_run1 w d x dT sT hop v u hd hx hr hK
set_option maxHeartbeats 4000000 in
set_option maxRecDepth 100000 in
theorem repeat_calls (n : Nat) (hn : n ≤ 1000000) (hpos : 0 < n) (A : Option Addr) (c : Nat) (w : World) (hr : Kd.C (Kd.int .i64) w A 1 [-1]) :
    Calls Try.prog 114 #[.slice A 1 c, .int .i64 n] w fun e w' => ∃ v0_ : Value, e = .returned v0_ ∧ Kd.R (Kd.int .i64) 3 w' w.heap.size (fun _ => True) v0_ (List.replicate n (-1)) ∧ Below w.heap.size w w' := by
  have HR := Aside0.mk hr
  clear hr
  have hM := Aside0.mk (mul_one_f (n : Int) (by omega) (by omega))
  have hn0 : ¬ (n : Int) < 0 := by omega
  have hn1 : IntKind.u64.wrap (n : Int) = (n : Int) := by rw [IntKind.wrap_u64]; omega
  have hn2 : IntKind.i64.wrap (n : Int) = (n : Int) := by rw [IntKind.wrap_i64]; omega
  have hn3 : ¬ (n : Int) > 9223372036854775807 := by omega
  have hn4 : decide ((n : Int) > 9223372036854775807) = false := decide_eq_false (by omega)
  go_enter Try.func114, Try.ntmps114
  go_wp2_with (first
    | (go_at_call 116; refine (bits_Mul.calls 1 (n : Int) 0 (n : Int) _ hM.out).mono ?_; rintro e w' ⟨rfl, ⟨nq, rfl⟩⟩)
    | ((with_reducible refine gate_dst (N := 30) rfl ?_); refine Kd.R_make (Kd.int .i64) _ 3 rfl (N := 30) rfl 27 _ _ rfl (n : Int) rfl rfl Try.underlying27 (.int .i64 0) 8 info3 rfl (by decide) (by omega) 0 (ok := fun _ => True) (okp := fun _ => True) rfl (fun _ hk => hk) trivial (by omega) (by omega) (Below.refl _ _) (Nat.le_refl _) ?_; intro v w4 ho5 hb hg_ hnew_; rw [Int.toNat_natCast] at ho5; obtain ⟨gb, cap, ev, hgb, _, _, _⟩ := Kd.R_form ho5 (by rw [List.length_replicate]; exact hpos); subst ev; rw [List.length_replicate] at ho5; have HO := Aside0.mk ho5; have HB := Aside0.mk hb; have GB := Aside0.mk hgb; clear hg_ hnew_ ho5 hb hgb)
    | ((with_reducible refine gate_dst (N := 33) rfl ?_); refine Kd.R_copy (0 : Int) (w.drewN nq).heap.size rfl _ _ 27 27 3 rfl Try.underlying27 (by kernel_rfl) _ _ [-1] A 1 c (fun _ => True) rfl rfl HO.out (Kd.C_below HR.out ((pw_below_drewN (Below.refl _ _) nq).trans HB.out)) HB.out HB.out.size ?_; intro w5 ho6 hb6 hg6; rw [show [(-1 : Int)].take (min 1 (List.replicate n (0 : Int)).length) ++ (List.replicate n (0 : Int)).drop (min 1 (List.replicate n (0 : Int)).length) = rowAt n 1 by rw [List.length_replicate, Nat.min_eq_left hpos]; simp [rowAt]] at ho6; have HO6 : Aside0 (Kd.R (Kd.int .i64) 3 w5 (w.drewN nq).heap.size (fun _ => True) (.slice (some ⟨gb, 0, none⟩) n cap) (rowAt n 1)) := ⟨ho6⟩; have HB6 := Aside0.mk hb6; clear ho6 hb6 hg6))
  go_loopg [8] n (fun gg v8 wr => ∃ m : Nat, v8 = .int .i64 m ∧ 1 ≤ m ∧ m ≤ n ∧ n - m ≤ gg ∧ Aside0 (Kd.R (Kd.int .i64) 3 wr (w.drewN nq).heap.size (fun _ => True) (.slice (some ⟨gb, 0, none⟩) n cap) (rowAt n m)) ∧ Aside0 (Below (w.drewN nq).heap.size (w.drewN nq) wr))
  case atStart => exact ⟨1, by rw [Nat.min_eq_left hpos], by omega, by omega, by omega, HO6, HB6⟩
  case round =>
    obtain ⟨m, rfl, hm1, hmn, hgg, R7, B7⟩ := hrel
    by_cases hlt : m < n
    · have hltz : (m : Int) < (n : Int) := by omega
      have hmz : (m : Int) ≤ (n : Int) := by omega
      have hm0 : (0 : Int) ≤ (m : Int) := by omega
      have hcap : n ≤ cap := (Kd.R_reads' R7.out).2.1
      have hmc : m ≤ cap := by omega
      have hcm : ¬ cap = m := by omega
      go_wp2_with fail
      go_region_law (refine step_copy_run1 rfl _ _ 27 27 rfl (.slice (some ⟨gb, m, none⟩) (n - m) (cap - m)) (.slice (some ⟨gb, 0, none⟩) m cap) (by simp [Act.eval, Act.put]) (by simp [Act.eval, Act.put]) (self_copy hm1 hmn (Kd.R_drew R7.out) _ _ _) ?_)
      all_goals go_wp2
      go_roundg (n - (m + min m (n - m)))
      case measure => omega
      case rel =>
        refine ⟨m + min m (n - m), ?_, by omega, by omega, Nat.le_refl _, ⟨R_rowAt _ _ _ (by omega) (Kd.R_drew R7.out)⟩, ⟨below_setCells GB.out _ _ _ (below_drew1 B7.out)⟩⟩
        first | rfl | (congr 1; unfold wrap64; omega) | (congr 1; rw [IntKind.wrap_i64]; omega)
    · have hltz : ¬ (m : Int) < (n : Int) := by omega
      go_wp2
      go_ret
      refine ⟨_, rfl, ?_, ?_⟩
      · have := R7.out
        rw [show m = n by omega] at this
        unfold rowAt at this
        rw [Nat.sub_self, List.replicate_zero, List.append_nil] at this
        exact Kd.R_lower this (Nat.le_refl _)
      · exact below_then (pw_below_drewN (Below.refl _ _) nq) (Nat.le_refl _) B7.out
set_option maxHeartbeats 4000000 in
set_option maxRecDepth 100000 in
theorem repeat_none (A : Option Addr) (c : Nat) (w : World) (hr : Kd.C (Kd.int .i64) w A 1 [-1]) :
    Calls Try.prog 114 #[.slice A 1 c, .int .i64 0] w fun e w' => ∃ v0_ : Value, e = .returned v0_ ∧ Kd.R (Kd.int .i64) 3 w' w.heap.size (fun _ => True) v0_ [] ∧ Below w.heap.size w w' := by
  have HR := Aside0.mk hr
  clear hr
  have hM := Aside0.mk (mul_one_f 0 (by omega) (by omega))
  go_enter Try.func114, Try.ntmps114
  go_wp2_with (first
    | (go_at_call 116; refine (bits_Mul.calls 1 0 0 0 _ hM.out).mono ?_; rintro e w' ⟨rfl, ⟨nq, rfl⟩⟩)
    | ((with_reducible refine gate_dst (N := 30) rfl ?_); refine Kd.R_make (Kd.int .i64) _ 3 rfl (N := 30) rfl 27 _ _ rfl 0 rfl rfl Try.underlying27 (.int .i64 0) 8 info3 rfl (by decide) (by omega) 0 (ok := fun _ => True) (okp := fun _ => True) rfl (fun _ hk => hk) trivial (by omega) (by omega) (Below.refl _ _) (Nat.le_refl _) ?_; intro v w4 ho5 hb hg_ hnew_; have HO := Aside0.mk ho5; have HB := Aside0.mk hb; clear hg_ hnew_ ho5 hb; obtain ⟨A2, c2, ev⟩ := Kd.R_slice HO.out; subst ev)
    | ((with_reducible refine gate_dst (N := 33) rfl ?_); refine Kd.R_copy (0 : Int) (w.drewN nq).heap.size rfl _ _ 27 27 3 rfl Try.underlying27 (by kernel_rfl) _ _ [-1] A 1 c (fun _ => True) rfl rfl HO.out (Kd.C_below HR.out ((pw_below_drewN (Below.refl _ _) nq).trans HB.out)) HB.out HB.out.size ?_; intro w5 ho6 hb6 hg6; have HO6 : Aside0 (Kd.R (Kd.int .i64) 3 w5 (w.drewN nq).heap.size (fun _ => True) (.slice A2 0 c2) []) := ⟨ho6⟩; have HB6 := Aside0.mk hb6; clear ho6 hb6 hg6))
  go_loopg [8] 0 (fun gg v8 wr => v8 = .int .i64 0 ∧ Aside0 (Kd.R (Kd.int .i64) 3 wr (w.drewN nq).heap.size (fun _ => True) (.slice A2 0 c2) []) ∧ Aside0 (Below (w.drewN nq).heap.size (w.drewN nq) wr))
  case atStart => exact ⟨rfl, HO6, HB6⟩
  case round =>
    obtain ⟨rfl, R7, B7⟩ := hrel
    go_wp2
    go_ret
    exact ⟨_, rfl, Kd.R_lower R7.out (Nat.le_refl _), below_then (pw_below_drewN (Below.refl _ _) nq) (Nat.le_refl _) B7.out⟩
theorem repeat_any (n : Nat) (hn : n ≤ 1000000) (A : Option Addr) (c : Nat) (w : World) (hr : Kd.C (Kd.int .i64) w A 1 [-1]) :
    Calls Try.prog 114 #[.slice A 1 c, .int .i64 n] w fun e w' => ∃ v0_ : Value, e = .returned v0_ ∧ Kd.R (Kd.int .i64) 3 w' w.heap.size (fun _ => True) v0_ (List.replicate n (-1)) ∧ Below w.heap.size w w' := by
  rcases Nat.eq_zero_or_pos n with rfl | h
  · exact repeat_none A c w hr
  · exact repeat_calls n hn h A c w hr
def impl_none.f (a0 : Int) : Option (List Int) := if 0 ≤ a0 ∧ a0 ≤ 1000000 then (some (List.replicate a0.toNat (-1))) else (none)
set_option maxHeartbeats 4000000 in
set_option maxRecDepth 100000 in
theorem impl_none.calls (a0 : Int) (r : List Int) (w : World) (h : impl_none.f a0 = some r) :
    Calls Try.prog 99 #[.int .i64 a0] w fun e w' => ∃ v0_ : Value, e = .returned (v0_) ∧ Kd.R (Kd.int .i64) 3 w' w.heap.size (fun _ => True) v0_ r ∧ Below w.heap.size w w' := by
  unfold impl_none.f at h
  by_cases hc : 0 ≤ a0 ∧ a0 ≤ 1000000
  · rw [if_pos hc] at h
    obtain rfl := Option.some.inj h
    clear h
    obtain ⟨n, rfl⟩ := Int.eq_ofNat_of_zero_le hc.1
    rw [Int.toNat_natCast]
    have hn : n ≤ 1000000 := by omega
    clear hc
    go_enter Try.func99, Try.ntmps99
    go_wp2_with (go_at_call 114; refine (repeat_any n hn _ _ _ ?_).mono ?_)
    · refine ⟨rfl, by omega, fun _ => ⟨_, rfl, fun j p hj => ?_⟩⟩
      match j, hj with
      | 0, hj =>
        injection hj with hj
        subst hj
        refine ⟨[.int .i64 (-1)], rfl, rfl, fun i u hi => ?_⟩
        match i, hi with
        | 0, hi =>
          injection hi with hi
          subst hi
          show (w.alloc _).cell? (Addr.add _ 0) = _
          rw [Addr.add_zero']
          simp
        | i + 1, hi => simp at hi
      | j + 1, hj => simp at hj
    · rintro e w' ⟨v0_, rfl, hR, hB⟩
      have HR := Aside0.mk hR
      have HB := Aside0.mk hB
      clear hR hB
      go_wp2
      go_ret
      exact ⟨_, rfl, Kd.R_lower HR.out (by simp), below_weaken (below_alloc (Below.refl _ _) _) (by simp) HB.out⟩
  · rw [if_neg hc] at h
    cases h

end Go.Proofs.Ytkdfjomhichkoaa.P
-- Laid by a program of this work.
namespace Go.Proofs.Ytkdfjomhichkoaa.P
open Go.RowKit Go.Proofs.YtkdfjomhichkoaaW.PrintWords Go.Proofs.YtkdfjomhichkoaaW.PrintLast Go.Proofs.YtkdfjomhichkoaaW.PrintMore
attribute [local go_sem] max2_int min2_int max_two min_two max_three min_three max_four min_four   -- for this text's walks alone
set_option linter.unusedVariables false
set_option linter.unusedSimpArgs false

-- by hand
/-! A simulation, by hand: newMachine, simulate, whatever picks. -/
def stepD (js : List JobT) (now : Int) (p : List Int × List Int) (i : Int) : List Int × List Int :=
  if i < 0 then p else (p.1.set i.toNat (wrap64 (rd p.1 i + 1)), if wrap64 (rd p.1 i + 1) = (jrd js i.toNat).f3 then p.2.set i.toNat (now + 1) else p.2)
def simT (pk : List Int → Int → Int) (js : List JobT) : Nat → List Int × List Int
  | 0 => (List.replicate js.length 0, List.replicate js.length (-1))
  | t + 1 => stepD js (t : Int) (simT pk js t) (pk (simT pk js t).1 (t : Int))
def runT (pk : List Int → Int → Int) (js : List JobT) (t : Nat) : Int := pk (simT pk js t).1 (t : Int)
def runRow (pk : List Int → Int → Int) (js : List JobT) (t : Nat) : List Int := (List.range t).map (runT pk js) ++ List.replicate (120 - t) (-1)
/-- What a simulation answers: what runs in each tick, and when the jobs finish. -/
def simR (pk : List Int → Int → Int) (js : List JobT) : List Int × List Int := ((List.range 120).map (runT pk js), (simT pk js 120).2)
theorem stepD_len (js : List JobT) (now : Int) (p : List Int × List Int) (i : Int) : (stepD js now p i).1.length = p.1.length ∧ (stepD js now p i).2.length = p.2.length := by
  unfold stepD
  split
  · exact ⟨rfl, rfl⟩
  · refine ⟨by simp, ?_⟩
    simp only
    split <;> simp
theorem simT_len (pk : List Int → Int → Int) (js : List JobT) : ∀ t, (simT pk js t).1.length = js.length ∧ (simT pk js t).2.length = js.length
  | 0 => by simp [simT]
  | t + 1 => by
    have h1 := stepD_len js (t : Int) (simT pk js t) (pk (simT pk js t).1 (t : Int))
    have h2 := simT_len pk js t
    rw [simT]; omega
theorem runRow_len (pk : List Int → Int → Int) (js : List JobT) (t : Nat) (h : t ≤ 120) : (runRow pk js t).length = 120 := by simp [runRow]; omega
theorem runRow_set (pk : List Int → Int → Int) (js : List JobT) (t : Nat) (h : t < 120) : (runRow pk js t).set t (runT pk js t) = runRow pk js (t + 1) := by
  unfold runRow
  rw [List.set_append_right _ _ (by simp), List.length_map, List.length_range, Nat.sub_self, show 120 - t = (120 - (t + 1)) + 1 by omega, List.replicate_succ, List.set_cons_zero, List.range_succ, List.map_append, List.append_assoc]
  rfl
theorem simT_idle {pk : List Int → Int → Int} {js : List JobT} {t : Nat} (h : pk (simT pk js t).1 (t : Int) = -1) : simT pk js (t + 1) = simT pk js t := by
  rw [simT, h]
  rfl
theorem simT_runs {pk : List Int → Int → Int} {js : List JobT} {t b : Nat} {x y : Int} (h : pk (simT pk js t).1 (t : Int) = (b : Int)) (hx : rd (simT pk js t).1 (b : Int) = x) (hy : (jrd js b).f3 = y) :
    simT pk js (t + 1) = ((simT pk js t).1.set b (wrap64 (x + 1)), if wrap64 (x + 1) = y then (simT pk js t).2.set b ((t : Int) + 1) else (simT pk js t).2) := by
  rw [simT, h]
  unfold stepD
  rw [if_neg (by omega), hx, Int.toNat_natCast, hy]
/-- The memory of a simulation under way. -/
structure SimW (w : World) (n : Nat) (A : Option Addr) (c g go : Nat) (D R F : Option Addr) (cd cr cf : Nat) (dn rn fn : List Int) (now : Int) (W : World) : Prop where
  jobs : W.cell? ⟨g, 0, none⟩ = some (.slice A n c)
  done : W.cell? ⟨g, 1, none⟩ = some (.slice D n cd)
  time : W.cell? ⟨g, 2, none⟩ = some (.int .i64 now)
  ftime : W.frozen? ⟨g, 2, none⟩ = false
  o0 : W.cell? ⟨go, 0, none⟩ = some (.slice R 120 cr)
  o1 : W.cell? ⟨go, 1, none⟩ = some (.slice F n cf)
  dR : Kd.R (Kd.int .i64) 3 W w.heap.size (fun k => some k = (Value.slice D n cd).ownBlock) (.slice D n cd) dn
  rR : Kd.R (Kd.int .i64) 3 W w.heap.size (fun k => some k = (Value.slice R 120 cr).ownBlock) (.slice R 120 cr) rn
  fR : Kd.R (Kd.int .i64) 3 W w.heap.size (fun k => some k = (Value.slice F n cf).ownBlock) (.slice F n cf) fn
  bel : Below w.heap.size w W
/-- Its blocks are different. -/
structure SimNe (w : World) (n g go : Nat) (D R F : Option Addr) (cd cr cf : Nat) : Prop where
  gn : w.heap.size ≤ g
  gon : w.heap.size ≤ go
  ggo : g ≠ go
  gD : ∀ k, (Value.slice D n cd).ownBlock = some k → k ≠ g ∧ k ≠ go
  gR : ∀ k, (Value.slice R 120 cr).ownBlock = some k → k ≠ g ∧ k ≠ go
  gF : ∀ k, (Value.slice F n cf).ownBlock = some k → k ≠ g ∧ k ≠ go
  DR : ∀ k, (Value.slice D n cd).ownBlock = some k → some k ≠ (Value.slice R 120 cr).ownBlock
  DF : ∀ k, (Value.slice D n cd).ownBlock = some k → some k ≠ (Value.slice F n cf).ownBlock
  RF : ∀ k, (Value.slice R 120 cr).ownBlock = some k → some k ≠ (Value.slice F n cf).ownBlock
section
variable {w W W1 : World} {n : Nat} {A : Option Addr} {c g go : Nat} {D R F : Option Addr} {cd cr cf : Nat} {dn rn fn : List Int} {now : Int}
theorem SimW.below (h : SimW w n A c g go D R F cd cr cf dn rn fn now W) (hb : Below W.heap.size W W1) : SimW w n A c g go D R F cd cr cf dn rn fn now W1 :=
  ⟨(hb.cell (World.block_lt_of_cell? _ _ h.jobs)).trans h.jobs, (hb.cell (World.block_lt_of_cell? _ _ h.done)).trans h.done, (hb.cell (World.block_lt_of_cell? _ _ h.time)).trans h.time,
   (hb.frozen (World.block_lt_of_cell? _ _ h.time)).trans h.ftime, (hb.cell (World.block_lt_of_cell? _ _ h.o0)).trans h.o0, (hb.cell (World.block_lt_of_cell? _ _ h.o1)).trans h.o1,
   Kd.R_below h.dR hb, Kd.R_below h.rR hb, Kd.R_below h.fR hb, below_step h.bel hb⟩
theorem SimW.mach (h : SimW w n A c g go D R F cd cr cf dn rn fn now W) {js : List JobT} (hn : js.length = n) (hr : Kd.C k34 w A js.length js) (hl : dn.length = js.length) : Mach W g A c js D cd dn now := by
  subst hn
  refine ⟨h.jobs, by rw [hl]; exact h.done, h.time, Kd.C_below hr h.bel, (Kd.R_reads' h.dR).2.2, hl⟩
theorem SimW.setTime (h : SimW w n A c g go D R F cd cr cf dn rn fn now W) (ne : SimNe w n g go D R F cd cr cf) (x : Int) : SimW w n A c g go D R F cd cr cf dn rn fn x (W.setCell ⟨g, 2, none⟩ (.int .i64 x)) := by
  refine ⟨?_, ?_, World.cell?_setCell_same _ _ _ h.time, ?_, ?_, ?_, Kd.R_far h.dR (fun k hk => (ne.gD k hk.symm).1) _, Kd.R_far h.rR (fun k hk => (ne.gR k hk.symm).1) _, Kd.R_far h.fR (fun k hk => (ne.gF k hk.symm).1) _, h.bel.setCell ne.gn _⟩
  · rw [World.cell?_setCell_other _ _ _ _ (by simp)]; exact h.jobs
  · rw [World.cell?_setCell_other _ _ _ _ (by simp)]; exact h.done
  · rw [World.frozen?_setCell]; exact h.ftime
  · rw [World.cell?_setCell_far _ _ _ _ ne.ggo]; exact h.o0
  · rw [World.cell?_setCell_far _ _ _ _ ne.ggo]; exact h.o1
theorem SimW.setRun {gr : Nat} (h : SimW w n A c g go D (some ⟨gr, 0, none⟩) F cd cr cf dn rn fn now W) (ne : SimNe w n g go D (some ⟨gr, 0, none⟩) F cd cr cf) (ho : (Value.slice (some ⟨gr, 0, none⟩) 120 cr).ownBlock = some gr) (i : Nat) (x : Int) :
    SimW w n A c g go D (some ⟨gr, 0, none⟩) F cd cr cf dn (rn.set i x) fn now (W.setCell ⟨gr, i, none⟩ (.int .i64 x)) := by
  have hg := ne.gR gr ho
  have h1 := (Kd.R_putg h.rR (i : Int) x).1
  rw [Int.toNat_natCast] at h1
  refine ⟨?_, ?_, ?_, ?_, ?_, ?_, Kd.R_far h.dR (fun k hk e => ne.DR k hk.symm (by rw [ho]; exact congrArg some e)) _, h1, Kd.R_far h.fR (fun k hk e => ne.RF gr ho (by rw [← hk]; exact congrArg some e.symm)) _, h.bel.setCell (Kd.R_base h.rR _ ho) _⟩
  · rw [World.cell?_setCell_far _ _ _ _ hg.1]; exact h.jobs
  · rw [World.cell?_setCell_far _ _ _ _ hg.1]; exact h.done
  · rw [World.cell?_setCell_far _ _ _ _ hg.1]; exact h.time
  · rw [World.frozen?_setCell]; exact h.ftime
  · rw [World.cell?_setCell_far _ _ _ _ hg.2]; exact h.o0
  · rw [World.cell?_setCell_far _ _ _ _ hg.2]; exact h.o1
theorem SimW.setFin {gr : Nat} (h : SimW w n A c g go D R (some ⟨gr, 0, none⟩) cd cr cf dn rn fn now W) (ne : SimNe w n g go D R (some ⟨gr, 0, none⟩) cd cr cf) (ho : (Value.slice (some ⟨gr, 0, none⟩) n cf).ownBlock = some gr) (i : Nat) (x : Int) :
    SimW w n A c g go D R (some ⟨gr, 0, none⟩) cd cr cf dn rn (fn.set i x) now (W.setCell ⟨gr, i, none⟩ (.int .i64 x)) := by
  have hg := ne.gF gr ho
  have h1 := (Kd.R_putg h.fR (i : Int) x).1
  rw [Int.toNat_natCast] at h1
  refine ⟨?_, ?_, ?_, ?_, ?_, ?_, Kd.R_far h.dR (fun k hk e => ne.DF k hk.symm (by rw [ho]; exact congrArg some e)) _, Kd.R_far h.rR (fun k hk e => ne.RF k hk.symm (by rw [ho]; exact congrArg some e)) _, h1, h.bel.setCell (Kd.R_base h.fR _ ho) _⟩
  · rw [World.cell?_setCell_far _ _ _ _ hg.1]; exact h.jobs
  · rw [World.cell?_setCell_far _ _ _ _ hg.1]; exact h.done
  · rw [World.cell?_setCell_far _ _ _ _ hg.1]; exact h.time
  · rw [World.frozen?_setCell]; exact h.ftime
  · rw [World.cell?_setCell_far _ _ _ _ hg.2]; exact h.o0
  · rw [World.cell?_setCell_far _ _ _ _ hg.2]; exact h.o1
theorem SimW.setDone {gr : Nat} (h : SimW w n A c g go (some ⟨gr, 0, none⟩) R F cd cr cf dn rn fn now W) (ne : SimNe w n g go (some ⟨gr, 0, none⟩) R F cd cr cf) (ho : (Value.slice (some ⟨gr, 0, none⟩) n cd).ownBlock = some gr) (i : Nat) (x : Int) :
    SimW w n A c g go (some ⟨gr, 0, none⟩) R F cd cr cf (dn.set i x) rn fn now (W.setCell ⟨gr, i, none⟩ (.int .i64 x)) := by
  have hg := ne.gD gr ho
  have h1 := (Kd.R_putg h.dR (i : Int) x).1
  rw [Int.toNat_natCast] at h1
  refine ⟨?_, ?_, ?_, ?_, ?_, ?_, h1, Kd.R_far h.rR (fun k hk e => ne.DR gr ho (by rw [← hk]; exact congrArg some e.symm)) _, Kd.R_far h.fR (fun k hk e => ne.DF gr ho (by rw [← hk]; exact congrArg some e.symm)) _, h.bel.setCell (Kd.R_base h.dR _ ho) _⟩
  · rw [World.cell?_setCell_far _ _ _ _ hg.1]; exact h.jobs
  · rw [World.cell?_setCell_far _ _ _ _ hg.1]; exact h.done
  · rw [World.cell?_setCell_far _ _ _ _ hg.1]; exact h.time
  · rw [World.frozen?_setCell]; exact h.ftime
  · rw [World.cell?_setCell_far _ _ _ _ hg.2]; exact h.o0
  · rw [World.cell?_setCell_far _ _ _ _ hg.2]; exact h.o1
end
set_option maxHeartbeats 4000000 in
set_option maxRecDepth 100000 in
theorem newMachine_calls (A : Option Addr) (c : Nat) (n : Nat) (hn : n ≤ 1000000) (w : World) :
    Calls Try.prog 98 #[.slice A n c] w fun e w' => ∃ (g : Nat) (D : Option Addr) (cd : Nat), e = .returned (.pointer (some ⟨g, 0, none⟩)) ∧ w.heap.size ≤ g ∧ g < w'.heap.size ∧
      w'.cell? ⟨g, 0, none⟩ = some (.slice A n c) ∧ w'.cell? ⟨g, 1, none⟩ = some (.slice D n cd) ∧ w'.cell? ⟨g, 2, none⟩ = some (.int .i64 0) ∧ w'.frozen? ⟨g, 2, none⟩ = false ∧
      Kd.R (Kd.int .i64) 3 w' w.heap.size (fun k => k ≠ g) (.slice D n cd) (List.replicate n 0) ∧ Below w.heap.size w w' := by
  have hn2 : IntKind.i64.wrap (n : Int) = (n : Int) := by rw [IntKind.wrap_i64]; omega
  go_enter Try.func98, Try.ntmps98
  go_wp2_with (first
    | ((with_reducible refine gate_dst (N := 6) rfl ?_); refine Kd.R_make (Kd.int .i64) _ 3 rfl (N := 6) rfl 27 _ _ rfl (n : Int) rfl rfl Try.underlying27 (.int .i64 0) 8 info3 rfl (by decide) (by omega) 0 (ok := fun _ => True) (okp := fun _ => True) rfl (fun _ hk => hk) trivial (by omega) (by omega) (Below.refl _ _) (Nat.le_refl _) ?_; intro v w4 ho5 hb hg_ hnew_; have HO := Aside0.mk ho5; have HB := Aside0.mk hb; clear hg_ hnew_ ho5 hb; obtain ⟨A2, c2, ev⟩ := Kd.R_slice HO.out; subst ev))
  go_ret
  have hO := HO.out
  rw [List.length_replicate, Int.toNat_natCast] at hO
  refine ⟨_, A2, c2, rfl, HB.out.size, by simp, by simp, ?_, by simp, by simp, Kd.R_mono (Kd.R_alloc (Kd.R_bound hO) _) (fun k hk => by have := hk.2.2.1; omega), below_alloc HB.out _⟩
  simp [Int.toNat_natCast]
theorem none_sl (n : Nat) (hn : n ≤ 1000000) (x : Int) (hx : x = (n : Int)) (w : World) :
    Calls Try.prog 99 #[.int .i64 x] w fun e w' => ∃ (A : Option Addr) (c : Nat), e = .returned (.slice A n c) ∧ Kd.R (Kd.int .i64) 3 w' w.heap.size (fun _ => True) (.slice A n c) (List.replicate n (-1)) ∧ Below w.heap.size w w' := by
  subst hx
  refine (impl_none.calls (n : Int) (List.replicate n (-1)) w (by unfold impl_none.f; rw [if_pos (by omega)]; rfl)).mono ?_
  rintro e w' ⟨v, rfl, hr, hb⟩
  obtain ⟨A, c, ev⟩ := Kd.R_slice hr
  subst ev
  rw [List.length_replicate] at hr ⊢
  exact ⟨A, c, rfl, hr, hb⟩
set_option maxHeartbeats 16000000 in
set_option maxRecDepth 100000 in
/-- simulate, whatever picks: the pick is -1 or a job's number. -/
theorem simulate_calls (pk : List Int → Int → Int) (pn : Nat) (pb pl : Array Value) (ep : ∀ args w, (callFunc pn args).run Try.prog w = .ok (.enter pn args) w)
    (A : Option Addr) (c : Nat) (js : List JobT) (w : World) (hr : Kd.C k34 w A js.length js) (hlen : js.length ≤ 1000)
    (hrng : ∀ dn now, pk dn now = -1 ∨ ∃ b : Nat, b < js.length ∧ pk dn now = (b : Int))
    (hp : ∀ (W : World) (g : Nat) (D : Option Addr) (cd : Nat) (dn : List Int) (t : Nat), t < 120 → Below w.heap.size w W → Mach W g A c js D cd dn (t : Int) → Calls Try.prog pn (pb ++ #[.pointer (some ⟨g, 0, none⟩)] ++ pl) W fun e w' => e = .returned (.int .i64 (pk dn (t : Int))) ∧ Below W.heap.size W w') :
    Calls Try.prog 49 #[.slice A js.length c, .func (.func pn) pb pl] w fun e w' => ∃ v0_ v1_ : Value, e = .returned (.agg #[v0_, v1_]) ∧ Kd.R (Kd.int .i64) 3 w' w.heap.size (fun k_ => some k_ ≠ (v1_ : Value).ownBlock) v0_ (simR pk js).1 ∧ Kd.R (Kd.int .i64) 3 w' w.heap.size (fun k_ => some k_ ≠ (v0_ : Value).ownBlock) v1_ (simR pk js).2 ∧ Below w.heap.size w w' := by
  have HR := Aside0.mk hr
  have HP := Aside0.mk hp
  have HG := Aside0.mk hrng
  clear hr hp hrng
  have tok1 : True := trivial
  go_enter Try.func49, Try.ntmps49
  go_wp2_with (first
    | (go_at_call 98; refine (newMachine_calls A c js.length (by omega) _).mono ?_; rintro e w1 ⟨g, D, cd, rfl, hg0, hg1, hj, hd, ht, hf, hdr, hb⟩; have N1 := Aside0.mk (And.intro hg0 (And.intro hg1 (And.intro hj (And.intro hd (And.intro ht (And.intro hf (And.intro hdr hb))))))); clear hg0 hg1 hj hd ht hf hdr hb)
    | (go_at_call 99; have _t := tok1; refine (none_sl 120 (by omega) _ rfl _).mono ?_; rintro e w2 ⟨R, cr, rfl, hr2, hb2⟩; have N2 := Aside0.mk (And.intro hr2 hb2); clear hr2 hb2 tok1)
    | (go_at_call 99; refine (none_sl js.length (by omega) _ rfl _).mono ?_; rintro e w3 ⟨F, cf, rfl, hr3, hb3⟩; have N3 := Aside0.mk (And.intro hr3 hb3); clear hr3 hb3))
  have hne : SimNe (w.alloc (.cells #[.slice none 0 0, .slice none 0 0] 29)) js.length g w3.heap.size D R F cd cr cf ∧ SimW (w.alloc (.cells #[.slice none 0 0, .slice none 0 0] 29)) js.length A c g w3.heap.size D R F cd cr cf (simT pk js 0).1 (runRow pk js 0) (simT pk js 0).2 ((0 : Nat) : Int) (w3.alloc (.cells #[.slice R 120 cr, .slice F js.length cf] 29)) := by
    obtain ⟨hg0, hg1, hj, hd, ht, hf, hdr, hb⟩ := N1.out
    obtain ⟨hr2, hb2⟩ := N2.out
    obtain ⟨hr3, hb3⟩ := N3.out
    have s1 := hb.size
    have s2 := hb2.size
    have s3 := hb3.size
    have h14 : Below w1.heap.size w1 (w3.alloc (.cells #[.slice R 120 cr, .slice F js.length cf] 29)) := below_alloc (below_step hb2 hb3) _
    have h24 : Below w2.heap.size w2 (w3.alloc (.cells #[.slice R 120 cr, .slice F js.length cf] 29)) := below_alloc hb3 _
    have h34 : Below w3.heap.size w3 (w3.alloc (.cells #[.slice R 120 cr, .slice F js.length cf] 29)) := below_alloc (Below.refl _ _) _
    have dlt := Kd.R_lt hdr
    have rlt := Kd.R_lt hr2
    have rge := Kd.R_base hr2
    have flt := Kd.R_lt hr3
    have fge := Kd.R_base hr3
    have dg := hdr.1
    refine ⟨⟨hg0, by omega, by omega, fun k hk => ⟨dg k hk, by have := dlt k hk; omega⟩, fun k hk => ?_, fun k hk => ?_, fun k hk e => ?_, fun k hk e => ?_, fun k hk e => ?_⟩, ?_⟩
    · have := rlt k hk; have := rge k hk; omega
    · have := flt k hk; have := fge k hk; omega
    · have := dlt k hk; have := rge k e.symm; omega
    · have := dlt k hk; have := fge k e.symm; omega
    · have := rlt k hk; have := fge k e.symm; omega
    · refine ⟨(h14.cell (World.block_lt_of_cell? _ _ hj)).trans hj, (h14.cell (World.block_lt_of_cell? _ _ hd)).trans hd, (h14.cell (World.block_lt_of_cell? _ _ ht)).trans ht, (h14.frozen (World.block_lt_of_cell? _ _ ht)).trans hf, by simp, by simp, Kd.R_below (Kd.R_tight rfl hdr) h14, ?_, Kd.R_below (Kd.R_tight rfl (Kd.R_lower hr3 (by omega))) h34, below_step hb h14⟩
      have h := Kd.R_below (Kd.R_tight rfl (Kd.R_lower hr2 (by omega : (w.alloc (.cells #[.slice none 0 0, .slice none 0 0] 29)).heap.size ≤ w1.heap.size))) h24
      simpa [runRow] using h
  have NE := Aside0.mk hne.1
  have S0 := Aside0.mk hne.2
  have HB0 : Aside0 (Below w.heap.size w (w.alloc (.cells #[.slice none 0 0, .slice none 0 0] 29))) := ⟨below_alloc (Below.refl _ _) _⟩
  clear hne N1 N2 N3
  generalize w3.heap.size = go at NE S0 ⊢
  go_loopg [7] 120 (fun gg _ wr => ∃ t : Nat, t ≤ 120 ∧ 120 - t ≤ gg ∧ Aside0 (SimW (w.alloc (.cells #[.slice none 0 0, .slice none 0 0] 29)) js.length A c g go D R F cd cr cf (simT pk js t).1 (runRow pk js t) (simT pk js t).2 (t : Int) wr))
  case atStart => exact ⟨0, by omega, by omega, S0⟩
  case round =>
    obtain ⟨t, ht, hgg, SI⟩ := hrel
    have tm := SI.out.time
    by_cases hlt : t < 120
    · have hltz : (t : Int) < 120 := by omega
      have hcall := HP.out wr g D cd (simT pk js t).1 t hlt (below_then HB0.out HB0.out.size SI.out.bel) (SI.out.mach rfl (Kd.C_alloc HR.out _) (simT_len pk js t).1)
      have hrl := runRow_len pk js t ht
      obtain ⟨gr, cr', er, _, _, _, _⟩ := Kd.R_form SI.out.rR (by omega)
      injection er with er1 er2 er3
      subst er1
      clear er2 er3
      rcases HG.out (simT pk js t).1 (t : Int) with hi | ⟨b, hb, hi⟩
      · rw [hi] at hcall
        have HI := Aside0.mk hi
        clear hi hrl
        go_wp2_with (go_at_fn pn; refine hcall.mono ?_; rintro e w5 ⟨rfl, hb5⟩; have S5 := Aside0.mk (SI.out.below hb5); have tm5 := S5.out.time; have o05 := S5.out.o0; obtain ⟨cx, fx⟩ := Kd.R_celln 0 S5.out.rR (t : Int) (by omega) hltz; rw [Int.toNat_natCast] at cx fx; clear hb5)
        go_big_region
        have S6 := Aside0.mk ((S5.out.setRun NE.out rfl t (-1)).below (below_drew1 (Below.refl _ _)))
        have tm6 := S6.out.time
        have ft6 := S6.out.ftime
        clear tm5 o05 cx fx hcall S5
        generalize (w5.setCell ⟨gr, t, none⟩ (Value.int .i64 (-1))).drew = w6 at S6 tm6 ft6 ⊢
        go_wp2
        go_roundg (120 - (t + 1))
        case measure => omega
        case rel =>
          refine ⟨t + 1, by omega, by omega, ⟨?_⟩⟩
          have h := S6.out.setTime NE.out ((t : Int) + 1)
          rw [show (-1 : Int) = runT pk js t from HI.out.symm, runRow_set pk js t hlt] at h
          rw [simT_idle HI.out]
          exact h
      · rw [hi] at hcall
        have HI := Aside0.mk hi
        have hl := simT_len pk js t
        obtain ⟨gd, cd', er, _, _, _, _⟩ := Kd.R_form SI.out.dR (by omega)
        injection er with er1 er2 er3
        subst er1
        clear er2 er3
        obtain ⟨gf, cf', er, _, _, _, _⟩ := Kd.R_form SI.out.fR (by omega)
        injection er with er1 er2 er3
        subst er1
        clear er2 er3
        have hbz : (b : Int) < (js.length : Int) := by omega
        obtain ⟨ad, ea, hx0, hx1, hx2, hx3⟩ := at_T34 HR.out (b : Int) (by omega) hbz
        cases ea
        rw [Int.toNat_natCast] at hx3
        obtain ⟨y, hy⟩ : ∃ y, (jrd js b).f3 = y := ⟨_, rfl⟩
        obtain ⟨x, hx⟩ : ∃ x, rd (simT pk js t).1 (b : Int) = x := ⟨_, rfl⟩
        have hx3' := hx3
        rw [show (rd_T34 js (b : Int)).f3 = y from hy] at hx3'
        have HX3 := Aside0.mk hx3'
        have STEP := Aside0.mk (simT_runs hi hx hy)
        have HX := Aside0.mk hx
        have LEN := Aside0.mk hl
        clear hi hrl hl hx0 hx1 hx2 hx3 hx3' hy hx
        go_wp2_with (go_at_fn pn; refine hcall.mono ?_; rintro e w5 ⟨rfl, hb5⟩; have S5 := Aside0.mk (SI.out.below hb5); have tm5 := S5.out.time; have o05 := S5.out.o0; obtain ⟨cx, fx⟩ := Kd.R_celln 0 S5.out.rR (t : Int) (by omega) hltz; rw [Int.toNat_natCast] at cx fx; clear hb5)
        go_big_region
        have S6 := Aside0.mk ((S5.out.setRun NE.out rfl t (b : Int)).below (below_drew1 (Below.refl _ _)))
        have dn6 := S6.out.done
        obtain ⟨cd6, fd6⟩ := Kd.R_celln 0 S6.out.dR (b : Int) (by omega) hbz
        rw [Int.toNat_natCast, show rdOf 0 (simT pk js t).1 (b : Int) = x from HX.out] at cd6
        rw [Int.toNat_natCast] at fd6
        clear tm5 o05 cx fx hcall S5
        generalize (w5.setCell ⟨gr, t, none⟩ (Value.int .i64 (b : Int))).drew = w6 at S6 dn6 cd6 fd6 ⊢
        go_wp2_with fail
        have S7 := Aside0.mk (S6.out.setDone NE.out rfl b (wrap64 (x + 1)))
        have dn7 := S7.out.done
        have tm7 := S7.out.time
        have ft7 := S7.out.ftime
        have o17 := S7.out.o1
        have cd7 := World.cell?_setCell_same w6 ⟨gd, b, none⟩ (Value.int .i64 (wrap64 (x + 1))) cd6
        obtain ⟨cf7, ff7⟩ := Kd.R_celln 0 S7.out.fR (b : Int) (by omega) hbz
        rw [Int.toNat_natCast] at cf7 ff7
        have hx7 := HX3.out
        have hx7 := (HB0.out.cell (World.block_lt_of_cell? _ _ hx7)).trans hx7
        have hx7 := (S7.out.bel.cell (World.block_lt_of_cell? _ _ hx7)).trans hx7
        clear dn6 cd6 fd6 S6
        generalize w6.setCell ⟨gd, b, none⟩ (Value.int .i64 (wrap64 (x + 1))) = w7 at S7 dn7 tm7 ft7 o17 cd7 cf7 ff7 hx7 ⊢
        generalize wrap64 (x + 1) = z at S7 cd7 STEP ⊢
        by_cases hq : z = y
        · subst hq
          rw [if_pos rfl] at STEP
          go_big_region
          go_wp2_with fail
          have S8 := Aside0.mk (S7.out.below (below_drew1 (Below.refl _ _)))
          have tm8 := S8.out.time
          have o18 := S8.out.o1
          have cf8 : w7.drew.cell? ⟨gf, b, none⟩ = _ := cf7
          have ff8 : w7.drew.frozen? ⟨gf, b, none⟩ = false := ff7
          have hw : IntKind.i64.wrap ((t : Int) + 1) = (t : Int) + 1 := by rw [IntKind.wrap_i64]; omega
          clear dn7 tm7 ft7 o17 cd7 cf7 ff7 hx7 S7
          generalize w7.drew = w8 at S8 tm8 o18 cf8 ff8 ⊢
          go_big_region
          have S9 := Aside0.mk ((S8.out.setFin NE.out rfl b ((t : Int) + 1)).below (below_drew1 (Below.refl _ _)))
          have tm9 := S9.out.time
          have ft9 := S9.out.ftime
          clear tm8 o18 cf8 ff8 hw S8
          generalize (w8.setCell ⟨gf, b, none⟩ (Value.int .i64 ((t : Int) + 1))).drew = w9 at S9 tm9 ft9 ⊢
          go_wp2
          go_roundg (120 - (t + 1))
          case measure => omega
          case rel =>
            refine ⟨t + 1, by omega, by omega, ⟨?_⟩⟩
            have h := S9.out.setTime NE.out ((t : Int) + 1)
            rw [show (b : Int) = runT pk js t from HI.out.symm, runRow_set pk js t hlt] at h
            rw [STEP.out]
            exact h
        · have hq2 : (z == y) = false := by simpa using hq
          have hq3 : decide (z = y) = false := by simpa using hq
          rw [if_neg hq] at STEP
          have QN := Aside0.mk hq
          clear hq
          go_big_region
          have S8 := Aside0.mk (S7.out.below (below_drew1 (Below.refl _ _)))
          have tm8 := S8.out.time
          have ft8 := S8.out.ftime
          clear dn7 tm7 ft7 o17 cd7 cf7 ff7 hx7 S7
          generalize w7.drew = w8 at S8 tm8 ft8 ⊢
          go_wp2
          go_roundg (120 - (t + 1))
          case measure => omega
          case rel =>
            refine ⟨t + 1, by omega, by omega, ⟨?_⟩⟩
            have h := S8.out.setTime NE.out ((t : Int) + 1)
            rw [show (b : Int) = runT pk js t from HI.out.symm, runRow_set pk js t hlt] at h
            rw [STEP.out]
            exact h
    · have hltz : ¬ (t : Int) < 120 := by omega
      obtain rfl : t = 120 := by omega
      have o0 := SI.out.o0
      have o1 := SI.out.o1
      have BKr : wr.heap[w.heap.size]? = some (.cells #[.slice none 0 0, .slice none 0 0] 29 (0, 0)) := (SI.out.bel.block w.heap.size (by simp)).trans (blk_new w _)
      have r0 : wr.cell? ⟨w.heap.size, 0, none⟩ = some (.slice none 0 0) := (blk_cell BKr 0).trans rfl
      have r1 : wr.cell? ⟨w.heap.size, 1, none⟩ = some (.slice none 0 0) := (blk_cell BKr 1).trans rfl
      have f0 := blk_frozen BKr 0
      have f1 := blk_frozen BKr 1
      have BK := Aside0.mk BKr
      clear BKr
      go_wp2
      refine bodyPost_ret (results_cell_row rfl _ _ w.heap.size 29 #[.slice R 120 cr, .slice F js.length cf] (0, 0) _ rfl (by refine blk_put (cs := #[.slice R 120 cr, .slice none 0 0]) ?_ 1 _ rfl; refine blk_put (cs := #[.slice none 0 0, .slice none 0 0]) ?_ 0 _ rfl; exact BK.out) Try.underlying29 rfl (by kernel_rfl)) rfl ?_
      have hsz : w.heap.size < (w.alloc (.cells #[.slice none 0 0, .slice none 0 0] 29)).heap.size := by simp
      have mv : ∀ {v : Value} {l : List Int}, Kd.R (Kd.int .i64) 3 wr (w.alloc (.cells #[.slice none 0 0, .slice none 0 0] 29)).heap.size (fun k => some k = v.ownBlock) v l → ∀ x y, Kd.R (Kd.int .i64) 3 ((wr.setCell ⟨w.heap.size, 0, none⟩ x).setCell ⟨w.heap.size, 1, none⟩ y) w.heap.size (fun k => some k = v.ownBlock) v l := fun h x y =>
        Kd.R_lower (Kd.R_far (Kd.R_far h (fun k hk e => by have := Kd.R_base h k hk.symm; simp only at e; omega) x) (fun k hk e => by have := Kd.R_base h k hk.symm; simp only at e; omega) y) (by omega)
      refine ⟨_, _, rfl, ?_, ?_, ?_⟩
      · have h := mv SI.out.rR (.slice R 120 cr) (.slice F js.length cf)
        have e : runRow pk js 120 = (simR pk js).1 := by simp [runRow, simR]
        rw [e] at h
        exact Kd.R_mono h (fun k hk e2 => NE.out.RF k hk.symm e2)
      · exact Kd.R_mono (mv SI.out.fR (.slice R 120 cr) (.slice F js.length cf)) (fun k hk e2 => NE.out.RF k e2.symm hk)
      · exact ((below_then HB0.out HB0.out.size SI.out.bel).setCell (Nat.le_refl _) _).setCell (Nat.le_refl _) _

end Go.Proofs.Ytkdfjomhichkoaa.P
-- Laid by a program of this work.
namespace Go.Proofs.Ytkdfjomhichkoaa.P
open Go.RowKit Go.Proofs.YtkdfjomhichkoaaW.PrintWords Go.Proofs.YtkdfjomhichkoaaW.PrintLast Go.Proofs.YtkdfjomhichkoaaW.PrintMore
attribute [local go_sem] max2_int min2_int max_two min_two max_three min_three max_four min_four   -- for this text's walks alone
set_option linter.unusedVariables false
set_option linter.unusedSimpArgs false

-- by hand
/-! Runs by hand: what the simulations of the program are. -/
theorem R_cells2 {W : World} {b g : Nat} {ok : Nat → Prop} {v : Value} {l : List Int} (hg : g < b) (h : Kd.R (Kd.int .i64) 3 W b ok v l) (x y : Value) : Kd.R (Kd.int .i64) 3 ((W.setCell ⟨g, 0, none⟩ x).setCell ⟨g, 1, none⟩ y) b (fun k => some k = v.ownBlock ∧ ok k) v l :=
  Kd.R_far (Kd.R_far (Kd.R_tight2 rfl h) (fun k hk e => by have := Kd.R_base h k hk.1.symm; simp only at e; omega) x) (fun k hk e => by have := Kd.R_base h k hk.1.symm; simp only at e; omega) y
theorem edfD_rng (js : List JobT) (dn : List Int) (now : Int) : edfD js dn now = -1 ∨ ∃ b : Nat, b < js.length ∧ edfD js dn now = (b : Int) := bestD_rng _ _ _
theorem npD_rng (js : List JobT) (dn : List Int) (now : Int) : npD js dn now = -1 ∨ ∃ b : Nat, b < js.length ∧ npD js dn now = (b : Int) := by
  unfold npD
  split
  · exact bestD_rng _ _ _
  · exact edfD_rng _ _ _
end Go.Proofs.Ytkdfjomhichkoaa.P
-- Laid by a program of this work.
namespace Go.Proofs.Ytkdfjomhichkoaa.P
open Go.RowKit Go.Proofs.YtkdfjomhichkoaaW.PrintWords Go.Proofs.YtkdfjomhichkoaaW.PrintLast Go.Proofs.YtkdfjomhichkoaaW.PrintMore
attribute [local go_sem] max2_int min2_int max_two min_two max_three min_three max_four min_four   -- for this text's walks alone
set_option linter.unusedVariables false
set_option linter.unusedSimpArgs false

/-! ### impl_in: function 103 -/
def impl_in.f (a0 : Int) (a1 : Int) (a2 : Int) : Option (Bool) := if a0 ≥ a1 then (some (decide (a0 ≤ a2))) else (some false)
set_option maxHeartbeats 8000000 in
set_option maxRecDepth 100000 in
theorem impl_in.calls (a0 : Int) (a1 : Int) (a2 : Int) (r : Bool) (w : World) (h : impl_in.f a0 a1 a2 = some r) :
  Calls Try.prog 103 #[.int .i64 a0, .int .i64 a1, .int .i64 a2] w fun e w' => e = .returned (.bool r) ∧ Drawn0 w w' := by
 have H : (if a0 ≥ a1 then (some (decide (a0 ≤ a2))) else (some false)) = some r := h
 clear h
 by_cases c4 : a0 ≥ a1
 ·rw [if_pos c4] at H
  have c4b0 : decide (a1 ≤ a0) = true := decide_eq_true c4
  clear c4
  obtain rfl := Option.some.inj H
  go_enter Try.func103, Try.ntmps103
  go_wp2
  go_ret
  exact ⟨by first | rfl | (simp; done) | (simp [*]; done), by repeat (first | exact Drawn0.refl _ | apply Drawn0.step)⟩
 ·rw [if_neg c4] at H
  have c4b0 : decide (a1 ≤ a0) = false := decide_eq_false c4
  clear c4
  obtain rfl := Option.some.inj H
  go_enter Try.func103, Try.ntmps103
  go_wp2
  go_ret
  exact ⟨by first | rfl | (simp; done) | (simp [*]; done), by repeat (first | exact Drawn0.refl _ | apply Drawn0.step)⟩

end Go.Proofs.Ytkdfjomhichkoaa.P
-- Laid by a program of this work.
namespace Go.Proofs.Ytkdfjomhichkoaa.P
open Go.RowKit Go.Proofs.YtkdfjomhichkoaaW.PrintWords Go.Proofs.YtkdfjomhichkoaaW.PrintLast Go.Proofs.YtkdfjomhichkoaaW.PrintMore
attribute [local go_sem] max2_int min2_int max_two min_two max_three min_three max_four min_four   -- for this text's walks alone
set_option linter.unusedVariables false
set_option linter.unusedSimpArgs false

-- by hand
/-! Legal release patterns, by hand: the order of the jobs. -/
abbrev TaskT := S88
def trd (l : List TaskT) (i : Int) : TaskT := rd_T88 l i
def inRng (l : List TaskT) (j : JobT) : Bool := decide (0 ≤ j.f0 ∧ j.f0 ≤ (l.length : Int) - 1)
def relOk (j : JobT) : Bool := decide (0 ≤ j.f1 ∧ j.f1 ≤ 119)
def exOk (l : List TaskT) (j : JobT) : Bool := decide (1 ≤ j.f3 ∧ j.f3 ≤ (trd l j.f0).f0)
def bhd (p j : JobT) : Bool := decide (p.f1 > j.f1) || (decide (p.f1 = j.f1) && decide (p.f0 ≥ j.f0))
def ordOk (l : List TaskT) (js : List JobT) (i : Nat) : Bool := inRng l (jrd js i) && relOk (jrd js i) && exOk l (jrd js i) && (decide (i = 0) || !(bhd (jrd js (i - 1)) (jrd js i)))
def allB (p : Nat → Bool) : Nat → Bool
  | 0 => true
  | n + 1 => allB p n && p n
theorem allB_false {p : Nat → Bool} {i : Nat} (h : p i = false) : ∀ n, i < n → allB p n = false
  | 0, hn => by omega
  | n + 1, hn => by
    rw [allB]
    by_cases e : i = n
    · subst e; rw [h]; simp
    · rw [allB_false h n (by omega)]; rfl
theorem allB_true {p : Nat → Bool} : ∀ {n : Nat}, allB p n = true → ∀ i, i < n → p i = true
  | 0, _, i, hi => by omega
  | n + 1, h, i, hi => by
    rw [allB, Bool.and_eq_true] at h
    by_cases e : i = n
    · subst e; exact h.2
    · exact allB_true h.1 i (by omega)
def ordB (l : List TaskT) (js : List JobT) : Bool := allB (ordOk l js) js.length && decide ((js.length : Int) ≤ 60)
set_option maxHeartbeats 4000000 in
set_option maxRecDepth 100000 in
theorem jl1_calls (A0 : Option Addr) (c0 : Nat) (l0 : List TaskT) (B : Addr) (a : Int) (h0 : 0 ≤ a) (h1 : a < (l0.length : Int)) (w : World) (hB : w.cell? B = some (.slice A0 l0.length c0)) (hr0 : Kd.C k88 w A0 l0.length l0) :
    Calls Try.prog 92 #[.int .i64 a, .pointer (some B)] w fun e w' => e = .returned (.int .i64 (trd l0 a).f0) ∧ Drawn0 w w' := by
  obtain ⟨ad, ea, hx0, hx1, hx2⟩ := at_T88 hr0 a h0 h1
  cases ea
  unfold trd
  clear hr0 hx1 hx2
  generalize (rd_T88 l0 a).f0 = x at hx0 ⊢
  go_enter Try.func92, Try.ntmps92
  go_wp2
  go_ret
  exact ⟨rfl, Drawn0.refl _⟩
set_option maxHeartbeats 4000000 in
set_option maxRecDepth 100000 in
theorem jl2_calls (A0 : Option Addr) (c0 : Nat) (l0 : List TaskT) (B : Addr) (a : Int) (h0 : 0 ≤ a) (h1 : a < (l0.length : Int)) (w : World) (hB : w.cell? B = some (.slice A0 l0.length c0)) (hr0 : Kd.C k88 w A0 l0.length l0) :
    Calls Try.prog 95 #[.int .i64 a, .pointer (some B)] w fun e w' => e = .returned (.int .i64 (trd l0 a).f2) ∧ Drawn0 w w' := by
  obtain ⟨ad, ea, hx0, hx1, hx2⟩ := at_T88 hr0 a h0 h1
  cases ea
  unfold trd
  clear hr0 hx0 hx1
  generalize (rd_T88 l0 a).f2 = x at hx2 ⊢
  go_enter Try.func95, Try.ntmps95
  go_wp2
  go_ret
  exact ⟨rfl, Drawn0.refl _⟩
def lateB (l : List TaskT) (j : JobT) : Bool := j.f2 != wrap64 (j.f1 + (trd l j.f0).f1)
set_option maxHeartbeats 4000000 in
set_option maxRecDepth 100000 in
theorem jl3_calls (A0 : Option Addr) (c0 : Nat) (l0 : List TaskT) (B : Addr) (j : JobT) (h0 : 0 ≤ j.f0) (h1 : j.f0 < (l0.length : Int)) (w : World) (hB : w.cell? B = some (.slice A0 l0.length c0)) (hr0 : Kd.C k88 w A0 l0.length l0) :
    Calls Try.prog 97 #[.agg #[.int .i64 j.f0, .int .i64 j.f1, .int .i64 j.f2, .int .i64 j.f3], .pointer (some B)] w fun e w' => e = .returned (.bool (lateB l0 j)) ∧ Below w.heap.size w w' := by
  have hBl := World.block_lt_of_cell? _ _ hB
  have hB2 : ∀ o, (w.alloc o).cell? B = some (.slice A0 l0.length c0) := fun o => (World.cell?_alloc_lt _ _ _ hBl).trans hB
  obtain ⟨ad, ea, hx0, hx1, hx2⟩ := at_T88 hr0 j.f0 h0 h1
  cases ea
  have hxl := World.block_lt_of_cell? _ _ hx1
  have hx3 := fun (o : Obj) => (show (w.alloc o).cell? _ = w.cell? _ from World.cell?_alloc_lt _ _ _ hxl).trans hx1
  unfold lateB trd
  clear hr0 hx0 hx1 hx2 hBl hxl hB
  generalize (rd_T88 l0 j.f0).f1 = x at hx3 ⊢
  have hc2 := hB2 (.cells #[.int .i64 j.f0, .int .i64 j.f1, .int .i64 j.f2, .int .i64 j.f3] 34)
  have hx4 := hx3 (.cells #[.int .i64 j.f0, .int .i64 j.f1, .int .i64 j.f2, .int .i64 j.f3] 34)
  clear hB2 hx3
  go_enter Try.func97, Try.ntmps97
  go_wp2_with fail
  go_big_region
  all_goals go_wp2
  go_ret
  exact ⟨rfl, below_drew1 (below_alloc (Below.refl _ _) _)⟩
theorem in_is (a b c : Int) (v : Bool) (h : decide (b ≤ a ∧ a ≤ c) = v) : impl_in.f a b c = some v := by
  unfold impl_in.f
  subst h
  by_cases h1 : a ≥ b
  · rw [if_pos h1]; simp [show b ≤ a from h1]
  · rw [if_neg h1]; simp [show ¬ b ≤ a from h1]
set_option maxHeartbeats 16000000 in
set_option maxRecDepth 100000 in
theorem ordered_calls (mn : Nat) (ml : Array Value) (em : ∀ args w, (callFunc mn args).run Try.prog w = .ok (.enter mn args) w) (l0 : List TaskT) (A : Option Addr) (c : Nat) (js : List JobT) (hjl : js.length ≤ 1000000000) (hll : l0.length ≤ 1000000000) (w : World) (hm : ∀ (W : World) (a : Int), Below w.heap.size w W → 0 ≤ a → a < (l0.length : Int) → Calls Try.prog mn (#[.int .i64 a] ++ ml) W fun e w' => e = .returned (.int .i64 (trd l0 a).f0) ∧ ∃ q, w' = W.drewN q) (hr : Kd.C k34 w A js.length js) :
    Calls Try.prog 91 #[.slice A js.length c, .int .i64 (l0.length : Int), .func (.func mn) #[] ml] w fun e w' => e = .returned (.bool (ordB l0 js)) ∧ Below w.heap.size w w' := by
  have HMM := Aside0.mk hm
  have HR := Aside0.mk hr
  clear hm hr
  go_enter Try.func91, Try.ntmps91
  go_wp2
  go_loopg [11] js.length (fun gg v11 wr => ∃ i : Nat, v11 = .int .i64 i ∧ i ≤ js.length ∧ js.length - i ≤ gg ∧ Aside0 (Below w.heap.size w wr) ∧ Aside0 (allB (ordOk l0 js) i = true))
  case atStart => exact ⟨0, by go_num, by omega, by omega, ⟨Below.refl _ _⟩, ⟨rfl⟩⟩
  case round =>
    obtain ⟨i, rfl, hil, hgg, BW, OK⟩ := hrel
    by_cases hlt : i < js.length
    · have hltz : (i : Int) < (js.length : Int) := by omega
      obtain ⟨ad, ea, hx0, hx1, hx2, hx3⟩ := at_T34 HR.out (i : Int) (by omega) hltz
      cases ea
      have hy0 := (BW.out.cell (World.block_lt_of_cell? w _ hx0)).trans hx0
      have hy1 := (BW.out.cell (World.block_lt_of_cell? w _ hx1)).trans hx1
      have hy2 := (BW.out.cell (World.block_lt_of_cell? w _ hx2)).trans hx2
      have hy3 := (BW.out.cell (World.block_lt_of_cell? w _ hx3)).trans hx3
      clear hx0 hx1 hx2 hx3
      rw [Int.toNat_natCast] at hy0 hy1 hy2 hy3
      obtain ⟨j, hj⟩ : ∃ j : JobT, j = jrd js i := ⟨_, rfl⟩
      rw [show rd_T34 js (i : Int) = j from hj.symm] at hy0 hy1 hy2 hy3
      have HJ := Aside0.mk hj
      clear hj
      have hw : IntKind.i64.wrap ((l0.length : Int) - 1) = (l0.length : Int) - 1 := by rw [IntKind.wrap_i64]; omega
      have HW := Aside0.mk hw
      clear hw
      -- the false answers
      have no : ordOk l0 js i = false → ordB l0 js = false := fun h => by unfold ordB; rw [allB_false h _ hlt]; rfl
      have NO := Aside0.mk no
      clear no
      cases q1 : inRng l0 j with
      | false =>
        have H1 := Aside0.mk (in_is j.f0 0 ((l0.length : Int) - 1) false q1)
        have F := Aside0.mk (NO.out (by unfold ordOk; rw [← HJ.out, q1]; rfl))
        clear q1
        go_wp2_with fail
        have hw := HW.out
        go_quiet ((first | (go_at_call 103; (with_reducible refine (impl_in.calls _ _ _ _ _ H1.out).mono ?_); rintro e w' ⟨rfl, ⟨nd, rfl⟩⟩; (try first | exact ⟨rfl, _, World.drewN_drewN _ _ _⟩ | exact ⟨rfl, _, Eq.trans (World.drewN_drewN _ _ _) (congrArg (World.drewN _) (Nat.add_assoc _ _ _))⟩ | exact ⟨rfl, _, rfl⟩))))
        clear hw
        go_wp2
        go_ret
        exact ⟨by rw [F.out]; rfl, by first | exact pw_below_drewN (below_alloc BW.out _) _ | exact below_drew1 (below_alloc BW.out _) | exact below_alloc BW.out _⟩
      | true =>
        have H1 := Aside0.mk (in_is j.f0 0 ((l0.length : Int) - 1) true q1)
        have Q1 := Aside0.mk q1
        clear q1
        cases q2 : relOk j with
        | false =>
          have H2 := Aside0.mk (in_is j.f1 0 119 false q2)
          have F := Aside0.mk (NO.out (by unfold ordOk; rw [← HJ.out, q2, Bool.and_false]; rfl))
          clear q2
          go_wp2_with fail
          have hw := HW.out
          go_quiet ((first | (go_at_call 103; (with_reducible refine (impl_in.calls _ _ _ _ _ H1.out).mono ?_); rintro e w' ⟨rfl, ⟨nd, rfl⟩⟩; (try first | exact ⟨rfl, _, World.drewN_drewN _ _ _⟩ | exact ⟨rfl, _, Eq.trans (World.drewN_drewN _ _ _) (congrArg (World.drewN _) (Nat.add_assoc _ _ _))⟩ | exact ⟨rfl, _, rfl⟩)) | (go_at_call 103; (with_reducible refine (impl_in.calls _ _ _ _ _ H2.out).mono ?_); rintro e w' ⟨rfl, ⟨nd, rfl⟩⟩; (try first | exact ⟨rfl, _, World.drewN_drewN _ _ _⟩ | exact ⟨rfl, _, Eq.trans (World.drewN_drewN _ _ _) (congrArg (World.drewN _) (Nat.add_assoc _ _ _))⟩ | exact ⟨rfl, _, rfl⟩))))
          clear hw
          go_wp2
          go_ret
          exact ⟨by rw [F.out]; rfl, by first | exact pw_below_drewN (below_alloc BW.out _) _ | exact below_drew1 (below_alloc BW.out _) | exact below_alloc BW.out _⟩
        | true =>
          have H2 := Aside0.mk (in_is j.f1 0 119 true q2)
          have Q2 := Aside0.mk q2
          clear q2
          have hr1 := of_decide_eq_true Q1.out
          have HM := Aside0.mk (fun (W : World) (hb : Below w.heap.size w W) => HMM.out W j.f0 hb (by omega) (by omega))
          clear hr1
          obtain ⟨z, hz⟩ : ∃ z, (trd l0 j.f0).f0 = z := ⟨_, rfl⟩
          rw [hz] at HM
          have HZ := Aside0.mk hz
          clear hz
          cases q3 : exOk l0 j with
          | false =>
            have H3 := Aside0.mk (in_is j.f3 1 z false (by have := q3; unfold exOk at this; rw [HZ.out] at this; exact this))
            have F := Aside0.mk (NO.out (by unfold ordOk; rw [← HJ.out, q3, Bool.and_false]; rfl))
            clear q3
            go_wp2_with fail
            have hw := HW.out
            go_quiet ((first | (go_at_call 103; (with_reducible refine (impl_in.calls _ _ _ _ _ H1.out).mono ?_); rintro e w' ⟨rfl, ⟨nd, rfl⟩⟩; (try first | exact ⟨rfl, _, World.drewN_drewN _ _ _⟩ | exact ⟨rfl, _, Eq.trans (World.drewN_drewN _ _ _) (congrArg (World.drewN _) (Nat.add_assoc _ _ _))⟩ | exact ⟨rfl, _, rfl⟩)) | (go_at_call 103; (with_reducible refine (impl_in.calls _ _ _ _ _ H2.out).mono ?_); rintro e w' ⟨rfl, ⟨nd, rfl⟩⟩; (try first | exact ⟨rfl, _, World.drewN_drewN _ _ _⟩ | exact ⟨rfl, _, Eq.trans (World.drewN_drewN _ _ _) (congrArg (World.drewN _) (Nat.add_assoc _ _ _))⟩ | exact ⟨rfl, _, rfl⟩)) | (go_at_call 103; (with_reducible refine (impl_in.calls _ _ _ _ _ H3.out).mono ?_); rintro e w' ⟨rfl, ⟨nd, rfl⟩⟩; (try first | exact ⟨rfl, _, World.drewN_drewN _ _ _⟩ | exact ⟨rfl, _, Eq.trans (World.drewN_drewN _ _ _) (congrArg (World.drewN _) (Nat.add_assoc _ _ _))⟩ | exact ⟨rfl, _, rfl⟩)) | (go_at_fn mn; refine Calls.quiet_of (HM.out _ (by first | exact pw_below_drewN (below_alloc BW.out _) _ | exact below_alloc BW.out _)))))
            clear hw
            go_wp2
            go_ret
            exact ⟨by rw [F.out]; rfl, by first | exact pw_below_drewN (below_alloc BW.out _) _ | exact below_drew1 (below_alloc BW.out _) | exact below_alloc BW.out _⟩
          | true =>
            have H3 := Aside0.mk (in_is j.f3 1 z true (by have := q3; unfold exOk at this; rw [HZ.out] at this; exact this))
            have Q3 := Aside0.mk q3
            clear q3
            go_wp2_with fail
            have hw := HW.out
            go_quiet ((first | (go_at_call 103; (with_reducible refine (impl_in.calls _ _ _ _ _ H1.out).mono ?_); rintro e w' ⟨rfl, ⟨nd, rfl⟩⟩; (try first | exact ⟨rfl, _, World.drewN_drewN _ _ _⟩ | exact ⟨rfl, _, Eq.trans (World.drewN_drewN _ _ _) (congrArg (World.drewN _) (Nat.add_assoc _ _ _))⟩ | exact ⟨rfl, _, rfl⟩)) | (go_at_call 103; (with_reducible refine (impl_in.calls _ _ _ _ _ H2.out).mono ?_); rintro e w' ⟨rfl, ⟨nd, rfl⟩⟩; (try first | exact ⟨rfl, _, World.drewN_drewN _ _ _⟩ | exact ⟨rfl, _, Eq.trans (World.drewN_drewN _ _ _) (congrArg (World.drewN _) (Nat.add_assoc _ _ _))⟩ | exact ⟨rfl, _, rfl⟩)) | (go_at_call 103; (with_reducible refine (impl_in.calls _ _ _ _ _ H3.out).mono ?_); rintro e w' ⟨rfl, ⟨nd, rfl⟩⟩; (try first | exact ⟨rfl, _, World.drewN_drewN _ _ _⟩ | exact ⟨rfl, _, Eq.trans (World.drewN_drewN _ _ _) (congrArg (World.drewN _) (Nat.add_assoc _ _ _))⟩ | exact ⟨rfl, _, rfl⟩)) | (go_at_fn mn; refine Calls.quiet_of (HM.out _ (by first | exact pw_below_drewN (below_alloc BW.out _) _ | exact below_alloc BW.out _)))))
            clear hw
            go_wp2_with fail
            have B6 := Aside0.mk (pw_below_drewN (below_alloc BW.out (.cells #[.int .i64 j.f0, .int .i64 j.f1, .int .i64 j.f2, .int .i64 j.f3] 34)) nq)
            have cj0 : ((wr.alloc (.cells #[.int .i64 j.f0, .int .i64 j.f1, .int .i64 j.f2, .int .i64 j.f3] 34)).drewN nq).cell? ⟨wr.heap.size, 0, none⟩ = some (.int .i64 j.f0) := by simp
            have cj1 : ((wr.alloc (.cells #[.int .i64 j.f0, .int .i64 j.f1, .int .i64 j.f2, .int .i64 j.f3] 34)).drewN nq).cell? ⟨wr.heap.size, 1, none⟩ = some (.int .i64 j.f1) := by simp
            clear hy0 hy1 hy2 hy3
            generalize ((wr.alloc (.cells #[.int .i64 j.f0, .int .i64 j.f1, .int .i64 j.f2, .int .i64 j.f3] 34)).drewN nq) = w6 at B6 cj0 cj1 ⊢
            rcases Nat.eq_zero_or_pos i with h0 | h0
            · subst h0
              have ONE := Aside0.mk (show ordOk l0 js 0 = true by unfold ordOk; rw [← HJ.out, Q1.out, Q2.out, Q3.out]; rfl)
              go_quiet (fail)
              go_wp2
              go_roundg (js.length - (0 + 1))
              case measure => omega
              case rel => exact ⟨0 + 1, by go_num, by omega, by omega, ⟨pw_below_drewN B6.out _⟩, ⟨by rw [allB, OK.out, ONE.out]; rfl⟩⟩
            · obtain ⟨k, hk⟩ : ∃ k : Nat, k = i - 1 := ⟨_, rfl⟩
              have hkl : (k : Int) < (js.length : Int) := by omega
              have hk0 : (0 : Int) ≤ (k : Int) := by omega
              have hi0 : (0 : Int) < (i : Int) := by omega
              obtain ⟨ad2, ea2, hp0, hp1, hp2, hp3⟩ := at_T34 HR.out (k : Int) (by omega) hkl
              cases ea2
              have hp0 := (B6.out.cell (World.block_lt_of_cell? w _ hp0)).trans hp0
              have hp1 := (B6.out.cell (World.block_lt_of_cell? w _ hp1)).trans hp1
              clear hp2 hp3
              rw [Int.toNat_natCast] at hp0 hp1
              obtain ⟨p, hp⟩ : ∃ p : JobT, p = jrd js k := ⟨_, rfl⟩
              rw [show rd_T34 js (k : Int) = p from hp.symm] at hp0 hp1
              have HPK : Aside0 (p = jrd js (i - 1)) := ⟨by rw [hp, hk]⟩
              have hw2 : IntKind.i64.wrap ((i : Int) - 1) = (k : Int) := by rw [IntKind.wrap_i64]; omega
              have HW2 := Aside0.mk hw2
              have Hi0 := Aside0.mk (show decide (i = 0) = false from decide_eq_false (by omega))
              clear hp hw2 hk
              have two : ∀ b, bhd p j = b → ordOk l0 js i = !b := fun b hb => by unfold ordOk; rw [← HJ.out, ← HPK.out, Q1.out, Q2.out, Q3.out, Hi0.out, hb]; simp
              have TWO := Aside0.mk two
              clear two
              by_cases ha : p.f1 > j.f1
              · have F := Aside0.mk (NO.out (TWO.out true (by unfold bhd; rw [decide_eq_true ha]; rfl)))
                have ha1 : decide (p.f1 > j.f1) = true := decide_eq_true ha
                have hw2 := HW2.out
                go_quiet (fail)
                clear hw2
                go_wp2
                go_ret
                exact ⟨by rw [F.out]; rfl, pw_below_drewN B6.out _⟩
              · have ha1 : decide (p.f1 > j.f1) = false := decide_eq_false ha
                by_cases hb : p.f1 = j.f1
                · by_cases hc : p.f0 ≥ j.f0
                  · have F := Aside0.mk (NO.out (TWO.out true (by unfold bhd; rw [decide_eq_true hb, decide_eq_true hc, Bool.and_self, Bool.or_true])))
                    have hb1 : (p.f1 == j.f1) = true := by simpa using hb
                    have hb2 : decide (p.f1 = j.f1) = true := decide_eq_true hb
                    have hc1 : decide (p.f0 ≥ j.f0) = true := decide_eq_true hc
                    clear hb
                    have hw2 := HW2.out
                    go_quiet (fail)
                    clear hw2
                    go_wp2
                    go_ret
                    exact ⟨by rw [F.out]; rfl, pw_below_drewN B6.out _⟩
                  · have ONE := Aside0.mk (TWO.out false (by unfold bhd; rw [decide_eq_false ha, decide_eq_false hc, Bool.and_false]; rfl))
                    have hb1 : (p.f1 == j.f1) = true := by simpa using hb
                    have hb2 : decide (p.f1 = j.f1) = true := decide_eq_true hb
                    have hc1 : decide (p.f0 ≥ j.f0) = false := decide_eq_false hc
                    clear hb
                    have hw2 := HW2.out
                    go_quiet (fail)
                    clear hw2
                    go_wp2
                    go_roundg (js.length - (i + 1))
                    case measure => omega
                    case rel => exact ⟨i + 1, by go_num, by omega, by omega, ⟨pw_below_drewN B6.out _⟩, ⟨by rw [allB, OK.out, ONE.out]; rfl⟩⟩
                · have ONE := Aside0.mk (TWO.out false (by unfold bhd; rw [decide_eq_false ha, decide_eq_false hb]; rfl))
                  have hb1 : (p.f1 == j.f1) = false := by simpa using hb
                  have hb2 : decide (p.f1 = j.f1) = false := decide_eq_false hb
                  have hw2 := HW2.out
                  go_quiet (fail)
                  clear hw2
                  go_wp2
                  go_roundg (js.length - (i + 1))
                  case measure => omega
                  case rel => exact ⟨i + 1, by go_num, by omega, by omega, ⟨pw_below_drewN B6.out _⟩, ⟨by rw [allB, OK.out, ONE.out]; rfl⟩⟩
    · have hltz : ¬ (i : Int) < (js.length : Int) := by omega
      go_wp2
      go_ret
      exact ⟨by rw [show i = js.length by omega] at OK; unfold ordB; rw [OK.out]; rfl, BW.out⟩

end Go.Proofs.Ytkdfjomhichkoaa.P
-- Laid by a program of this work.
namespace Go.Proofs.Ytkdfjomhichkoaa.P
open Go.RowKit Go.Proofs.YtkdfjomhichkoaaW.PrintWords Go.Proofs.YtkdfjomhichkoaaW.PrintLast Go.Proofs.YtkdfjomhichkoaaW.PrintMore
attribute [local go_sem] max2_int min2_int max_two min_two max_three min_three max_four min_four   -- for this text's walks alone
set_option linter.unusedVariables false
set_option linter.unusedSimpArgs false

-- by hand
-- NEEDS Derived.Maps.OwnSet
-- NEEDS Derived.Maps.OwnOps
-- NEEDS Derived.Carry
/-! Legal release patterns, by hand: the distance of one task's jobs, kept in a map. -/
theorem spc_law : Go.Maps.Keyed Try.prog 3 := Go.Maps.int_keyed Try.underlying3
theorem spc_zero (w : World) : (zeroValue 3).run Try.prog w = .ok (.int .i64 0) w := by kernel_rfl
/-- The release of the last job of a task among the first i. -/
def lastOf (js : List JobT) : Nat → Int → Option Int
  | 0, _ => none
  | i + 1, k => if (jrd js i).f0 = k then some (jrd js i).f1 else lastOf js i k
def spcOk (l : List TaskT) (js : List JobT) (i : Nat) : Bool :=
  match lastOf js i (jrd js i).f0 with
  | none => true
  | some b => !(decide (wrap64 ((jrd js i).f1 - b) < (trd l (jrd js i).f0).f2))
def spcB (l : List TaskT) (js : List JobT) : Bool := allB (spcOk l js) js.length
def Ds (js : List JobT) : Nat → DataW Unit
  | 0 => .map []
  | i + 1 => (Ds js i).put (.int .i64 (jrd js i).f0) (.lit (.int .i64 (jrd js i).f1))
theorem map_below {w w1 : World} {P : Program} {k : TypeId} {R : Value → Option (DataW Unit × List MemPlace)} {b n : Nat} {D : DataW Unit} (h : w.ownsMap P k R b n D) (hb : Below w.heap.size w w1) : w1.ownsMap P k R b n D := by
  obtain ⟨es, clock, h1, h2⟩ := h
  exact ⟨es, clock, (hb.block b (Array.getElem?_eq_some_iff.1 h1).1).trans h1, h2⟩
theorem Ds_map (js : List JobT) : ∀ i, Go.Maps.IsMap (Ds js i)
  | 0 => Go.Maps.isMap_empty
  | i + 1 => (Ds_map js i).put _ _
theorem Ds_has (js : List JobT) (k : Int) : ∀ i, Go.Maps.has (Ds js i) (.int .i64 k) = (lastOf js i k).isSome
  | 0 => rfl
  | i + 1 => by
    rw [Ds, lastOf]
    by_cases h : (jrd js i).f0 = k
    · rw [if_pos h, h, Go.Maps.has_put_same (Ds_map js i) (show Go.WideAt.IsKeyLit (.int .i64 k) from trivial)]; rfl
    · rw [if_neg h, Go.Maps.has_put_other (fun e => h (by injection e with _ e; exact e.symm)), Ds_has js k i]
theorem Ds_at (js : List JobT) (k b : Int) (z : DataW Unit) : ∀ i, lastOf js i k = some b → (Ds js i).atKey (.int .i64 k) z = .lit (.int .i64 b)
  | 0, h => by simp [lastOf] at h
  | i + 1, h => by
    rw [lastOf] at h
    rw [Ds]
    by_cases e : (jrd js i).f0 = k
    · rw [if_pos e] at h
      rw [e, Go.Maps.atKey_put_same (Ds_map js i) (show Go.WideAt.IsKeyLit (.int .i64 k) from trivial), Option.some.inj h]
    · rw [if_neg e] at h
      rw [Go.Maps.atKey_put_other (fun e2 => e (by injection e2 with _ e2; exact e2.symm)), Ds_at js k b z i h]
set_option maxHeartbeats 16000000 in
set_option maxRecDepth 100000 in
theorem spaced_calls (tn mn : Nat) (ml : Array Value) (et : ∀ args w, (callFunc tn args).run Try.prog w = .ok (.enter tn args) w) (em : ∀ args w, (callFunc mn args).run Try.prog w = .ok (.enter mn args) w) (hne : tn ≠ mn) (l0 : List TaskT) (A : Option Addr) (c : Nat) (js : List JobT) (hjl : js.length ≤ 1000000000)
    (hid : ∀ i, i < js.length → 0 ≤ (jrd js i).f0 ∧ (jrd js i).f0 < (l0.length : Int)) (hrel : ∀ i, i < js.length → 0 ≤ (jrd js i).f1 ∧ (jrd js i).f1 ≤ 119) (hll : l0.length ≤ 1000000000) (w : World)
    (ht : ∀ (W : World) (j : JobT), Below w.heap.size w W → Calls Try.prog tn #[.agg #[.int .i64 j.f0, .int .i64 j.f1, .int .i64 j.f2, .int .i64 j.f3]] W fun e w' => e = .returned (.int .i64 j.f1) ∧ Below W.heap.size W w')
    (hm : ∀ (W : World) (a : Int), Below w.heap.size w W → 0 ≤ a → a < (l0.length : Int) → Calls Try.prog mn (#[.int .i64 a] ++ ml) W fun e w' => e = .returned (.int .i64 (trd l0 a).f2) ∧ ∃ q, w' = W.drewN q) (hr : Kd.C k34 w A js.length js) :
    Calls Try.prog 93 #[.slice A js.length c, .func (.func tn) #[] #[], .func (.func mn) #[] ml] w fun e w' => e = .returned (.bool (spcB l0 js)) ∧ Below w.heap.size w w' := by
  have HT := Aside0.mk ht
  have HMM := Aside0.mk hm
  have HR := Aside0.mk hr
  have HID := Aside0.mk hid
  have HRL := Aside0.mk hrel
  have hmm := @run_makeMap Try.prog
  clear ht hm hr hid hrel
  go_enter Try.func93, Try.ntmps93
  go_wp2
  go_loopg [16] js.length (fun gg v16 wr => ∃ i : Nat, v16 = .int .i64 i ∧ i ≤ js.length ∧ js.length - i ≤ gg ∧ Aside0 (Below w.heap.size w wr) ∧ Aside0 (wr.ownsMap Try.prog 3 (plainElem Try.prog 3) w.heap.size i (Ds js i)) ∧ Aside0 (allB (spcOk l0 js) i = true))
  case atStart => exact ⟨0, by go_num, by omega, by omega, ⟨(Below.refl _ _).alloc (Nat.le_refl _) _⟩, ⟨World.ownsMap_made _ _ _ _⟩, ⟨rfl⟩⟩
  case round =>
    obtain ⟨i, rfl, hil, hgg, BW, OM, OK⟩ := hrel
    by_cases hlt : i < js.length
    · have hltz : (i : Int) < (js.length : Int) := by omega
      obtain ⟨ad, ea, hx0, hx1, hx2, hx3⟩ := at_T34 HR.out (i : Int) (by omega) hltz
      cases ea
      have hy0 := (BW.out.cell (World.block_lt_of_cell? w _ hx0)).trans hx0
      have hy1 := (BW.out.cell (World.block_lt_of_cell? w _ hx1)).trans hx1
      have hy2 := (BW.out.cell (World.block_lt_of_cell? w _ hx2)).trans hx2
      have hy3 := (BW.out.cell (World.block_lt_of_cell? w _ hx3)).trans hx3
      clear hx0 hx1 hx2 hx3
      rw [Int.toNat_natCast] at hy0 hy1 hy2 hy3
      have hb0 := HID.out i hlt
      have hb1 := HRL.out i hlt
      obtain ⟨j, hj⟩ : ∃ j : JobT, j = jrd js i := ⟨_, rfl⟩
      rw [show rd_T34 js (i : Int) = j from hj.symm] at hy0 hy1 hy2 hy3
      rw [← hj] at hb0 hb1
      have HJ := Aside0.mk hj
      clear hj
      have WF := Aside0.mk (show (Lit.int .i64 j.f0).wf = true from WalkArith.wf_i64 (by omega))
      have WF1 := Aside0.mk (show (Lit.int .i64 j.f1).wf = true from WalkArith.wf_i64 (by omega))
      have KEY := Aside0.mk (Go.Maps.keyOf_int_mk Try.underlying3 WF.out)
      obtain ⟨z, hz⟩ : ∃ z, (trd l0 j.f0).f2 = z := ⟨_, rfl⟩
      have HM := Aside0.mk (fun (W : World) (hb : Below w.heap.size w W) => HMM.out W j.f0 hb hb0.1 hb0.2)
      rw [hz] at HM
      have HZ := Aside0.mk hz
      clear hz hb0 hb1
      have no : spcOk l0 js i = false → spcB l0 js = false := fun h => by unfold spcB; exact allB_false h _ hlt
      have NO := Aside0.mk no
      clear no
      cases hl : lastOf js i j.f0 with
      | none =>
        have HH := Aside0.mk (show Go.Maps.has (Ds js i) (.int .i64 j.f0) = false by rw [Ds_has, hl]; rfl)
        have ONE := Aside0.mk (show spcOk l0 js i = true by unfold spcOk; rw [← HJ.out, hl])
        clear hl
        go_wp2_with (first | (go_at_fn tn; refine (HT.out _ j (below_alloc BW.out _)).mono ?_; rintro e w2 ⟨rfl, hb2⟩; have B2 := Aside0.mk (below_step (below_alloc BW.out _) hb2); have O2 := Aside0.mk (map_below (OM.out.alloc _) hb2); have j0 : w2.cell? ⟨wr.heap.size, 0, none⟩ = some (.int .i64 j.f0) := (hb2.cell (p := ⟨wr.heap.size, 0, none⟩) (by simp)).trans (by simp); clear hb2) | (at_lookup; refine wpList_lookup_own_ok_int _ rfl _ _ 122 rfl 3 3 .i64 spc_law Try.underlying122 Try.underlying3 (spc_zero _) w.heap.size i _ rfl O2.out _ _ rfl KEY.out ?_; intro c hat hwc; rw [HH.out]; clear hat hwc) | (at_mapUpdate; refine wpList_mapUpdate_own _ rfl _ _ _ 122 rfl 3 3 spc_law Try.underlying122 _ w.heap.size i _ rfl O2.out (by unfold maxLen; omega) _ _ _ rfl rfl KEY.out _ [] (plainElem_int Try.underlying3 WF1.out) ?_; intro w4 hown4 hgrow4))
        · have B4 := Aside0.mk ((B2.out).grown hgrow4 (B2.out).size (fun k hk => by cases hk; exact Nat.le_refl _))
          have O4 := Aside0.mk hown4
          clear hown4 hgrow4
          go_wp2
          go_roundg (js.length - (i + 1))
          case measure => omega
          case rel => exact ⟨i + 1, by go_num, by omega, by omega, B4, ⟨by rw [Ds, ← HJ.out]; exact O4.out⟩, ⟨by rw [allB, OK.out, ONE.out]; rfl⟩⟩
      | some b =>
        have HH := Aside0.mk (show Go.Maps.has (Ds js i) (.int .i64 j.f0) = true by rw [Ds_has, hl]; rfl)
        have HA := Aside0.mk (Ds_at js j.f0 b (.lit (.int .i64 0)) i hl)
        by_cases hc : wrap64 (j.f1 - b) < z
        · have F := Aside0.mk (NO.out (by unfold spcOk; rw [← HJ.out, hl]; show (!(decide (wrap64 (j.f1 - b) < (trd l0 j.f0).f2))) = false; rw [HZ.out, decide_eq_true hc]; rfl))
          have hc1 : decide (wrap64 (j.f1 - b) < z) = true := decide_eq_true hc
          clear hl
          go_wp2_with (first | (go_at_fn tn; refine (HT.out _ j (below_alloc BW.out _)).mono ?_; rintro e w2 ⟨rfl, hb2⟩; have B2 := Aside0.mk (below_step (below_alloc BW.out _) hb2); have O2 := Aside0.mk (map_below (OM.out.alloc _) hb2); have j0 : w2.cell? ⟨wr.heap.size, 0, none⟩ = some (.int .i64 j.f0) := (hb2.cell (p := ⟨wr.heap.size, 0, none⟩) (by simp)).trans (by simp); clear hb2) | (at_lookup; refine wpList_lookup_own_ok_int _ rfl _ _ 122 rfl 3 3 .i64 spc_law Try.underlying122 Try.underlying3 (spc_zero _) w.heap.size i _ rfl O2.out _ _ rfl KEY.out ?_; intro c hat hwc; rw [HH.out]; (obtain rfl : c = b := by (have e := HA.out.symm.trans hat; injection e with e; injection e with _ e; exact e.symm)); clear hat hwc) | (go_at_fn mn; refine (HM.out _ B2.out).mono ?_; rintro e w3 ⟨rfl, ⟨q, rfl⟩⟩))
          go_ret
          exact ⟨by rw [F.out]; rfl, pw_below_drewN B2.out _⟩
        · have ONE := Aside0.mk (show spcOk l0 js i = true by unfold spcOk; rw [← HJ.out, hl]; show (!(decide (wrap64 (j.f1 - b) < (trd l0 j.f0).f2))) = true; rw [HZ.out, decide_eq_false hc]; rfl)
          have hc1 : decide (wrap64 (j.f1 - b) < z) = false := decide_eq_false hc
          clear hl
          go_wp2_with (first | (go_at_fn tn; refine (HT.out _ j (below_alloc BW.out _)).mono ?_; rintro e w2 ⟨rfl, hb2⟩; have B2 := Aside0.mk (below_step (below_alloc BW.out _) hb2); have O2 := Aside0.mk (map_below (OM.out.alloc _) hb2); have j0 : w2.cell? ⟨wr.heap.size, 0, none⟩ = some (.int .i64 j.f0) := (hb2.cell (p := ⟨wr.heap.size, 0, none⟩) (by simp)).trans (by simp); clear hb2) | (at_lookup; refine wpList_lookup_own_ok_int _ rfl _ _ 122 rfl 3 3 .i64 spc_law Try.underlying122 Try.underlying3 (spc_zero _) w.heap.size i _ rfl O2.out _ _ rfl KEY.out ?_; intro c hat hwc; rw [HH.out]; (obtain rfl : c = b := by (have e := HA.out.symm.trans hat; injection e with e; injection e with _ e; exact e.symm)); clear hat hwc) | (go_at_fn mn; refine (HM.out _ B2.out).mono ?_; rintro e w3 ⟨rfl, ⟨q, rfl⟩⟩) | (at_mapUpdate; refine wpList_mapUpdate_own _ rfl _ _ _ 122 rfl 3 3 spc_law Try.underlying122 _ w.heap.size i _ rfl (map_below O2.out (pw_below_drewN (Below.refl _ _) _)) (by unfold maxLen; omega) _ _ _ rfl rfl KEY.out _ [] (plainElem_int Try.underlying3 WF1.out) ?_; intro w4 hown4 hgrow4))
          have B4 := Aside0.mk ((pw_below_drewN B2.out _).grown hgrow4 (pw_below_drewN B2.out _).size (fun k hk => by cases hk; exact Nat.le_refl _))
          have O4 := Aside0.mk hown4
          clear hown4 hgrow4
          go_wp2
          go_roundg (js.length - (i + 1))
          case measure => omega
          case rel => exact ⟨i + 1, by go_num, by omega, by omega, B4, ⟨by rw [Ds, ← HJ.out]; exact O4.out⟩, ⟨by rw [allB, OK.out, ONE.out]; rfl⟩⟩
    · have hltz : ¬ (i : Int) < (js.length : Int) := by omega
      go_wp2
      go_ret
      exact ⟨by rw [show i = js.length by omega] at OK; unfold spcB; rw [OK.out]; rfl, BW.out⟩

end Go.Proofs.Ytkdfjomhichkoaa.P
-- Laid by a program of this work.
namespace Go.Proofs.Ytkdfjomhichkoaa.P
open Go.RowKit Go.Proofs.YtkdfjomhichkoaaW.PrintWords Go.Proofs.YtkdfjomhichkoaaW.PrintLast Go.Proofs.YtkdfjomhichkoaaW.PrintMore
attribute [local go_sem] max2_int min2_int max_two min_two max_three min_three max_four min_four   -- for this text's walks alone
set_option linter.unusedVariables false
set_option linter.unusedSimpArgs false

-- by hand
/-- The first place of which p holds, or -1. -/
def idxOf {α : Type} (p : α → Bool) (l : List α) : Int := match l.findIdx? p with
  | some i => (i : Int)
  | none => -1
theorem idxOf_hit {α : Type} (p : α → Bool) (l : List α) (k : Nat) (hk : k < l.length) (hp : p l[k] = true) (hn : ∀ j (h : j < k), p (l[j]'(by omega)) = false) : idxOf p l = (k : Int) := by
  have : l.findIdx? p = some k := by
    rw [List.findIdx?_eq_some_iff_getElem]
    exact ⟨hk, hp, fun j hj => by simp [hn j hj]⟩
  unfold idxOf
  rw [this]
theorem idxOf_miss {α : Type} (p : α → Bool) (l : List α) (hn : ∀ j (h : j < l.length), p l[j] = false) : idxOf p l = -1 := by
  have : l.findIdx? p = none := by
    rw [List.findIdx?_eq_none_iff]
    intro x hx
    obtain ⟨j, hj, rfl⟩ := List.getElem_of_mem hx
    exact hn j hj
  unfold idxOf
  rw [this]
theorem idxOf_any {α : Type} (p : α → Bool) (l : List α) : decide (0 ≤ idxOf p l) = l.any p := by
  unfold idxOf
  cases h : l.findIdx? p with
  | none =>
    rw [List.findIdx?_eq_none_iff] at h
    have : l.any p = false := by
      rw [List.any_eq_false]
      intro x hx
      simp [h x hx]
    rw [this]
    rfl
  | some i =>
    rw [List.findIdx?_eq_some_iff_getElem] at h
    obtain ⟨hi, hp, _⟩ := h
    have : l.any p = true := List.any_eq_true.2 ⟨_, List.getElem_mem hi, hp⟩
    rw [this]
    exact decide_eq_true (show (0 : Int) ≤ (i : Int) by omega)

end Go.Proofs.Ytkdfjomhichkoaa.P
-- Laid by a program of this work.
namespace Go.Proofs.Ytkdfjomhichkoaa.P
open Go.RowKit Go.Proofs.YtkdfjomhichkoaaW.PrintWords Go.Proofs.YtkdfjomhichkoaaW.PrintLast Go.Proofs.YtkdfjomhichkoaaW.PrintMore
attribute [local go_sem] max2_int min2_int max_two min_two max_three min_three max_four min_four   -- for this text's walks alone
set_option linter.unusedVariables false
set_option linter.unusedSimpArgs false

-- by hand
set_option maxHeartbeats 2000000 in
set_option maxRecDepth 100000 in
/-- slices.IndexFunc at []Job, whatever the predicate. -/
theorem idxJob_calls (p : S34 → Bool) (g : Nat) (lb : Array Value) (eg : ∀ args w, (callFunc g args).run Try.prog w = .ok (.enter g args) w) (A : Option Addr) (c : Nat) (l : List S34) (w : World)
    (hp : ∀ (W : World) (x : S34), x ∈ l → Below w.heap.size w W → Calls Try.prog g (#[.agg #[.int .i64 x.f0, .int .i64 x.f1, .int .i64 x.f2, .int .i64 x.f3]] ++ lb) W fun e w' => e = .returned (.bool (p x)) ∧ Below W.heap.size W w')
    (hr : Kd.C k34 w A l.length l) :
    Calls Try.prog 113 #[.slice A l.length c, .func (.func g) #[] lb] w fun e w' => e = .returned (.int .i64 (idxOf p l)) ∧ Below w.heap.size w w' := by
  have hbig := Aside0.mk (Kd.C_max hr)
  have HR := Aside0.mk hr
  have HP := Aside0.mk hp
  clear hr hp
  go_enter Try.func113, Try.ntmps113
  go_wp2
  go_loopg [5, 8] l.length (fun gg _ s8 wr => ∃ kk : Nat, kk ≤ l.length ∧ l.length - kk ≤ gg ∧ s8 = .int .i64 kk ∧ Aside0 (Below w.heap.size w wr) ∧ Aside0 (∀ j (h : j < kk) (h2 : j < l.length), p l[j] = false))
  case atStart => exact ⟨0, Nat.zero_le _, by omega, rfl, ⟨Below.refl _ w⟩, ⟨fun j hj => absurd hj (Nat.not_lt_zero _)⟩⟩
  case round =>
    obtain ⟨kk, hkk, hg, rfl, BW, N⟩ := hrel
    by_cases hlt : kk < l.length
    · have hltz : (kk : Int) < (l.length : Int) := by omega
      have hb1 := hbig.out
      obtain ⟨ad, ea, hx0, hx1, hx2, hx3⟩ := at_T34 HR.out (kk : Int) (by omega) hltz
      cases ea
      have hy0 := (BW.out.cell (World.block_lt_of_cell? w _ hx0)).trans hx0
      have hy1 := (BW.out.cell (World.block_lt_of_cell? w _ hx1)).trans hx1
      have hy2 := (BW.out.cell (World.block_lt_of_cell? w _ hx2)).trans hx2
      have hy3 := (BW.out.cell (World.block_lt_of_cell? w _ hx3)).trans hx3
      have er : rd_T34 l (kk : Int) = l[kk] := by rw [rd_T34, List.getD_eq_getElem?_getD, Int.toNat_natCast, List.getElem?_eq_getElem hlt]; rfl
      rw [er, Int.toNat_natCast] at hy0 hy1 hy2 hy3
      have hcall := HP.out wr l[kk] (List.getElem_mem hlt) BW.out
      generalize hy : l[kk] = y at hy0 hy1 hy2 hy3 hcall
      have Y := Aside0.mk hy
      clear hy hx0 hx1 hx2 hx3 er
      cases hq : p y with
      | true =>
        rw [hq] at hcall
        go_wp2_with (go_at_fn g; refine hcall.mono ?_; rintro e w' ⟨rfl, hb'⟩)
        go_ret
        refine ⟨?_, Below.trans BW.out (hb'.mono BW.out.size)⟩
        rw [idxOf_hit p l kk hlt (by rw [Y.out]; exact hq) (fun j hj => N.out j hj (by omega))]
        rfl
      | false =>
        rw [hq] at hcall
        go_wp2_with (go_at_fn g; refine hcall.mono ?_; rintro e w' ⟨rfl, hb'⟩)
        go_roundg (l.length - (kk + 1))
        case measure => omega
        case rel =>
          refine ⟨kk + 1, by omega, by omega, by go_num, ⟨Below.trans BW.out (hb'.mono BW.out.size)⟩, ⟨fun j hj hj2 => ?_⟩⟩
          by_cases e : j = kk
          · subst e
            rw [Y.out]; exact hq
          · exact N.out j (by omega) hj2
    · have hltz : ¬ (kk : Int) < (l.length : Int) := by omega
      go_wp2
      go_ret
      refine ⟨?_, BW.out⟩
      rw [idxOf_miss p l (fun j hj => N.out j (by omega) hj)]
      rfl
set_option maxHeartbeats 2000000 in
set_option maxRecDepth 100000 in
/-- slices.ContainsFunc at []Job, whatever the predicate. -/
theorem anyJob_calls (p : S34 → Bool) (g : Nat) (lb : Array Value) (eg : ∀ args w, (callFunc g args).run Try.prog w = .ok (.enter g args) w) (A : Option Addr) (c : Nat) (l : List S34) (w : World)
    (hp : ∀ (W : World) (x : S34), x ∈ l → Below w.heap.size w W → Calls Try.prog g (#[.agg #[.int .i64 x.f0, .int .i64 x.f1, .int .i64 x.f2, .int .i64 x.f3]] ++ lb) W fun e w' => e = .returned (.bool (p x)) ∧ Below W.heap.size W w')
    (hr : Kd.C k34 w A l.length l) :
    Calls Try.prog 96 #[.slice A l.length c, .func (.func g) #[] lb] w fun e w' => e = .returned (.bool (l.any p)) ∧ Below w.heap.size w w' := by
  have Y := Aside0.mk (idxOf_any p l)
  have h := Aside0.mk (fun W (hW : W = w) => idxJob_calls p g lb eg A c l W (by subst hW; exact hp) (by subst hW; exact hr))
  clear hp hr eg
  go_enter Try.func96, Try.ntmps96
  go_wp2_with (go_at_call 113; refine (h.out _ rfl).mono ?_; rintro e w' ⟨rfl, hb'⟩)
  go_ret
  exact ⟨by rw [← Y.out]; rfl, hb'⟩

end Go.Proofs.Ytkdfjomhichkoaa.P
-- Laid by a program of this work.
namespace Go.Proofs.Ytkdfjomhichkoaa.P
open Go.RowKit Go.Proofs.YtkdfjomhichkoaaW.PrintWords Go.Proofs.YtkdfjomhichkoaaW.PrintLast Go.Proofs.YtkdfjomhichkoaaW.PrintMore
attribute [local go_sem] max2_int min2_int max_two min_two max_three min_three max_four min_four   -- for this text's walks alone
set_option linter.unusedVariables false
set_option linter.unusedSimpArgs false

-- by hand
set_option maxHeartbeats 2000000 in
set_option maxRecDepth 100000 in
/-- slices.IndexFunc at []Task, whatever the predicate. -/
theorem idxTask_calls (p : S88 → Bool) (g : Nat) (lb : Array Value) (eg : ∀ args w, (callFunc g args).run Try.prog w = .ok (.enter g args) w) (A : Option Addr) (c : Nat) (l : List S88) (w : World)
    (hp : ∀ (W : World) (x : S88), Below w.heap.size w W → Calls Try.prog g (#[.agg #[.int .i64 x.f0, .int .i64 x.f1, .int .i64 x.f2]] ++ lb) W fun e w' => e = .returned (.bool (p x)) ∧ Below W.heap.size W w')
    (hr : Kd.C k88 w A l.length l) :
    Calls Try.prog 115 #[.slice A l.length c, .func (.func g) #[] lb] w fun e w' => e = .returned (.int .i64 (idxOf p l)) ∧ Below w.heap.size w w' := by
  have hbig := Aside0.mk (Kd.C_max hr)
  have HR := Aside0.mk hr
  have HP := Aside0.mk hp
  clear hr hp
  go_enter Try.func115, Try.ntmps115
  go_wp2
  go_loopg [5, 8] l.length (fun gg _ s8 wr => ∃ kk : Nat, kk ≤ l.length ∧ l.length - kk ≤ gg ∧ s8 = .int .i64 kk ∧ Aside0 (Below w.heap.size w wr) ∧ Aside0 (∀ j (h : j < kk) (h2 : j < l.length), p l[j] = false))
  case atStart => exact ⟨0, Nat.zero_le _, by omega, rfl, ⟨Below.refl _ w⟩, ⟨fun j hj => absurd hj (Nat.not_lt_zero _)⟩⟩
  case round =>
    obtain ⟨kk, hkk, hg, rfl, BW, N⟩ := hrel
    by_cases hlt : kk < l.length
    · have hltz : (kk : Int) < (l.length : Int) := by omega
      have hb1 := hbig.out
      obtain ⟨ad, ea, hx0, hx1, hx2⟩ := at_T88 HR.out (kk : Int) (by omega) hltz
      cases ea
      have hy0 := (BW.out.cell (World.block_lt_of_cell? w _ hx0)).trans hx0
      have hy1 := (BW.out.cell (World.block_lt_of_cell? w _ hx1)).trans hx1
      have hy2 := (BW.out.cell (World.block_lt_of_cell? w _ hx2)).trans hx2
      have er : rd_T88 l (kk : Int) = l[kk] := by rw [rd_T88, List.getD_eq_getElem?_getD, Int.toNat_natCast, List.getElem?_eq_getElem hlt]; rfl
      rw [er, Int.toNat_natCast] at hy0 hy1 hy2
      have hcall := HP.out wr l[kk] BW.out
      generalize hy : l[kk] = y at hy0 hy1 hy2 hcall
      have Y := Aside0.mk hy
      clear hy hx0 hx1 hx2 er
      cases hq : p y with
      | true =>
        rw [hq] at hcall
        go_wp2_with (go_at_fn g; refine hcall.mono ?_; rintro e w' ⟨rfl, hb'⟩)
        go_ret
        refine ⟨?_, Below.trans BW.out (hb'.mono BW.out.size)⟩
        rw [idxOf_hit p l kk hlt (by rw [Y.out]; exact hq) (fun j hj => N.out j hj (by omega))]
        rfl
      | false =>
        rw [hq] at hcall
        go_wp2_with (go_at_fn g; refine hcall.mono ?_; rintro e w' ⟨rfl, hb'⟩)
        go_roundg (l.length - (kk + 1))
        case measure => omega
        case rel =>
          refine ⟨kk + 1, by omega, by omega, by go_num, ⟨Below.trans BW.out (hb'.mono BW.out.size)⟩, ⟨fun j hj hj2 => ?_⟩⟩
          by_cases e : j = kk
          · subst e
            rw [Y.out]; exact hq
          · exact N.out j (by omega) hj2
    · have hltz : ¬ (kk : Int) < (l.length : Int) := by omega
      go_wp2
      go_ret
      refine ⟨?_, BW.out⟩
      rw [idxOf_miss p l (fun j hj => N.out j (by omega) hj)]
      rfl
set_option maxHeartbeats 2000000 in
set_option maxRecDepth 100000 in
/-- slices.ContainsFunc at []Task, whatever the predicate. -/
theorem anyTask_calls (p : S88 → Bool) (g : Nat) (lb : Array Value) (eg : ∀ args w, (callFunc g args).run Try.prog w = .ok (.enter g args) w) (A : Option Addr) (c : Nat) (l : List S88) (w : World)
    (hp : ∀ (W : World) (x : S88), Below w.heap.size w W → Calls Try.prog g (#[.agg #[.int .i64 x.f0, .int .i64 x.f1, .int .i64 x.f2]] ++ lb) W fun e w' => e = .returned (.bool (p x)) ∧ Below W.heap.size W w')
    (hr : Kd.C k88 w A l.length l) :
    Calls Try.prog 104 #[.slice A l.length c, .func (.func g) #[] lb] w fun e w' => e = .returned (.bool (l.any p)) ∧ Below w.heap.size w w' := by
  have Y := Aside0.mk (idxOf_any p l)
  have h := Aside0.mk (fun W (hW : W = w) => idxTask_calls p g lb eg A c l W (by subst hW; exact hp) (by subst hW; exact hr))
  clear hp hr eg
  go_enter Try.func104, Try.ntmps104
  go_wp2_with (go_at_call 115; refine (h.out _ rfl).mono ?_; rintro e w' ⟨rfl, hb'⟩)
  go_ret
  exact ⟨by rw [← Y.out]; rfl, hb'⟩

end Go.Proofs.Ytkdfjomhichkoaa.P
-- Laid by a program of this work.
namespace Go.Proofs.Ytkdfjomhichkoaa.P
open Go.RowKit Go.Proofs.YtkdfjomhichkoaaW.PrintWords Go.Proofs.YtkdfjomhichkoaaW.PrintLast Go.Proofs.YtkdfjomhichkoaaW.PrintMore
attribute [local go_sem] max2_int min2_int max_two min_two max_three min_three max_four min_four   -- for this text's walks alone
set_option linter.unusedVariables false
set_option linter.unusedSimpArgs false

/-! ### impl_TaskValid: function 59 -/
def impl_TaskValid.f (a0_0 : Int) (a0_1 : Int) (a0_2 : Int) : Option (Bool) := (impl_in.f a0_0 1 8).bind fun t289 => (if t289 = true then ((impl_in.f a0_1 a0_0 a0_2).bind fun t290 => (if t290 = true then (some (decide (a0_2 ≤ 12))) else (some false))) else (some false))
set_option maxHeartbeats 8000000 in
set_option maxRecDepth 100000 in
theorem impl_TaskValid.calls (a0_0 : Int) (a0_1 : Int) (a0_2 : Int) (r : Bool) (w : World) (h : impl_TaskValid.f a0_0 a0_1 a0_2 = some r) :
  Calls Try.prog 59 #[.agg #[.int .i64 a0_0, .int .i64 a0_1, .int .i64 a0_2]] w fun e w' => e = .returned (.bool r) ∧ Below w.heap.size w w' := by
 have hu88 := Try.underlying88
 have HB := Aside0.mk (Below.refl w.heap.size w)
 have H : ((impl_in.f a0_0 1 8).bind fun t289 => (if t289 = true then ((impl_in.f a0_1 a0_0 a0_2).bind fun t290 => (if t290 = true then (some (decide (a0_2 ≤ 12))) else (some false))) else (some false))) = some r := h
 clear h
 replace H := Option.bind_eq_some_iff.mp H
 obtain ⟨t289, A20, H⟩ := H
 replace H : (if t289 = true then ((impl_in.f a0_1 a0_0 a0_2).bind fun t290 => (if t290 = true then (some (decide (a0_2 ≤ 12))) else (some false))) else (some false)) = some r := H
 have A2 := Aside0.mk A20
 clear A20
 by_cases c3 : t289 = true
 ·subst c3
  have H1 : ((impl_in.f a0_1 a0_0 a0_2).bind fun t290 => (if t290 = true then (some (decide (a0_2 ≤ 12))) else (some false))) = some r := by rw [if_pos rfl] at H; exact H
  clear H
  have H := H1
  clear H1
  replace H := Option.bind_eq_some_iff.mp H
  obtain ⟨t290, A40, H⟩ := H
  replace H : (if t290 = true then (some (decide (a0_2 ≤ 12))) else (some false)) = some r := H
  have A4 := Aside0.mk A40
  clear A40
  by_cases c5 : t290 = true
  ·subst c5
   have H1 : (some (decide (a0_2 ≤ 12))) = some r := by rw [if_pos rfl] at H; exact H
   clear H
   have H := H1
   clear H1
   obtain rfl := Option.some.inj H
   go_enter Try.func59, Try.ntmps59
   go_wp2_with (first | ((with_reducible refine gate_dst (N := 1) rfl ?_); refine box_event ?hg (N := 1) ?hd (cs := #[.int .i64 a0_0, .int .i64 a0_1, .int .i64 a0_2]) (t := 88) ?hr ?_; (case hd => rfl); (case hg => rfl); (case hr => first | (go_simp; done) | (go_simp; rfl)); intro gb288 hg w6 hbox hb; have n0_ := Aside0.mk (below_step (by repeat (first | (with_reducible first | exact HB.out | apply below_alloc | apply pw_below_drewN | apply below_drew1) | exact HB.out)) hb); have n1_ := Aside0.mk (hbox); have n2_ := Aside0.mk ((by rw [hg]; exact (below_size (by repeat (first | (with_reducible first | exact HB.out | apply below_alloc | apply pw_below_drewN | apply below_drew1) | exact HB.out))) : w.heap.size ≤ gb288)); have n3_ := Aside0.mk ((by rw [hg]; exact (below_size (by repeat (first | (with_reducible first | exact HB.out | apply below_alloc | apply pw_below_drewN | apply below_drew1) | exact HB.out))) : w.heap.size ≤ gb288)); clear HB; have HB := n0_; have BK288 := n1_; have GW288 := n2_; have GE288 := n3_; clear n0_ n1_ n2_ n3_; clear hb hbox hg; have hcz7_0 : w6.cell? ⟨gb288, 0, none⟩ = some (.int .i64 a0_0) := (blk_cell BK288.out 0).trans rfl; have hcz7_1 : w6.cell? ⟨gb288, 1, none⟩ = some (.int .i64 a0_1) := (blk_cell BK288.out 1).trans rfl; have hcz7_2 : w6.cell? ⟨gb288, 2, none⟩ = some (.int .i64 a0_2) := (blk_cell BK288.out 2).trans rfl; have hfz7_0 := blk_frozen BK288.out 0; have hfz7_1 := blk_frozen BK288.out 1; have hfz7_2 := blk_frozen BK288.out 2) | ((with_reducible refine gate_callee (f := 103) rfl ?_); refine goesL_ (some 5) rfl rfl Try.func103 (by kernel_rfl) rfl #[.int .i64 a0_0, .int .i64 1, .int .i64 8] rfl (by (try simp only [List.map_toArray, List.map_cons, List.map_nil]); first | done | rfl | (simp only [List.length_drop, List.length_take]; rfl)) ?_; (with_reducible refine (impl_in.calls a0_0 1 8 true _ A2.out).mono ?_); rintro e w' ⟨rfl, ⟨nd, rfl⟩⟩; refine ⟨_, rfl, ?_⟩) | (go_at_call 103; (with_reducible refine (impl_in.calls a0_1 a0_0 a0_2 true _ A4.out).mono ?_); rintro e w' ⟨rfl, ⟨nd, rfl⟩⟩))
   go_ret
   exact ⟨by first | rfl | (simp [errW_none, errW_some] <;> rfl) | (simp [*, errW_none, errW_some] <;> rfl), by repeat (first | (with_reducible first | exact HB.out | apply below_alloc | apply pw_below_drewN | apply below_drew1 | refine below_set ?_ GE288.out) | exact HB.out)⟩
  ·replace c5 := Bool.eq_false_iff.mpr c5
   subst c5
   have H1 : (some false) = some r := by rw [if_neg (show ¬ (false = true) by decide)] at H; exact H
   clear H
   have H := H1
   clear H1
   obtain rfl := Option.some.inj H
   go_enter Try.func59, Try.ntmps59
   go_wp2_with (first | ((with_reducible refine gate_dst (N := 1) rfl ?_); refine box_event ?hg (N := 1) ?hd (cs := #[.int .i64 a0_0, .int .i64 a0_1, .int .i64 a0_2]) (t := 88) ?hr ?_; (case hd => rfl); (case hg => rfl); (case hr => first | (go_simp; done) | (go_simp; rfl)); intro gb288 hg w8 hbox hb; have n0_ := Aside0.mk (below_step (by repeat (first | (with_reducible first | exact HB.out | apply below_alloc | apply pw_below_drewN | apply below_drew1) | exact HB.out)) hb); have n1_ := Aside0.mk (hbox); have n2_ := Aside0.mk ((by rw [hg]; exact (below_size (by repeat (first | (with_reducible first | exact HB.out | apply below_alloc | apply pw_below_drewN | apply below_drew1) | exact HB.out))) : w.heap.size ≤ gb288)); have n3_ := Aside0.mk ((by rw [hg]; exact (below_size (by repeat (first | (with_reducible first | exact HB.out | apply below_alloc | apply pw_below_drewN | apply below_drew1) | exact HB.out))) : w.heap.size ≤ gb288)); clear HB; have HB := n0_; have BK288 := n1_; have GW288 := n2_; have GE288 := n3_; clear n0_ n1_ n2_ n3_; clear hb hbox hg; have hcz9_0 : w8.cell? ⟨gb288, 0, none⟩ = some (.int .i64 a0_0) := (blk_cell BK288.out 0).trans rfl; have hcz9_1 : w8.cell? ⟨gb288, 1, none⟩ = some (.int .i64 a0_1) := (blk_cell BK288.out 1).trans rfl; have hcz9_2 : w8.cell? ⟨gb288, 2, none⟩ = some (.int .i64 a0_2) := (blk_cell BK288.out 2).trans rfl; have hfz9_0 := blk_frozen BK288.out 0; have hfz9_1 := blk_frozen BK288.out 1; have hfz9_2 := blk_frozen BK288.out 2) | ((with_reducible refine gate_callee (f := 103) rfl ?_); refine goesL_ (some 5) rfl rfl Try.func103 (by kernel_rfl) rfl #[.int .i64 a0_0, .int .i64 1, .int .i64 8] rfl (by (try simp only [List.map_toArray, List.map_cons, List.map_nil]); first | done | rfl | (simp only [List.length_drop, List.length_take]; rfl)) ?_; (with_reducible refine (impl_in.calls a0_0 1 8 true _ A2.out).mono ?_); rintro e w' ⟨rfl, ⟨nd, rfl⟩⟩; refine ⟨_, rfl, ?_⟩) | (go_at_call 103; (with_reducible refine (impl_in.calls a0_1 a0_0 a0_2 false _ A4.out).mono ?_); rintro e w' ⟨rfl, ⟨nd, rfl⟩⟩))
   go_ret
   exact ⟨by first | rfl | (simp [errW_none, errW_some] <;> rfl) | (simp [*, errW_none, errW_some] <;> rfl), by repeat (first | (with_reducible first | exact HB.out | apply below_alloc | apply pw_below_drewN | apply below_drew1 | refine below_set ?_ GE288.out) | exact HB.out)⟩
 ·replace c3 := Bool.eq_false_iff.mpr c3
  subst c3
  have H1 : (some false) = some r := by rw [if_neg (show ¬ (false = true) by decide)] at H; exact H
  clear H
  have H := H1
  clear H1
  obtain rfl := Option.some.inj H
  go_enter Try.func59, Try.ntmps59
  go_wp2_with (first | ((with_reducible refine gate_dst (N := 1) rfl ?_); refine box_event ?hg (N := 1) ?hd (cs := #[.int .i64 a0_0, .int .i64 a0_1, .int .i64 a0_2]) (t := 88) ?hr ?_; (case hd => rfl); (case hg => rfl); (case hr => first | (go_simp; done) | (go_simp; rfl)); intro gb288 hg w10 hbox hb; have n0_ := Aside0.mk (below_step (by repeat (first | (with_reducible first | exact HB.out | apply below_alloc | apply pw_below_drewN | apply below_drew1) | exact HB.out)) hb); have n1_ := Aside0.mk (hbox); have n2_ := Aside0.mk ((by rw [hg]; exact (below_size (by repeat (first | (with_reducible first | exact HB.out | apply below_alloc | apply pw_below_drewN | apply below_drew1) | exact HB.out))) : w.heap.size ≤ gb288)); have n3_ := Aside0.mk ((by rw [hg]; exact (below_size (by repeat (first | (with_reducible first | exact HB.out | apply below_alloc | apply pw_below_drewN | apply below_drew1) | exact HB.out))) : w.heap.size ≤ gb288)); clear HB; have HB := n0_; have BK288 := n1_; have GW288 := n2_; have GE288 := n3_; clear n0_ n1_ n2_ n3_; clear hb hbox hg; have hcz11_0 : w10.cell? ⟨gb288, 0, none⟩ = some (.int .i64 a0_0) := (blk_cell BK288.out 0).trans rfl; have hcz11_1 : w10.cell? ⟨gb288, 1, none⟩ = some (.int .i64 a0_1) := (blk_cell BK288.out 1).trans rfl; have hcz11_2 : w10.cell? ⟨gb288, 2, none⟩ = some (.int .i64 a0_2) := (blk_cell BK288.out 2).trans rfl; have hfz11_0 := blk_frozen BK288.out 0; have hfz11_1 := blk_frozen BK288.out 1; have hfz11_2 := blk_frozen BK288.out 2) | ((with_reducible refine gate_callee (f := 103) rfl ?_); refine goesL_ (some 5) rfl rfl Try.func103 (by kernel_rfl) rfl #[.int .i64 a0_0, .int .i64 1, .int .i64 8] rfl (by (try simp only [List.map_toArray, List.map_cons, List.map_nil]); first | done | rfl | (simp only [List.length_drop, List.length_take]; rfl)) ?_; (with_reducible refine (impl_in.calls a0_0 1 8 false _ A2.out).mono ?_); rintro e w' ⟨rfl, ⟨nd, rfl⟩⟩; refine ⟨_, rfl, ?_⟩))
  go_ret
  exact ⟨by first | rfl | (simp [errW_none, errW_some] <;> rfl) | (simp [*, errW_none, errW_some] <;> rfl), by repeat (first | (with_reducible first | exact HB.out | apply below_alloc | apply pw_below_drewN | apply below_drew1 | refine below_set ?_ GE288.out) | exact HB.out)⟩

end Go.Proofs.Ytkdfjomhichkoaa.P
-- Laid by a program of this work.
namespace Go.Proofs.Ytkdfjomhichkoaa.P
open Go.RowKit Go.Proofs.YtkdfjomhichkoaaW.PrintWords Go.Proofs.YtkdfjomhichkoaaW.PrintLast Go.Proofs.YtkdfjomhichkoaaW.PrintMore
attribute [local go_sem] max2_int min2_int max_two min_two max_three min_three max_four min_four   -- for this text's walks alone
set_option linter.unusedVariables false
set_option linter.unusedSimpArgs false

/-! ### impl_SetValid_1: function 109 -/
def impl_SetValid_1.f (a0_0 : Int) (a0_1 : Int) (a0_2 : Int) : Option (Bool) := (impl_TaskValid.f a0_0 a0_1 a0_2).bind fun t292 => (some (!t292))
set_option maxHeartbeats 8000000 in
set_option maxRecDepth 100000 in
theorem impl_SetValid_1.calls (a0_0 : Int) (a0_1 : Int) (a0_2 : Int) (r : Bool) (w : World) (h : impl_SetValid_1.f a0_0 a0_1 a0_2 = some r) :
  Calls Try.prog 109 #[.agg #[.int .i64 a0_0, .int .i64 a0_1, .int .i64 a0_2]] w fun e w' => e = .returned (.bool r) ∧ Below w.heap.size w w' := by
 have hu88 := Try.underlying88
 have HB := Aside0.mk (Below.refl w.heap.size w)
 have H : ((impl_TaskValid.f a0_0 a0_1 a0_2).bind fun t292 => (some (!t292))) = some r := h
 clear h
 replace H := Option.bind_eq_some_iff.mp H
 obtain ⟨t292, A20, H⟩ := H
 replace H : (some (!t292)) = some r := H
 have A2 := Aside0.mk A20
 clear A20
 obtain rfl := Option.some.inj H
 go_enter Try.func109, Try.ntmps109
 go_wp2_with (first | ((with_reducible refine gate_dst (N := 1) rfl ?_); refine box_event ?hg (N := 1) ?hd (cs := #[.int .i64 a0_0, .int .i64 a0_1, .int .i64 a0_2]) (t := 88) ?hr ?_; (case hd => rfl); (case hg => rfl); (case hr => first | (go_simp; done) | (go_simp; rfl)); intro gb291 hg w3 hbox hb; have n0_ := Aside0.mk (below_step (by repeat (first | (with_reducible first | exact HB.out | apply below_alloc | apply pw_below_drewN | apply below_drew1) | exact HB.out)) hb); have n1_ := Aside0.mk (hbox); have n2_ := Aside0.mk ((by rw [hg]; exact (below_size (by repeat (first | (with_reducible first | exact HB.out | apply below_alloc | apply pw_below_drewN | apply below_drew1) | exact HB.out))) : w.heap.size ≤ gb291)); have n3_ := Aside0.mk ((by rw [hg]; exact (below_size (by repeat (first | (with_reducible first | exact HB.out | apply below_alloc | apply pw_below_drewN | apply below_drew1) | exact HB.out))) : w.heap.size ≤ gb291)); clear HB; have HB := n0_; have BK291 := n1_; have GW291 := n2_; have GE291 := n3_; clear n0_ n1_ n2_ n3_; clear hb hbox hg; have hcz4_0 : w3.cell? ⟨gb291, 0, none⟩ = some (.int .i64 a0_0) := (blk_cell BK291.out 0).trans rfl; have hcz4_1 : w3.cell? ⟨gb291, 1, none⟩ = some (.int .i64 a0_1) := (blk_cell BK291.out 1).trans rfl; have hcz4_2 : w3.cell? ⟨gb291, 2, none⟩ = some (.int .i64 a0_2) := (blk_cell BK291.out 2).trans rfl; have hfz4_0 := blk_frozen BK291.out 0; have hfz4_1 := blk_frozen BK291.out 1; have hfz4_2 := blk_frozen BK291.out 2) | ((with_reducible refine gate_callee (f := 59) rfl ?_); refine goesL_ (some 4) rfl rfl Try.func59 (by kernel_rfl) rfl #[.agg #[.int .i64 a0_0, .int .i64 a0_1, .int .i64 a0_2]] rfl (by (try simp only [List.map_toArray, List.map_cons, List.map_nil]); first | done | rfl | (simp only [List.length_drop, List.length_take]; rfl)) ?_; (with_reducible refine (impl_TaskValid.calls a0_0 a0_1 a0_2 t292 _ A2.out).mono ?_); rintro e w5 ⟨rfl, hb⟩; refine ⟨_, rfl, ?_⟩; have n0_ := Aside0.mk (blk_below (g := gb291) (o := .cells #[.int .i64 a0_0, .int .i64 a0_1, .int .i64 a0_2] 88 (0, 0)) (by (with_reducible repeat (first | refine blk_drewN ?_ _ | refine blk_drew ?_ | refine blk_alloc ?_ _)); exact BK291.out) hb); have n1_ := Aside0.mk (below_step (by repeat (first | (with_reducible first | exact HB.out | apply below_alloc | apply pw_below_drewN | apply below_drew1 | refine below_set ?_ GE291.out) | exact HB.out)) hb); clear BK291; clear HB; have BK291 := n0_; have HB := n1_; clear n0_ n1_; (try clear hb); (try clear hb2); (try clear hk); (try clear hi)))
 go_ret
 exact ⟨by first | rfl | (simp [errW_none, errW_some] <;> rfl) | (simp [*, errW_none, errW_some] <;> rfl), by repeat (first | (with_reducible first | exact HB.out | apply below_alloc | apply pw_below_drewN | apply below_drew1 | refine below_set ?_ GE291.out) | exact HB.out)⟩

end Go.Proofs.Ytkdfjomhichkoaa.P
-- Laid by a program of this work.
namespace Go.Proofs.Ytkdfjomhichkoaa.P
open Go.RowKit Go.Proofs.YtkdfjomhichkoaaW.PrintWords Go.Proofs.YtkdfjomhichkoaaW.PrintLast Go.Proofs.YtkdfjomhichkoaaW.PrintMore
attribute [local go_sem] max2_int min2_int max_two min_two max_three min_three max_four min_four   -- for this text's walks alone
set_option linter.unusedVariables false
set_option linter.unusedSimpArgs false

-- slices.ContainsFunc[[]loop.example/deadlinescheduler/impl.Task,loop.example/deadlinescheduler/impl.Task] at loop.example/deadlinescheduler/impl.SetValid$1
def taskOk (x : S88) : Bool := decide (1 ≤ x.f0 ∧ x.f0 ≤ 8 ∧ x.f0 ≤ x.f1 ∧ x.f1 ≤ x.f2 ∧ x.f2 ≤ 12)
def any_tasks.bad (x : S88) : Bool := !(taskOk x)
theorem any_tasks.is (x : S88) : impl_SetValid_1.f x.f0 x.f1 x.f2 = some (any_tasks.bad x) := by
  unfold impl_SetValid_1.f impl_TaskValid.f impl_in.f any_tasks.bad taskOk
  by_cases h1 : x.f0 ≥ 1 <;> by_cases h2 : x.f0 ≤ 8 <;> by_cases h3 : x.f1 ≥ x.f0 <;> by_cases h4 : x.f1 ≤ x.f2 <;> by_cases h5 : x.f2 ≤ 12 <;> simp [h1, h2, h3, h4, h5]
  all_goals first | omega | (intros; omega) | skip
def any_tasks.f (l0 : List S88) : Option Bool := some (l0.any any_tasks.bad)
theorem any_tasks.calls (A0 : Option Addr) (c0 : Nat) (l0 : List S88) (r : Bool) (w : World) (hr0 : Kd.C k88 w A0 l0.length l0) (hc0 : l0.length ≤ c0) (h : any_tasks.f l0 = some r) :
    Calls Try.prog 104 #[.slice A0 l0.length c0, .func (.func 109) #[] #[]] w fun e w' => e = .returned (.bool r) ∧ Below w.heap.size w w' := by
  obtain rfl := Option.some.inj h
  exact anyTask_calls any_tasks.bad 109 #[] (enters_of Try.func109 (by kernel_rfl) rfl) A0 c0 l0 w (fun W' x _ => (impl_SetValid_1.calls x.f0 x.f1 x.f2 _ W' (any_tasks.is x)).mono fun e w' hh => ⟨hh.1, hh.2⟩) hr0

end Go.Proofs.Ytkdfjomhichkoaa.P
-- Laid by a program of this work.
namespace Go.Proofs.Ytkdfjomhichkoaa.P
open Go.RowKit Go.Proofs.YtkdfjomhichkoaaW.PrintWords Go.Proofs.YtkdfjomhichkoaaW.PrintLast Go.Proofs.YtkdfjomhichkoaaW.PrintMore
attribute [local go_sem] max2_int min2_int max_two min_two max_three min_three max_four min_four   -- for this text's walks alone
set_option linter.unusedVariables false
set_option linter.unusedSimpArgs false

/-! ### impl_SetValid: function 76 -/
def impl_SetValid.f (l0 : List (S88)) : Option (Bool) := if (l0.length : Int) ≤ 5 then ((any_tasks.f l0).bind fun t293 => (some (!t293))) else (some false)
set_option maxHeartbeats 8000000 in
set_option maxRecDepth 100000 in
theorem impl_SetValid.calls (A0 : Option Addr) (c0 : Nat) (l0 : List (S88)) (r : Bool) (w : World) (hr0 : Kd.C k88 w A0 l0.length l0) (hc0 : l0.length ≤ c0) (h : impl_SetValid.f l0 = some r) :
  Calls Try.prog 76 #[.slice A0 l0.length c0] w fun e w' => e = .returned (.bool r) ∧ Below w.heap.size w w' := by
 have HR0 := Aside0.mk hr0
 have HC0 := Aside0.mk hc0
 clear hr0 hc0
 have HB := Aside0.mk (Below.refl w.heap.size w)
 have H : (if (l0.length : Int) ≤ 5 then ((any_tasks.f l0).bind fun t293 => (some (!t293))) else (some false)) = some r := h
 clear h
 by_cases c2 : (l0.length : Int) ≤ 5
 ·rw [if_pos c2] at H
  have c2b0 : decide ((l0.length : Int) ≤ 5) = true := decide_eq_true c2
  have c2b1 : decide (l0.length ≤ 5) = true := decide_eq_true (by omega)
  clear c2
  replace H := Option.bind_eq_some_iff.mp H
  obtain ⟨t293, A30, H⟩ := H
  replace H : (some (!t293)) = some r := H
  have A3 := Aside0.mk A30
  clear A30
  obtain rfl := Option.some.inj H
  go_enter Try.func76, Try.ntmps76
  go_wp2_with (first | (go_at_call 104; (with_reducible refine (any_tasks.calls _ _ l0  t293 _ ?side1 ?side2 A3.out).mono ?_); (case side1 => repeat (first | exact HR0.out | (with_reducible refine Kd.C_alloc ?_ _) | (with_reducible refine Kd.C_drewN ?_ _) | (with_reducible refine Kd.C_drew ?_))); (case side2 => exact HC0.out); rintro e w4 ⟨rfl, hb⟩; have n0_ := Aside0.mk (below_step (by repeat (first | (with_reducible first | exact HB.out | apply below_alloc | apply pw_below_drewN | apply below_drew1) | exact HB.out)) hb); clear HB; have HB := n0_; clear n0_; (try clear hb); (try clear hb2); (try clear hk); (try clear hi)))
  go_ret
  exact ⟨by first | rfl | (simp [errW_none, errW_some] <;> rfl) | (simp [*, errW_none, errW_some] <;> rfl), by repeat (first | (with_reducible first | exact HB.out | apply below_alloc | apply pw_below_drewN | apply below_drew1) | exact HB.out)⟩
 ·rw [if_neg c2] at H
  have c2b0 : decide ((l0.length : Int) ≤ 5) = false := decide_eq_false c2
  have c2b1 : decide (l0.length ≤ 5) = false := decide_eq_false (by omega)
  clear c2
  obtain rfl := Option.some.inj H
  go_enter Try.func76, Try.ntmps76
  go_wp2
  go_ret
  exact ⟨by first | rfl | (simp [errW_none, errW_some] <;> rfl) | (simp [*, errW_none, errW_some] <;> rfl), by repeat (first | (with_reducible first | exact HB.out | apply below_alloc | apply pw_below_drewN | apply below_drew1) | exact HB.out)⟩

end Go.Proofs.Ytkdfjomhichkoaa.P
-- Laid by a program of this work.
namespace Go.Proofs.Ytkdfjomhichkoaa.P
open Go.RowKit Go.Proofs.YtkdfjomhichkoaaW.PrintWords Go.Proofs.YtkdfjomhichkoaaW.PrintLast Go.Proofs.YtkdfjomhichkoaaW.PrintMore
attribute [local go_sem] max2_int min2_int max_two min_two max_three min_three max_four min_four   -- for this text's walks alone
set_option linter.unusedVariables false
set_option linter.unusedSimpArgs false

/-! ### impl_release: function 94 -/
def impl_release.f (a0_0 : Int) (a0_1 : Int) (a0_2 : Int) (a0_3 : Int) : Option (Int) := some a0_1
set_option maxHeartbeats 8000000 in
set_option maxRecDepth 100000 in
theorem impl_release.calls (a0_0 : Int) (a0_1 : Int) (a0_2 : Int) (a0_3 : Int) (r : Int) (w : World) (h : impl_release.f a0_0 a0_1 a0_2 a0_3 = some r) :
  Calls Try.prog 94 #[.agg #[.int .i64 a0_0, .int .i64 a0_1, .int .i64 a0_2, .int .i64 a0_3]] w fun e w' => e = .returned (.int .i64 r) ∧ Below w.heap.size w w' := by
 have hu34 := Try.underlying34
 have HB := Aside0.mk (Below.refl w.heap.size w)
 have H : (some a0_1) = some r := h
 clear h
 obtain rfl := Option.some.inj H
 go_enter Try.func94, Try.ntmps94
 go_wp2_with (first | ((with_reducible refine gate_dst (N := 1) rfl ?_); refine box_event ?hg (N := 1) ?hd (cs := #[.int .i64 a0_0, .int .i64 a0_1, .int .i64 a0_2, .int .i64 a0_3]) (t := 34) ?hr ?_; (case hd => rfl); (case hg => rfl); (case hr => first | (go_simp; done) | (go_simp; rfl)); intro gb294 hg w2 hbox hb; have n0_ := Aside0.mk (below_step (by repeat (first | (with_reducible first | exact HB.out | apply below_alloc | apply pw_below_drewN | apply below_drew1) | exact HB.out)) hb); have n1_ := Aside0.mk (hbox); have n2_ := Aside0.mk ((by rw [hg]; exact (below_size (by repeat (first | (with_reducible first | exact HB.out | apply below_alloc | apply pw_below_drewN | apply below_drew1) | exact HB.out))) : w.heap.size ≤ gb294)); have n3_ := Aside0.mk ((by rw [hg]; exact (below_size (by repeat (first | (with_reducible first | exact HB.out | apply below_alloc | apply pw_below_drewN | apply below_drew1) | exact HB.out))) : w.heap.size ≤ gb294)); clear HB; have HB := n0_; have BK294 := n1_; have GW294 := n2_; have GE294 := n3_; clear n0_ n1_ n2_ n3_; clear hb hbox hg; have hcz3_0 : w2.cell? ⟨gb294, 0, none⟩ = some (.int .i64 a0_0) := (blk_cell BK294.out 0).trans rfl; have hcz3_1 : w2.cell? ⟨gb294, 1, none⟩ = some (.int .i64 a0_1) := (blk_cell BK294.out 1).trans rfl; have hcz3_2 : w2.cell? ⟨gb294, 2, none⟩ = some (.int .i64 a0_2) := (blk_cell BK294.out 2).trans rfl; have hcz3_3 : w2.cell? ⟨gb294, 3, none⟩ = some (.int .i64 a0_3) := (blk_cell BK294.out 3).trans rfl; have hfz3_0 := blk_frozen BK294.out 0; have hfz3_1 := blk_frozen BK294.out 1; have hfz3_2 := blk_frozen BK294.out 2; have hfz3_3 := blk_frozen BK294.out 3))
 go_ret
 exact ⟨by first | rfl | (simp [errW_none, errW_some] <;> rfl) | (simp [*, errW_none, errW_some] <;> rfl), by repeat (first | (with_reducible first | exact HB.out | apply below_alloc | apply pw_below_drewN | apply below_drew1 | refine below_set ?_ GE294.out) | exact HB.out)⟩

end Go.Proofs.Ytkdfjomhichkoaa.P
