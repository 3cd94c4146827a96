/- The law FnRunSupply for every input, part 1 of its proof: what the program's functions answer, and the plain law. No condition. -/
import Derived.Below
import Derived.Deep.Draws
import Derived.Deep.AppendLies
import Derived.Maps.AppendAt
import Derived.OwnWalk
import Derived.Laws.BytesArg
import Derived.Laws.MakeOwn
import Derived.Laws.OwnMore
import Derived.Deep.OwnRows
import Derived.Tactics
import Derived.Lib.ConvBytes
import Derived.Laws.Slices
import Derived.WalkKit
import Derived.KernelRfl
import Derived.RowKit3
import Derived.Deep.LoopGhost
import Derived.Deep.QuietTactic
import Derived.BigQuiet
import Derived.WideLaws
import Derived.Deep.DeepCutAuto
import Derived.Deep.CutBlock
import Derived.Deep.RegionHeld3
import Derived.Laws.Rows
import Derived.Lib.AppendStr
import Derived.ArgAppend
import Derived.Laws.IdiomCopy
import Derived.RowKit
import Derived.OrdersHeld
import Derived.Laws.BitsLemmas
import Derived.Laws.StructEq
import Derived.Test.YtkdfjomhichkoaaProg
import Derived.Shelf.Abstract
import Derived.Deep.RegionLaw
import Derived.Maps.OwnSet
import Derived.Maps.OwnOps
import Derived.Carry
set_option linter.unusedVariables false
set_option linter.unusedSimpArgs false
namespace Go.Proofs.YtkdfjomhichkoaaW.PrintWords
open Go.RowKit
structure za (p : Prop) : Prop where mk :: (out : p)
structure zcj (w w' : World) : Prop where mk :: (out : ∃ n, w' = w.drewN n)
theorem zcj.refl (w : World) : zcj w w := ⟨⟨0, rfl⟩⟩
theorem zcj.step {w w' : World} (h : zcj w w') (n : Nat) : zcj w (w'.drewN n) := by
  obtain ⟨m, rfl⟩ := h
  exact ⟨⟨m + n, World.drewN_drewN ..⟩⟩
theorem zcj.grown {w w' : World} (h : zcj w w') : Grown w w' := by
  obtain ⟨n, rfl⟩ := h
  induction n with
  | zero => exact Grown.refl _
  | succ n ih => rw [← World.drew_drewN]; exact Grown.drew ih
theorem zcj.below {w w' : World} (h : zcj w w') : Below w.heap.size w w' := by
  obtain ⟨n, rfl⟩ := h
  induction n with
  | zero => exact Below.refl _ _
  | succ n ih => rw [← World.drew_drewN]; exact ih.drew
def rd (xs : List Int) (i : Int) : Int := xs.getD i.toNat 0
theorem zbn {w W : World} (h : Below w.heap.size w W) (o : Obj) : Below w.heap.size w (W.alloc o) := h.alloc h.size o
theorem below_drew {B : Nat} {w W : World} (h : Below B w W) : Below B w W.drew := ⟨h.os, h.tape, h.output, h.size, h.block⟩
theorem zbm {B : Nat} {w W : World} (h : Below B w W) (n : Nat) : Below B w (W.drewN n) := ⟨h.os, h.tape, h.output, h.size, h.block⟩
theorem zb7 {B : Nat} {w w1 w2 : World} (h : Below B w w1) (hB : B ≤ w1.heap.size) (k : Below w1.heap.size w1 w2) : Below B w w2 :=
  h.trans ⟨k.os, k.tape, k.output, k.size, fun i hi => k.block i (Nat.lt_of_lt_of_le hi hB)⟩
theorem grown_of_below {w w1 : World} (h : Below w.heap.size w w1) (row : Option Nat) : w.grownBy w1 row := ⟨h.os, h.tape, h.output, h.size, fun i hi _ => h.block i hi⟩
theorem zdu {w w1 : World} (h : Below w.heap.size w w1) {a : Addr} {v : Value} (hc : w.cell? a = some v) : w1.cell? a = some v := (h.cell (World.block_lt_of_cell? w a hc)).trans hc
theorem add_plain (g j : Nat) : (⟨g, 0, none⟩ : Addr).add j = ⟨g, j, none⟩ := by unfold Addr.add; split <;> simp_all
def zdf (w : World) (k : IntKind) (A : Option Addr) (n : Nat) (xs : List Int) : Prop :=
  xs.length = n ∧ n ≤ 9223372036854775807 ∧ (0 < n → ∃ ad, A = some ad ∧ ∀ j, j < n → w.cell? (ad.add j) = some (.int k (xs.getD j 0)))
theorem zdf.at_ {w : World} {k : IntKind} {A : Option Addr} {n : Nat} {xs : List Int} (h : zdf w k A n xs) (i : Int) (h0 : 0 ≤ i) (h1 : i < n) : ∃ ad, A = some ad ∧ w.cell? (ad.add i.toNat) = some (.int k (rd xs i)) := by
  obtain ⟨ad, e, hc⟩ := h.2.2 (by omega)
  exact ⟨ad, e, hc _ (by omega)⟩
theorem zdf.below {w w1 : World} {k : IntKind} {A : Option Addr} {n : Nat} {xs : List Int} (h : zdf w k A n xs) (hb : Below w.heap.size w w1) : zdf w1 k A n xs :=
  ⟨h.1, h.2.1, fun hn => by
    obtain ⟨ad, e, hc⟩ := h.2.2 hn
    exact ⟨ad, e, fun j hj => zdu hb (hc j hj)⟩⟩
theorem own_nil (W : World) (base : Nat) (e : TypeId) (size : Nat) : W.ownsRow base e size (.slice none 0 0) 0 [] := ⟨by simp, .inl ⟨rfl, rfl⟩⟩
theorem own_base {w : World} {base : Nat} {e : TypeId} {size n : Nat} {v : Value} {xs : List Value} (h : w.ownsRow base e size v n xs) (k : Nat) (hk : v.ownBlock = some k) : base ≤ k := by
  rcases h.2 with ⟨rfl, _⟩ | ⟨g, cap, cur, rfl, hb, _⟩
  · simp [Value.ownBlock] at hk
  · have : g = k := by simpa [Value.ownBlock] using hk
    omega
theorem own_lt {w : World} {base : Nat} {e : TypeId} {size n : Nat} {v : Value} {xs : List Value} (h : w.ownsRow base e size v n xs) (k : Nat) (hk : v.ownBlock = some k) : k < w.heap.size := by
  rcases h.2 with ⟨rfl, _⟩ | ⟨g, cap, cur, rfl, hb, hh, _⟩
  · simp [Value.ownBlock] at hk
  · have : g = k := by simpa [Value.ownBlock] using hk
    subst this
    exact (Array.getElem?_eq_some_iff.1 hh).1
theorem pw_own_below {w w1 : World} {base : Nat} {e : TypeId} {size n : Nat} {v : Value} {xs : List Value} (h : w.ownsRow base e size v n xs) (hb : Below w.heap.size w w1) : w1.ownsRow base e size v n xs :=
  h.kept (grown_of_below hb none) (by cases v.ownBlock <;> simp)
theorem own_other {w w1 : World} {base : Nat} {e : TypeId} {size n : Nat} {v : Value} {xs : List Value} (h : w.ownsRow base e size v n xs) {row : Option Nat} (hg : w.grownBy w1 row) (hne : v.ownBlock = none ∨ v.ownBlock ≠ row) : w1.ownsRow base e size v n xs := h.kept hg hne
theorem own_slice {w : World} {base n : Nat} {e : TypeId} {size : Nat} {v : Value} {xs : List Value} (h : w.ownsRow base e size v n xs) : ∃ A c, v = .slice A n c := by
  rcases h.2 with ⟨rfl, rfl⟩ | ⟨g, cap, cur, rfl, _⟩
  · exact ⟨none, 0, rfl⟩
  · exact ⟨_, cap, rfl⟩
section
variable {P : Program} {ops : Array Oper} {rest : List Oper} {o : Oper} {a : Act} {Q : Exit → Act → World → Prop}
end
section
variable {P : Program}
end
section
variable {P : Program} {ops : Array Oper} {rest : List Oper} {o : Oper} {a : Act} {Q : Exit → Act → World → Prop}
end
def bytesOf (s : ByteArray) : List Int := s.data.toList.map fun b => (b.toNat : Int)
theorem zdf.take_ {w : World} {k : IntKind} {A : Option Addr} {n : Nat} {xs : List Int} (h : zdf w k A n xs) (i : Nat) (hi : i ≤ n) : zdf w k A i (xs.take i) := by
  refine ⟨by rw [List.length_take, h.1]; omega, by have := h.2.1; omega, fun hp => ?_⟩
  obtain ⟨ad, e, hc⟩ := h.2.2 (by omega)
  refine ⟨ad, e, fun j hj => ?_⟩
  rw [hc j (by omega)]
  simp [List.getD_eq_getElem?_getD, hj]
theorem zdf.drop_ {w : World} {k : IntKind} {A : Option Addr} {n c : Nat} {xs : List Int} (h : zdf w k A n xs) (i : Nat) (hi : i ≤ n) (hc : n ≤ c) : zdf w k (if c = i then A else A.map (·.add i)) (n - i) (xs.drop i) := by
  refine ⟨by rw [List.length_drop, h.1], by have := h.2.1; omega, fun hp => ?_⟩
  obtain ⟨ad, rfl, hcell⟩ := h.2.2 (by omega)
  rw [if_neg (by omega)]
  refine ⟨ad.add i, rfl, fun j hj => ?_⟩
  have ha : (ad.add i).add j = ad.add (i + j) := by
    unfold Addr.add
    by_cases h1 : i = 0 <;> by_cases h2 : j = 0 <;> simp [h1, h2, Nat.add_assoc]
  rw [ha, hcell (i + j) (by omega)]
  simp [List.getD_eq_getElem?_getD, List.getElem?_drop]
def LeO {α : Type} (a b : Option α) : Prop := ∀ r, a = some r → b = some r
theorem LeO.refl {α : Type} (a : Option α) : LeO a a := fun _ h => h
theorem LeO.none {α : Type} (b : Option α) : LeO Option.none b := fun _ h => by cases h
theorem LeO.trans {α : Type} {a b c : Option α} (h : LeO a b) (k : LeO b c) : LeO a c := fun r hr => k r (h r hr)
theorem LeO.ite {α : Type} {c : Prop} [Decidable c] {a a' b b' : Option α} (h : LeO a a') (k : LeO b b') : LeO (if c then a else b) (if c then a' else b') := by
  split
  · exact h
  · exact k
theorem LeO.bind {α β : Type} {a a' : Option α} {f f' : α → Option β} (h : LeO a a') (k : ∀ x, LeO (f x) (f' x)) : LeO (a.bind f) (a'.bind f') := by
  intro r hr
  obtain ⟨x, hx, hf⟩ := Option.bind_eq_some_iff.1 hr
  exact Option.bind_eq_some_iff.2 ⟨x, h x hx, k x r hf⟩
theorem LeO.map {α β : Type} {a a' : Option α} (f : α → β) (h : LeO a a') : LeO (a.map f) (a'.map f) := by
  intro r hr
  obtain ⟨x, hx, hf⟩ := Option.map_eq_some_iff.1 hr
  exact Option.map_eq_some_iff.2 ⟨x, h x hx, hf⟩
theorem more_rounds {α : Type} {g : Nat → Option α} (h : ∀ k, LeO (g k) (g (k + 1))) (k : Nat) : ∀ j, LeO (g k) (g (k + j))
  | 0 => LeO.refl _
  | j + 1 => (more_rounds h k j).trans (h (k + j))
theorem at_rounds {α : Type} {g : Nat → Option α} (h : ∀ k, LeO (g k) (g (k + 1))) {k k' : Nat} (hk : k ≤ k') {r : α} (hr : g k = some r) : g k' = some r := by
  have := more_rounds h k (k' - k) r hr
  rwa [Nat.add_sub_cancel' hk] at this
def Reps {α : Type} (R : α → List Value → Prop) (size : Nat) (ps : List α) (cs : List Value) : Prop :=
  cs.length = ps.length * size ∧ ∀ j p, ps[j]? = some p → R p ((cs.drop (j * size)).take size)
theorem Reps.none {α : Type} (R : α → List Value → Prop) (size : Nat) : Reps R size [] [] := ⟨by simp, fun j p h => by simp at h⟩
theorem Reps.snoc {α : Type} {R : α → List Value → Prop} {size : Nat} {ps : List α} {cs c : List Value} {p : α} (h : Reps R size ps cs) (hp : R p c) (hc : c.length = size) : Reps R size (ps ++ [p]) (cs ++ c) := by
  refine ⟨by rw [List.length_append, h.1, hc, List.length_append, List.length_singleton, Nat.add_mul, Nat.one_mul], fun j q hq => ?_⟩
  rcases Nat.lt_or_ge j ps.length with hj | hj
  · rw [List.getElem?_append_left hj] at hq
    have h1 : j * size + size ≤ cs.length := by rw [h.1, ← Nat.succ_mul]; exact Nat.mul_le_mul_right _ hj
    have h2 := h.2 j q hq
    rw [List.drop_append_of_le_length (by omega), List.take_append_of_le_length (by rw [List.length_drop]; omega)]
    exact h2
  · have hj' : j = ps.length := by
      have := (List.getElem?_eq_some_iff.1 hq).1
      rw [List.length_append, List.length_singleton] at this
      omega
    subst hj'
    have hq' : p = q := by simpa using hq
    subst hq'
    rw [← h.1, List.drop_left, ← hc, List.take_length]
    exact hp
theorem Reps.imp_ {α : Type} {R R' : α → List Value → Prop} {size : Nat} {ps : List α} {cs : List Value} (h : Reps R size ps cs) (hR : ∀ p c, R p c → R' p c) : Reps R' size ps cs := ⟨h.1, fun j p hj => hR _ _ (h.2 j p hj)⟩
def ReadsRow {α : Type} (R : α → List Value → Prop) (size : Nat) (w : World) (A : Option Addr) (n : Nat) (ps : List α) : Prop :=
  ps.length = n ∧ n ≤ 9223372036854775807 ∧ (0 < n → ∃ ad, A = some ad ∧ ∀ j p, ps[j]? = some p → ∃ c, c.length = size ∧ R p c ∧ ∀ i u, c[i]? = some u → w.cell? (ad.add (j * size + i)) = some u)
theorem ReadsRow.get_ {α : Type} {R : α → List Value → Prop} {size : Nat} {w : World} {A : Option Addr} {n : Nat} {ps : List α} (h : ReadsRow R size w A n ps) (d : α) (i : Int) (h0 : 0 ≤ i) (h1 : i < n) :
    ∃ ad c, A = some ad ∧ c.length = size ∧ R (ps.getD i.toNat d) c ∧ ∀ j u, c[j]? = some u → w.cell? (ad.add (i.toNat * size + j)) = some u := by
  obtain ⟨ad, e, hc⟩ := h.2.2 (by omega)
  have hl : i.toNat < ps.length := by have := h.1; omega
  obtain ⟨c, hs, hr, hcell⟩ := hc i.toNat _ (List.getElem?_eq_getElem hl)
  refine ⟨ad, c, e, hs, ?_, hcell⟩
  rw [List.getD_eq_getElem?_getD, List.getElem?_eq_getElem hl]
  exact hr
theorem ReadsRow.imp_ {α : Type} {R R' : α → List Value → Prop} {size : Nat} {w w1 : World} {A : Option Addr} {n : Nat} {ps : List α} (h : ReadsRow R size w A n ps) (hb : Below w.heap.size w w1) (hR : ∀ p c, R p c → R' p c) : ReadsRow R' size w1 A n ps :=
  ⟨h.1, h.2.1, fun hn => by
    obtain ⟨ad, e, hc⟩ := h.2.2 hn
    refine ⟨ad, e, fun j p hj => ?_⟩
    obtain ⟨c, hs, hr, hcell⟩ := hc j p hj
    exact ⟨c, hs, hR _ _ hr, fun i u hu => zdu hb (hcell i u hu)⟩⟩
theorem own_reads_row {α : Type} {R : α → List Value → Prop} {w : World} {base n size : Nat} {e : TypeId} {v : Value} {ps : List α} {cs : List Value} (h : w.ownsRow base e size v n cs) (hR : Reps R size ps cs) (hn : ps.length = n) :
    ∃ A c, v = .slice A n c ∧ ReadsRow R size w A n ps := by
  rcases Nat.eq_zero_or_pos n with h0 | h0
  · rcases h.2 with ⟨rfl, rfl⟩ | ⟨g, cap, cur, rfl, _⟩
    · exact ⟨none, 0, rfl, hn, by omega, fun hp => absurd hp (by omega)⟩
    · exact ⟨_, cap, rfl, hn, by omega, fun hp => absurd hp (by omega)⟩
  · obtain ⟨g, cap, rfl, _, _⟩ := h.form h0
    have hm : n ≤ 9223372036854775807 := by
      rcases h.2 with ⟨_, h1⟩ | ⟨g', cap', cur, he, _, _, h1, h2, _⟩
      · omega
      · simp only [maxLen] at h2
        omega
    refine ⟨_, cap, rfl, hn, hm, fun _ => ⟨_, rfl, fun j p hj => ⟨(cs.drop (j * size)).take size, ?_, hR.2 j p hj, fun i u hu => ?_⟩⟩⟩
    · have hjl := (List.getElem?_eq_some_iff.1 hj).1
      have h1 : j * size + size ≤ cs.length := by rw [hR.1, ← Nat.succ_mul]; exact Nat.mul_le_mul_right _ hjl
      rw [List.length_take, List.length_drop]
      omega
    · refine h.cells (g := g) rfl _ u ?_
      rw [List.getElem?_take] at hu
      split at hu
      · rw [List.getElem?_drop] at hu
        exact hu
      · cases hu
theorem add_field (ad : Addr) (m j : Nat) (hj : 0 < j) : ad.add (m + j) = ⟨(ad.add m).block, (ad.add m).off + j, none⟩ := by
  unfold Addr.add
  by_cases hm : m = 0
  · subst hm
    simp [Nat.ne_of_gt hj]
  · simp [hm, Nat.add_assoc]
section
variable {P : Program} {ops : Array Oper} {rest : List Oper} {o : Oper} {a : Act} {Q : Exit → Act → World → Prop}
theorem print_append_cells {w0 W : World} (base : Nat) (hgd : o.guard = none) (s x : Operand) (t e : TypeId) (z : Value) (size bytes : Nat)
    (ho : o.op = .call { callee := .builtin .append, args := #[s, x], argTypes := #[t, t] })
    (ht : P.underlying t = some (.slice e)) (hinfo : (P.info? e).map (fun i => (i.zero, i.size, i.bytes)) = some (some z, size, bytes)) (hz : z.cells.size = size) (hs0 : 0 < size) (hb0 : 0 < bytes)
    (v : Value) (n : Nat) (xs ys : List Value) (hs : a.eval s = v) (hx : a.eval x = .slice (some ⟨W.heap.size, 0, none⟩) 1 1) (hys : ys.length = size) (h1 : ∀ u ∈ ys, u.oneCell' = true)
    (HO : W.ownsRow base e size v n xs) (HB : Below base w0 W) (hbase : base ≤ W.heap.size) (hl : (n + 1) * bytes ≤ 140737488355328)
    (h : ∀ v1 w1, w1.ownsRow base e size v1 (n + 1) (xs ++ ys) → Below base w0 w1 → W.grownBy w1 v.ownBlock → (v1.ownBlock = v.ownBlock ∨ ∃ b, v1.ownBlock = some b ∧ W.heap.size ≤ b) → wpList P ops Q rest (a.put o.dst v1) w1) :
    wpList P ops Q (o :: rest) a (W.alloc (.cells ys.toArray e)) := by
  obtain ⟨i0, hi, hzz⟩ := Option.map_eq_some_iff.1 hinfo
  simp only [Prod.mk.injEq] at hzz
  obtain ⟨hz0, hz1, hz2⟩ := hzz
  have hlen : n + 1 ≤ 140737488355328 := Nat.le_trans (Nat.le_mul_of_pos_right _ hb0) hl
  refine wpList_append_own_at (W.alloc (.cells ys.toArray e)) hgd s x t ho base e i0 z size bytes ht hi hz0 hz1 hz2 hz hs0 v n xs hs (HO.alloc _) ⟨W.heap.size, 0, none⟩ 1 1 ys hx (by rw [hys]; simp)
    (by simpa using World.news_of_block (cs := ys.toArray) (t := e) (fr := (0, 0)) (heap_alloc_new W (.cells ys.toArray e))) h1 (by simp only [maxLen]; omega) hl (by simp; omega) ?_
  intro v1 w1 hown hg _ hat
  refine h v1 w1 hown ((HB.alloc hbase _).grown hg (by simp; omega) (own_base HO)) (World.grownBy.trans (World.grownBy_alloc W _ _) hg) ?_
  rcases hat with hat | hat
  · exact .inl hat
  · exact .inr ⟨_, hat, by simp⟩
end
theorem own_ne {w : World} {base : Nat} {e t : TypeId} {size n g : Nat} {v : Value} {xs : List Value} {cs : Array Value} (h : w.ownsRow base e size v n xs) (hg : w.heap[g]? = some (.cells cs t (0, 0))) (hne : e ≠ t) : some g ≠ v.ownBlock := by
  rcases h.2 with ⟨rfl, _⟩ | ⟨g', cap, cur, rfl, _, hh, _⟩
  · simp [Value.ownBlock]
  · intro he
    have : g = g' := by simpa [Value.ownBlock] using he
    subst this
    rw [hg] at hh
    injection hh with hh
    injection hh with _ ht
    exact hne ht.symm
theorem own_setCell {w : World} {base : Nat} {e : TypeId} {size n : Nat} {v : Value} {xs : List Value} (h : w.ownsRow base e size v n xs) {p : Addr} (hne : some p.block ≠ v.ownBlock) (u : Value) : (w.setCell p u).ownsRow base e size v n xs := by
  obtain ⟨h1, h2⟩ := h
  refine ⟨h1, ?_⟩
  rcases h2 with h2 | ⟨g, cap, cur, rfl, hg, hh, r⟩
  · exact .inl h2
  · exact .inr ⟨g, cap, cur, rfl, hg, by rw [Below.heap_setCell _ _ _ _ (fun e => hne (by rw [e]; rfl))]; exact hh, r⟩
theorem blk_set {w : World} {g : Nat} {t : TypeId} {cs : Array Value} (h : w.heap[g]? = some (.cells cs t (0, 0))) (i : Nat) (u : Value) : (w.setCell ⟨g, i, none⟩ u).heap[g]? = some (.cells (cs.setIfInBounds i u) t (0, 0)) := by
  simp [World.setCell, Array.getElem?_modify, h]
theorem zcl {w : World} {g : Nat} {t : TypeId} {cs : Array Value} (h : w.heap[g]? = some (.cells cs t (0, 0))) {p : Addr} (hp : g ≠ p.block) (u : Value) : (w.setCell p u).heap[g]? = some (.cells cs t (0, 0)) := (Below.heap_setCell w p u g hp).trans h
theorem zcz {w : World} {g : Nat} {o : Obj} (h : w.heap[g]? = some o) : g < w.heap.size := (Array.getElem?_eq_some_iff.1 h).1
theorem zh {w : World} {g : Nat} {t : TypeId} {cs : Array Value} (h : w.heap[g]? = some (.cells cs t (0, 0))) (i : Nat) : w.cell? ⟨g, i, none⟩ = cs[i]? := cell_of_row w g i cs t (0, 0) h
theorem zg {w : World} {g : Nat} {t : TypeId} {cs : Array Value} (h : w.heap[g]? = some (.cells cs t (0, 0))) (i : Nat) : w.frozen? ⟨g, i, none⟩ = false := by simp [World.frozen?, h]
theorem zbr {w w1 : World} {g : Nat} {o : Obj} {row : Option Nat} (h : w.heap[g]? = some o) (hg : w.grownBy w1 row) (hne : some g ≠ row) : w1.heap[g]? = some o := (hg.block g (zcz h) hne).trans h
def zi (w w' : World) (g : Nat) (row : Option Nat) : Prop := w.heap.size ≤ w'.heap.size ∧ ∀ i, i < w.heap.size → i ≠ g → some i ≠ row → w'.heap[i]? = w.heap[i]?
theorem zi.refl (w : World) (g : Nat) (row : Option Nat) : zi w w g row := ⟨Nat.le_refl _, fun _ _ _ _ => rfl⟩
theorem zi.zcy {w w1 : World} {row : Option Nat} (h : w.grownBy w1 row) (g : Nat) : zi w w1 g row := ⟨h.size, fun i hi _ hr => h.block i hi hr⟩
theorem zi.of_below {w w1 : World} (h : Below w.heap.size w w1) (g : Nat) (row : Option Nat) : zi w w1 g row := ⟨h.size, fun i hi _ _ => h.block i hi⟩
theorem zi.set_ {w w1 : World} {g : Nat} {row : Option Nat} (h : zi w w1 g row) (j : Nat) (u : Value) : zi w (w1.setCell ⟨g, j, none⟩ u) g row :=
  ⟨by simpa [World.setCell] using h.1, fun i hi hg hr => (Below.heap_setCell w1 ⟨g, j, none⟩ u i hg).trans (h.2 i hi hg hr)⟩
theorem zi.trans {w w1 w2 : World} {g : Nat} {row row1 : Option Nat} (h : zi w w1 g row) (k : zi w1 w2 g row1) (hr : row1 = row ∨ ∃ b, row1 = some b ∧ w.heap.size ≤ b) : zi w w2 g row :=
  ⟨Nat.le_trans h.1 k.1, fun i hi hg hn => by
    refine (k.2 i (Nat.lt_of_lt_of_le hi h.1) hg ?_).trans (h.2 i hi hg hn)
    rcases hr with rfl | ⟨b, rfl, hb⟩
    · exact hn
    · intro e
      injection e with e
      omega⟩
theorem zi.blk {w w1 : World} {g g' : Nat} {row : Option Nat} {o : Obj} (h : zi w w1 g row) (hb : w.heap[g']? = some o) (hg : g' ≠ g) (hr : some g' ≠ row) : w1.heap[g']? = some o := (h.2 g' (zcz hb) hg hr).trans hb
theorem zi.own {w w1 : World} {g : Nat} {row : Option Nat} {base : Nat} {e : TypeId} {size n : Nat} {v : Value} {xs : List Value} (h : zi w w1 g row) (ho : w.ownsRow base e size v n xs) (hg : v.ownBlock ≠ some g) (hr : v.ownBlock = none ∨ v.ownBlock ≠ row) : w1.ownsRow base e size v n xs := by
  obtain ⟨h1, h2⟩ := ho
  refine ⟨h1, ?_⟩
  rcases h2 with h2 | ⟨b, cap, cur, rfl, hb, hh, r⟩
  · exact .inl h2
  · refine .inr ⟨b, cap, cur, rfl, hb, h.blk hh ?_ ?_, r⟩
    · intro e
      exact hg (by rw [← e]; rfl)
    · rcases hr with hr | hr
      · simp [Value.ownBlock] at hr
      · exact hr
def Ev {α : Type} (g : Nat → Option α) (r : α) : Prop := ∃ K, ∀ k, K ≤ k → g k = some r
theorem Ev.of {α : Type} {g : Nat → Option α} {r : α} (hg : ∀ k, LeO (g k) (g (k + 1))) {k : Nat} (h : g k = some r) : Ev g r := ⟨k, fun _ hk => at_rounds hg hk h⟩
theorem Ev.now {α : Type} (r : α) : Ev (fun _ => some r) r := ⟨0, fun _ _ => rfl⟩
theorem Ev.rounds {α : Type} {g : Nat → Option α} {r : α} (h : Ev g r) : ∃ k, g k = some r := by
  obtain ⟨K, h⟩ := h
  exact ⟨K, h K (Nat.le_refl _)⟩
theorem Ev.bind {α β : Type} {g : Nat → Option α} {f : Nat → α → Option β} {a : α} {r : β} (h : Ev g a) (k : Ev (fun n => f n a) r) : Ev (fun n => (g n).bind (f n)) r := by
  obtain ⟨K, h⟩ := h
  obtain ⟨K', k⟩ := k
  refine ⟨max K K', fun n hn => ?_⟩
  have h1 := h n (by omega)
  have h2 := k n (by omega)
  simp only [h1, Option.bind_some]
  exact h2
theorem Ev.step {α : Type} {g f : Nat → Option α} {r : α} (h : ∀ k, g (k + 1) = f k) (k : Ev f r) : Ev g r := by
  obtain ⟨K, k⟩ := k
  refine ⟨K + 1, fun n hn => ?_⟩
  obtain ⟨m, rfl⟩ : ∃ m, n = m + 1 := ⟨n - 1, by omega⟩
  rw [h]
  exact k m (by omega)
theorem Ev.congr {α : Type} {g f : Nat → Option α} {r : α} (h : ∀ k, g k = f k) (k : Ev f r) : Ev g r := by
  obtain ⟨K, k⟩ := k
  exact ⟨K, fun n hn => (h n).trans (k n hn)⟩
section
variable {P : Program} {ops : Array Oper} {o : Oper} {a : Act} {Q : Exit → Act → World → Prop} {K : Act → World → Prop}
end
theorem own_weaken {w : World} {base base' : Nat} {e : TypeId} {size n : Nat} {v : Value} {xs : List Value} (h : w.ownsRow base e size v n xs) (hb : base' ≤ base) : w.ownsRow base' e size v n xs := by
  obtain ⟨h1, h2⟩ := h
  refine ⟨h1, ?_⟩
  rcases h2 with h2 | ⟨g, cap, cur, rfl, hg, r⟩
  · exact .inl h2
  · exact .inr ⟨g, cap, cur, rfl, Nat.le_trans hb hg, r⟩
section
variable {α : Type} {enc : α → Value} {d : α}
def encs (enc : α → Value) (xs : List α) : List Value := xs.map enc
def rdOf (d : α) (xs : List α) (i : Int) : α := xs.getD i.toNat d
theorem encs_length (xs : List α) : (encs enc xs).length = xs.length := by simp [encs]
theorem encs_append (xs ys : List α) : encs enc (xs ++ ys) = encs enc xs ++ encs enc ys := by simp [encs]
theorem encs_get (xs : List α) (j : Nat) (h : j < xs.length) : (encs enc xs)[j]? = some (enc (xs.getD j d)) := by
  simp [encs, List.getElem?_eq_getElem h, List.getD_eq_getElem?_getD]
def zc4 (enc : α → Value) (d : α) (w : World) (A : Option Addr) (n : Nat) (xs : List α) : Prop :=
  xs.length = n ∧ n ≤ 9223372036854775807 ∧ (0 < n → ∃ ad, A = some ad ∧ ∀ j, j < n → w.cell? (ad.add j) = some (enc (xs.getD j d)))
theorem zc4.at_ {w : World} {A : Option Addr} {n : Nat} {xs : List α} (h : zc4 enc d w A n xs) (i : Int) (h0 : 0 ≤ i) (h1 : i < n) : ∃ ad, A = some ad ∧ w.cell? (ad.add i.toNat) = some (enc (rdOf d xs i)) := by
  obtain ⟨ad, e, hc⟩ := h.2.2 (by omega)
  exact ⟨ad, e, hc _ (by omega)⟩
theorem zc4.below {w w1 : World} {A : Option Addr} {n : Nat} {xs : List α} (h : zc4 enc d w A n xs) (hb : Below w.heap.size w w1) : zc4 enc d w1 A n xs :=
  ⟨h.1, h.2.1, fun hn => by
    obtain ⟨ad, e, hc⟩ := h.2.2 hn
    exact ⟨ad, e, fun j hj => zdu hb (hc j hj)⟩⟩
theorem zc4.take_ {w : World} {A : Option Addr} {n : Nat} {xs : List α} (h : zc4 enc d w A n xs) (i : Nat) (hi : i ≤ n) : zc4 enc d w A i (xs.take i) := by
  refine ⟨by rw [List.length_take, h.1]; omega, by have := h.2.1; omega, fun hp => ?_⟩
  obtain ⟨ad, e, hc⟩ := h.2.2 (by omega)
  refine ⟨ad, e, fun j hj => ?_⟩
  rw [hc j (by omega)]
  simp [List.getD_eq_getElem?_getD, hj]
theorem zc4.drop_ {w : World} {A : Option Addr} {n c : Nat} {xs : List α} (h : zc4 enc d w A n xs) (i : Nat) (hi : i ≤ n) (hc : n ≤ c) : zc4 enc d w (if c = i then A else A.map (·.add i)) (n - i) (xs.drop i) := by
  refine ⟨by rw [List.length_drop, h.1], by have := h.2.1; omega, fun hp => ?_⟩
  obtain ⟨ad, rfl, hcell⟩ := h.2.2 (by omega)
  rw [if_neg (by omega)]
  refine ⟨ad.add i, rfl, fun j hj => ?_⟩
  have ha : (ad.add i).add j = ad.add (i + j) := by
    unfold Addr.add
    by_cases h1 : i = 0 <;> by_cases h2 : j = 0 <;> simp [h1, h2, Nat.add_assoc]
  rw [ha, hcell (i + j) (by omega)]
  simp [List.getD_eq_getElem?_getD, List.getElem?_drop]
theorem own_at_of {W : World} {base g n cap : Nat} {e : TypeId} {xs : List α} (h : W.ownsRow base e 1 (.slice (some ⟨g, 0, none⟩) n cap) n (encs enc xs)) (i : Int) (h0 : 0 ≤ i) (h1 : i < n) :
    W.cell? ⟨g, i.toNat, none⟩ = some (enc (rdOf d xs i)) ∧ W.frozen? ⟨g, i.toNat, none⟩ = false := by
  have hl : xs.length = n := by have := h.1; simp [encs] at this; exact this
  constructor
  · have hc := h.cells (g := g) rfl i.toNat _ (encs_get (d := d) xs i.toNat (by omega))
    rwa [add_plain] at hc
  · rcases h.2 with ⟨h', _⟩ | ⟨g', cap', cur, h', _, hh, _⟩
    · cases h'
    · have : g = g' := by injection h' with h'; injection h' with h'; injection h' with h'
      subst this
      simp [World.frozen?, hh]
theorem own_store_of {W : World} {base g n cap : Nat} {e : TypeId} {xs : List α} (h : W.ownsRow base e 1 (.slice (some ⟨g, 0, none⟩) n cap) n (encs enc xs)) (i : Int) (x : α) :
    (W.setCell ⟨g, i.toNat, none⟩ (enc x)).ownsRow base e 1 (.slice (some ⟨g, 0, none⟩) n cap) n (encs enc (xs.set i.toNat x)) ∧ W.grownBy (W.setCell ⟨g, i.toNat, none⟩ (enc x)) (some g) := by
  have hs := h.stored i.toNat (enc x)
  have he : (encs enc xs).set i.toNat (enc x) = encs enc (xs.set i.toNat x) := by simp [encs, List.map_set]
  rwa [he] at hs
end
section
variable {α : Type} {P : Program} {ops : Array Oper} {rest : List Oper} {o : Oper} {a : Act} {Q : Exit → Act → World → Prop}
end
theorem zm {w : World} {g : Nat} {o : Obj} (h : w.heap[g]? = some o) (o' : Obj) : (w.alloc o').heap[g]? = some o := (Below.heap_alloc w o' g (zcz h)).trans h
theorem zt {w : World} {g : Nat} {o : Obj} (h : w.heap[g]? = some o) : w.drew.heap[g]? = some o := h
theorem zn {w : World} {g : Nat} {o : Obj} (h : w.heap[g]? = some o) (n : Nat) : (w.drewN n).heap[g]? = some o := h
theorem zbg {w w1 : World} {g : Nat} {o : Obj} (h : w.heap[g]? = some o) (hb : Below w.heap.size w w1) : w1.heap[g]? = some o := (hb.block g (zcz h)).trans h
theorem blk_new (w : World) (o : Obj) : (w.alloc o).heap[w.heap.size]? = some o := heap_alloc_new w o
section
variable {P : Program}
end
theorem own_le {w : World} {base n m c size : Nat} {e : TypeId} {A : Option Addr} {xs : List Value} (h : w.ownsRow base e size (.slice A m c) n xs) : m ≤ c := by
  rcases h.2 with ⟨he, _⟩ | ⟨g, cap, cur, he, _, _, hnc, _⟩
  · injection he with _ h2 h3
    omega
  · injection he with _ h2 h3
    omega
def zdh {α : Type} (R : α → List Value → Prop) (e : TypeId) (size : Nat) (w : World) (base : Nat) (v : Value) (ps : List α) : Prop :=
  ∃ inner, w.ownsRow base e size v ps.length inner ∧ Reps R size ps inner
section
variable {α : Type} {R R' : α → List Value → Prop} {e : TypeId} {size : Nat} {w w1 : World} {base : Nat} {v : Value} {ps : List α}
theorem zdh.none_ (R : α → List Value → Prop) (e : TypeId) (size : Nat) (w : World) (base : Nat) : zdh R e size w base (.slice none 0 0) [] := ⟨[], own_nil _ _ _ _, Reps.none _ _⟩
theorem zdh.imp_ (h : zdh R e size w base v ps) (hR : ∀ p c, R p c → R' p c) : zdh R' e size w base v ps := by
  obtain ⟨inner, ho, hr⟩ := h
  exact ⟨inner, ho, hr.imp_ hR⟩
theorem zdh.below (h : zdh R e size w base v ps) (hb : Below w.heap.size w w1) : zdh R e size w1 base v ps := by
  obtain ⟨inner, ho, hr⟩ := h
  exact ⟨inner, pw_own_below ho hb, hr⟩
theorem zdh.other (h : zdh R e size w base v ps) {row : Option Nat} (hg : w.grownBy w1 row) (hne : v.ownBlock = none ∨ v.ownBlock ≠ row) : zdh R e size w1 base v ps := by
  obtain ⟨inner, ho, hr⟩ := h
  exact ⟨inner, own_other ho hg hne, hr⟩
theorem zdh.set_ (h : zdh R e size w base v ps) {g : Nat} {t : TypeId} {cells : Array Value} (hb : w.heap[g]? = some (.cells cells t (0, 0))) (ht : e ≠ t) (j : Nat) (u : Value) : zdh R e size (w.setCell ⟨g, j, none⟩ u) base v ps := by
  obtain ⟨inner, ho, hr⟩ := h
  exact ⟨inner, own_setCell ho (own_ne ho hb ht) u, hr⟩
theorem zdh.reads (h : zdh R e size w base v ps) : ∃ A c, v = .slice A ps.length c ∧ ps.length ≤ c ∧ ReadsRow R size w A ps.length ps := by
  obtain ⟨inner, ho, hr⟩ := h
  obtain ⟨A, c, rfl, hrow⟩ := own_reads_row ho hr rfl
  exact ⟨A, c, rfl, own_le ho, hrow⟩
theorem zdh.ne_block (h : zdh R e size w base v ps) {g : Nat} {t : TypeId} {cells : Array Value} (hb : w.heap[g]? = some (.cells cells t (0, 0))) (ht : e ≠ t) : some g ≠ v.ownBlock := by
  obtain ⟨inner, ho, hr⟩ := h
  exact own_ne ho hb ht
theorem zdh.lit (W : World) (base : Nat) {inner : List Value} (hr : Reps R size ps inner) (hb : base ≤ W.heap.size) (hm : ps.length ≤ 9223372036854775807) :
    zdh R e size (W.alloc (.cells inner.toArray e)) base (.slice (some ⟨W.heap.size, 0, none⟩) ps.length ps.length) ps := by
  have h := World.ownsRow_lit (base := base) (e := e) (size := size) W inner.toArray ps.length hb (by simpa [maxLen] using hm) (by simpa using hr.1)
  exact ⟨inner, by simpa using h, hr⟩
end
section
variable {P : Program} {ops : Array Oper} {rest : List Oper} {o : Oper} {a : Act} {Q : Exit → Act → World → Prop} {α : Type} {R : α → List Value → Prop}
theorem zdh.append {w0 W : World} (base : Nat) (hgd : o.guard = none) (s x : Operand) (t e : TypeId) (z : Value) (size bytes : Nat)
    (ho : o.op = .call { callee := .builtin .append, args := #[s, x], argTypes := #[t, t] })
    (ht : P.underlying t = some (.slice e)) (hinfo : (P.info? e).map (fun i => (i.zero, i.size, i.bytes)) = some (some z, size, bytes)) (hz : z.cells.size = size) (hs0 : 0 < size) (hb0 : 0 < bytes)
    (v : Value) (ps : List α) (p : α) (cs : List Value) (hs : a.eval s = v) (hx : a.eval x = .slice (some ⟨W.heap.size, 0, none⟩) 1 1) (hp : R p cs) (hcs : cs.length = size) (h1 : ∀ u ∈ cs, u.oneCell' = true)
    (HO : zdh R e size W base v ps) (HB : Below base w0 W) (hbase : base ≤ W.heap.size) (hl : (ps.length + 1) * bytes ≤ 140737488355328)
    (h : ∀ v1 w1, zdh R e size w1 base v1 (ps ++ [p]) → Below base w0 w1 → W.grownBy w1 v.ownBlock → (v1.ownBlock = v.ownBlock ∨ ∃ b, v1.ownBlock = some b ∧ W.heap.size ≤ b) → wpList P ops Q rest (a.put o.dst v1) w1) :
    wpList P ops Q (o :: rest) a (W.alloc (.cells cs.toArray e)) := by
  obtain ⟨inner, hown, hr⟩ := HO
  refine print_append_cells base hgd s x t e z size bytes ho ht hinfo hz hs0 hb0 v ps.length inner cs hs hx hcs h1 hown HB hbase hl ?_
  intro v1 w1 hown1 hb1 hg1 hat1
  exact h v1 w1 ⟨inner ++ cs, by rw [List.length_append, List.length_singleton]; exact hown1, hr.snoc hp hcs⟩ hb1 hg1 hat1
end
section
variable {P : Program} {ops : Array Oper} {o : Oper} {a : Act} {Q : Exit → Act → World → Prop} {K : Act → World → Prop} {α : Type} {R : α → List Value → Prop}
end
section
variable {α : Type} {P : Program}
theorem print_take_of (enc : α → Value) (d : α) (t e : TypeId) (kl : IntKind) {i : TypeInfo} (ht : P.underlying t = some (.slice e)) (hi : P.info? e = some i) (hsz : i.size = 1) (A : Option Addr) (c : Nat) (xs : List α) (j : Int) (h0 : 0 ≤ j) (hm : j ≤ xs.length) (hc : xs.length ≤ c) :
    (∀ W : World, (Instr.slice t (.slice A xs.length c) none (some (.int kl j)) none).run P W = .ok (.slice A (xs.take j.toNat).length c) W) ∧
      (∀ w : World, zc4 enc d w A xs.length xs → zc4 enc d w A (xs.take j.toNat).length (xs.take j.toNat)) ∧ (xs.take j.toNat).length ≤ c := by
  have hl : (xs.take j.toNat).length = j.toNat := by rw [List.length_take]; omega
  refine ⟨fun W => ?_, fun w h => by rw [hl]; exact h.take_ j.toNat (by omega), by rw [hl]; omega⟩
  have hel : P.elem t = e := by simp [Program.elem, ht]
  have hu : P.underlying t = some (.slice (P.elem t)) := by rw [hel]; exact ht
  have ha : (A.map fun x => x.add 0) = A := by cases A <;> simp [Addr.add]
  rw [run_slice_h W t A xs.length c hu kl j h0 (by omega), hel, hl]
  simp [sizeOf, typeInfo, hi, hsz, sliced, Result.andThen, ha]
theorem print_mid_of (enc : α → Value) (d : α) (t e : TypeId) (kl kh : IntKind) {i : TypeInfo} (ht : P.underlying t = some (.slice e)) (hi : P.info? e = some i) (hsz : i.size = 1) (A : Option Addr) (c : Nat) (xs : List α) (a b : Int) (h0 : 0 ≤ a) (h1 : a ≤ b) (hm : b ≤ xs.length) (hc : xs.length ≤ c) :
    ∃ A' : Option Addr, (∀ W : World, (Instr.slice t (.slice A xs.length c) (some (.int kl a)) (some (.int kh b)) none).run P W = .ok (.slice A' ((xs.take b.toNat).drop a.toNat).length (c - a.toNat)) W) ∧
      (∀ w : World, zc4 enc d w A xs.length xs → zc4 enc d w A' ((xs.take b.toNat).drop a.toNat).length ((xs.take b.toNat).drop a.toNat)) ∧ ((xs.take b.toNat).drop a.toNat).length ≤ c - a.toNat := by
  have hlt : (xs.take b.toNat).length = b.toNat := by rw [List.length_take]; omega
  have hl : ((xs.take b.toNat).drop a.toNat).length = b.toNat - a.toNat := by rw [List.length_drop, hlt]
  refine ⟨if c = a.toNat then A else A.map (·.add a.toNat), fun W => ?_, fun w h => ?_, by rw [hl]; omega⟩
  · have hel : P.elem t = e := by simp [Program.elem, ht]
    have hu : P.underlying t = some (.slice (P.elem t)) := by rw [hel]; exact ht
    rw [run_slice_lh W t A xs.length c hu kl kh a b h0 h1 (by omega), hel, hl]
    simp [sizeOf, typeInfo, hi, hsz, sliced, Result.andThen]
  · have h2 := (h.take_ b.toNat (by omega)).drop_ (c := c) a.toNat (by omega) (by omega)
    rw [hl]
    exact h2
end
section
variable {P : Program} {ops : Array Oper} {rest : List Oper} {o : Oper} {a : Act} {Q : Exit → Act → World → Prop}
end
structure Kd (α : Type) where
  sz : Nat
  E : List Nat
  K : World → α → List Value → Prop
  M : World → Nat → (Nat → Prop) → α → List Value → Prop
  K_len : ∀ {w x cs}, K w x cs → cs.length = sz
  K_one : ∀ {w x cs}, K w x cs → ∀ u ∈ cs, u.oneCell' = true
  K_below : ∀ {w w1 : World} {x cs}, Below w.heap.size w w1 → K w x cs → K w1 x cs
  K_of_M : ∀ {w base ok x cs}, M w base ok x cs → K w x cs
  M_mono : ∀ {w base ok ok' x cs}, (∀ k, ok k → ok' k) → M w base ok x cs → M w base ok' x cs
  M_bound : ∀ {w : World} {base ok x cs}, M w base ok x cs → M w base (fun k => ok k ∧ base ≤ k ∧ k < w.heap.size ∧ ∃ q, q ∈ E ∧ ∃ cells, w.heap[k]? = some (.cells cells q (0, 0))) x cs
  M_move : ∀ {w w1 : World} {base ok x cs}, (∀ k, ok k → w1.heap[k]? = w.heap[k]?) → M w base ok x cs → M w1 base ok x cs
  M_lower : ∀ {w base base' ok x cs}, base' ≤ base → M w base ok x cs → M w base' ok x cs
theorem own_move {w w1 : World} {base : Nat} {e : TypeId} {size n : Nat} {v : Value} {xs : List Value} (h : w.ownsRow base e size v n xs) (hm : ∀ k, v.ownBlock = some k → w1.heap[k]? = w.heap[k]?) : w1.ownsRow base e size v n xs := by
  obtain ⟨h1, h2⟩ := h
  refine ⟨h1, ?_⟩
  rcases h2 with h2 | ⟨g, cap, cur, rfl, hg, hh, r⟩
  · exact .inl h2
  · exact .inr ⟨g, cap, cur, rfl, hg, (hm g (by simp [Value.ownBlock])).trans hh, r⟩
theorem own_typed {w : World} {base : Nat} {e : TypeId} {size n : Nat} {v : Value} {xs : List Value} (h : w.ownsRow base e size v n xs) (k : Nat) (hk : v.ownBlock = some k) : ∃ cells, w.heap[k]? = some (.cells cells e (0, 0)) := by
  rcases h.2 with ⟨rfl, _⟩ | ⟨g, cap, cur, rfl, hg, hh, r⟩
  · simp [Value.ownBlock] at hk
  · have : g = k := by simpa [Value.ownBlock] using hk
    subst this
    exact ⟨cur, hh⟩
namespace Kd
def C {α : Type} (d : Kd α) (w : World) (A : Option Addr) (n : Nat) (xs : List α) : Prop := ReadsRow (d.K w) d.sz w A n xs
def R {α : Type} (d : Kd α) (e : Nat) (w : World) (base : Nat) (ok : Nat → Prop) (v : Value) (xs : List α) : Prop :=
  (∀ k, v.ownBlock = some k → ok k) ∧ zdh (d.M w base (fun k => ok k ∧ some k ≠ v.ownBlock)) e d.sz w base v xs
section
variable {α : Type} {d : Kd α} {e : Nat} {w w1 : World} {base : Nat} {ok ok' : Nat → Prop} {v : Value} {xs : List α}
theorem zb8 {A : Option Addr} {n : Nat} (h : d.C w A n xs) (hb : Below w.heap.size w w1) : d.C w1 A n xs := ReadsRow.imp_ h hb (fun _ _ hp => d.K_below hb hp)
theorem R_nil (d : Kd α) (e : Nat) (w : World) (base : Nat) (ok : Nat → Prop) : d.R e w base ok (.slice none 0 0) [] := ⟨fun k hk => by simp [Value.ownBlock] at hk, zdh.none_ _ _ _ _ _⟩
theorem zy (h : d.R e w base ok v xs) (hok : ∀ k, ok k → ok' k) : d.R e w base ok' v xs := ⟨fun k hk => hok k (h.1 k hk), h.2.imp_ (fun _ _ hp => d.M_mono (fun k hk => ⟨hok k hk.1, hk.2⟩) hp)⟩
theorem R_bound (h : d.R e w base ok v xs) : d.R e w base (fun k => ok k ∧ base ≤ k ∧ k < w.heap.size ∧ ∃ q, q ∈ e :: d.E ∧ ∃ cells, w.heap[k]? = some (.cells cells q (0, 0))) v xs := by
  obtain ⟨h0, inner, ho, hr⟩ := h
  refine ⟨fun k hk => ?_, inner, ho, hr.imp_ (fun _ _ hp => d.M_mono (fun k hk => ?_) (d.M_bound hp))⟩
  · obtain ⟨cells, hc⟩ := own_typed ho k hk
    exact ⟨h0 k hk, own_base ho k hk, own_lt ho k hk, e, List.mem_cons_self, cells, hc⟩
  · obtain ⟨⟨h1, h2⟩, h3, h4, q, hq, hc⟩ := hk
    exact ⟨⟨h1, h3, h4, q, List.mem_cons_of_mem _ hq, hc⟩, h2⟩
theorem R_move (h : d.R e w base ok v xs) (hm : ∀ k, ok k → w1.heap[k]? = w.heap[k]?) : d.R e w1 base ok v xs := by
  obtain ⟨h0, inner, ho, hr⟩ := h
  exact ⟨h0, inner, own_move ho (fun k hk => hm k (h0 k hk)), hr.imp_ (fun _ _ hp => d.M_move (fun k hk => hm k hk.1) hp)⟩
theorem zb2 {base' : Nat} (h : d.R e w base ok v xs) (hb : base' ≤ base) : d.R e w base' ok v xs := by
  obtain ⟨h0, inner, ho, hr⟩ := h
  exact ⟨h0, inner, own_weaken ho hb, hr.imp_ (fun _ _ hp => d.M_lower hb hp)⟩
theorem R_step (h : d.R e w base ok v xs) (hm : ∀ k, ok k → k < w.heap.size → w1.heap[k]? = w.heap[k]?) : d.R e w1 base ok v xs :=
  zy (R_move (R_bound h) (fun k hk => hm k hk.1 hk.2.2.1)) (fun _ hk => hk.1)
theorem M_step {x : α} {cs : List Value} (h : d.M w base ok x cs) (hm : ∀ k, ok k → k < w.heap.size → w1.heap[k]? = w.heap[k]?) : d.M w1 base ok x cs :=
  d.M_mono (fun _ hk => hk.1) (d.M_move (fun k hk => hm k hk.1 hk.2.2.1) (d.M_bound h))
theorem zbl (h : d.R e w base ok v xs) (hb : Below w.heap.size w w1) : d.R e w1 base ok v xs := R_step h (fun k _ hk => hb.block k hk)
theorem M_below {x : α} {cs : List Value} (h : d.M w base ok x cs) (hb : Below w.heap.size w w1) : d.M w1 base ok x cs := M_step h (fun k _ hk => hb.block k hk)
theorem zb9 (h : d.R e w base ok v xs) {p : Addr} (hok : ∀ k, ok k → k ≠ p.block) (u : Value) : d.R e (w.setCell p u) base ok v xs := R_step h (fun k ho _ => Below.heap_setCell w p u k (hok k ho))
theorem zbo (h : d.R e w base ok v xs) {g : Nat} (hk : zi w w1 g none) (hok : ∀ k, ok k → k ≠ g) : d.R e w1 base ok v xs := R_step h (fun k ho hlt => hk.2 k hlt (hok k ho) (by simp))
theorem zb5 (h : d.R e w base ok v xs) {g t : Nat} {cells : Array Value} (hb : w.heap[g]? = some (.cells cells t (0, 0))) (ht : ∀ q, q ∈ e :: d.E → q ≠ t) : d.R e w base (fun k => ok k ∧ k ≠ g) v xs :=
  zy (R_bound h) (fun k hk => ⟨hk.1, by
    obtain ⟨_, _, _, q, hq, cells', hc⟩ := hk
    rintro rfl
    rw [hc] at hb
    injection hb with hb
    injection hb with _ hb
    exact ht q hq hb⟩)
theorem R_reads (h : d.R e w base ok v xs) : ∃ A c, v = .slice A xs.length c ∧ xs.length ≤ c ∧ d.C w A xs.length xs := by
  obtain ⟨A, c, he, hl, hr⟩ := zdh.reads h.2
  exact ⟨A, c, he, hl, hr.imp_ (Below.refl _ _) (fun _ _ hp => d.K_of_M hp)⟩
theorem zbs (h : d.R e w base ok v xs) : ∃ A c, v = .slice A xs.length c := by
  obtain ⟨A, c, he, _⟩ := R_reads h
  exact ⟨A, c, he⟩
theorem R_own (h : d.R e w base ok v xs) : ∃ inner, w.ownsRow base e d.sz v xs.length inner := by
  obtain ⟨_, inner, ho, _⟩ := h
  exact ⟨inner, ho⟩
theorem R_ne (h : d.R e w base ok v xs) {g t : Nat} {cells : Array Value} (hb : w.heap[g]? = some (.cells cells t (0, 0))) (ht : e ≠ t) : some g ≠ v.ownBlock := zdh.ne_block h.2 hb ht
end
def scalar {α : Type} (enc : α → Value) (h1 : ∀ x, (enc x).oneCell' = true) : Kd α where
  sz := 1
  E := []
  K := fun _ x cs => cs = [enc x]
  M := fun _ _ _ x cs => cs = [enc x]
  K_len := fun h => by rw [h]; rfl
  K_one := fun h u hu => by
    rw [h] at hu
    rw [List.mem_singleton.1 hu]
    exact h1 _
  K_below := fun _ h => h
  K_of_M := fun h => h
  M_mono := fun _ h => h
  M_bound := fun h => h
  M_move := fun _ h => h
  M_lower := fun _ h => h
def int (k : IntKind) : Kd Int := scalar (Value.int k) (fun _ => rfl)
def bool : Kd Bool := scalar Value.bool (fun _ => rfl)
def slice {α : Type} (e : Nat) (d : Kd α) : Kd (List α) where
  sz := 1
  E := e :: d.E
  K := fun w xs cs => ∃ A c, cs = [.slice A xs.length c] ∧ xs.length ≤ c ∧ d.C w A xs.length xs
  M := fun w base ok xs cs => ∃ v, cs = [v] ∧ d.R e w base ok v xs
  K_len := by
    rintro w x cs ⟨A, c, rfl, _⟩
    rfl
  K_one := by
    rintro w x cs ⟨A, c, rfl, _⟩ u hu
    rw [List.mem_singleton.1 hu]
    rfl
  K_below := by
    rintro w w1 x cs hb ⟨A, c, rfl, hl, hr⟩
    exact ⟨A, c, rfl, hl, zb8 hr hb⟩
  K_of_M := by
    rintro w base ok x cs ⟨v, rfl, h⟩
    obtain ⟨A, c, rfl, hl, hr⟩ := R_reads h
    exact ⟨A, c, rfl, hl, hr⟩
  M_mono := by
    rintro w base ok ok' x cs hok ⟨v, rfl, h⟩
    exact ⟨v, rfl, zy h hok⟩
  M_bound := by
    rintro w base ok x cs ⟨v, rfl, h⟩
    exact ⟨v, rfl, R_bound h⟩
  M_move := by
    rintro w w1 base ok x cs hm ⟨v, rfl, h⟩
    exact ⟨v, rfl, R_move h hm⟩
  M_lower := by
    rintro w base base' ok x cs hb ⟨v, rfl, h⟩
    exact ⟨v, rfl, zb2 h hb⟩
def pair {α β : Type} (a : Kd α) (b : Kd β) : Kd (α × β) where
  sz := a.sz + b.sz
  E := a.E ++ b.E
  K := fun w x cs => ∃ c0 c1, cs = c0 ++ c1 ∧ a.K w x.1 c0 ∧ b.K w x.2 c1
  M := fun w base ok x cs => ∃ c0 c1, cs = c0 ++ c1 ∧ a.M w base ok x.1 c0 ∧ b.M w base ok x.2 c1
  K_len := by
    rintro w x cs ⟨c0, c1, rfl, h0, h1⟩
    rw [List.length_append, a.K_len h0, b.K_len h1]
  K_one := by
    rintro w x cs ⟨c0, c1, rfl, h0, h1⟩ u hu
    rcases List.mem_append.1 hu with hu | hu
    · exact a.K_one h0 u hu
    · exact b.K_one h1 u hu
  K_below := by
    rintro w w1 x cs hb ⟨c0, c1, rfl, h0, h1⟩
    exact ⟨c0, c1, rfl, a.K_below hb h0, b.K_below hb h1⟩
  K_of_M := by
    rintro w base ok x cs ⟨c0, c1, rfl, h0, h1⟩
    exact ⟨c0, c1, rfl, a.K_of_M h0, b.K_of_M h1⟩
  M_mono := by
    rintro w base ok ok' x cs hok ⟨c0, c1, rfl, h0, h1⟩
    exact ⟨c0, c1, rfl, a.M_mono hok h0, b.M_mono hok h1⟩
  M_bound := by
    rintro w base ok x cs ⟨c0, c1, rfl, h0, h1⟩
    refine ⟨c0, c1, rfl, a.M_mono ?_ (a.M_bound h0), b.M_mono ?_ (b.M_bound h1)⟩
    · rintro k ⟨h2, h3, h4, q, hq, hc⟩
      exact ⟨h2, h3, h4, q, List.mem_append_left _ hq, hc⟩
    · rintro k ⟨h2, h3, h4, q, hq, hc⟩
      exact ⟨h2, h3, h4, q, List.mem_append_right _ hq, hc⟩
  M_move := by
    rintro w w1 base ok x cs hm ⟨c0, c1, rfl, h0, h1⟩
    exact ⟨c0, c1, rfl, a.M_move hm h0, b.M_move hm h1⟩
  M_lower := by
    rintro w base base' ok x cs hb ⟨c0, c1, rfl, h0, h1⟩
    exact ⟨c0, c1, rfl, a.M_lower hb h0, b.M_lower hb h1⟩
def iso {α β : Type} (d : Kd α) (f : β → α) : Kd β where
  sz := d.sz
  E := d.E
  K := fun w x cs => d.K w (f x) cs
  M := fun w base ok x cs => d.M w base ok (f x) cs
  K_len := d.K_len
  K_one := d.K_one
  K_below := d.K_below
  K_of_M := d.K_of_M
  M_mono := d.M_mono
  M_bound := d.M_bound
  M_move := d.M_move
  M_lower := d.M_lower
def bot {α : Type} (sz : Nat) (E : List Nat) : Kd α where
  sz := sz
  E := E
  K := fun _ _ _ => False
  M := fun _ _ _ _ _ => False
  K_len := fun h => h.elim
  K_one := fun h => h.elim
  K_below := fun _ h => h
  K_of_M := fun h => h
  M_mono := fun _ h => h
  M_bound := fun h => h
  M_move := fun _ h => h
  M_lower := fun _ h => h
def upto {α : Type} (F : Kd α → Kd α) (sz : Nat) (E : List Nat) : Nat → Kd α
  | 0 => bot sz E
  | n + 1 => F (upto F sz E n)
theorem C_get {α : Type} {d : Kd α} {w : World} {A : Option Addr} {n : Nat} {xs : List α} (h : d.C w A n xs) (z : α) (i : Int) (h0 : 0 ≤ i) (h1 : i < n) :
    ∃ ad c, A = some ad ∧ c.length = d.sz ∧ d.K w (xs.getD i.toNat z) c ∧ ∀ j u, c[j]? = some u → w.cell? (ad.add (i.toNat * d.sz + j)) = some u := ReadsRow.get_ h z i h0 h1
theorem R_appended {α : Type} {d : Kd α} {e base : Nat} {ok okp : Nat → Prop} {W w1 : World} {v v1 : Value} {xs : List α} {p : α} {inner cs : List Value} (h0 : ∀ k, v.ownBlock = some k → ok k) (hr : Reps (d.M W base (fun k => ok k ∧ some k ≠ v.ownBlock)) d.sz xs inner) (hp : d.M W base okp p cs) (hokp : ∀ k, okp k → ok k ∧ some k ≠ v.ownBlock) (hfresh : ∀ k, W.heap.size ≤ k → ok k)
    (hown : w1.ownsRow base e d.sz v1 (xs.length + 1) (inner ++ cs)) (hg : W.grownBy w1 v.ownBlock) (hat : v1.ownBlock = v.ownBlock ∨ ∃ b, v1.ownBlock = some b ∧ W.heap.size ≤ b) : d.R e w1 base ok v1 (xs ++ [p]) := by
  have hne : ∀ k, some k ≠ v.ownBlock → k < W.heap.size → some k ≠ v1.ownBlock := by
    intro k hk hlt
    rcases hat with hat | ⟨b, hb, hle⟩
    · rw [hat]; exact hk
    · rw [hb]
      intro he
      injection he with he
      omega
  have step : ∀ {q : α} {c : List Value} {o : Nat → Prop}, d.M W base o q c → (∀ k, o k → ok k ∧ some k ≠ v.ownBlock) → d.M w1 base (fun k => ok k ∧ some k ≠ v1.ownBlock) q c := by
    intro q c o hq ho
    have h1 := d.M_move (w1 := w1) (fun k hk => hg.block k hk.2.2.1 (ho k hk.1).2) (d.M_bound hq)
    exact d.M_mono (fun k hk => ⟨(ho k hk.1).1, hne k (ho k hk.1).2 hk.2.2.1⟩) h1
  refine ⟨fun k hk => ?_, inner ++ cs, by rw [List.length_append, List.length_singleton]; exact hown, ?_⟩
  · rcases hat with hat | ⟨b, hb, hle⟩
    · exact h0 k (hat ▸ hk)
    · rw [hb] at hk
      injection hk with hk
      exact hfresh k (by omega)
  · exact (hr.imp_ (fun _ _ hq => step hq (fun _ hk => hk))).snoc (step hp hokp) (d.K_len (d.K_of_M hp))
section
variable {P : Program} {ops : Array Oper} {rest : List Oper} {o : Oper} {a : Act} {Q : Exit → Act → World → Prop} {α : Type}
theorem zdg (d : Kd α) {w0 W : World} (base : Nat) (hgd : o.guard = none) (s x : Operand) (t e : TypeId) (z : Value) (bytes : Nat)
    (ho : o.op = .call { callee := .builtin .append, args := #[s, x], argTypes := #[t, t] })
    (ht : P.underlying t = some (.slice e)) (hinfo : (P.info? e).map (fun i => (i.zero, i.size, i.bytes)) = some (some z, d.sz, bytes)) (hz : z.cells.size = d.sz) (hs0 : 0 < d.sz) (hb0 : 0 < bytes)
    (v : Value) (xs : List α) (p : α) (cs : List Value) (ok okp : Nat → Prop) (hs : a.eval s = v) (hx : a.eval x = .slice (some ⟨W.heap.size, 0, none⟩) 1 1) (hp : d.M W base okp p cs) (hokp : ∀ k, okp k → ok k ∧ some k ≠ v.ownBlock) (hfresh : ∀ k, W.heap.size ≤ k → ok k)
    (HO : d.R e W base ok v xs) (HB : Below base w0 W) (hbase : base ≤ W.heap.size) (hl : (xs.length + 1) * bytes ≤ 140737488355328)
    (h : ∀ v1 w1, d.R e w1 base ok v1 (xs ++ [p]) → Below base w0 w1 → W.grownBy w1 v.ownBlock → (v1.ownBlock = v.ownBlock ∨ ∃ b, v1.ownBlock = some b ∧ W.heap.size ≤ b) → wpList P ops Q rest (a.put o.dst v1) w1) :
    wpList P ops Q (o :: rest) a (W.alloc (.cells cs.toArray e)) := by
  obtain ⟨h0, inner, hown, hr⟩ := HO
  refine print_append_cells base hgd s x t e z d.sz bytes ho ht hinfo hz hs0 hb0 v xs.length inner cs hs hx (d.K_len (d.K_of_M hp)) (d.K_one (d.K_of_M hp)) hown HB hbase hl ?_
  intro v1 w1 hown1 hb1 hg1 hat1
  exact h v1 w1 (R_appended h0 hr hp hokp hfresh hown1 hg1 hat1) hb1 hg1 hat1
end
section
variable {P : Program} {ops : Array Oper} {o : Oper} {a : Act} {Q : Exit → Act → World → Prop} {Kc : Act → World → Prop} {α : Type}
end
theorem reps_scalar {α : Type} {enc : α → Value} (xs : List α) : Reps (fun (x : α) (cs : List Value) => cs = [enc x]) 1 xs (encs enc xs) := by
  refine ⟨by simp [encs], fun j p hj => ?_⟩
  obtain ⟨hl, hp⟩ := List.getElem?_eq_some_iff.1 hj
  have hl' : j < (encs enc xs).length := by rw [encs_length]; exact hl
  rw [Nat.mul_one, List.drop_eq_getElem_cons hl']
  simp [encs, hp]
theorem R_of_own {α : Type} {enc : α → Value} {h1 : ∀ x, (enc x).oneCell' = true} {e : Nat} {w : World} {base : Nat} {ok : Nat → Prop} {v : Value} {xs : List α} (ho : w.ownsRow base e 1 v xs.length (encs enc xs)) (hok : ∀ k, v.ownBlock = some k → ok k) : (scalar enc h1).R e w base ok v xs := ⟨hok, encs enc xs, ho, reps_scalar xs⟩
theorem own_of_R {α : Type} {enc : α → Value} {h1 : ∀ x, (enc x).oneCell' = true} {e : Nat} {w : World} {base : Nat} {ok : Nat → Prop} {v : Value} {xs : List α} (h : (scalar enc h1).R e w base ok v xs) : w.ownsRow base e 1 v xs.length (encs enc xs) := by
  obtain ⟨_, inner, ho, hr⟩ := h
  have : inner = encs enc xs := by
    apply List.ext_getElem?
    intro j
    rcases Nat.lt_or_ge j xs.length with hj | hj
    · have h2 := hr.2 j _ (List.getElem?_eq_getElem hj)
      have hl : j < inner.length := by have := hr.1; simp [scalar] at this; omega
      have h3 : (inner.drop (j * 1)).take 1 = [enc xs[j]] := h2
      rw [Nat.mul_one, List.drop_eq_getElem_cons hl] at h3
      have h4 : inner[j] = enc xs[j] := by
        have h5 := congrArg List.head? h3
        rw [List.take_succ_cons] at h5
        exact Option.some.inj h5
      rw [List.getElem?_eq_getElem hl, h4]
      simp [encs, List.getElem?_eq_getElem hj]
    · have h3 : inner.length = xs.length := by have := hr.1; simp [scalar] at this; omega
      rw [List.getElem?_eq_none (by omega), List.getElem?_eq_none (by rw [encs_length]; omega)]
  rw [← this]
  exact ho
theorem C_of_reads {α : Type} {enc : α → Value} {d : α} {h1 : ∀ x, (enc x).oneCell' = true} {w : World} {A : Option Addr} {n : Nat} {xs : List α} (h : zc4 enc d w A n xs) : (scalar enc h1).C w A n xs := by
  refine ⟨h.1, h.2.1, fun hn => ?_⟩
  obtain ⟨ad, e, hc⟩ := h.2.2 hn
  refine ⟨ad, e, fun j p hj => ⟨[enc p], rfl, rfl, fun i u hu => ?_⟩⟩
  obtain ⟨hl, hp⟩ := List.getElem?_eq_some_iff.1 hj
  have h2 := hc j (by have := h.1; omega)
  rw [List.getD_eq_getElem?_getD, hj] at h2
  cases i with
  | zero =>
    have : enc p = u := by simpa using hu
    subst this
    simpa [scalar] using h2
  | succ i => simp at hu
theorem reads_of_C {α : Type} {enc : α → Value} {d : α} {h1 : ∀ x, (enc x).oneCell' = true} {w : World} {A : Option Addr} {n : Nat} {xs : List α} (h : (scalar enc h1).C w A n xs) : zc4 enc d w A n xs := by
  refine ⟨h.1, h.2.1, fun hn => ?_⟩
  obtain ⟨ad, e, hc⟩ := h.2.2 hn
  refine ⟨ad, e, fun j hj => ?_⟩
  have hl : j < xs.length := by have := h.1; omega
  obtain ⟨c, _, hK, hcell⟩ := hc j _ (List.getElem?_eq_getElem hl)
  have hK' : c = [enc xs[j]] := hK
  subst hK'
  have := hcell 0 _ rfl
  simpa [scalar, List.getD_eq_getElem?_getD, List.getElem?_eq_getElem hl] using this
end Kd
namespace Kd
section
variable {α : Type} {F : Kd α → Kd α} {sz : Nat} {E : List Nat} {hs : ∀ n, (upto F sz E n).sz = sz} {hE : ∀ n q, q ∈ (upto F sz E n).E → q ∈ E}
end
end Kd
namespace Kd
theorem zc2 {α : Type} {d : Kd α} {e base : Nat} {ok : Nat → Prop} {W w1 : World} {u v v1 : Value} {xs : List α} (h : d.R e W base (fun k => ok k ∧ some k ≠ v.ownBlock) u xs) (hg : W.grownBy w1 v.ownBlock) (hat : v1.ownBlock = v.ownBlock ∨ ∃ b, v1.ownBlock = some b ∧ W.heap.size ≤ b) : d.R e w1 base (fun k => ok k ∧ some k ≠ v1.ownBlock) u xs := by
  refine zy (R_move (R_bound h) (fun k hk => hg.block k hk.2.2.1 hk.1.2)) (fun k hk => ⟨hk.1.1, ?_⟩)
  rcases hat with hat | ⟨b, hb, hle⟩
  · rw [hat]; exact hk.1.2
  · rw [hb]
    intro he
    injection he with he
    have := hk.2.2.1
    omega
end Kd
namespace Kd
section
variable {α β : Type} {d : Kd α} {d' : Kd β} {e e' : Nat} {w w1 W : World} {base b b' : Nat} {ok ok' okv oku : Nat → Prop} {v u : Value} {xs : List α} {ys : List β}
theorem zbi (h : d.R e w base ok v xs) (o : Obj) : d.R e (w.alloc o) base ok v xs := zbl h (zbn (Below.refl _ _) o)
theorem zbj (h : d.R e w base ok v xs) : d.R e w.drew base ok v xs := zbl h (below_drew (Below.refl _ _))
theorem zbh (h : d.R e w base ok v xs) (m : Nat) : d.R e (w.drewN m) base ok v xs := zbl h (zbm (Below.refl _ _) m)
theorem C_alloc {A : Option Addr} {n : Nat} (h : d.C w A n xs) (o : Obj) : d.C (w.alloc o) A n xs := zb8 h (zbn (Below.refl _ _) o)
theorem C_drew {A : Option Addr} {n : Nat} (h : d.C w A n xs) : d.C w.drew A n xs := zb8 h (below_drew (Below.refl _ _))
theorem C_drewN {A : Option Addr} {n : Nat} (h : d.C w A n xs) (m : Nat) : d.C (w.drewN m) A n xs := zb8 h (zbm (Below.refl _ _) m)
theorem C_nil (d : Kd α) (w : World) : d.C w none ([] : List α).length [] := ⟨rfl, by simp, fun h => absurd h (Nat.lt_irrefl 0)⟩
theorem C_max {A : Option Addr} {n : Nat} (h : d.C w A n xs) : n ≤ 9223372036854775807 := h.2.1
theorem zbe {A : Option Addr} {n c : Nat} (h : d.R e w base ok (.slice A n c) xs) : n = xs.length ∧ n ≤ c ∧ d.C w A xs.length xs := by
  obtain ⟨A', c', he, hl, hr⟩ := R_reads h
  injection he with h1 h2 h3
  subst h1
  exact ⟨h2, by omega, hr⟩
theorem R_lt (h : d.R e w base ok v xs) : ∀ k, v.ownBlock = some k → k < w.heap.size := by
  obtain ⟨inner, ho⟩ := R_own h
  exact own_lt ho
theorem zch (h : d.R e w base ok v xs) : ∀ k, v.ownBlock = some k → base ≤ k := by
  obtain ⟨inner, ho⟩ := R_own h
  exact own_base ho
theorem zdo (h : d.R e w base ok v xs) (hp : 0 < xs.length) : ∃ g cap, v = .slice (some ⟨g, 0, none⟩) xs.length cap ∧ base ≤ g ∧ g < w.heap.size ∧ ∃ cells, w.heap[g]? = some (.cells cells e (0, 0)) := by
  obtain ⟨inner, ho⟩ := R_own h
  obtain ⟨g, cap, he, hb, hl⟩ := ho.form hp
  obtain ⟨cells, hc⟩ := own_typed ho g (by rw [he]; simp [Value.ownBlock])
  exact ⟨g, cap, he, hb, hl, cells, hc⟩
end
section
variable {w W : World} {A : Option Addr} {n : Nat}
theorem zcn {k : IntKind} {xs : List Int} (h : (Kd.int k).C w A n xs) (i : Int) (h0 : 0 ≤ i) (h1 : i < n) : ∃ ad, A = some ad ∧ w.cell? (ad.add i.toNat) = some (.int k (rd xs i)) :=
  zc4.at_ (reads_of_C (enc := Value.int k) (d := (0 : Int)) (h1 := fun _ => rfl) h) i h0 h1
theorem at_bool {xs : List Bool} (h : Kd.bool.C w A n xs) (i : Int) (h0 : 0 ≤ i) (h1 : i < n) : ∃ ad, A = some ad ∧ w.cell? (ad.add i.toNat) = some (.bool (rdOf false xs i)) :=
  zc4.at_ (reads_of_C (enc := Value.bool) (d := false) (h1 := fun _ => rfl) h) i h0 h1
variable {α : Type} {enc : α → Value} {h1 : ∀ x, (enc x).oneCell' = true} {e base g cap : Nat} {ok : Nat → Prop} {xs : List α}
theorem R_cell (d : α) (h : (scalar enc h1).R e W base ok (.slice (some ⟨g, 0, none⟩) xs.length cap) xs) (i : Int) (h0 : 0 ≤ i) (hi : i < xs.length) : W.cell? ⟨g, i.toNat, none⟩ = some (enc (rdOf d xs i)) ∧ W.frozen? ⟨g, i.toNat, none⟩ = false := own_at_of (own_of_R h) i h0 hi
theorem R_put (h : (scalar enc h1).R e W base ok (.slice (some ⟨g, 0, none⟩) xs.length cap) xs) (i : Int) (x : α) : (scalar enc h1).R e (W.setCell ⟨g, i.toNat, none⟩ (enc x)) base ok (.slice (some ⟨g, 0, none⟩) xs.length cap) (xs.set i.toNat x) ∧ W.grownBy (W.setCell ⟨g, i.toNat, none⟩ (enc x)) (some g) := by
  obtain ⟨ho, hg⟩ := own_store_of (own_of_R h) i x
  exact ⟨R_of_own (by rw [List.length_set]; exact ho) h.1, hg⟩
end
section
variable {P : Program} {ops : Array Oper} {rest : List Oper} {o : Oper} {a : Act} {Q : Exit → Act → World → Prop}
theorem event_run {W w1 : World} {v : Value} (hgd : o.guard = none) (hrun : (execOp a.eval o).run P W = .ok (.value v) w1) (h : wpList P ops Q rest (a.put o.dst v) w1) : wpList P ops Q (o :: rest) a W := by
  refine wpList_plain hgd fun K hK => ?_
  unfold Oper.wp
  rw [hrun]
  exact hK _ _ h
variable {α : Type}
theorem R_lit (d : Kd α) {w0 W : World} (base e : Nat) (hgd : o.guard = none) {N : Tmp} (_hd : o.dst = some N) {xs : List α} {inner : List Value} {ok okp : Nat → Prop}
    (hrun : (execOp a.eval o).run P W = .ok (.value (.slice (some ⟨W.heap.size, 0, none⟩) xs.length xs.length)) (W.alloc (.cells inner.toArray e)))
    (hrep : Reps (d.M W base okp) d.sz xs inner) (hok : ∀ k, okp k → ok k) (hfresh : ok W.heap.size) (HB : Below base w0 W) (hbase : base ≤ W.heap.size) (hm : xs.length ≤ 9223372036854775807)
    (h : ∀ v1 w1, d.R e w1 base ok v1 xs → Below base w0 w1 → W.grownBy w1 none → (∃ b, v1.ownBlock = some b ∧ W.heap.size ≤ b) → wpList P ops Q rest (a.put o.dst v1) w1) : wpList P ops Q (o :: rest) a W := by
  refine event_run hgd hrun (h _ _ ⟨fun k hk => ?_, inner, ?_, ?_⟩ (HB.alloc hbase _) (World.grownBy_alloc W _ none) ⟨W.heap.size, by simp [Value.ownBlock], Nat.le_refl _⟩)
  · have : W.heap.size = k := by simpa [Value.ownBlock] using hk
    subst this
    exact hfresh
  · have h2 := World.ownsRow_lit (base := base) (e := e) (size := d.sz) W inner.toArray xs.length hbase (by simpa [maxLen] using hm) (by simpa using hrep.1)
    simpa using h2
  · refine hrep.imp_ (fun p c hp => d.M_mono (fun k hk => ⟨hok k hk.1, fun he => ?_⟩) (M_below (d.M_bound hp) (zbn (Below.refl _ _) _)))
    have h3 : k = W.heap.size := by simpa [Value.ownBlock] using he
    have := hk.2.2.1
    omega
theorem reps_made {α : Type} {R : α → List Value → Prop} {z : Value} {size : Nat} {z0 : α} (hz : z.cells.size = size) (hs : 0 < size) (h0 : R z0 z.cells.toList) (m : Nat) : Reps R size (List.replicate m z0) (madeCells z.cells (m * size)).toList := by
  refine ⟨by simp [size_madeCells], fun j p hj => ?_⟩
  obtain ⟨hjl, hp⟩ := List.getElem?_eq_some_iff.1 hj
  have hjm : j < m := by simpa using hjl
  have hp' : z0 = p := by simpa using hp
  subst hp'
  have hle : j * size + size ≤ m * size := by rw [← Nat.succ_mul]; exact Nat.mul_le_mul_right _ hjm
  have : ((madeCells z.cells (m * size)).toList.drop (j * size)).take size = z.cells.toList := by
    apply List.ext_getElem
    · simp [size_madeCells, hz]
      omega
    · intro i h1 h2
      have hi : i < size := by rw [Array.length_toList, hz] at h2; exact h2
      have hmod : (j * size + i) % size = i := by
        rw [Nat.mul_comm, Nat.mul_add_mod]
        exact Nat.mod_eq_of_lt hi
      simp [madeCells, hz, hmod]
      rw [getElem!_pos z.cells i (by omega)]
  rw [this]
  exact h0
theorem R_make (d : Kd α) {w0 W : World} (base e : Nat) (hgd : o.guard = none) {N : Tmp} (hd : o.dst = some N) (t : TypeId) (x y : Operand) (ho : o.op = .makeSlice t x y) (n : Int) (hx : a.eval x = .int .i64 n) (hy : a.eval y = .int .i64 n)
    (ht : P.underlying t = some (.slice e)) (z : Value) (bytes : Nat) (hinfo : (P.info? e).map (fun i => (i.zero, i.size, i.bytes)) = some (some z, d.sz, bytes)) (hz : z.cells.size = d.sz) (hs0 : 0 < d.sz) (hb0 : 0 < bytes)
    (z0 : α) {ok okp : Nat → Prop} (hzero : d.M W base okp z0 z.cells.toList) (hok : ∀ k, okp k → ok k) (hfresh : ok W.heap.size) (h0 : 0 ≤ n) (hl : n.toNat * bytes ≤ 281474976710656) (HB : Below base w0 W) (hbase : base ≤ W.heap.size)
    (h : ∀ v1 w1, d.R e w1 base ok v1 (List.replicate n.toNat z0) → Below base w0 w1 → W.grownBy w1 none → (∃ b, v1.ownBlock = some b ∧ W.heap.size ≤ b) → wpList P ops Q rest (a.put o.dst v1) w1) : wpList P ops Q (o :: rest) a W := by
  obtain ⟨m, rfl⟩ := Int.eq_ofNat_of_zero_le h0
  simp only [Int.toNat_natCast] at hl h
  obtain ⟨i0, hi, hzz⟩ := Option.map_eq_some_iff.1 hinfo
  simp only [Prod.mk.injEq] at hzz
  obtain ⟨hz0, hz1, hz2⟩ := hzz
  have hm : m ≤ 281474976710656 := Nat.le_trans (Nat.le_mul_of_pos_right _ hb0) hl
  have hr := run_make (P := P) W t e i0 z ht hi hz0 .i64 .i64 (m : Int) (m : Int) (by omega) (by omega)
    (by
      have h3 : ((i0.bytes * m : Nat) : Int) ≤ 281474976710656 := by rw [hz2, Nat.mul_comm]; omega
      rwa [Int.natCast_mul] at h3) (by omega)
  simp only [Int.toNat_natCast] at hr
  rw [hz1] at hr
  refine R_lit d base e hgd hd (xs := List.replicate m z0) (inner := (madeCells z.cells (m * d.sz)).toList) (okp := okp) (ok := ok) ?_ (reps_made hz hs0 hzero m) hok hfresh HB hbase (by simp; omega) h
  simp [execOp, ho, hx, hy, hr]
end
end Kd
theorem own_take {w : World} {base n m c size : Nat} {e : TypeId} {A : Option Addr} {xs : List Value} (h : w.ownsRow base e size (.slice A n c) n xs) (hm : m ≤ n) : w.ownsRow base e size (.slice A m c) m (xs.take (m * size)) := by
  obtain ⟨h1, h2⟩ := h
  refine ⟨by rw [List.length_take, h1]; exact Nat.min_eq_left (Nat.mul_le_mul_right _ hm), ?_⟩
  rcases h2 with ⟨he, h0⟩ | ⟨g, cap, cur, he, hb, hh, hnc, hcm, hcs, ht⟩
  · injection he with ha _ hc
    subst ha; subst hc
    exact .inl ⟨by rw [show m = 0 by omega], by omega⟩
  · injection he with ha _ hc
    subst ha; subst hc
    refine .inr ⟨g, c, cur, rfl, hb, hh, by omega, hcm, hcs, ?_⟩
    rw [← ht, List.take_take, Nat.min_eq_left (Nat.mul_le_mul_right _ hm)]
section
variable {P : Program}
theorem cut_to (t e : TypeId) (kh : IntKind) {i : TypeInfo} (ht : P.underlying t = some (.slice e)) (hi : P.info? e = some i) (A : Option Addr) (n c : Nat) (j : Int) (h0 : 0 ≤ j) (hm : j ≤ n) (hc : n ≤ c) :
    ∀ W : World, (Instr.slice t (.slice A n c) none (some (.int kh j)) none).run P W = .ok (.slice A j.toNat c) W := by
  intro W
  have hel : P.elem t = e := by simp [Program.elem, ht]
  have hu : P.underlying t = some (.slice (P.elem t)) := by rw [hel]; exact ht
  have ha : (A.map fun x => x.add 0) = A := by cases A <;> simp [Addr.add]
  rw [run_slice_h W t A n c hu kh j h0 (by omega), hel]
  simp [sizeOf, typeInfo, hi, sliced, Result.andThen, ha]
end
def QRow (w : World) (base : Nat) (e : TypeId) (size : Nat) (v : Value) (n : Nat) (xs : List Value) : Prop :=
  xs.length = n * size ∧
  ((n = 0 ∧ ∃ A, v = .slice A 0 0 ∧ ∀ a, A = some a → base ≤ a.block ∧ ∃ cur, w.heap[a.block]? = some (.cells cur e (0, 0))) ∨
   ∃ g off cap cur, v = .slice (some ⟨g, off * size, none⟩) n cap ∧ base ≤ g ∧ w.heap[g]? = some (.cells cur e (0, 0)) ∧ n ≤ cap ∧ off + cap ≤ maxLen ∧ cur.size = (off + cap) * size ∧ (cur.toList.drop (off * size)).take (n * size) = xs)
section
variable {w w1 : World} {base n size : Nat} {e : TypeId} {v : Value} {xs : List Value}
theorem q_of_own (h : w.ownsRow base e size v n xs) : QRow w base e size v n xs := by
  obtain ⟨h1, h2⟩ := h
  refine ⟨h1, ?_⟩
  rcases h2 with ⟨rfl, h0⟩ | ⟨g, cap, cur, rfl, hb, hh, hnc, hcm, hcs, ht⟩
  · exact .inl ⟨h0, none, rfl, fun a ha => by cases ha⟩
  · exact .inr ⟨g, 0, cap, cur, by rw [Nat.zero_mul], hb, hh, hnc, by rw [Nat.zero_add]; exact hcm, by rw [Nat.zero_add]; exact hcs, by rw [Nat.zero_mul, List.drop_zero]; exact ht⟩
theorem add_at (g o j : Nat) : (⟨g, o, none⟩ : Addr).add j = ⟨g, o + j, none⟩ := by unfold Addr.add; split <;> simp_all
theorem setCells_far {g : Nat} : ∀ (vs : List Value) (o : Nat) {w : World} (k : Nat), k ≠ g → (w.setCells g o vs).heap[k]? = w.heap[k]?
  | [], _, _, _, _ => rfl
  | v :: r, o, w, k, hk => by
    rw [World.setCells, setCells_far r (o + 1) k hk]
    exact Below.heap_setCell w ⟨g, o, none⟩ v k hk
theorem setCells_same (g : Nat) : ∀ (vs : List Value) (o : Nat) (w : World), (w.setCells g o vs).os = w.os ∧ (w.setCells g o vs).tape = w.tape ∧ (w.setCells g o vs).output = w.output ∧ (w.setCells g o vs).heap.size = w.heap.size
  | [], _, _ => ⟨rfl, rfl, rfl, rfl⟩
  | v :: r, o, w => by
    obtain ⟨h1, h2, h3, h4⟩ := setCells_same g r (o + 1) (w.setCell ⟨g, o, none⟩ v)
    rw [World.setCells]
    exact ⟨h1, h2, h3, by rw [h4]; simp [World.setCell]⟩
theorem setCells_row {g : Nat} {e : TypeId} : ∀ (vs : List Value) (o : Nat) (w : World) (cur : Array Value), w.heap[g]? = some (.cells cur e (0, 0)) → o + vs.length ≤ cur.size →
    ∃ cur', (w.setCells g o vs).heap[g]? = some (.cells cur' e (0, 0)) ∧ cur'.size = cur.size ∧ cur'.toList = cur.toList.take o ++ vs ++ cur.toList.drop (o + vs.length)
  | [], o, w, cur, h, _ => ⟨cur, h, rfl, by simp⟩
  | v :: r, o, w, cur, h, hl => by
    have h2 := blk_set h o v
    simp only [List.length_cons] at hl
    obtain ⟨cur', h3, h4, h5⟩ := setCells_row r (o + 1) (w.setCell ⟨g, o, none⟩ v) _ h2 (by simp; omega)
    refine ⟨cur', h3, by rw [h4]; simp, ?_⟩
    rw [h5, Array.toList_setIfInBounds]
    have ho : o < cur.toList.length := by rw [Array.length_toList]; omega
    rw [List.take_set, List.drop_set_of_lt (by omega)]
    simp only [List.length_cons]
    rw [show o + 1 + r.length = o + (r.length + 1) by omega]
    congr 1
    rw [List.take_succ_eq_append_getElem ho, List.set_append_right _ _ (by rw [List.length_take]; omega)]
    have ho' : o < cur.size := by omega
    simp [Nat.min_eq_left (Nat.le_of_lt ho')]
end
section
variable {P : Program}
end
namespace Kd
theorem reps_take {α : Type} {R : α → List Value → Prop} {size m : Nat} {ps : List α} {cs : List Value} (h : Reps R size ps cs) (hm : m ≤ ps.length) : Reps R size (ps.take m) (cs.take (m * size)) := by
  refine ⟨by rw [List.length_take, List.length_take, h.1, Nat.min_eq_left hm, Nat.min_eq_left (Nat.mul_le_mul_right _ hm)], fun j p hj => ?_⟩
  rw [List.getElem?_take] at hj
  split at hj
  · rename_i hjm
    have := h.2 j p hj
    have hle : j * size + size ≤ m * size := by rw [← Nat.succ_mul]; exact Nat.mul_le_mul_right _ hjm
    rw [List.drop_take, List.take_take, Nat.min_eq_left (by omega)]
    exact this
  · cases hj
theorem R_take {α : Type} {d : Kd α} {e m n c : Nat} {w : World} {base : Nat} {ok : Nat → Prop} {A : Option Addr} {xs : List α} (h : d.R e w base ok (.slice A n c) xs) (hm : m ≤ xs.length) : d.R e w base ok (.slice A m c) (xs.take m) := by
  obtain ⟨h0, inner, ho, hr⟩ := h
  have hn : n = xs.length := by
    obtain ⟨A', c', he⟩ := own_slice ho
    injection he
  subst hn
  have hb : ∀ x y : Nat, (Value.slice A x c).ownBlock = (Value.slice A y c).ownBlock := by
    intro x y
    cases A <;> rfl
  refine ⟨fun k hk => h0 k (by rw [hb _ m]; exact hk), inner.take (m * d.sz), ?_, ?_⟩
  · rw [List.length_take, Nat.min_eq_left hm]
    exact own_take ho hm
  · rw [hb m xs.length]
    exact reps_take hr hm
def Q {α : Type} (d : Kd α) (e : Nat) (w : World) (base : Nat) (ok : Nat → Prop) (v : Value) (xs : List α) : Prop :=
  (∀ k, v.ownBlock = some k → ok k) ∧ ∃ inner, QRow w base e d.sz v xs.length inner ∧ Reps (d.M w base (fun k => ok k ∧ some k ≠ v.ownBlock)) d.sz xs inner
section
variable {α : Type} {d : Kd α} {e : Nat} {w w1 W : World} {base : Nat} {ok ok' : Nat → Prop} {v : Value} {xs : List α}
theorem Q_of_R (h : d.R e w base ok v xs) : d.Q e w base ok v xs := by
  obtain ⟨h0, inner, ho, hr⟩ := h
  exact ⟨h0, inner, q_of_own ho, hr⟩
theorem Q_nil (d : Kd α) (e : Nat) (w : World) (base : Nat) (ok : Nat → Prop) : d.Q e w base ok (.slice none 0 0) [] := Q_of_R (R_nil d e w base ok)
end
section
variable {P : Program} {ops : Array Oper} {rest : List Oper} {o : Oper} {a : Act} {Q' : Exit → Act → World → Prop} {Kc : Act → World → Prop} {α : Type}
end
end Kd
namespace Kd
section
variable {α : Type} {d : Kd α} {e e' : Nat} {w w1 W : World} {base : Nat} {ok : Nat → Prop} {u v : Value} {xs : List α}
theorem zdw (h : d.R e w base ok v xs) : ∀ k, v.ownBlock = some k → ∃ cells, w.heap[k]? = some (.cells cells e (0, 0)) := by
  obtain ⟨inner, ho⟩ := R_own h
  exact fun k hk => own_typed ho k hk
theorem zdx (h : d.R e W base ok u xs) (hty : ∀ k, v.ownBlock = some k → ∃ cells, W.heap[k]? = some (.cells cells e' (0, 0))) (ht : ∀ q, q ∈ e :: d.E → q ≠ e') (hg : W.grownBy w1 v.ownBlock) : d.R e w1 base ok u xs := by
  refine zy (R_move (R_bound h) (fun k hk => hg.block k hk.2.2.1 (fun he => ?_))) (fun _ hk => hk.1)
  obtain ⟨_, _, _, q, hq, cells, hc⟩ := hk
  obtain ⟨cells', hc'⟩ := hty k he.symm
  rw [hc] at hc'
  injection hc' with hc'
  injection hc' with _ hc'
  exact ht q hq hc'
theorem zcs (hu : d.R e W base ok u xs) (hbase : ∀ k, v.ownBlock = some k → W.heap.size ≤ k) (hb : Below W.heap.size W w1) : d.R e w1 base (fun k => ok k ∧ some k ≠ v.ownBlock) u xs :=
  zy (R_move (R_bound hu) (fun k hk => hb.block k hk.2.2.1)) (fun k hk => ⟨hk.1, fun he => by have := hbase k he.symm; have := hk.2.2.1; omega⟩)
theorem zcm (h : d.R e w1 W.heap.size ok v xs) (hlt : ∀ k, u.ownBlock = some k → k < W.heap.size) : d.R e w1 W.heap.size (fun k => ok k ∧ some k ≠ u.ownBlock) v xs :=
  zy (R_bound h) (fun k hk => ⟨hk.1, fun he => by have := hlt k he.symm; have := hk.2.1; omega⟩)
theorem fresh' (hlt : ∀ k, u.ownBlock = some k → k < W.heap.size) : ∀ k, W.heap.size ≤ k → some k ≠ u.ownBlock := fun k hk he => by have := hlt k he.symm; omega
end
end Kd
theorem seg_get {α : Type} (a seg : List α) (o : Nat) (h : o + seg.length ≤ a.length) (q : Nat) :
    (a.take o ++ seg ++ a.drop (o + seg.length))[q]? = if q < o then a[q]? else if q < o + seg.length then seg[q - o]? else a[q]? := by
  have hl : (a.take o).length = o := by rw [List.length_take]; omega
  rw [List.append_assoc]
  by_cases h1 : q < o
  · rw [if_pos h1, List.getElem?_append_left (by omega), List.getElem?_take, if_pos h1]
  · rw [if_neg h1, List.getElem?_append_right (by omega), hl]
    by_cases h2 : q < o + seg.length
    · rw [if_pos h2, List.getElem?_append_left (by omega)]
    · rw [if_neg h2, List.getElem?_append_right (by omega), List.getElem?_drop]
      congr 1
      omega
namespace Kd
section
variable {α : Type} {d : Kd α} {e base g n cap : Nat} {ok okp : Nat → Prop} {W : World} {xs : List α}
theorem R_elem (h : d.R e W base ok (.slice (some ⟨g, 0, none⟩) n cap) xs) (z : α) (i : Int) (h0 : 0 ≤ i) (h1 : i < n) :
    ∃ c, c.length = d.sz ∧ d.M W base (fun k => ok k ∧ k ≠ g) (xs.getD i.toNat z) c ∧ (∀ j u, c[j]? = some u → W.cell? ⟨g, i.toNat * d.sz + j, none⟩ = some u) ∧ ∀ j, W.frozen? ⟨g, i.toNat * d.sz + j, none⟩ = false := by
  obtain ⟨hn, hnc, hC⟩ := zbe h
  obtain ⟨_, inner, ho, hr⟩ := h
  have hil : i.toNat < xs.length := by omega
  have hseg : i.toNat * d.sz + d.sz ≤ inner.length := by rw [hr.1, ← Nat.succ_mul]; exact Nat.mul_le_mul_right _ hil
  have hM := hr.2 i.toNat _ (List.getElem?_eq_getElem hil)
  refine ⟨(inner.drop (i.toNat * d.sz)).take d.sz, by rw [List.length_take, List.length_drop]; omega, ?_, fun j u hu => ?_, fun j => ?_⟩
  · rw [List.getD_eq_getElem?_getD, List.getElem?_eq_getElem hil]
    exact d.M_mono (fun k hk => ⟨hk.1, fun he => hk.2 (by rw [he]; simp [Value.ownBlock])⟩) hM
  · rw [List.getElem?_take] at hu
    split at hu
    · rw [List.getElem?_drop] at hu
      have := ho.cells (g := g) (by simp [Value.ownBlock]) _ u hu
      rwa [add_plain] at this
    · cases hu
  · obtain ⟨cells, hc⟩ := own_typed ho g (by simp [Value.ownBlock])
    exact zg hc _
theorem R_seg (h : d.R e W base ok (.slice (some ⟨g, 0, none⟩) n cap) xs) (i : Int) (h0 : 0 ≤ i) (h1 : i < n) {c seg : List Value} {j : Nat} (hcl : c.length = d.sz) (hcc : ∀ j u, c[j]? = some u → W.cell? ⟨g, i.toNat * d.sz + j, none⟩ = some u)
    (hj : j + seg.length ≤ d.sz) {x' : α} (hM : d.M W base okp x' (c.take j ++ seg ++ c.drop (j + seg.length))) (hokp : ∀ k, okp k → ok k ∧ k ≠ g) :
    d.R e (W.setCells g (i.toNat * d.sz + j) seg) base ok (.slice (some ⟨g, 0, none⟩) n cap) (xs.set i.toNat x') ∧ W.grownBy (W.setCells g (i.toNat * d.sz + j) seg) (some g) := by
  obtain ⟨hn, hnc, _⟩ := zbe h
  obtain ⟨hok, inner, ho, hr⟩ := h
  have hil : i.toNat < xs.length := by omega
  have hseg : i.toNat * d.sz + d.sz ≤ inner.length := by rw [hr.1, ← Nat.succ_mul]; exact Nat.mul_le_mul_right _ hil
  have hin : inner.length = n * d.sz := by rw [hr.1, hn]
  obtain ⟨ho1, ho2⟩ := ho
  rcases ho2 with ⟨hv, _⟩ | ⟨g', cap', cur, hv, hb, hh, hnc', hcm, hcs, ht⟩
  · cases hv
  injection hv with ha _ hc
  injection ha with ha
  injection ha with hg
  subst hg; subst hc
  have hfit : i.toNat * d.sz + j + seg.length ≤ cur.size := by
    have : n * d.sz ≤ cap * d.sz := Nat.mul_le_mul_right _ hnc
    omega
  obtain ⟨cur', h3, h4, h5⟩ := setCells_row seg (i.toNat * d.sz + j) W cur hh hfit
  obtain ⟨s1, s2, s3, s4⟩ := setCells_same g seg (i.toNat * d.sz + j) W
  have hfar : ∀ k, k ≠ g → (W.setCells g (i.toNat * d.sz + j) seg).heap[k]? = W.heap[k]? := fun k hk => setCells_far seg _ k hk
  have hcin : ∀ q, q < d.sz → c[q]? = inner[i.toNat * d.sz + q]? := by
    intro q hq
    have hq' : q < c.length := by omega
    have h6 := hcc q _ (List.getElem?_eq_getElem hq')
    rw [cell_of_row W g _ cur e (0, 0) hh] at h6
    rw [List.getElem?_eq_getElem hq', ← h6, ← ht, List.getElem?_take, if_pos (by rw [← hn]; omega), Array.getElem?_toList]
  refine ⟨⟨hok, inner.take (i.toNat * d.sz + j) ++ seg ++ inner.drop (i.toNat * d.sz + j + seg.length), ⟨?_, .inr ⟨g, cap, cur', by rw [List.length_set, hn], hb, h3, by rw [List.length_set, ← hn]; exact hnc, hcm, by rw [h4, hcs], ?_⟩⟩, ?_⟩,
    ⟨s1, s2, s3, by rw [s4]; exact Nat.le_refl _, fun k _ hk => hfar k (fun he => hk (by rw [he]))⟩⟩
  · rw [List.length_set]
    simp only [List.length_append, List.length_take, List.length_drop]
    rw [hr.1] at hseg ⊢
    omega
  · rw [List.length_set, ← hn]
    apply List.ext_getElem?
    intro q
    rw [List.getElem?_take, h5]
    rw [seg_get cur.toList seg (i.toNat * d.sz + j) (by rw [Array.length_toList]; omega) q, seg_get inner seg (i.toNat * d.sz + j) (by omega) q]
    have hcur : ∀ q, q < n * d.sz → cur.toList[q]? = inner[q]? := by
      intro q hq
      rw [← ht, List.getElem?_take, if_pos (by rw [← hn]; exact hq)]
    by_cases hq : q < n * d.sz
    · rw [if_pos hq, hcur q hq]
    · rw [if_neg hq, if_neg (by omega), if_neg (by omega), List.getElem?_eq_none (by omega)]
  · refine ⟨?_, fun m p hm => ?_⟩
    · rw [List.length_set]
      simp only [List.length_append, List.length_take, List.length_drop]
      rw [hr.1] at hseg ⊢
      omega
    · have hml : m < xs.length := by
        have := (List.getElem?_eq_some_iff.1 hm).1
        rwa [List.length_set] at this
      have hmfit : m * d.sz + d.sz ≤ inner.length := by rw [hr.1, ← Nat.succ_mul]; exact Nat.mul_le_mul_right _ hml
      have hgo : some g = (Value.slice (some ⟨g, 0, none⟩) n cap).ownBlock := by simp [Value.ownBlock]
      by_cases hmi : m = i.toNat
      · subst hmi
        rw [List.getElem?_set_self (by omega)] at hm
        injection hm with hm
        subst hm
        have hcells : ((inner.take (i.toNat * d.sz + j) ++ seg ++ inner.drop (i.toNat * d.sz + j + seg.length)).drop (i.toNat * d.sz)).take d.sz = c.take j ++ seg ++ c.drop (j + seg.length) := by
          apply List.ext_getElem?
          intro q
          rw [List.getElem?_take, List.getElem?_drop, seg_get inner seg _ (by omega), seg_get c seg j (by omega) q]
          by_cases hq : q < d.sz
          · rw [if_pos hq, hcin q hq]
            by_cases hq1 : q < j
            · rw [if_pos (by omega), if_pos hq1]
            · rw [if_neg (by omega), if_neg hq1]
              by_cases hq2 : q < j + seg.length
              · rw [if_pos (by omega), if_pos hq2]
                congr 1
                omega
              · rw [if_neg (by omega), if_neg hq2]
          · rw [if_neg hq, if_neg (by omega), if_neg (by omega), List.getElem?_eq_none (by omega)]
        rw [hcells]
        refine d.M_mono (fun k hk => ?_) (d.M_move (w1 := W.setCells g (i.toNat * d.sz + j) seg) (fun k hk => hfar k (hokp k hk).2) hM)
        exact ⟨(hokp k hk).1, fun he => (hokp k hk).2 (by rw [← hgo] at he; injection he)⟩
      · rw [List.getElem?_set_ne (by omega)] at hm
        have hold := hr.2 m p hm
        have hcells : ((inner.take (i.toNat * d.sz + j) ++ seg ++ inner.drop (i.toNat * d.sz + j + seg.length)).drop (m * d.sz)).take d.sz = (inner.drop (m * d.sz)).take d.sz := by
          apply List.ext_getElem?
          intro q
          rw [List.getElem?_take, List.getElem?_take, List.getElem?_drop, List.getElem?_drop, seg_get inner seg _ (by omega)]
          by_cases hq : q < d.sz
          · rw [if_pos hq, if_pos hq]
            rcases Nat.lt_or_gt_of_ne hmi with hlt | hgt
            · have : m * d.sz + d.sz ≤ i.toNat * d.sz := by rw [← Nat.succ_mul]; exact Nat.mul_le_mul_right _ hlt
              rw [if_pos (by omega)]
            · have : i.toNat * d.sz + d.sz ≤ m * d.sz := by rw [← Nat.succ_mul]; exact Nat.mul_le_mul_right _ hgt
              rw [if_neg (by omega), if_neg (by omega)]
          · rw [if_neg hq, if_neg hq]
        rw [hcells]
        refine d.M_move (fun k hk => hfar k (fun he => hk.2 (by rw [he]; exact hgo))) hold
end
end Kd
namespace Kd
section
variable {α : Type} {F : Kd α → Kd α} {sz : Nat} {E : List Nat} {hs : ∀ n, (upto F sz E n).sz = sz} {hE : ∀ n q, q ∈ (upto F sz E n).E → q ∈ E}
end
end Kd
namespace Kd
section
variable {P : Program} {ops : Array Oper} {rest : List Oper} {o : Oper} {a : Act} {Q : Exit → Act → World → Prop} {α : Type}
theorem R_copy {enc : α → Value} {h1 : ∀ x, (enc x).oneCell' = true} (d : α) {w0 W : World} (base : Nat) (hgd : o.guard = none) (s x : Operand) (t t' e : TypeId)
    (ho : o.op = .call { callee := .builtin .copy, args := #[s, x], argTypes := #[t, t'] }) (ht : P.underlying t = some (.slice e)) (hinfo : (P.info? e).map (·.size) = some 1)
    (v : Value) (xs ys : List α) (A : Option Addr) (m c : Nat) (ok : Nat → Prop) (hs : a.eval s = v) (hx : a.eval x = .slice A m c)
    (HO : (scalar enc h1).R e W base ok v xs) (HR : (scalar enc h1).C W A m ys) (HB : Below base w0 W) (hbase : base ≤ W.heap.size)
    (h : ∀ w1, (scalar enc h1).R e w1 base ok v (ys.take (min m xs.length) ++ xs.drop (min m xs.length)) → Below base w0 w1 → W.grownBy w1 v.ownBlock → wpList P ops Q rest (a.put o.dst (.int .i64 ((min m xs.length : Nat) : Int))) w1) :
    wpList P ops Q (o :: rest) a W := by
  have hR := reads_of_C (enc := enc) (d := d) (h1 := h1) HR
  have hm : ys.length = m := hR.1
  have hown := own_of_R HO
  have fin : ∀ w1, (Builtin.copy_ #[t, t'] o.type #[v, .slice A m c]).run P W = .ok (goInt ((min m xs.length : Nat) : Int)) w1 → (scalar enc h1).R e w1 base ok v (ys.take (min m xs.length) ++ xs.drop (min m xs.length)) → W.grownBy w1 v.ownBlock → wpList P ops Q (o :: rest) a W := by
    intro w1 hr hrow hg
    refine wpList_plain hgd fun K hK => ?_
    unfold Oper.wp execOp
    simp only [ho, resolve, invoke, builtin, Sem.run_bind, Sem.run_pure, Result.andThen_ok, List.map_toArray, List.map_cons, List.map_nil, hs, hx, hr]
    exact hK _ _ (h w1 hrow (HB.grown hg hbase (own_base hown)) hg)
  rcases Nat.eq_zero_or_pos (min m xs.length) with h0 | hp
  · obtain ⟨A', c', hv⟩ := own_slice hown
    refine fin W ?_ (by rw [h0, List.take_zero, List.drop_zero, List.nil_append]; exact HO) (World.grownBy.refl W _)
    rw [h0, hv]
    exact run_copy_none W t t' o.type e A' A xs.length c' m c ht hinfo h0
  · obtain ⟨ad, hA, hc⟩ := hR.2.2 (by omega)
    rcases hown.2 with ⟨_, hx0⟩ | ⟨g, cap, cur, hv, hb, hh, hnc, hcm, hcs, htake⟩
    · omega
    have hcs1 : cur.size = cap := by omega
    have hsrc : ∀ j u, (encs enc (ys.take (min m xs.length)))[j]? = some u → W.cell? (ad.add j) = some u := by
      intro j u hu
      have hj : j < (ys.take (min m xs.length)).length := by
        rcases Nat.lt_or_ge j (ys.take (min m xs.length)).length with h | h
        · exact h
        · rw [List.getElem?_eq_none (by rw [encs_length]; exact h)] at hu
          cases hu
      have hjm : j < min m xs.length := by rw [List.length_take] at hj; omega
      rw [encs_get (d := d) _ j hj] at hu
      rw [hc j (by omega), ← hu]
      simp [List.getD_eq_getElem?_getD, hjm]
    have hkl : (encs enc (ys.take (min m xs.length))).length = min m xs.length := by rw [encs_length, List.length_take]; omega
    have hr := run_copy_cells (P := P) W t t' o.type e g 0 xs.length cap ad m c (encs enc (ys.take (min m xs.length))) ht hinfo (by rw [hkl]) hsrc
      (fun j hj => by rw [cell_of_row W g _ cur e (0, 0) hh]; simp; omega) (fun j _ => zg hh _) (by intro u hu; simp only [encs, List.mem_map] at hu; obtain ⟨q, _, rfl⟩ := hu; exact h1 q)
    obtain ⟨cur', h3, h4, h5⟩ := setCells_row (encs enc (ys.take (min m xs.length))) 0 W cur hh (by rw [hkl]; omega)
    obtain ⟨s1, s2, s3, s4⟩ := setCells_same g (encs enc (ys.take (min m xs.length))) 0 W
    refine fin _ (by rw [hv, hA, hr, hkl]) (R_of_own ?_ HO.1) ⟨s1, s2, s3, by rw [s4]; exact Nat.le_refl _, fun k _ hk => setCells_far _ _ k (fun he => hk (by rw [hv, he]; simp [Value.ownBlock]))⟩
    have hln : (ys.take (min m xs.length) ++ xs.drop (min m xs.length)).length = xs.length := by
      rw [List.length_append, List.length_take, List.length_drop]
      omega
    rw [hln]
    refine ⟨by rw [encs_length, hln, Nat.mul_one], .inr ⟨g, cap, cur', hv, hb, h3, hnc, hcm, by rw [h4, hcs], ?_⟩⟩
    rw [h5, List.take_zero, List.nil_append, hkl, Nat.zero_add, encs_append, Nat.mul_one]
    rw [List.take_append, hkl, List.take_of_length_le (by rw [hkl]; omega)]
    congr 1
    have htk : cur.toList.take xs.length = encs enc xs := by rw [← htake, Nat.mul_one]
    have hd : encs enc (xs.drop (min m xs.length)) = (encs enc xs).drop (min m xs.length) := by simp [encs, List.map_drop]
    rw [hd, ← htk, List.drop_take]
end
end Kd
namespace Kd
section
variable {P : Program} {ops : Array Oper} {rest : List Oper} {o : Oper} {a : Act} {Q : Exit → Act → World → Prop} {α : Type}
end
end Kd
theorem add_add (a : Addr) (i j : Nat) : (a.add i).add j = a.add (i + j) := by
  unfold Addr.add
  by_cases h1 : i = 0 <;> by_cases h2 : j = 0 <;> simp [h1, h2, Nat.add_assoc]
namespace Kd
section
variable {α : Type} {k : Kd α} {w : World} {A : Option Addr} {xs : List α} {m c : Nat}
end
end Kd
section
variable {P : Program}
end
theorem zbb {w W : World} (h : Below w.heap.size w W) : w.heap.size ≤ W.heap.size := h.size
theorem zo {w W w2 : World} (h : Below w.heap.size w W) (k : Below W.heap.size W w2) : Below w.heap.size w w2 := zb7 h h.size k
theorem zdf.nil (W : World) (k : IntKind) : zdf W k none ([] : List Int).length [] := ⟨rfl, by simp, fun h => absurd h (Nat.lt_irrefl 0)⟩
theorem zdf.drewN {W : World} {k : IntKind} {A : Option Addr} {n : Nat} {xs : List Int} (h : zdf W k A n xs) (m : Nat) : zdf (W.drewN m) k A n xs := h
theorem zb3 {w W : World} {g j : Nat} {v : Value} (h : Below w.heap.size w W) (hg : w.heap.size ≤ g) : Below w.heap.size w (W.setCell ⟨g, j, none⟩ v) := h.setCell hg _
theorem keep_drewN {w W : World} {g : Nat} {row : Option Nat} (h : zi w W g row) (m : Nat) : zi w (W.drewN m) g row := h
theorem keep_alloc {w W : World} {g : Nat} (h : zi w W g none) (o : Obj) : zi w (W.alloc o) g none := h.trans (zi.zcy (World.grownBy_alloc W o none) g) (.inl rfl)
theorem keep_cell {w W : World} {g : Nat} (h : zi w W g none) {a : Addr} {v : Value} (hc : w.cell? a = some v) (hne : a.block ≠ g) : W.cell? a = some v := by
  have := h.2 a.block (World.block_lt_of_cell? w a hc) hne (by simp)
  simpa [World.cell?, this] using hc
theorem add_block (a : Addr) (i : Nat) : (a.add i).block = a.block := by unfold Addr.add; split <;> rfl
theorem zdb {w0 w w1 : World} {B : Nat} (h : Below w0.heap.size w0 w) (hB : w0.heap.size ≤ B) (k : Below B w w1) : Below w0.heap.size w0 w1 :=
  h.trans ⟨k.os, k.tape, k.output, k.size, fun i hi => k.block i (Nat.lt_of_lt_of_le hi hB)⟩
theorem own_base' {w : World} {base : Nat} {e : TypeId} {size n : Nat} {v : Value} {xs : List Value} (h : w.ownsRow base e size v n xs) : v.ownBlock = none ∨ ∃ b, v.ownBlock = some b ∧ base ≤ b := by
  cases hv : v.ownBlock with
  | none => exact .inl rfl
  | some b => exact .inr ⟨b, rfl, own_base h b hv⟩
theorem zb4 {w W : World} {g : Nat} {row : Option Nat} (h : zi w W g row) : w.heap.size ≤ W.heap.size := h.1
theorem zc4.nil {α : Type} (enc : α → Value) (d : α) (W : World) : zc4 enc d W none ([] : List α).length [] := ⟨rfl, by simp, fun h => absurd h (Nat.lt_irrefl 0)⟩
theorem zc4.drewN {α : Type} {enc : α → Value} {d : α} {W : World} {A : Option Addr} {n : Nat} {xs : List α} (h : zc4 enc d W A n xs) (m : Nat) : zc4 enc d (W.drewN m) A n xs := h
theorem cell_far {W : World} {p a : Addr} (h : a.block ≠ p.block) (u : Value) : (W.setCell p u).cell? a = W.cell? a := by
  have := Below.heap_setCell W p u a.block h
  simp [World.cell?, this]
theorem zbu {w : World} {g : Nat} {t : TypeId} {cs cs' : Array Value} (h : w.heap[g]? = some (.cells cs t (0, 0))) (i : Nat) (u : Value) (e : cs.setIfInBounds i u = cs') : (w.setCell ⟨g, i, none⟩ u).heap[g]? = some (.cells cs' t (0, 0)) := e ▸ blk_set h i u
theorem keep_far {w W : World} {g : Nat} {row : Option Nat} (h : zi w W g row) {p : Addr} (hp : w.heap.size ≤ p.block) (u : Value) : zi w (W.setCell p u) g row :=
  ⟨by simpa [World.setCell] using h.1, fun i hi hg hr => (Below.heap_setCell W p u i (by omega)).trans (h.2 i hi hg hr)⟩
theorem zct {W : World} {base n c : Nat} {e : TypeId} {size g : Nat} {ad : Addr} {xs : List Value} (_ : W.ownsRow base e size (.slice (some ad) n c) n xs) (hne : some g ≠ (Value.slice (some ad) n c).ownBlock) : ad.block ≠ g := by
  rintro rfl
  exact hne (by simp [Value.ownBlock])
theorem zb6 {base : Nat} {w W : World} (h : Below base w W) : Below base w W.drew := h.drew
theorem keep_drew {w W : World} {g : Nat} {row : Option Nat} (h : zi w W g row) : zi w W.drew g row := h
namespace Kd
section
variable {α β : Type} {d : Kd α} {d' : Kd β} {e e' base base' n : Nat} {ok ok' : Nat → Prop} {w W w1 W1 : World} {v u : Value} {xs : List α} {ys : List β} {A : Option Addr} {c : Nat}
theorem zct {ad : Addr} {g : Nat} (hne : some g ≠ (Value.slice (some ad) n c).ownBlock) : ad.block ≠ g := by
  rintro rfl
  exact hne (by simp [Value.ownBlock])
theorem zdi (h : d.R e w base ok v xs) : v.ownBlock = none ∨ ∃ k, v.ownBlock = some k ∧ base ≤ k := by
  obtain ⟨inner, ho⟩ := R_own h
  exact own_base' ho
end
section
variable {α : Type} {enc : α → Value} {h1 : ∀ x, (enc x).oneCell' = true} {w W : World} {A : Option Addr} {n g : Nat} {xs : List α}
end
end Kd
namespace Kd
section
variable {α : Type} {d : Kd α} {e base g : Nat} {ok : Nat → Prop} {w w1 : World} {v : Value} {xs : List α} {o : Obj}
theorem R_newB (h : d.R e w1 w.heap.size ok v xs) (hb : w.heap[g]? = some o) : d.R e w1 w.heap.size (fun k => ok k ∧ k ≠ g) v xs := zy (R_bound h) (fun k hk => ⟨hk.1, by have := zcz hb; have := hk.2.1; omega⟩)
end
end Kd
section
variable {P : Program} {ops : Array Oper} {rest : List Oper} {o : Oper} {a : Act} {Q : Exit → Act → World → Prop}
theorem zb1 {W : World} (hgd : o.guard = none) {N : Tmp} (_hd : o.dst = some N) {cs : Array Value} {t : TypeId}
    (hrun : (execOp a.eval o).run P W = .ok (.value (.pointer (some ⟨W.heap.size, 0, none⟩))) (W.alloc (.cells cs t (0, 0))))
    (h : ∀ g, g = W.heap.size → ∀ w1, w1.heap[g]? = some (.cells cs t (0, 0)) → Below W.heap.size W w1 → wpList P ops Q rest (a.put o.dst (.pointer (some ⟨g, 0, none⟩))) w1) : wpList P ops Q (o :: rest) a W :=
  Kd.event_run hgd hrun (h _ rfl _ (blk_new W _) (zbn (Below.refl _ _) _))
end
namespace Kd
section
variable {α : Type} {enc : α → Value} {h1 : ∀ x, (enc x).oneCell' = true} {e base g n cap : Nat} {ok : Nat → Prop} {W : World} {xs : List α}
theorem zcw (d : α) (h : (scalar enc h1).R e W base ok (.slice (some ⟨g, 0, none⟩) n cap) xs) (i : Int) (h0 : 0 ≤ i) (hi : i < n) : W.cell? ⟨g, i.toNat, none⟩ = some (enc (rdOf d xs i)) ∧ W.frozen? ⟨g, i.toNat, none⟩ = false := by
  obtain ⟨rfl, _⟩ := zbe h
  exact R_cell d h i h0 hi
end
end Kd
section
variable {P : Program} {ops : Array Oper} {rest : List Oper} {o : Oper} {a : Act} {Q : Exit → Act → World → Prop}
theorem zcc {W w1 : World} (hgd : o.guard = none) {t : TypeId} {p : Tmp} {v : Operand} (_ho : o.op = .store t (.tmp p) v) (hN : o.dst = none)
    (hrun : (execOp a.eval o).run P W = .ok .skip w1) (h : ∀ w', w' = w1 → wpList P ops Q rest a w') : wpList P ops Q (o :: rest) a W := by
  refine wpList_plain hgd fun K hK => ?_
  unfold Oper.wp
  rw [hrun]
  show K (a.put o.dst undef) w1
  rw [hN]
  exact hK _ _ (h _ rfl)
end
namespace Kd
section
variable {α : Type} {enc : α → Value} {h1 : ∀ x, (enc x).oneCell' = true} {e base g n cap : Nat} {ok : Nat → Prop} {W : World} {xs : List α}
theorem zc1 (h : (scalar enc h1).R e W base ok (.slice (some ⟨g, 0, none⟩) n cap) xs) (i : Int) (x : α) : (scalar enc h1).R e (W.setCell ⟨g, i.toNat, none⟩ (enc x)) base ok (.slice (some ⟨g, 0, none⟩) n cap) (xs.set i.toNat x) ∧ W.grownBy (W.setCell ⟨g, i.toNat, none⟩ (enc x)) (some g) := by
  obtain ⟨rfl, _⟩ := zbe h
  exact R_put h i x
end
end Kd
section
variable {P : Program} {ops : Array Oper} {rest : List Oper} {o : Oper} {a : Act} {Q : Exit → Act → World → Prop} {W : World}
theorem zbp {N : Tmp} (_hN : o.dst = some N) (h : wpList P ops Q (o :: rest) a W) : wpList P ops Q (o :: rest) a W := h
theorem zcf {t : TypeId} {p : Tmp} {v : Operand} (_ho : o.op = .store t (.tmp p) v) (h : wpList P ops Q (o :: rest) a W) : wpList P ops Q (o :: rest) a W := h
end
section
variable {P : Program} {ops : Array Oper} {o : Oper} {a : Act} {Q : Exit → Act → World → Prop} {Kc : Act → World → Prop}
theorem event_step {W w1 : World} {v : Value} (hw : Region.wanted o (yielded ops a.tmps) = true) (hrun : (execOp a.eval o).run P W = .ok (.value v) w1) (h : Kc (a.put o.dst v) w1) : if Region.wanted o (yielded ops a.tmps) = true then Oper.wp P o a W Kc Q else Kc (a.put o.dst undef) W := by
  rw [if_pos hw]
  unfold Oper.wp
  rw [hrun]
  exact h
namespace Kd
variable {α : Type}
theorem zdj (d : Kd α) {w0 W : World} (base e : Nat) (hw : Region.wanted o (yielded ops a.tmps) = true) {N : Tmp} (_hd : o.dst = some N) {xs : List α} {inner : List Value} {ok okp : Nat → Prop}
    (hrun : (execOp a.eval o).run P W = .ok (.value (.slice (some ⟨W.heap.size, 0, none⟩) xs.length xs.length)) (W.alloc (.cells inner.toArray e)))
    (hrep : Reps (d.M W base okp) d.sz xs inner) (hok : ∀ k, okp k → ok k) (hfresh : ok W.heap.size) (HB : Below base w0 W) (hbase : base ≤ W.heap.size) (hm : xs.length ≤ 9223372036854775807)
    (h : ∀ v1 w1, d.R e w1 base ok v1 xs → Below base w0 w1 → W.grownBy w1 none → (∃ b, v1.ownBlock = some b ∧ W.heap.size ≤ b) → Kc (a.put o.dst v1) w1) : if Region.wanted o (yielded ops a.tmps) = true then Oper.wp P o a W Kc Q else Kc (a.put o.dst undef) W := by
  refine event_step hw hrun (h _ _ ⟨fun k hk => ?_, inner, ?_, ?_⟩ (HB.alloc hbase _) (World.grownBy_alloc W _ none) ⟨W.heap.size, by simp [Value.ownBlock], Nat.le_refl _⟩)
  · have : W.heap.size = k := by simpa [Value.ownBlock] using hk
    subst this
    exact hfresh
  · have h2 := World.ownsRow_lit (base := base) (e := e) (size := d.sz) W inner.toArray xs.length hbase (by simpa [maxLen] using hm) (by simpa using hrep.1)
    simpa using h2
  · refine hrep.imp_ (fun p c hp => d.M_mono (fun k hk => ⟨hok k hk.1, fun he => ?_⟩) (M_below (d.M_bound hp) (zbn (Below.refl _ _) _)))
    have h3 : k = W.heap.size := by simpa [Value.ownBlock] using he
    have := hk.2.2.1
    omega
end Kd
end
inductive Vals (P : Program) (tmps : Array Value) (w : World) : List ResultVar → List Value → Prop where
  | nil : Vals P tmps w [] []
  | tmp {u : Tmp} {rs : List ResultVar} {vs : List Value} (h : Vals P tmps w rs vs) : Vals P tmps w (.tmp u :: rs) (tmps.getD u undef :: vs)
  | cell {p : Tmp} {ty : TypeId} {rs : List ResultVar} {vs : List Value} (g : Nat) (t : TypeId) (cs : Array Value) (fr : Nat × Nat) (d : TypeDesc)
      (hp : tmps.getD p undef = .pointer (some ⟨g, 0, none⟩)) (hg : w.heap[g]? = some (.cells cs t fr))
      (hu : P.underlying ty = some d) (hd : (match d with | .struct _ | .array _ _ => true | _ => false) = true) (hi : (P.info? ty).map (·.size) = some cs.size)
      (h : Vals P tmps w rs vs) : Vals P tmps w (.cell p ty :: rs) (.agg cs :: vs)
section
variable {P : Program} {tmps : Array Value} {w : World}
theorem vals_run {rs : List ResultVar} {vs : List Value} (hv : Vals P tmps w rs vs) (f : ResultVar → Sem Value) (hf : ∀ u, f (.tmp u) = pure (tmps.getD u undef)) (hc : ∀ a t, f (.cell a t) = (do loadVar t (← asAddr (tmps.getD a undef)))) :
    (rs.mapM f).run P w = .ok vs w := by
  induction hv with
  | nil => simp
  | tmp h ih => simp [List.mapM_cons, hf, ih]
  | cell g t cs fr d hp hg hu hd hi h ih =>
    rw [List.mapM_cons, hc, hp]
    simp [asAddr, run_loadVar_row w g t _ cs fr d hg hu hd hi, ih]
theorem results_list {fn : Func} {rs : List ResultVar} {vs : List Value} (h : fn.results = rs.toArray) (hl : vs.length ≠ 1) (hv : Vals P tmps w rs vs) : (results fn tmps).run P w = .ok (.tuple vs.toArray) w := by
  unfold results
  rw [h, List.mapM_toArray]
  simp only [Sem.run_bind, Sem.run_map]
  rw [vals_run hv]
  · simp [hl]
  · intro u
    rfl
  · intro a t
    rfl
end
namespace Kd
section
variable {P : Program} {α : Type}
end
section
variable {P : Program} {ops : Array Oper} {rest : List Oper} {o : Oper} {a : Act} {Q : Exit → Act → World → Prop} {Kc : Act → World → Prop} {α : Type}
end
end Kd
end Go.Proofs.YtkdfjomhichkoaaW.PrintWords
namespace Go.Proofs.YtkdfjomhichkoaaW.PrintLast
section
variable {P : Program} {ops : Array Oper} {Q : Exit → Act → World → Prop} {md : Region.Mode} {S : World → Prop} {ds : List Nat}
def Region.reachB (md : Region.Mode) (ops : Array Oper) (i : Nat) : Nat → Nat → Bool
  | 0, _ => false
  | fuel + 1, d => match ops[d]? with
    | some o => o.after.any fun e => Region.binds md e && (e.on == i || Region.reachB md ops i fuel e.on)
    | none => false
def Region.closedB (md : Region.Mode) (ops : Array Oper) (listed : Array Bool) : Bool :=
  (List.range ops.size).all fun j => !listed.getD j false || match ops[j]? with
    | some o => o.after.all fun e => !Region.binds md e || listed.getD e.on false
    | none => true
def Region.lastB (md : Region.Mode) (ops : Array Oper) (listed : Array Bool) (ds : List Nat) (i : Nat) : Bool :=
  ds.all fun d => listed.getD d true || Region.reachB md ops i ops.size d
def zdp (md : Region.Mode) (ops : Array Oper) (listed : Array Bool) : Prop :=
  ∀ j oj, ops[j]? = some oj → listed.getD j false = true → ∀ e ∈ oj.after, Region.binds md e = true → listed.getD e.on false = true
theorem Region.closedB_spec {listed : Array Bool} (h : Region.closedB md ops listed = true) : zdp md ops listed := by
  intro j oj hj hl e he hb
  have hlt : j < ops.size := (Array.getElem?_eq_some_iff.1 hj).1
  have h1 := List.all_eq_true.1 h j (List.mem_range.2 hlt)
  simp only [hl, hj, Bool.not_true, Bool.false_or] at h1
  have h2 := Array.all_eq_true_iff_forall_mem.1 h1 e he
  simpa [hb] using h2
theorem zdp.set {listed : Array Bool} {i : Nat} (h : zdp md ops listed) (hi : i ∈ Region.ready md ops listed) : zdp md ops (listed.setIfInBounds i true) := by
  obtain ⟨_, oi, hoi, hall⟩ := mem_ready.1 hi
  intro j oj hj hl e he hb
  by_cases hij : i = j
  · subst hij
    have : oj = oi := Option.some.inj (hj.symm.trans hoi)
    subst this
    exact getD_set_true (hall e he hb)
  · rw [getD_set_ne false hij] at hl
    exact getD_set_true (h j oj hj hl e he hb)
theorem Region.reach_listed {listed : Array Bool} {i : Nat} (hc : zdp md ops listed) : ∀ (fuel d : Nat), Region.reachB md ops i fuel d = true → listed.getD d false = true → listed.getD i false = true
  | 0, _, h, _ => by simp [Region.reachB] at h
  | fuel + 1, d, h, hl => by
    unfold Region.reachB at h
    cases ho : ops[d]? with
    | none => rw [ho] at h; simp at h
    | some o =>
      rw [ho] at h
      obtain ⟨e, he, h1⟩ := Array.any_eq_true'.1 h
      simp only [Bool.and_eq_true, Bool.or_eq_true, beq_iff_eq] at h1
      have hle := hc d o ho hl e he h1.1
      rcases h1.2 with h2 | h2
      · rw [← h2]; exact hle
      · exact Region.reach_listed hc fuel e.on h2 hle
theorem Region.reach_not_ready {listed : Array Bool} {i d fuel : Nat} (hc : zdp md ops listed) (hr : Region.reachB md ops i fuel d = true) (hun : listed.getD i true = false) : d ∉ Region.ready md ops listed := by
  intro hd
  obtain ⟨_, o, ho, hall⟩ := mem_ready.1 hd
  have hi : listed.getD i false = true := by
    cases fuel with
    | zero => simp [Region.reachB] at hr
    | succ n =>
      unfold Region.reachB at hr
      rw [ho] at hr
      obtain ⟨e, he, h1⟩ := Array.any_eq_true'.1 hr
      simp only [Bool.and_eq_true, Bool.or_eq_true, beq_iff_eq] at h1
      have hle := hall e he h1.1
      rcases h1.2 with h2 | h2
      · rw [← h2]; exact hle
      · exact Region.reach_listed hc n e.on h2 hle
  rcases Nat.lt_or_ge i listed.size with h' | h'
  · simp [h'] at hun hi
    rw [hun] at hi
    cases hi
  · simp [Array.getElem?_eq_none h'] at hun
def zcb (P : Program) (md : Region.Mode) (ops : Array Oper) (Q : Exit → Act → World → Prop) (S : World → Prop) (ds : List Nat) : Nat → Array Bool → Act → World → Prop
  | 0, listed, a, w => Region.ready md ops listed = [] ∧ Q .normal a w
  | fuel + 1, listed, a, w =>
    (Region.ready md ops listed = [] → Q .normal a w) ∧
    ∀ i ∈ Region.ready md ops listed, wpOp P ops Q i (fun a' w' => (i ∉ ds → S w → S w') ∧ zcb P md ops Q S ds fuel (listed.setIfInBounds i true) a' w') a w
theorem wpAny_of_last : ∀ (fuel : Nat) (listed : Array Bool) (a : Act) (w : World), zcb P md ops Q S ds fuel listed a w → wpAny P md ops Q fuel listed a w
  | 0, _, _, _, h => h
  | fuel + 1, _, _, _, h => ⟨h.1, fun i hi => wpOp_mono (fun a' w' h' => wpAny_of_last fuel _ a' w' h'.2) (h.2 i hi)⟩
theorem wpAnyLast_first {i : Nat} {oi : Oper} {v : Value} (hi : ops[i]? = some oi) (hsel : ∀ (j : Nat) (o : Oper) cs b, ops[j]? = some o → o.op ≠ .select cs b)
    (hQ : ∀ c a w, Q (.panic c) (a.put oi.dst v) w → Q (.panic c) a w) (n : Nat) :
    ∀ (fuel : Nat) (listed : Array Bool) (a : Act) (w : World),
      (∀ j oj, ops[j]? = some oj → j ≠ i → listed.getD j true = false → (∀ e ∈ oj.after, Region.binds md e = true → e.on ≠ i) → oi.apart ops oj = true) →
      zdp md ops listed → (∀ d ∈ ds, listed.getD d true = false → Region.reachB md ops i n d = true) →
      i ∈ Region.ready md ops listed → YieldsIf P ops S oi v a → S w →
      zcb P md ops Q S ds fuel (listed.setIfInBounds i true) (a.put oi.dst v) w → zcb P md ops Q S ds (fuel + 1) listed a w := by
  intro fuel
  induction fuel with
  | zero =>
    intro listed a w _ _ _ hr hy hS H
    refine ⟨fun h => (by rw [h] at hr; cases hr), fun j hj => ?_⟩
    by_cases hji : j = i
    · subst hji; exact hy.wpOp hi hS ⟨fun _ h => h, H⟩
    · have := ready_mono hj hji
      rw [H.1] at this
      cases this
  | succ fuel ih =>
    intro listed a w hfree hc hd hr hy hS H
    refine ⟨fun h => (by rw [h] at hr; cases hr), fun j hj => ?_⟩
    by_cases hji : j = i
    · subst hji; exact hy.wpOp hi hS ⟨fun _ h => h, H⟩
    · have h1 := H.2 j (ready_mono hj hji)
      obtain ⟨hjun, oj, hoj, hall⟩ := mem_ready.1 hj
      have hiun := (mem_ready.1 hr).1
      have hnot : ∀ e ∈ oj.after, Region.binds md e = true → e.on ≠ i := fun e he hb heq => by
        have h1 := hall e he hb
        rw [heq] at h1
        rcases Nat.lt_or_ge i listed.size with h' | h'
        · simp [h'] at hiun h1; rw [hiun] at h1; cases h1
        · simp [Array.getElem?_eq_none h'] at h1
      have hjd : j ∉ ds := fun hm => Region.reach_not_ready hc (hd j hm hjun) hiun hj
      have h2 := wpOp_putIf hoj (hfree j oj hoj hji hjun hnot) (fun cs b => hsel i oi cs b hi) (fun cs b => hsel j oj cs b hoj) hQ hy h1
      have hfree' : ∀ k ok, ops[k]? = some ok → k ≠ i → (listed.setIfInBounds j true).getD k true = false →
          (∀ e ∈ ok.after, Region.binds md e = true → e.on ≠ i) → oi.apart ops ok = true := fun k ok hk hki hun hno => by
        refine hfree k ok hk hki ?_ hno
        by_cases hjk : j = k
        · subst hjk; exact hjun
        · rw [getD_set_ne true hjk] at hun; exact hun
      have hd' : ∀ d ∈ ds, (listed.setIfInBounds j true).getD d true = false → Region.reachB md ops i n d = true := fun d hm hun => by
        refine hd d hm ?_
        by_cases hjk : j = d
        · subst hjk; exact hjun
        · rw [getD_set_ne true hjk] at hun; exact hun
      refine wpOp_mono (fun a' w' h3 => ⟨h3.2.1, ih (listed.setIfInBounds j true) a' w' hfree' (hc.set hj) hd' (ready_mono hr (Ne.symm hji)) h3.1 (h3.2.1 hjd hS) ?_⟩) h2
      rw [Array.setIfInBounds_comm _ _ hji]
      exact h3.2.2
theorem wpAnyLast_any {i : Nat} {oi : Oper} {v : Value} (hi : ops[i]? = some oi) (hsel : ∀ (j : Nat) (o : Oper) cs b, ops[j]? = some o → o.op ≠ .select cs b)
    (hQ : ∀ c a w, Q (.panic c) (a.put oi.dst v) w → Q (.panic c) a w) :
    ∀ (fuel : Nat) (listed : Array Bool) (a : Act) (w : World),
      (∀ j oj, ops[j]? = some oj → j ≠ i → listed.getD j true = false → (∀ e ∈ oj.after, Region.binds md e = true → e.on ≠ i) → oi.apart ops oj = true) →
      i ∈ Region.ready md ops listed → Yields P ops oi v a →
      zcb P md ops Q S ds fuel (listed.setIfInBounds i true) (a.put oi.dst v) w → zcb P md ops Q S ds (fuel + 1) listed a w := by
  intro fuel
  induction fuel with
  | zero =>
    intro listed a w _ hr hy H
    refine ⟨fun h => (by rw [h] at hr; cases hr), fun j hj => ?_⟩
    by_cases hji : j = i
    · subst hji; exact (hy.yieldsIf (S := fun _ => True)).wpOp hi trivial ⟨fun _ h => h, H⟩
    · have := ready_mono hj hji
      rw [H.1] at this
      cases this
  | succ fuel ih =>
    intro listed a w hfree hr hy H
    refine ⟨fun h => (by rw [h] at hr; cases hr), fun j hj => ?_⟩
    by_cases hji : j = i
    · subst hji; exact (hy.yieldsIf (S := fun _ => True)).wpOp hi trivial ⟨fun _ h => h, H⟩
    · have h1 := H.2 j (ready_mono hj hji)
      obtain ⟨hjun, oj, hoj, hall⟩ := mem_ready.1 hj
      have hiun := (mem_ready.1 hr).1
      have hnot : ∀ e ∈ oj.after, Region.binds md e = true → e.on ≠ i := fun e he hb heq => by
        have h1 := hall e he hb
        rw [heq] at h1
        rcases Nat.lt_or_ge i listed.size with h' | h'
        · simp [h'] at hiun h1; rw [hiun] at h1; cases h1
        · simp [Array.getElem?_eq_none h'] at h1
      have h2 := wpOp_put hoj (hfree j oj hoj hji hjun hnot) (fun cs b => hsel i oi cs b hi) (fun cs b => hsel j oj cs b hoj) hQ hy h1
      have hfree' : ∀ k ok, ops[k]? = some ok → k ≠ i → (listed.setIfInBounds j true).getD k true = false →
          (∀ e ∈ ok.after, Region.binds md e = true → e.on ≠ i) → oi.apart ops ok = true := fun k ok hk hki hun hno => by
        refine hfree k ok hk hki ?_ hno
        by_cases hjk : j = k
        · subst hjk; exact hjun
        · rw [getD_set_ne true hjk] at hun; exact hun
      refine wpOp_mono (fun a' w' h3 => ⟨h3.2.1, ih (listed.setIfInBounds j true) a' w' hfree' (ready_mono hr (Ne.symm hji)) h3.1 ?_⟩) h2
      rw [Array.setIfInBounds_comm _ _ hji]
      exact h3.2.2
theorem wpAnyLast_take {i : Nat} {oi : Oper} {v : Value} {fuel : Nat} {listed : Array Bool} {a : Act} {w : World} (hi : ops[i]? = some oi)
    (hs : Region.noSelect ops = true) (hf : Region.free md ops listed i = true) (hr : (Region.ready md ops listed).contains i = true)
    (hc : Region.closedB md ops listed = true) (hl : Region.lastB md ops listed ds i = true)
    (hQ : ∀ c a w, Q (.panic c) (a.put oi.dst v) w → Q (.panic c) a w) (hy : YieldsIf P ops S oi v a) (hS : S w)
    (h : zcb P md ops Q S ds fuel (listed.setIfInBounds i true) (a.put oi.dst v) w) : zcb P md ops Q S ds (fuel + 1) listed a w :=
  wpAnyLast_first hi (Region.noSelect_spec hs) hQ ops.size fuel listed a w (Region.free_spec hi hf) (Region.closedB_spec hc)
    (fun d hm hun => by have := List.all_eq_true.1 hl d hm; rw [hun] at this; simpa using this) (by simpa using hr) hy hS h
theorem wpAnyLast_all {rs : List Nat} {fuel : Nat} {listed : Array Bool} {a : Act} {w : World} (hr : Region.ready md ops listed = rs) (hne : rs ≠ [])
    (h : ∀ i ∈ rs, wpOp P ops Q i (fun a' w' => (i ∉ ds → S w → S w') ∧ zcb P md ops Q S ds fuel (listed.setIfInBounds i true) a' w') a w) : zcb P md ops Q S ds (fuel + 1) listed a w :=
  ⟨fun h0 => absurd (hr ▸ h0) hne, hr ▸ h⟩
theorem wpAnyLast_done {listed : Array Bool} {a : Act} {w : World} (hr : Region.ready md ops listed = []) (h : Q .normal a w) :
    ∀ fuel, zcb P md ops Q S ds fuel listed a w
  | 0 => ⟨hr, h⟩
  | _ + 1 => ⟨fun _ => h, by rw [hr]; simp⟩
theorem wp_region_last {id : Nat} {a : Act} {w : World} (hm : P.follows .mixedOrders = true)
    (h : zcb P .any ops Q S ds ops.size (Array.replicate ops.size false) a { w with drawn := w.drawn + 1 }) : (Code.region id ops true).wp P Q a w :=
  wp_region_any hm (wpAny_of_last _ _ _ _ h)
end
section
variable {P : Program} {ops : Array Oper} {Q : Exit → Act → World → Prop} {md : Region.Mode} {S : World → Prop} {ds : List Nat}
def zc3 (P : Program) (md : Region.Mode) (ops : Array Oper) (Q : Exit → Act → World → Prop) (S : World → Prop) (ds : List Nat) (fuel : Nat) (listed : Array Bool) (a : Act) (w : World) (rs : List Nat) : Prop :=
  ∀ i ∈ rs, wpOp P ops Q i (fun a' w' => (i ∉ ds → S w → S w') ∧ zcb P md ops Q S ds fuel (listed.setIfInBounds i true) a' w') a w
theorem zc3.nil {fuel : Nat} {listed : Array Bool} {a : Act} {w : World} : zc3 P md ops Q S ds fuel listed a w [] := fun _ h => by cases h
theorem zc3.cons {fuel : Nat} {listed : Array Bool} {a : Act} {w : World} {i : Nat} {o : Oper} {rs : List Nat} (ho : ops[i]? = some o) (hd : i ∉ ds)
    (h : ∀ K' : Act → World → Prop, Shut (∀ a w, S w → (S w → zcb P md ops Q S ds fuel (listed.setIfInBounds i true) a w) → K' a w) → if Region.wanted o (yielded ops a.tmps) = true then Oper.wp P o a w K' Q else K' (a.put o.dst undef) w)
    (hs : zc3 P md ops Q S ds fuel listed a w rs) : zc3 P md ops Q S ds fuel listed a w (i :: rs) := fun j hj => by
  rcases List.mem_cons.1 hj with rfl | hj
  · exact wpOp_step ho (fun K' hK => h K' (fun a w hS hW => hK a w ⟨fun _ _ => hS, hW hS⟩))
  · exact hs j hj
theorem zc3.cons_last {fuel : Nat} {listed : Array Bool} {a : Act} {w : World} {i : Nat} {o : Oper} {rs : List Nat} (ho : ops[i]? = some o) (hd : i ∈ ds)
    (h : ∀ K' : Act → World → Prop, Shut (∀ a w, zcb P md ops Q S ds fuel (listed.setIfInBounds i true) a w → K' a w) → if Region.wanted o (yielded ops a.tmps) = true then Oper.wp P o a w K' Q else K' (a.put o.dst undef) w)
    (hs : zc3 P md ops Q S ds fuel listed a w rs) : zc3 P md ops Q S ds fuel listed a w (i :: rs) := fun j hj => by
  rcases List.mem_cons.1 hj with rfl | hj
  · exact wpOp_step ho (fun K' hK => h K' (fun a w hW => hK a w ⟨fun hn => absurd hd hn, hW⟩))
  · exact hs j hj
theorem wpAnyLast_ready {rs : List Nat} {fuel : Nat} {listed : Array Bool} {a : Act} {w : World} (hr : Region.ready md ops listed = rs) (hne : rs ≠ [])
    (h : zc3 P md ops Q S ds fuel listed a w rs) : zcb P md ops Q S ds (fuel + 1) listed a w := wpAnyLast_all hr hne h
theorem start_ {id n : Nat} {a : Act} {w : World} (l : Array Bool) (hm : P.follows .mixedOrders = true) (hn : ops.size = n) (hl : Array.replicate n false = l) (hS : S w.drew)
    (h : S w.drew → zcb P .any ops Q S ds n l a w.drew) : (Code.region id ops true).wp P Q a w := by
  subst hn
  subst hl
  exact wp_region_last hm (h hS)
def takeB (md : Region.Mode) (ops : Array Oper) (ds : List Nat) (l l' : Array Bool) (i : Nat) : Bool :=
  Region.noSelect ops && Region.free md ops l i && (Region.ready md ops l).contains i && Region.closedB md ops l && Region.lastB md ops l ds i && (l.setIfInBounds i true == l')
theorem take_ {i : Nat} {N : Option Tmp} {oi : Oper} {v : Value} {fuel : Nat} {l : Array Bool} {a : Act} {w : World} (l' : Array Bool) (hi : ops[i]? = some oi) (hN : oi.dst = N) (hc : takeB md ops ds l l' i = true)
    (hQ : ∀ c a w, Q (.panic c) (a.put oi.dst v) w → Q (.panic c) a w) (hy : YieldsIf P ops S oi v a) (hS : S w) {a' : Act} (ha : a.put N v = a')
    (h : zcb P md ops Q S ds fuel l' a' w) : zcb P md ops Q S ds (fuel + 1) l a w := by
  subst ha
  subst hN
  simp only [takeB, Bool.and_eq_true, beq_iff_eq] at hc
  obtain ⟨⟨⟨⟨⟨h1, h2⟩, h3⟩, h4⟩, h5⟩, h6⟩ := hc
  subst h6
  exact wpAnyLast_take hi h1 h2 h3 h4 h5 hQ hy hS h
def anyB (md : Region.Mode) (ops : Array Oper) (l l' : Array Bool) (i : Nat) : Bool :=
  Region.noSelect ops && Region.free md ops l i && (Region.ready md ops l).contains i && (l.setIfInBounds i true == l')
theorem zce {i : Nat} {N : Option Tmp} {oi : Oper} {v : Value} {fuel : Nat} {l : Array Bool} {a : Act} {w : World} (l' : Array Bool) (hi : ops[i]? = some oi) (hN : oi.dst = N) (hc : anyB md ops l l' i = true)
    (hQ : ∀ c a w, Q (.panic c) (a.put oi.dst v) w → Q (.panic c) a w) (hy : Yields P ops oi v a) {a' : Act} (ha : a.put N v = a')
    (h : zcb P md ops Q S ds fuel l' a' w) : zcb P md ops Q S ds (fuel + 1) l a w := by
  subst ha
  subst hN
  simp only [anyB, Bool.and_eq_true, beq_iff_eq] at hc
  obtain ⟨⟨⟨h1, h2⟩, h3⟩, h6⟩ := hc
  subst h6
  exact wpAnyLast_any hi (Region.noSelect_spec h1) hQ fuel l a w (Region.free_spec hi h2) (by simpa using h3) hy h
def readyB (md : Region.Mode) (ops : Array Oper) (l l' : Array Bool) (i : Nat) : Bool := (Region.ready md ops l == [i]) && (l.setIfInBounds i true == l')
theorem one_ {i : Nat} {N : Option Tmp} {oi : Oper} {fuel : Nat} {l : Array Bool} {a : Act} {w : World} (l' : Array Bool) (hi : ops[i]? = some oi) (hN : oi.dst = N) (hc : readyB md ops l l' i = true) (hd : i ∉ ds)
    (h : ∀ K : Act → World → Prop, Shut (∀ a' w', S w' → (S w' → zcb P md ops Q S ds fuel l' a' w') → K a' w') → if Region.wanted oi (yielded ops a.tmps) = true then Oper.wp P oi a w K Q else K (a.put N undef) w) :
    zcb P md ops Q S ds (fuel + 1) l a w := by
  subst hN
  simp only [readyB, Bool.and_eq_true, beq_iff_eq] at hc
  obtain ⟨h1, h2⟩ := hc
  subst h2
  exact wpAnyLast_ready h1 (by simp) (zc3.cons hi hd (fun K hK => h K hK) zc3.nil)
theorem last_ {i : Nat} {N : Option Tmp} {oi : Oper} {fuel : Nat} {l : Array Bool} {a : Act} {w : World} (l' : Array Bool) (hi : ops[i]? = some oi) (hN : oi.dst = N) (hc : readyB md ops l l' i = true) (hd : i ∈ ds)
    (h : ∀ K : Act → World → Prop, Shut (∀ a' w', zcb P md ops Q S ds fuel l' a' w' → K a' w') → if Region.wanted oi (yielded ops a.tmps) = true then Oper.wp P oi a w K Q else K (a.put N undef) w) :
    zcb P md ops Q S ds (fuel + 1) l a w := by
  subst hN
  simp only [readyB, Bool.and_eq_true, beq_iff_eq] at hc
  obtain ⟨h1, h2⟩ := hc
  subst h2
  exact wpAnyLast_ready h1 (by simp) (zc3.cons_last hi hd (fun K hK => h K hK) zc3.nil)
theorem done_ {l : Array Bool} {a : Act} {w : World} {n : Nat} (hr : (Region.ready md ops l == []) = true) (h : Q .normal a w) : zcb P md ops Q S ds n l a w := wpAnyLast_done (by simpa using hr) h n
theorem two_ {i j : Nat} {Ni Nj : Option Tmp} {oi oj : Oper} {fuel : Nat} {l : Array Bool} {a : Act} {w : World} (li lj : Array Bool) (hi : ops[i]? = some oi) (hj : ops[j]? = some oj) (hNi : oi.dst = Ni) (hNj : oj.dst = Nj)
    (hc : (Region.ready md ops l == [i, j] && l.setIfInBounds i true == li && l.setIfInBounds j true == lj) = true) (hdi : i ∉ ds) (hdj : j ∉ ds)
    (h1 : ∀ K : Act → World → Prop, Shut (∀ a' w', S w' → (S w' → zcb P md ops Q S ds fuel li a' w') → K a' w') → if Region.wanted oi (yielded ops a.tmps) = true then Oper.wp P oi a w K Q else K (a.put Ni undef) w)
    (h2 : ∀ K : Act → World → Prop, Shut (∀ a' w', S w' → (S w' → zcb P md ops Q S ds fuel lj a' w') → K a' w') → if Region.wanted oj (yielded ops a.tmps) = true then Oper.wp P oj a w K Q else K (a.put Nj undef) w) :
    zcb P md ops Q S ds (fuel + 1) l a w := by
  subst hNi
  subst hNj
  simp only [Bool.and_eq_true, beq_iff_eq] at hc
  obtain ⟨⟨h3, h4⟩, h5⟩ := hc
  subst h4
  subst h5
  exact wpAnyLast_ready h3 (by simp) (zc3.cons hi hdi (fun K hK => h1 K hK) (zc3.cons hj hdj (fun K hK => h2 K hK) zc3.nil))
def putAll : Act → List (Tmp × Value) → Act
  | a, [] => a
  | a, (n, v) :: r => putAll (a.put (some n) v) r
theorem join_ {σ : Type} {fuel : Nat} {l : Array Bool} {a : Act} {w : World} (fuel' : Nat) (l' : Array Bool) (ns : σ → List (Tmp × Value)) (F : σ → World → Prop)
    (hcont : ∀ s w', F s w' → zcb P md ops Q S ds fuel' l' (putAll a (ns s)) w')
    (h : (∀ s w', F s w' → zcb P md ops Q S ds fuel' l' (putAll a (ns s)) w') → zcb P md ops Q S ds fuel l a w) : zcb P md ops Q S ds fuel l a w := h hcont
theorem zc6 {fuel : Nat} {l : Array Bool} {a a' : Act} {w : World} (ha : a = a') (h : zcb P md ops Q S ds fuel l a' w) : zcb P md ops Q S ds fuel l a w := by
  subst ha
  exact h
theorem call_ {oi : Oper} {N : Option Tmp} {a : Act} {w : World} {K : Act → World → Prop} (f : FuncId) (args : Array Value) (hw : Region.wanted oi (yielded ops a.tmps) = true) (hN : oi.dst = N) (hrun : (execOp a.eval oi).run P w = .ok (.enter f args) w)
    (h : Calls P f args w fun e w' => ∃ v, e = .returned v ∧ K (a.put N v) w') : if Region.wanted oi (yielded ops a.tmps) = true then Oper.wp P oi a w K Q else K (a.put N undef) w := by
  rw [if_pos hw]
  subst hN
  unfold Oper.wp
  rw [hrun, Oper.upon_enter]
  refine h.mono fun e w'' hh => ?_
  obtain ⟨v, rfl, hk⟩ := hh
  exact hk
theorem enters_ {f : FuncId} {fn : Func} (hf : P.funcs[f]? = some fn) (hname : (fn.name == "runtime.NumGoroutine") = false) (hb : fn.body.isSome = true) (args : Array Value) (w : World) : (callFunc f args).run P w = .ok (.enter f args) w := by
  have h1 : fn.name ≠ "runtime.NumGoroutine" := by simpa using hname
  obtain ⟨c, hc⟩ := Option.isSome_iff_exists.1 hb
  simp [callFunc, hf, h1, hc]
theorem goes_ {oi : Oper} {N : Option Tmp} {a : Act} {w : World} {K : Act → World → Prop} {f : FuncId} {fn : Func} {as_ : Array Operand} {ts : Array TypeId} (hf : P.funcs[f]? = some fn) (hname : (fn.name == "runtime.NumGoroutine") = false) (hb : fn.body.isSome = true) (args : Array Value)
    (hw : Region.wanted oi (yielded ops a.tmps) = true) (hN : oi.dst = N) (hop : oi.op = .call { callee := .value (.func f), args := as_, argTypes := ts }) (hargs : as_.map a.eval = args)
    (h : Calls P f args w fun e w' => ∃ v, e = .returned v ∧ K (a.put N v) w') : if Region.wanted oi (yielded ops a.tmps) = true then Oper.wp P oi a w K Q else K (a.put N undef) w := by
  refine call_ f args hw hN ?_ h
  have he := enters_ hf hname hb args w
  unfold execOp
  simp [hop, resolve, Deferred.ofValue, invoke, Act.eval, hargs, he]
theorem zbv {rest : List Oper} {oi : Oper} {a : Act} {w : World} (N : Option Tmp) (hd : oi.dst = N) (hg : oi.guard = none) {f : FuncId} {fn : Func} {as_ : Array Operand} {ts : Array TypeId} (hf : P.funcs[f]? = some fn) (hname : (fn.name == "runtime.NumGoroutine") = false) (hb : fn.body.isSome = true) (args : Array Value)
    (hop : oi.op = .call { callee := .value (.func f), args := as_, argTypes := ts }) (hargs : as_.map a.eval = args)
    (h : Calls P f args w fun e w' => ∃ v, e = .returned v ∧ wpList P ops Q rest (a.put N v) w') : wpList P ops Q (oi :: rest) a w := by
  refine wpList_plain hg fun K hK => ?_
  have he := enters_ hf hname hb args w
  have hrun : (execOp a.eval oi).run P w = .ok (.enter f args) w := by
    unfold execOp
    simp [hop, resolve, Deferred.ofValue, invoke, Act.eval, hargs, he]
  unfold Oper.wp
  rw [hrun, Oper.upon_enter]
  refine h.mono fun e w'' hh => ?_
  obtain ⟨v, rfl, hk⟩ := hh
  subst hd
  exact hK _ _ hk
theorem value_ {oi : Oper} {N : Option Tmp} {a : Act} {w w1 : World} {v : Value} {K : Act → World → Prop} (hw : Region.wanted oi (yielded ops a.tmps) = true) (hN : oi.dst = N) (hrun : (execOp a.eval oi).run P w = .ok (.value v) w1)
    (h : K (a.put N v) w1) : if Region.wanted oi (yielded ops a.tmps) = true then Oper.wp P oi a w K Q else K (a.put N undef) w := by
  rw [if_pos hw]
  subst hN
  unfold Oper.wp
  rw [hrun]
  exact h
theorem skip_ {oi : Oper} {a : Act} {w w1 : World} {K : Act → World → Prop} (hw : Region.wanted oi (yielded ops a.tmps) = true) (hN : oi.dst = none) (hrun : (execOp a.eval oi).run P w = .ok .skip w1)
    (h : K a w1) : if Region.wanted oi (yielded ops a.tmps) = true then Oper.wp P oi a w K Q else K (a.put none undef) w := by
  rw [if_pos hw]
  unfold Oper.wp
  rw [hrun]
  show K (a.put oi.dst undef) w1
  rw [hN]
  exact h
theorem zbq (n : Int) : IntKind.i64.wrap n = Go.RowKit.wrap64 n := by unfold Go.RowKit.wrap64; exact IntKind.wrap_i64 n
theorem zbt (n : Int) : IntKind.i32.wrap n = Go.RowKit.wrap32 n := by unfold Go.RowKit.wrap32; exact IntKind.wrap_i32 n
end
end Go.Proofs.YtkdfjomhichkoaaW.PrintLast
namespace Go.Proofs.YtkdfjomhichkoaaW.PrintLast
open Go.Proofs.YtkdfjomhichkoaaW.PrintWords (za)
def needsOf (md : Region.Mode) (o : Oper) : List Nat := (o.after.toList.filter (fun e => Region.binds md e)).map (fun e => e.on)
def clashOf (md : Region.Mode) (ops : Array Oper) (i : Nat) (oi : Oper) : List Nat := (List.range ops.size).filter fun j => !(j == i) && match ops[j]? with
  | some oj => !(oj.after.any (fun e => Region.binds md e && e.on == i) || oi.apart ops oj)
  | none => false
def rtab (md : Region.Mode) (ops : Array Oper) : Bool × List (List Nat × List Nat) := (Region.noSelect ops, (List.range ops.size).map fun i => match ops[i]? with
  | some o => (needsOf md o, clashOf md ops i o)
  | none => ([], []))
def readyAt (T : List (List Nat × List Nat)) (l : List Bool) (i : Nat) : Bool := !l.getD i true && match T[i]? with
  | some r => r.1.all (fun j => l.getD j false)
  | none => false
def readyT (T : List (List Nat × List Nat)) (l : List Bool) : List Nat := (List.range T.length).filter (readyAt T l)
def freeT (T : List (List Nat × List Nat)) (l : List Bool) (i : Nat) : Bool := match T[i]? with
  | some r => r.2.all (fun j => l.getD j true)
  | none => false
def closedT (T : List (List Nat × List Nat)) (l : List Bool) : Bool := (List.range T.length).all fun j => !l.getD j false || match T[j]? with
  | some r => r.1.all (fun k => l.getD k false)
  | none => true
def reachT (T : List (List Nat × List Nat)) (i : Nat) : Nat → Nat → Bool
  | 0, _ => false
  | fuel + 1, d => match T[d]? with
    | some r => r.1.any fun j => j == i || reachT T i fuel j
    | none => false
def lastT (T : List (List Nat × List Nat)) (l : List Bool) (ds : List Nat) (i : Nat) : Bool := ds.all fun d => l.getD d true || reachT T i T.length d
section
variable {md : Region.Mode} {ops : Array Oper} {T : Bool × List (List Nat × List Nat)} {l l' li lj lk : Array Bool} {ds : List Nat} {i j k : Nat}
theorem gd (l : Array Bool) (j : Nat) (b : Bool) : l.getD j b = l.toList.getD j b := by simp [Array.getD_eq_getD_getElem?, List.getD_eq_getElem?_getD]
theorem needs_all (o : Oper) (p : Nat → Bool) : o.after.all (fun e => !Region.binds md e || p e.on) = (needsOf md o).all p := by
  unfold needsOf
  rw [← Array.all_toList]
  induction o.after.toList with
  | nil => rfl
  | cons e r ih =>
    rw [List.all_cons, ih, List.filter_cons]
    cases h : Region.binds md e <;> simp
theorem needs_any (o : Oper) (p : Nat → Bool) : o.after.any (fun e => Region.binds md e && p e.on) = (needsOf md o).any p := by
  unfold needsOf
  rw [← Array.any_toList]
  induction o.after.toList with
  | nil => rfl
  | cons e r ih =>
    rw [List.any_cons, ih, List.filter_cons]
    cases h : Region.binds md e <;> simp
theorem rtab_length : (rtab md ops).2.length = ops.size := by simp [rtab]
theorem rtab_some {o : Oper} (h : ops[i]? = some o) : (rtab md ops).2[i]? = some (needsOf md o, clashOf md ops i o) := by
  have hi := (Array.getElem?_eq_some_iff.1 h).1
  unfold rtab
  rw [List.getElem?_map, List.getElem?_range hi, Option.map_some, h]
theorem rtab_none (h : ops[i]? = none) : (rtab md ops).2[i]? = none := by
  have hi : ops.size ≤ i := Array.getElem?_eq_none_iff.1 h
  exact List.getElem?_eq_none (by rw [rtab_length]; exact hi)
theorem readyAt_eq : readyAt (rtab md ops).2 l.toList i = (!l.getD i true && ((ops[i]?).map (·.after.all fun e => !Region.binds md e || l.getD e.on false)).getD false) := by
  unfold readyAt
  rw [gd]
  cases h : ops[i]? with
  | none => rw [rtab_none h]; rfl
  | some o =>
    rw [rtab_some h]
    simp only [Option.map_some, Option.getD_some]
    rw [← needs_all]
    simp only [gd]
theorem ready_eq : Region.ready md ops l = readyT (rtab md ops).2 l.toList := by
  unfold Region.ready readyT
  rw [rtab_length]
  refine List.filter_congr (fun i _ => ?_)
  rw [readyAt_eq]
theorem free_eq : Region.free md ops l i = freeT (rtab md ops).2 l.toList i := by
  unfold Region.free freeT
  cases h : ops[i]? with
  | none => rw [rtab_none h]
  | some oi =>
    rw [rtab_some h]
    simp only [clashOf]
    rw [List.all_filter]
    congr 1
    funext j
    rw [gd]
    cases hj : ops[j]? with
    | none => cases (j == i) <;> cases (l.toList.getD j true) <;> simp
    | some oj =>
      cases (j == i) <;> cases (l.toList.getD j true) <;> cases (oj.after.any (fun e => Region.binds md e && e.on == i) || oi.apart ops oj) <;> simp_all
theorem closed_eq : Region.closedB md ops l = closedT (rtab md ops).2 l.toList := by
  unfold Region.closedB closedT
  rw [rtab_length]
  congr 1
  funext j
  rw [gd]
  cases h : ops[j]? with
  | none => rw [rtab_none h]
  | some o =>
    rw [rtab_some h]
    simp only
    rw [← needs_all]
    simp only [gd]
theorem reach_eq : ∀ (fuel d : Nat), Region.reachB md ops i fuel d = reachT (rtab md ops).2 i fuel d
  | 0, _ => rfl
  | fuel + 1, d => by
    unfold Region.reachB reachT
    cases h : ops[d]? with
    | none => rw [rtab_none h]
    | some o =>
      rw [rtab_some h]
      simp only
      rw [← needs_any]
      congr 1
      funext e
      rw [reach_eq fuel]
theorem last_eq : Region.lastB md ops l ds i = lastT (rtab md ops).2 l.toList ds i := by
  unfold Region.lastB lastT
  rw [rtab_length]
  congr 1
  funext d
  rw [gd, reach_eq]
theorem readyAt_mem (h : readyAt T.2 l.toList i = true) (hT : rtab md ops = T) : (Region.ready md ops l).contains i = true := by
  subst hT
  rw [ready_eq]
  unfold readyT
  rw [List.contains_iff_mem, List.mem_filter, List.mem_range]
  refine ⟨?_, h⟩
  unfold readyAt at h
  rw [Bool.and_eq_true] at h
  cases hq : (rtab md ops).2[i]? with
  | none => rw [hq] at h; simp at h
  | some r => exact (List.getElem?_eq_some_iff.1 hq).1
theorem set_of (h : (l.toList.set i true == l'.toList) = true) : (l.setIfInBounds i true == l') = true := by
  rw [beq_iff_eq] at h ⊢
  apply Array.ext'
  rw [Array.toList_setIfInBounds]
  exact h
def anyT (T : Bool × List (List Nat × List Nat)) (l l' : List Bool) (i : Nat) : Bool := T.1 && freeT T.2 l i && readyAt T.2 l i && (l.set i true == l')
theorem zby (hT : rtab md ops = T) (h : anyT T l.toList l'.toList i = true) : anyB md ops l l' i = true := by
  simp only [anyT, Bool.and_eq_true] at h
  obtain ⟨⟨⟨h1, h2⟩, h3⟩, h4⟩ := h
  have h5 := readyAt_mem h3 hT
  have h6 := set_of h4
  subst hT
  simp only [anyB, Bool.and_eq_true]
  exact ⟨⟨⟨h1, by rw [free_eq]; exact h2⟩, h5⟩, h6⟩
def takeT (T : Bool × List (List Nat × List Nat)) (ds : List Nat) (l l' : List Bool) (i : Nat) : Bool := T.1 && freeT T.2 l i && readyAt T.2 l i && closedT T.2 l && lastT T.2 l ds i && (l.set i true == l')
theorem take_of (hT : rtab md ops = T) (h : takeT T ds l.toList l'.toList i = true) : takeB md ops ds l l' i = true := by
  simp only [takeT, Bool.and_eq_true] at h
  obtain ⟨⟨⟨⟨⟨h1, h2⟩, h3⟩, h4⟩, h5⟩, h6⟩ := h
  have h7 := readyAt_mem h3 hT
  have h8 := set_of h6
  subst hT
  simp only [takeB, Bool.and_eq_true]
  exact ⟨⟨⟨⟨⟨h1, by rw [free_eq]; exact h2⟩, h7⟩, by rw [closed_eq]; exact h4⟩, by rw [last_eq]; exact h5⟩, h8⟩
theorem zc8 (hT : rtab md ops = T) (h : (readyT T.2 l.toList == [i] && l.toList.set i true == l'.toList) = true) : readyB md ops l l' i = true := by
  simp only [Bool.and_eq_true] at h
  obtain ⟨h1, h2⟩ := h
  subst hT
  simp only [readyB, Bool.and_eq_true]
  exact ⟨by rw [ready_eq]; exact h1, set_of h2⟩
theorem two_of (hT : rtab md ops = T) (h : (readyT T.2 l.toList == [i, j] && l.toList.set i true == li.toList && l.toList.set j true == lj.toList) = true) : (Region.ready md ops l == [i, j] && l.setIfInBounds i true == li && l.setIfInBounds j true == lj) = true := by
  simp only [Bool.and_eq_true] at h ⊢
  obtain ⟨⟨h1, h2⟩, h3⟩ := h
  subst hT
  exact ⟨⟨by rw [ready_eq]; exact h1, set_of h2⟩, set_of h3⟩
theorem done_of (hT : rtab md ops = T) (h : (readyT T.2 l.toList == []) = true) : (Region.ready md ops l == []) = true := by
  subst hT
  rw [ready_eq]
  exact h
def upM (B : List Nat) (d : Nat) : List Nat → Nat
  | [] => 0
  | n :: r => (2 ^ n ||| (if n < d then B.getD n 0 else 0)) ||| upM B d r
def waitsOk (T : List (List Nat × List Nat)) (B : List Nat) : Bool := (List.range T.length).all fun d => match T[d]? with
  | some r => (B.getD d 0 ||| upM B d r.1) == upM B d r.1
  | none => false
theorem upM_bit {B : List Nat} {d i : Nat} : ∀ {ns : List Nat}, (upM B d ns).testBit i = true → ∃ n ∈ ns, n = i ∨ (n < d ∧ (B.getD n 0).testBit i = true)
  | [], h => by simp [upM] at h
  | n :: r, h => by
    unfold upM at h
    rw [Nat.testBit_or, Nat.testBit_or, Bool.or_eq_true, Bool.or_eq_true] at h
    rcases h with (h | h) | h
    · rw [Nat.testBit_two_pow] at h
      exact ⟨n, List.mem_cons_self, .inl (by simpa using h)⟩
    · by_cases hn : n < d
      · rw [if_pos hn] at h
        exact ⟨n, List.mem_cons_self, .inr ⟨hn, h⟩⟩
      · rw [if_neg hn] at h
        simp at h
    · obtain ⟨m, hm, h2⟩ := upM_bit h
      exact ⟨m, List.mem_cons_of_mem _ hm, h2⟩
theorem reach_bit {T : List (List Nat × List Nat)} {B : List Nat} (hB : waitsOk T B = true) : ∀ (fuel d : Nat), d < fuel → d < T.length → (B.getD d 0).testBit i = true → reachT T i fuel d = true
  | 0, d, h, _, _ => by omega
  | fuel + 1, d, h, hd, hb => by
    have h1 := List.all_eq_true.1 hB d (List.mem_range.2 hd)
    cases hr : T[d]? with
    | none => rw [hr] at h1; simp at h1
    | some r =>
      rw [hr] at h1
      simp only [beq_iff_eq] at h1
      have h2 : (upM B d r.1).testBit i = true := by rw [← h1, Nat.testBit_or, hb, Bool.true_or]
      obtain ⟨n, hn, h3⟩ := upM_bit h2
      unfold reachT
      rw [hr]
      simp only
      rw [List.any_eq_true]
      refine ⟨n, hn, ?_⟩
      rcases h3 with rfl | ⟨h4, h5⟩
      · simp
      · rw [reach_bit hB fuel n (by omega) (by omega) h5, Bool.or_true]
def lastW (T : List (List Nat × List Nat)) (B : List Nat) (l : List Bool) (ds : List Nat) (i : Nat) : Bool := ds.all fun d => l.getD d true || (decide (d < T.length) && (B.getD d 0).testBit i)
def takeW (T : Bool × List (List Nat × List Nat)) (B : List Nat) (ds : List Nat) (l l' : List Bool) (i : Nat) : Bool := T.1 && freeT T.2 l i && readyAt T.2 l i && closedT T.2 l && lastW T.2 B l ds i && (l.set i true == l')
theorem zc5 {B : List Nat} (hT : rtab md ops = T) (hB : waitsOk T.2 B = true) (h : takeW T B ds l.toList l'.toList i = true) : takeB md ops ds l l' i = true := by
  refine take_of hT ?_
  simp only [takeW, takeT, Bool.and_eq_true] at h ⊢
  obtain ⟨⟨⟨⟨⟨h1, h2⟩, h3⟩, h4⟩, h5⟩, h6⟩ := h
  refine ⟨⟨⟨⟨⟨h1, h2⟩, h3⟩, h4⟩, ?_⟩, h6⟩
  unfold lastW at h5
  unfold lastT
  rw [List.all_eq_true] at h5 ⊢
  intro d hd
  have h7 := h5 d hd
  rw [Bool.or_eq_true, Bool.and_eq_true, decide_eq_true_eq] at h7
  rcases h7 with h7 | ⟨h8, h9⟩
  · rw [h7, Bool.true_or]
  · rw [reach_bit hB _ d h8 h8 h9, Bool.or_true]
theorem zdq {P : Program} {Q : Exit → Act → World → Prop} {S : World → Prop} {n : Nat} {a : Act} {w : World} {B : List Nat} (hT : rtab md ops = T) (hB : waitsOk T.2 B = true) (h : za (rtab md ops = T) → za (waitsOk T.2 B = true) → zcb P md ops Q S ds n l a w) : zcb P md ops Q S ds n l a w := h ⟨hT⟩ ⟨hB⟩
end
def opsIn : Code → Nat → Option (Array Oper)
  | .region id ops _, k => if id == k then some ops else none
  | .seq a b, k => match opsIn a k with
    | some o => some o
    | none => opsIn b k
  | .cond _ a b, k => match opsIn a k with
    | some o => some o
    | none => opsIn b k
  | .block _ c, k => opsIn c k
  | .loop c, k => opsIn c k
  | .scope c, k => opsIn c k
  | .rangeFunc _ _ a b, k => match opsIn a k with
    | some o => some o
    | none => opsIn b k
  | _, _ => none
def opsOf (f : Func) (k : Nat) : Array Oper := ((f.body.bind fun c => opsIn c k)).getD #[]
end Go.Proofs.YtkdfjomhichkoaaW.PrintLast
namespace Go.Proofs.YtkdfjomhichkoaaW.PrintWords
open Go.RowKit
namespace Kd
def tag {α : Type} (f : Nat → Nat) (d : Kd α) : Kd (α × Nat) where
  sz := d.sz
  E := d.E
  K := fun w x cs => d.K w x.1 cs
  M := fun w base ok x cs => d.M w base (fun k => ok k ∧ f k = x.2) x.1 cs
  K_len := fun h => d.K_len h
  K_one := fun h => d.K_one h
  K_below := fun hb h => d.K_below hb h
  K_of_M := fun h => d.K_of_M h
  M_mono := fun hok h => d.M_mono (fun k hk => ⟨hok k hk.1, hk.2⟩) h
  M_bound := fun h => d.M_mono (fun _ hk => ⟨⟨hk.1.1, hk.2⟩, hk.1.2⟩) (d.M_bound h)
  M_move := fun hm h => d.M_move (fun k hk => hm k hk.1) h
  M_lower := fun hb h => d.M_lower hb h
def raw (sz : Nat) : Kd (List Value) where
  sz := sz
  E := []
  K := fun _ x cs => cs = x ∧ cs.length = sz ∧ ∀ u ∈ cs, u.oneCell' = true
  M := fun _ _ _ x cs => cs = x ∧ cs.length = sz ∧ ∀ u ∈ cs, u.oneCell' = true
  K_len := fun h => h.2.1
  K_one := fun h => h.2.2
  K_below := fun _ h => h
  K_of_M := fun h => h
  M_mono := fun _ h => h
  M_bound := fun h => h
  M_move := fun _ h => h
  M_lower := fun _ h => h
def S {α : Type} (d : Kd α) (e : Nat) (w : World) (base : Nat) (ok : Nat → Prop) (v : Value) (xs : List α) : Prop := ∃ f, (tag f d).R e w base ok v xs.zipIdx
section
variable {α β : Type} {d : Kd α} {d' : Kd β} {e e' : Nat} {w w1 W : World} {base b : Nat} {ok ok' okv oku : Nat → Prop} {u v : Value} {xs : List α} {ys : List β}
theorem R_tight (hE : d.E = []) (h : d.R e w base ok v xs) : d.R e w base (fun k => some k = v.ownBlock) v xs := by
  obtain ⟨h0, inner, ho, hr⟩ := h
  refine ⟨fun k hk => hk.symm, inner, ho, hr.imp_ (fun p c hp => d.M_mono (fun k hk => ?_) (d.M_bound hp))⟩
  obtain ⟨_, _, _, q, hq, _⟩ := hk
  rw [hE] at hq
  cases hq
theorem S_nil (d : Kd α) (e : Nat) (w : World) (base : Nat) (ok : Nat → Prop) : S d e w base ok (.slice none 0 0) [] := ⟨fun _ => 0, R_nil _ _ _ _ _⟩
end
section
variable {α β : Type} {d : Kd α} {d' : Kd β} {e e' g : Nat} {w w1 W : World} {base b : Nat} {ok ok' okv oku : Nat → Prop} {u v : Value} {xs : List α} {ys : List β}
end
section
open Classical in
variable {P : Program} {ops : Array Oper} {rest : List Oper} {o : Oper} {a : Act} {Q : Exit → Act → World → Prop} {Kc : Act → World → Prop} {α : Type}
end
def gap {α : Type} (f : Nat → Nat) (d : Kd α) (i : Nat) (c : List Value) : Kd (α × Nat) where
  sz := d.sz
  E := d.E
  K := fun w x cs => (x.2 = i → cs = c ∧ cs.length = d.sz ∧ ∀ u ∈ cs, u.oneCell' = true) ∧ (x.2 ≠ i → d.K w x.1 cs)
  M := fun w base ok x cs => (x.2 = i → cs = c ∧ cs.length = d.sz ∧ ∀ u ∈ cs, u.oneCell' = true) ∧ (x.2 ≠ i → d.M w base (fun k => ok k ∧ f k = x.2) x.1 cs)
  K_len := fun {w x cs} h => by
    by_cases hx : x.2 = i
    · exact (h.1 hx).2.1
    · exact d.K_len (h.2 hx)
  K_one := fun {w x cs} h => by
    by_cases hx : x.2 = i
    · exact (h.1 hx).2.2
    · exact d.K_one (h.2 hx)
  K_below := fun hb h => ⟨h.1, fun hx => d.K_below hb (h.2 hx)⟩
  K_of_M := fun h => ⟨h.1, fun hx => d.K_of_M (h.2 hx)⟩
  M_mono := fun hok h => ⟨h.1, fun hx => d.M_mono (fun k hk => ⟨hok k hk.1, hk.2⟩) (h.2 hx)⟩
  M_bound := fun h => ⟨h.1, fun hx => d.M_mono (fun _ hk => ⟨⟨hk.1.1, hk.2⟩, hk.1.2⟩) (d.M_bound (h.2 hx))⟩
  M_move := fun hm h => ⟨h.1, fun hx => d.M_move (fun k hk => hm k hk.1) (h.2 hx)⟩
  M_lower := fun hb h => ⟨h.1, fun hx => d.M_lower hb (h.2 hx)⟩
def H {α : Type} (d : Kd α) (e : Nat) (w : World) (base : Nat) (ok : Nat → Prop) (v : Value) (xs : List α) (i : Int) (oki : Nat → Prop) (c : List Value) : Prop :=
  (∀ k, oki k → ok k) ∧ ∃ f, (gap f d i.toNat c).R e w base (fun k => ok k ∧ ¬ oki k) v xs.zipIdx
section
variable {α β : Type} {d : Kd α} {e e' g n cap : Nat} {w w1 W : World} {base : Nat} {ok ok' oki okp : Nat → Prop} {u v : Value} {xs : List α} {i : Int} {c : List Value}
open Classical in
end
section
variable {P : Program} {ops : Array Oper} {rest : List Oper} {o : Oper} {a : Act} {Q : Exit → Act → World → Prop} {α : Type}
end
end Kd
namespace Kd
structure Heap {α : Type} (d : Kd α) : Prop where
  K : ∀ {w w1 : World} {x : α} {cs : List Value}, (∀ k, k < w.heap.size → w1.heap[k]? = w.heap[k]?) → d.K w x cs → d.K w1 x cs
theorem cell_heap {w w1 : World} (hb : ∀ k, k < w.heap.size → w1.heap[k]? = w.heap[k]?) {a : Addr} {v : Value} (h : w.cell? a = some v) : w1.cell? a = some v := by
  have := hb a.block (World.block_lt_of_cell? w a h)
  simpa [World.cell?, this] using h
theorem Heap.C {α : Type} {d : Kd α} (hd : Heap d) {w w1 : World} {A : Option Addr} {n : Nat} {xs : List α} (hb : ∀ k, k < w.heap.size → w1.heap[k]? = w.heap[k]?) (h : d.C w A n xs) : d.C w1 A n xs :=
  ⟨h.1, h.2.1, fun hn => by
    obtain ⟨ad, e, hc⟩ := h.2.2 hn
    refine ⟨ad, e, fun j p hj => ?_⟩
    obtain ⟨c, hs, hr, hcell⟩ := hc j p hj
    exact ⟨c, hs, hd.K hb hr, fun i u hu => cell_heap hb (hcell i u hu)⟩⟩
section
variable {α : Type} {d : Kd α} {e base g n c : Nat} {ok : Nat → Prop} {w w0 W : World} {A : Option Addr} {xs : List α}
theorem C_foot_own (h : d.R e W base ok (.slice A n c) xs) (hok : ∀ k, ok k → k ≠ g) : ∀ W', zi W W' g none → d.C W' A n xs := fun W' hk => by
  have h2 := zbe (zbo h hk hok)
  rw [h2.1]
  exact h2.2.2
theorem C_foot_now (h : ∀ W', zi w W' g none → d.C W' A n xs) (hk : zi w W g none) : d.C W A n xs := h W hk
end
end Kd
def Kept (w W : World) (S : Nat → Prop) : Prop := w.heap.size ≤ W.heap.size ∧ ∀ i, i < w.heap.size → ¬ S i → W.heap[i]? = w.heap[i]?
section
variable {w W W2 : World} {S S2 S' : Nat → Prop}
theorem Kept.refl (w : World) (S : Nat → Prop) : Kept w w S := ⟨Nat.le_refl _, fun _ _ _ => rfl⟩
theorem Kept.of_below (h : Below w.heap.size w W) (S : Nat → Prop) : Kept w W S := ⟨h.size, fun i hi _ => h.block i hi⟩
theorem Kept.mono (h : Kept w W S) (hs : ∀ k, S k → S' k) : Kept w W S' := ⟨h.1, fun i hi hn => h.2 i hi (fun hk => hn (hs i hk))⟩
theorem Kept.then_ (h : Kept w W S) (k : Kept W W2 S2) (hs : ∀ k, S2 k → S k ∨ w.heap.size ≤ k) : Kept w W2 S :=
  ⟨Nat.le_trans h.1 k.1, fun i hi hn => (k.2 i (Nat.lt_of_lt_of_le hi h.1) (fun h2 => (hs i h2).elim hn (fun h3 => by omega))).trans (h.2 i hi hn)⟩
theorem Kept.zcy {row : Option Nat} (hg : W.grownBy W2 row) (h : Kept w W S) (hr : ∀ k, row = some k → S k ∨ w.heap.size ≤ k) : Kept w W2 S :=
  h.then_ (S2 := fun k => row = some k) ⟨hg.size, fun i hi hn => hg.block i hi (fun he => hn he.symm)⟩ hr
theorem Kept.below (h : Kept w W S) (hb : Below W.heap.size W W2) : Kept w W2 S := h.then_ (Kept.of_below hb (fun _ => False)) (fun _ hk => hk.elim)
theorem Kept.alloc (h : Kept w W S) (o : Obj) : Kept w (W.alloc o) S := h.below (zbn (Below.refl _ _) o)
theorem Kept.drew (h : Kept w W S) : Kept w W.drew S := h
theorem Kept.drewN (h : Kept w W S) (m : Nat) : Kept w (W.drewN m) S := h
theorem Kept.setCell (h : Kept w W S) {p : Addr} (hp : S p.block ∨ w.heap.size ≤ p.block) (u : Value) : Kept w (W.setCell p u) S :=
  h.then_ (S2 := fun k => k = p.block) ⟨by simp [World.setCell], fun i _ hn => Below.heap_setCell W p u i hn⟩ (fun k hk => by rw [hk]; exact hp)
theorem blk_kept {g : Nat} {o : Obj} (hb : W.heap[g]? = some o) (hk : Kept W W2 S) (hne : ¬ S g) : W2.heap[g]? = some o := (hk.2 g (zcz hb) hne).trans hb
end
namespace Kd
section
variable {α : Type} {d : Kd α} {e base n c : Nat} {ok oki S S2 : Nat → Prop} {w w0 W W1 W2 : World} {v : Value} {A : Option Addr} {xs : List α} {i : Int} {cs : List Value}
end
end Kd
def Foot (P : World → Prop) (W : World) (ok : Nat → Prop) : Prop := ∀ W' : World, (∀ k, ok k → k < W.heap.size → W'.heap[k]? = W.heap[k]?) → P W'
theorem heap_lt {W W1 : World} {k : Nat} (h : W1.heap[k]? = W.heap[k]?) (hlt : k < W.heap.size) : k < W1.heap.size := by
  rw [Array.getElem?_eq_getElem hlt] at h
  exact (Array.getElem?_eq_some_iff.1 h).1
namespace Foot
variable {P Q : World → Prop} {W W1 : World} {ok ok' : Nat → Prop}
theorem now (h : Foot P W ok) : P W := h W (fun _ _ _ => rfl)
theorem mono (h : Foot P W ok) (hok : ∀ k, ok k → ok' k) : Foot P W ok' := fun W' hW => h W' (fun k hk hlt => hW k (hok k hk) hlt)
theorem bound (h : Foot P W ok) : Foot P W (fun k => ok k ∧ k < W.heap.size) := fun W' hW => h W' (fun k hk hlt => hW k ⟨hk, hlt⟩ hlt)
theorem step (h : Foot P W ok) (hm : ∀ k, ok k → k < W.heap.size → W1.heap[k]? = W.heap[k]?) : Foot P W1 ok := fun W' hW => h W' (fun k hk hlt => (hW k hk (heap_lt (hm k hk hlt) hlt)).trans (hm k hk hlt))
theorem old (h : Foot P W ok) (hb : Below W.heap.size W W1) : Foot P W1 (fun k => ok k ∧ k < W.heap.size) := (h.bound).step (fun k _ hlt => hb.block k hlt)
end Foot
namespace Kd
def F {α : Type} (d : Kd α) (W : World) (ok : Nat → Prop) (A : Option Addr) (n : Nat) (xs : List α) : Prop := Foot (fun W => d.C W A n xs) W ok
def FK {α : Type} (d : Kd α) (W : World) (ok : Nat → Prop) (x : α) (c : List Value) : Prop := Foot (fun W => d.K W x c) W ok
section
variable {α β : Type} {d : Kd α} {e base n n' cc g N : Nat} {ok ok' okp S : Nat → Prop} {w w0 w1 W W1 : World} {A A' : Option Addr} {u v v1 : Value} {xs : List α} {xs' : List β} {d' : Kd β} {x : α} {c : List Value}
theorem F_nil (d : Kd α) (W : World) (ok : Nat → Prop) : F d W ok none ([] : List α).length [] := fun W' _ => C_nil d W'
theorem FK_of_M (h : d.M W base ok x c) : FK d W ok x c := fun _ hW => d.K_of_M (M_step h hW)
end
end Kd
namespace Kd
def chunks (sz : Nat) (n : Nat) (inner : List Value) : List (List Value) := (List.range n).map fun j => (inner.drop (j * sz)).take sz
theorem chunks_length (sz n : Nat) (inner : List Value) : (chunks sz n inner).length = n := by simp [chunks]
theorem chunks_at {sz n : Nat} {inner : List Value} {j : Nat} (hj : j < n) : (chunks sz n inner)[j]? = some ((inner.drop (j * sz)).take sz) := by simp [chunks, hj]
theorem chunks_get {sz n : Nat} {inner : List Value} {j : Nat} {c : List Value} (h : (chunks sz n inner)[j]? = some c) : c = (inner.drop (j * sz)).take sz := by
  have hj : j < n := by have := (List.getElem?_eq_some_iff.1 h).1; rwa [chunks_length] at this
  rw [chunks_at hj] at h
  injection h with h
  exact h.symm
theorem reps_raw {α : Type} {Rr : α → List Value → Prop} {sz : Nat} {xs : List α} {inner : List Value} (h : Reps Rr sz xs inner) (hR : ∀ x c, Rr x c → c.length = sz ∧ ∀ u ∈ c, u.oneCell' = true) : Reps (fun x cs => cs = x ∧ cs.length = sz ∧ ∀ u ∈ cs, u.oneCell' = true) sz (chunks sz xs.length inner) inner := by
  refine ⟨by rw [chunks_length]; exact h.1, fun j p hj => ?_⟩
  have hjl : j < xs.length := by have := (List.getElem?_eq_some_iff.1 hj).1; rwa [chunks_length] at this
  have hp := chunks_get hj
  exact ⟨hp.symm, hR _ _ (h.2 j _ (List.getElem?_eq_getElem hjl))⟩
section
variable {α : Type} {d : Kd α} {e base n cc g : Nat} {ok ok' okp S : Nat → Prop} {w w1 W W1 : World} {A : Option Addr} {u v v1 : Value} {xs : List α} {x : α} {c : List Value}
def N {α : Type} (d : Kd α) (e : Nat) (w : World) (base : Nat) (ok : Nat → Prop) (v : Value) (xs : List α) : Prop :=
  (∀ k, v.ownBlock = some k → ok k) ∧ ∃ rows : List (List Value), rows.length = xs.length ∧ (raw d.sz).R e w base (fun k => some k = v.ownBlock) v rows ∧ ∀ (j : Nat) (x : α) (c : List Value), xs[j]? = some x → rows[j]? = some c → FK d w (fun k => ok k ∧ some k ≠ v.ownBlock) x c
theorem R_N (h : d.R e w base ok v xs) : N d e w base ok v xs := by
  obtain ⟨h0, inner, ho, hr⟩ := h
  refine ⟨h0, chunks d.sz xs.length inner, chunks_length _ _ _, ⟨fun k hk => hk.symm, inner, by rw [chunks_length]; exact ho, reps_raw hr (fun x c hp => ⟨d.K_len (d.K_of_M hp), d.K_one (d.K_of_M hp)⟩)⟩, fun j x c hx hc => ?_⟩
  rw [chunks_get hc]
  exact FK_of_M (hr.2 j x hx)
theorem N_nil (d : Kd α) (e : Nat) (w : World) (base : Nat) (ok : Nat → Prop) : N d e w base ok (.slice none 0 0) [] := R_N (R_nil _ _ _ _ _)
end
end Kd
section
variable {w w' u : World} {m B g : Nat} {o : Obj} {row : Option Nat} {S : Nat → Prop} {a : Addr} {v : Value}
theorem below_at (hq : w.drewN m = w') (h : Below B u w) : Below B u w' := by subst hq; exact zbm h m
theorem blk_at (hq : w.drewN m = w') (h : w.heap[g]? = some o) : w'.heap[g]? = some o := by subst hq; exact h
end
namespace Kd
section
variable {α : Type} {d : Kd α} {e base n m : Nat} {ok : Nat → Prop} {w w' : World} {v : Value} {A : Option Addr} {xs : List α}
theorem R_at (hq : w.drewN m = w') (h : d.R e w base ok v xs) : d.R e w' base ok v xs := by subst hq; exact zbh h m
end
end Kd
end Go.Proofs.YtkdfjomhichkoaaW.PrintWords
namespace Go.Proofs.YtkdfjomhichkoaaW.PrintWords
theorem Reps.one {α : Type} {R : α → List Value → Prop} {ps : List α} {cs : List Value} {p : α} {v : Value} (hp : R p [v]) (h : Reps R 1 ps cs) : Reps R 1 (p :: ps) (v :: cs) := by
  refine ⟨by simp [h.1], fun j q hq => ?_⟩
  cases j with
  | zero =>
    simp only [List.getElem?_cons_zero, Option.some.injEq] at hq
    subst hq
    simpa using hp
  | succ j =>
    simp only [List.getElem?_cons_succ] at hq
    have h1 := h.2 j q hq
    simpa [Nat.mul_one] using h1
theorem Reps.front {α : Type} {R : α → List Value → Prop} {size : Nat} {ps : List α} {cs c all : List Value} {p : α} (hp : R p c) (hc : c.length = size) (h : Reps R size ps cs) (ha : c ++ cs = all) : Reps R size (p :: ps) all := by
  subst ha
  refine ⟨by rw [List.length_append, hc, h.1, List.length_cons, Nat.succ_mul, Nat.add_comm], fun j q hq => ?_⟩
  cases j with
  | zero =>
    simp only [List.getElem?_cons_zero, Option.some.injEq] at hq
    subst hq
    rw [Nat.zero_mul, List.drop_zero, List.take_append_of_le_length (by omega), List.take_of_length_le (by omega)]
    exact hp
  | succ j =>
    simp only [List.getElem?_cons_succ] at hq
    have h1 := h.2 j q hq
    rw [Nat.succ_mul, List.drop_append, List.drop_of_length_le (by rw [hc]; exact Nat.le_add_left _ _), List.nil_append, hc, Nat.add_sub_cancel]
    exact h1
theorem Reps.c2 {α : Type} {R : α → List Value → Prop} {ps : List α} {cs : List Value} {p : α} {va vb : Value} (hp : R p [va, vb]) (h : Reps R 2 ps cs) : Reps R 2 (p :: ps) (va :: vb :: cs) := Reps.front hp rfl h rfl
theorem Reps.c3 {α : Type} {R : α → List Value → Prop} {ps : List α} {cs : List Value} {p : α} {va vb vc : Value} (hp : R p [va, vb, vc]) (h : Reps R 3 ps cs) : Reps R 3 (p :: ps) (va :: vb :: vc :: cs) := Reps.front hp rfl h rfl
theorem Reps.c4 {α : Type} {R : α → List Value → Prop} {ps : List α} {cs : List Value} {p : α} {va vb vc vd : Value} (hp : R p [va, vb, vc, vd]) (h : Reps R 4 ps cs) : Reps R 4 (p :: ps) (va :: vb :: vc :: vd :: cs) := Reps.front hp rfl h rfl
theorem Reps.c5 {α : Type} {R : α → List Value → Prop} {ps : List α} {cs : List Value} {p : α} {va vb vc vd ve : Value} (hp : R p [va, vb, vc, vd, ve]) (h : Reps R 5 ps cs) : Reps R 5 (p :: ps) (va :: vb :: vc :: vd :: ve :: cs) := Reps.front hp rfl h rfl
theorem Reps.c6 {α : Type} {R : α → List Value → Prop} {ps : List α} {cs : List Value} {p : α} {va vb vc vd ve vf : Value} (hp : R p [va, vb, vc, vd, ve, vf]) (h : Reps R 6 ps cs) : Reps R 6 (p :: ps) (va :: vb :: vc :: vd :: ve :: vf :: cs) := Reps.front hp rfl h rfl
theorem Reps.c7 {α : Type} {R : α → List Value → Prop} {ps : List α} {cs : List Value} {p : α} {va vb vc vd ve vf vg : Value} (hp : R p [va, vb, vc, vd, ve, vf, vg]) (h : Reps R 7 ps cs) : Reps R 7 (p :: ps) (va :: vb :: vc :: vd :: ve :: vf :: vg :: cs) := Reps.front hp rfl h rfl
theorem Reps.c8 {α : Type} {R : α → List Value → Prop} {ps : List α} {cs : List Value} {p : α} {va vb vc vd ve vf vg vh : Value} (hp : R p [va, vb, vc, vd, ve, vf, vg, vh]) (h : Reps R 8 ps cs) : Reps R 8 (p :: ps) (va :: vb :: vc :: vd :: ve :: vf :: vg :: vh :: cs) := Reps.front hp rfl h rfl
theorem Reps.c9 {α : Type} {R : α → List Value → Prop} {ps : List α} {cs : List Value} {p : α} {va vb vc vd ve vf vg vh vi : Value} (hp : R p [va, vb, vc, vd, ve, vf, vg, vh, vi]) (h : Reps R 9 ps cs) : Reps R 9 (p :: ps) (va :: vb :: vc :: vd :: ve :: vf :: vg :: vh :: vi :: cs) := Reps.front hp rfl h rfl
theorem Reps.c10 {α : Type} {R : α → List Value → Prop} {ps : List α} {cs : List Value} {p : α} {va vb vc vd ve vf vg vh vi vj : Value} (hp : R p [va, vb, vc, vd, ve, vf, vg, vh, vi, vj]) (h : Reps R 10 ps cs) : Reps R 10 (p :: ps) (va :: vb :: vc :: vd :: ve :: vf :: vg :: vh :: vi :: vj :: cs) := Reps.front hp rfl h rfl
end Go.Proofs.YtkdfjomhichkoaaW.PrintWords
namespace Go.Proofs.YtkdfjomhichkoaaW.PrintLast
def up (b : Nat → Bool) (i : Nat) : Nat → Bool := fun j => if j = i then true else b j
section
variable {P : Program} {ops : Array Oper} {Q : Exit → Act → World → Prop} {md : Region.Mode} {T : Bool × List (List Nat × List Nat)} {B : List Nat} {O : List Nat} {b : Nat → Bool} {i j n : Nat}
end
end Go.Proofs.YtkdfjomhichkoaaW.PrintLast
namespace Go.Proofs.YtkdfjomhichkoaaW.PrintWords
open Go.RowKit
section
variable {P : Program} {ops : Array Oper} {rest : List Oper} {o : Oper} {a : Act} {Q : Exit → Act → World → Prop} {W : World}
theorem zcg (hw : Region.wanted o (yielded ops a.tmps) = true) (h : wpList P ops Q ({ o with guard := none } :: rest) a W) : wpList P ops Q (o :: rest) a W := by
  have h1 : Region.wanted { o with guard := none } (yielded ops a.tmps) = true := rfl
  unfold wpList at h ⊢
  rw [if_pos h1] at h
  rw [if_pos hw]
  exact h
end
end Go.Proofs.YtkdfjomhichkoaaW.PrintWords
namespace Go.Proofs.YtkdfjomhichkoaaW.PrintMore
open Go.RowKit Go.Proofs.YtkdfjomhichkoaaW.PrintWords
namespace Kd
open Go.Proofs.YtkdfjomhichkoaaW.PrintWords.Kd
end Kd
namespace Kd
open Go.Proofs.YtkdfjomhichkoaaW.PrintWords.Kd
section
variable {α : Type} {d : Kd α} {e base g N : Nat} {ok : Nat → Prop} {W w1 : World} {u v : Value} {xs : List α}
theorem R_old (hu : d.R e W base ok u xs) (hb : Below W.heap.size W w1) : d.R e w1 base (fun k => ok k ∧ k < W.heap.size) u xs :=
  zy (zbl (R_bound hu) hb) (fun _ h => ⟨h.1, h.2.2.1⟩)
theorem R_oldK (hu : d.R e W base (fun k => ok k ∧ k ≠ g) u xs) (hk : zi W w1 g none) : d.R e w1 base (fun k => ok k ∧ k < W.heap.size) u xs :=
  zy (zbo (R_bound hu) hk (fun _ h => h.1.2)) (fun _ h => ⟨h.1.1, h.2.2.1⟩)
theorem zdn (h : d.R e w1 base (fun k => ok k ∧ k < N) u xs) (hbase : ∀ k, v.ownBlock = some k → N ≤ k) : d.R e w1 base (fun k => (ok k ∧ some k ≠ v.ownBlock) ∧ k < N) u xs :=
  zy h (fun k hk => ⟨⟨hk.1, fun e => Nat.lt_irrefl _ (Nat.lt_of_lt_of_le hk.2 (hbase k e.symm))⟩, hk.2⟩)
end
end Kd
theorem max2_int (k k' : IntKind) (x y : Int) : Builtin.max2 (.int k x) (.int k' y) = pure (.int k (if x < y then y else x)) := by simp only [Builtin.max2, gt_iff_lt]
theorem min2_int (k k' : IntKind) (x y : Int) : Builtin.min2 (.int k x) (.int k' y) = pure (.int k (if y < x then y else x)) := by simp only [Builtin.min2]
theorem max_two (ats : Array TypeId) (ty : TypeId) (a b : Value) : Builtin.max_ ats ty #[a, b] = (Builtin.max2 a b >>= fun s => pure s) := by simp only [Builtin.max_, List.foldlM_cons, List.foldlM_nil]
theorem min_two (ats : Array TypeId) (ty : TypeId) (a b : Value) : Builtin.min_ ats ty #[a, b] = (Builtin.min2 a b >>= fun s => pure s) := by simp only [Builtin.min_, List.foldlM_cons, List.foldlM_nil]
theorem max_three (ats : Array TypeId) (ty : TypeId) (a b c : Value) : Builtin.max_ ats ty #[a, b, c] = (Builtin.max2 a b >>= fun s => Builtin.max2 s c >>= fun s => pure s) := by simp only [Builtin.max_, List.foldlM_cons, List.foldlM_nil]
theorem min_three (ats : Array TypeId) (ty : TypeId) (a b c : Value) : Builtin.min_ ats ty #[a, b, c] = (Builtin.min2 a b >>= fun s => Builtin.min2 s c >>= fun s => pure s) := by simp only [Builtin.min_, List.foldlM_cons, List.foldlM_nil]
theorem max_four (ats : Array TypeId) (ty : TypeId) (a b c d : Value) : Builtin.max_ ats ty #[a, b, c, d] = (Builtin.max2 a b >>= fun s => Builtin.max2 s c >>= fun s => Builtin.max2 s d >>= fun s => pure s) := by simp only [Builtin.max_, List.foldlM_cons, List.foldlM_nil]
theorem min_four (ats : Array TypeId) (ty : TypeId) (a b c d : Value) : Builtin.min_ ats ty #[a, b, c, d] = (Builtin.min2 a b >>= fun s => Builtin.min2 s c >>= fun s => Builtin.min2 s d >>= fun s => pure s) := by simp only [Builtin.min_, List.foldlM_cons, List.foldlM_nil]
end Go.Proofs.YtkdfjomhichkoaaW.PrintMore
namespace Go.Proofs.YtkdfjomhichkoaaW.PrintWords
open Go.RowKit
section
variable {P : Program} {ops : Array Oper} {rest : List Oper} {o : Oper} {a : Act} {Q : Exit → Act → World → Prop} {W : World}
theorem zba {f : FuncId} {as_ : Array Operand} {ts : Array TypeId} (_ho : o.op = .call { callee := .value (.func f), args := as_, argTypes := ts }) (h : wpList P ops Q (o :: rest) a W) : wpList P ops Q (o :: rest) a W := h
theorem zcq {b : Builtin} {xs : Array Operand} {ts : Array TypeId} (_ho : o.op = .call { callee := .builtin b, args := xs, argTypes := ts }) (h : wpList P ops Q (o :: rest) a W) : wpList P ops Q (o :: rest) a W := h
end
def mx (a b : Int) : Int := if a < b then b else a
def mn (a b : Int) : Int := if b < a then b else a
theorem zdv (w : World) (n : Nat) : w.drewN n = w.drewN n := rfl
namespace Kd
section
variable {α : Type} {d : Kd α} {e base : Nat} {ok : Nat → Prop} {W w1 : World} {v : Value} {xs : List α}
end
section
variable {α : Type} {d : Kd α} {e base g n cap : Nat} {ok oki okp : Nat → Prop} {W : World} {xs : List α} {i : Int} {c : List Value}
end
section
variable {α : Type} {d : Kd α} {e base b b' g N : Nat} {ok ok1 : Nat → Prop} {W W2 w1 : World} {u v : Value} {xs ys : List α} {S : Nat → Prop}
theorem R_tight2 (hE : d.E = []) (h : d.R e W base ok v xs) : d.R e W base (fun k => some k = v.ownBlock ∧ ok k) v xs := zy (R_tight hE h) (fun k hk => ⟨hk, h.1 k hk.symm⟩)
end
end Kd
end Go.Proofs.YtkdfjomhichkoaaW.PrintWords
namespace Go.Proofs.YtkdfjomhichkoaaW.PrintWords
open Go.RowKit
namespace Kd
def V {α : Type} (d : Kd α) (_e : Nat) (W : World) (_base : Nat) (ok : Nat → Prop) (v : Value) (xs : List α) : Prop := ∃ A c, v = .slice A xs.length c ∧ xs.length ≤ c ∧ F d W ok A xs.length xs
section
variable {α β : Type} {d : Kd α} {e base base' n m c g N' lo hi : Nat} {ok ok' S : Nat → Prop} {w W w1 : World} {A : Option Addr} {ad : Addr} {u v v1 : Value} {xs : List α}
theorem V_nil (d : Kd α) (e : Nat) (W : World) (base : Nat) (ok : Nat → Prop) : V d e W base ok (.slice none 0 0) [] := ⟨none, 0, rfl, Nat.le_refl _, F_nil d W ok⟩
end
end Kd
end Go.Proofs.YtkdfjomhichkoaaW.PrintWords
namespace Go.Proofs.Ytkdfjomhichkoaa.P
open Go.RowKit Go.Proofs.YtkdfjomhichkoaaW.PrintWords Go.Proofs.YtkdfjomhichkoaaW.PrintLast Go.Proofs.YtkdfjomhichkoaaW.PrintMore
attribute [local go_sem] max2_int min2_int max_two min_two max_three min_three max_four min_four
set_option linter.unusedVariables false
set_option linter.unusedSimpArgs false
def errW : Option Int → Value
 | none => .nilIface
 | some c => .iface 0 (.int .i64 c)
theorem zbc : errW none = .nilIface := rfl
theorem zbd (c : Int) : errW (some c) = .iface 0 (.int .i64 c) := rfl
theorem info3 : (Try.prog.info? 3).map (fun i => (i.zero, i.size, i.bytes)) = some (some (.int .i64 0), 1, 8) := by kernel_rfl
theorem info4 : (Try.prog.info? 4).map (fun i => (i.zero, i.size, i.bytes)) = some (some (.bool false), 1, 1) := by kernel_rfl
theorem info5 : (Try.prog.info? 5).map (fun i => (i.zero, i.size, i.bytes)) = some (some (.int .u8 0), 1, 1) := by kernel_rfl
theorem info34 : (Try.prog.info? 34).map (fun i => (i.zero, i.size, i.bytes)) = some (some (.agg #[(.int .i64 0), (.int .i64 0), (.int .i64 0), (.int .i64 0)]), 4, 32) := by kernel_rfl
theorem info88 : (Try.prog.info? 88).map (fun i => (i.zero, i.size, i.bytes)) = some (some (.agg #[(.int .i64 0), (.int .i64 0), (.int .i64 0)]), 3, 24) := by kernel_rfl
structure S88 where
 f0 : Int
 f1 : Int
 f2 : Int
def z88 : S88 := ⟨(0 : Int), (0 : Int), (0 : Int)⟩
def k88 : Kd S88 := Kd.iso (Kd.pair (Kd.int .i64) (Kd.pair (Kd.int .i64) (Kd.int .i64))) (fun x : S88 => (x.f0, x.f1, x.f2))
theorem k88_open {w : World} {x : S88} {cs : List Value} (h : k88.K w x cs) : cs = [.int .i64 x.f0, .int .i64 x.f1, .int .i64 x.f2] := by
 obtain ⟨_, _, rfl, rfl, ⟨_, _, rfl, rfl, rfl⟩⟩ := h
 exact rfl
theorem k88_mkM (w : World) (base : Nat) (ok : Nat → Prop) (x : S88)  : k88.M w base ok x [.int .i64 x.f0, .int .i64 x.f1, .int .i64 x.f2] := ⟨[.int .i64 x.f0], [.int .i64 x.f1, .int .i64 x.f2], rfl, rfl, ⟨[.int .i64 x.f1], [.int .i64 x.f2], rfl, rfl, rfl⟩⟩
def zbf (xs : List S88) (i : Int) : S88 := xs.getD i.toNat z88
theorem at_T88 {w : World} {A : Option Addr} {n : Nat} {xs : List S88} (h : Kd.C k88 w A n xs) (i : Int) (h0 : 0 ≤ i) (h1 : i < n) : ∃ ad , A = some ad ∧ w.cell? (ad.add (i.toNat * 3)) = some (.int .i64 (zbf xs i).f0) ∧ w.cell? ⟨(ad.add (i.toNat * 3)).block, (ad.add (i.toNat * 3)).off + 1, none⟩ = some (.int .i64 (zbf xs i).f1) ∧ w.cell? ⟨(ad.add (i.toNat * 3)).block, (ad.add (i.toNat * 3)).off + 2, none⟩ = some (.int .i64 (zbf xs i).f2) := by
 obtain ⟨ad, c, e, _, hK, hc0⟩ := Kd.C_get h z88 i h0 h1
 have hc : ∀ j u, c[j]? = some u → w.cell? (ad.add (i.toNat * 3 + j)) = some u := hc0
 obtain rfl := k88_open hK
 exact ⟨ad, e, hc 0 _ rfl, by rw [← add_field _ _ 1 (by omega)]; exact hc 1 _ rfl, by rw [← add_field _ _ 2 (by omega)]; exact hc 2 _ rfl⟩
structure S34 where
 f0 : Int
 f1 : Int
 f2 : Int
 f3 : Int
def z34 : S34 := ⟨(0 : Int), (0 : Int), (0 : Int), (0 : Int)⟩
def k34 : Kd S34 := Kd.iso (Kd.pair (Kd.int .i64) (Kd.pair (Kd.int .i64) (Kd.pair (Kd.int .i64) (Kd.int .i64)))) (fun x : S34 => (x.f0, x.f1, x.f2, x.f3))
theorem k34_open {w : World} {x : S34} {cs : List Value} (h : k34.K w x cs) : cs = [.int .i64 x.f0, .int .i64 x.f1, .int .i64 x.f2, .int .i64 x.f3] := by
 obtain ⟨_, _, rfl, rfl, ⟨_, _, rfl, rfl, ⟨_, _, rfl, rfl, rfl⟩⟩⟩ := h
 exact rfl
theorem k34_openM {w : World} {base : Nat} {ok : Nat → Prop} {x : S34} {cs : List Value} (h : k34.M w base ok x cs) : cs = [.int .i64 x.f0, .int .i64 x.f1, .int .i64 x.f2, .int .i64 x.f3] := by
 obtain ⟨_, _, rfl, rfl, ⟨_, _, rfl, rfl, ⟨_, _, rfl, rfl, rfl⟩⟩⟩ := h
 exact rfl
theorem k34_mkM (w : World) (base : Nat) (ok : Nat → Prop) (x : S34)  : k34.M w base ok x [.int .i64 x.f0, .int .i64 x.f1, .int .i64 x.f2, .int .i64 x.f3] := ⟨[.int .i64 x.f0], [.int .i64 x.f1, .int .i64 x.f2, .int .i64 x.f3], rfl, rfl, ⟨[.int .i64 x.f1], [.int .i64 x.f2, .int .i64 x.f3], rfl, rfl, ⟨[.int .i64 x.f2], [.int .i64 x.f3], rfl, rfl, rfl⟩⟩⟩
def ze (xs : List S34) (i : Int) : S34 := xs.getD i.toNat z34
theorem zc9 {w : World} {A : Option Addr} {n : Nat} {xs : List S34} (h : Kd.C k34 w A n xs) (i : Int) (h0 : 0 ≤ i) (h1 : i < n) : ∃ ad , A = some ad ∧ w.cell? (ad.add (i.toNat * 4)) = some (.int .i64 (ze xs i).f0) ∧ w.cell? ⟨(ad.add (i.toNat * 4)).block, (ad.add (i.toNat * 4)).off + 1, none⟩ = some (.int .i64 (ze xs i).f1) ∧ w.cell? ⟨(ad.add (i.toNat * 4)).block, (ad.add (i.toNat * 4)).off + 2, none⟩ = some (.int .i64 (ze xs i).f2) ∧ w.cell? ⟨(ad.add (i.toNat * 4)).block, (ad.add (i.toNat * 4)).off + 3, none⟩ = some (.int .i64 (ze xs i).f3) := by
 obtain ⟨ad, c, e, _, hK, hc0⟩ := Kd.C_get h z34 i h0 h1
 have hc : ∀ j u, c[j]? = some u → w.cell? (ad.add (i.toNat * 4 + j)) = some u := hc0
 obtain rfl := k34_open hK
 exact ⟨ad, e, hc 0 _ rfl, by rw [← add_field _ _ 1 (by omega)]; exact hc 1 _ rfl, by rw [← add_field _ _ 2 (by omega)]; exact hc 2 _ rfl, by rw [← add_field _ _ 3 (by omega)]; exact hc 3 _ rfl⟩
structure S51 where
 f0 : Int
 f1 : Int
def z51 : S51 := ⟨(0 : Int), (0 : Int)⟩
def k51 : Kd S51 := Kd.iso (Kd.pair (Kd.int .i64) (Kd.int .i64)) (fun x : S51 => (x.f0, x.f1))
theorem k51_open {w : World} {x : S51} {cs : List Value} (h : k51.K w x cs) : cs = [.int .i64 x.f0, .int .i64 x.f1] := by
 obtain ⟨_, _, rfl, rfl, rfl⟩ := h
 exact rfl
theorem k51_mkM (w : World) (base : Nat) (ok : Nat → Prop) (x : S51)  : k51.M w base ok x [.int .i64 x.f0, .int .i64 x.f1] := ⟨[.int .i64 x.f0], [.int .i64 x.f1], rfl, rfl, rfl⟩
def zdc (xs : List S51) (i : Int) : S51 := xs.getD i.toNat z51
theorem at_T51 {w : World} {A : Option Addr} {n : Nat} {xs : List S51} (h : Kd.C k51 w A n xs) (i : Int) (h0 : 0 ≤ i) (h1 : i < n) : ∃ ad , A = some ad ∧ w.cell? (ad.add (i.toNat * 2)) = some (.int .i64 (zdc xs i).f0) ∧ w.cell? ⟨(ad.add (i.toNat * 2)).block, (ad.add (i.toNat * 2)).off + 1, none⟩ = some (.int .i64 (zdc xs i).f1) := by
 obtain ⟨ad, c, e, _, hK, hc0⟩ := Kd.C_get h z51 i h0 h1
 have hc : ∀ j u, c[j]? = some u → w.cell? (ad.add (i.toNat * 2 + j)) = some u := hc0
 obtain rfl := k51_open hK
 exact ⟨ad, e, hc 0 _ rfl, by rw [← add_field _ _ 1 (by omega)]; exact hc 1 _ rfl⟩
theorem Zrs {P : Prop} (h : P := by first | rfl | (simp; done) | (simp [*]; done)) : P := h
theorem Zas {P : Prop} (h : P := by first | (with_reducible assumption) | assumption) : P := h
def zca.l0 : Nat → List Int → List Int → Int → Option (Bool)
 | 0, _, _, _ => none
 | k + 1, x0, x1, x5 => if x5 < (x0.length : Int) then (if 0 ≤ x5 then (if x5 < (x1.length : Int) then (if (rd x0 x5) = (rd x1 x5) then (zca.l0 k x0 x1 (wrap64 (x5 + 1))) else (some false)) else (none)) else (none)) else (some true)
def zca.f (k : Nat) (l0 : List Int) (l1 : List Int) : Option (Bool) := if (l0.length : Int) = (l1.length : Int) then (zca.l0 k l0 l1 0) else (some false)
set_option maxHeartbeats 8000000 in
set_option maxRecDepth 100000 in
theorem zca.calls (k : Nat) (A0 : Option Addr) (c0 : Nat) (l0 : List Int) (A1 : Option Addr) (c1 : Nat) (l1 : List Int) (r : Bool) (w : World) (hr0 : Kd.C (Kd.int .i64) w A0 l0.length l0) (hc0 : l0.length ≤ c0) (hr1 : Kd.C (Kd.int .i64) w A1 l1.length l1) (hc1 : l1.length ≤ c1) (h : zca.f k l0 l1 = some r) :
  Calls Try.prog 55 #[.slice A0 l0.length c0, .slice A1 l1.length c1] w fun e w' => e = .returned (.bool r) ∧ zcj w w' := by
 have HR0 := za.mk hr0
 have HC0 := za.mk hc0
 clear hr0 hc0
 have HR1 := za.mk hr1
 have HC1 := za.mk hc1
 clear hr1 hc1
 have H : (if (l0.length : Int) = (l1.length : Int) then (zca.l0 k l0 l1 0) else (some false)) = some r := h
 clear h
 by_cases c3 : (l0.length : Int) = (l1.length : Int)
 ·rw [if_pos c3] at H
  have c3b0 : ((l0.length : Int) == (l1.length : Int)) = true := beq_iff_eq.mpr c3
  have c3b1 : ((l0.length : Int) != (l1.length : Int)) = false := bne_eq_false_iff_eq.mpr c3
  have c3b2 : (l0.length == l1.length) = true := by first | simpa using c3 | (simp at c3 ⊢; omega)
  clear c3
  have H' := za.mk H
  clear H
  go_enter Try.func55, Try.ntmps55
  go_wp2
  repeat (go_quiet (fail); try go_wp2)
  go_loopg [5] k (fun kq v5 w' => ∃ (x5_1 : Int), v5 = .int .i64 x5_1 ∧ za (zca.l0 kq l0 l1 x5_1 = some r) ∧ za (kq ≤ k) ∧ zcj w w')
  case atStart => exact ⟨(0), Zrs, H', ⟨Nat.le_refl _⟩, by repeat (first | exact zcj.refl _ | apply zcj.step)⟩
  case round =>
   clear H'
   try clear c1
   try clear p2
   try clear c3
   try clear c3b0
   try clear c3b1
   try clear c3b2
   obtain ⟨x5_1, rfl, HA, HK1, ⟨m1, rfl⟩⟩ := hrel
   cases gk with
   | zero => exact absurd HA.out (by simp [zca.l0])
   | succ k1 =>
    have H := HA.out
    clear HA
    simp only [zca.l0] at H
    by_cases c4 : x5_1 < (l0.length : Int)
    ·rw [if_pos c4] at H
     have c4b0 : decide (x5_1 < (l0.length : Int)) = true := decide_eq_true c4
     clear c4
     by_cases c5 : 0 ≤ x5_1
     ·rw [if_pos c5] at H
      have c5b0 : decide (0 ≤ x5_1) = true := decide_eq_true c5
      clear c5
      by_cases c6 : x5_1 < (l1.length : Int)
      ·rw [if_pos c6] at H
       have c6b0 : decide (x5_1 < (l1.length : Int)) = true := decide_eq_true c6
       clear c6
       by_cases c7 : (rd l0 x5_1) = (rd l1 x5_1)
       ·rw [if_pos c7] at H
        have c7b0 : ((rd l0 x5_1) == (rd l1 x5_1)) = true := beq_iff_eq.mpr c7
        have c7b1 : ((rd l0 x5_1) != (rd l1 x5_1)) = false := bne_eq_false_iff_eq.mpr c7
        clear c7
        have H' := za.mk H
        clear H
        have p306 : 0 ≤ (x5_1 : Int) := of_decide_eq_true Zas
        have q306 : x5_1 < (l0.length : Int) := of_decide_eq_true Zas
        obtain ⟨ad306, e306, hx306_0⟩ := Kd.zcn HR0.out x5_1 p306 q306
        cases e306
        replace p306 := eq_true p306
        replace q306 := eq_true q306
        have p307 : 0 ≤ (x5_1 : Int) := of_decide_eq_true Zas
        have q307 : x5_1 < (l1.length : Int) := of_decide_eq_true Zas
        obtain ⟨ad307, e307, hx307_0⟩ := Kd.zcn HR1.out x5_1 p307 q307
        cases e307
        replace p307 := eq_true p307
        replace q307 := eq_true q307
        go_wp2
        repeat (go_quiet (fail); try go_wp2)
        go_roundg k1
        case measure => have := HK1.out; omega
        case rel => exact ⟨(wrap64 (x5_1 + 1)), Zrs, H', ⟨by have := HK1.out; omega⟩, by repeat (first | exact zcj.refl _ | apply zcj.step)⟩
       ·rw [if_neg c7] at H
        have c7b0 : ((rd l0 x5_1) == (rd l1 x5_1)) = false := beq_eq_false_iff_ne.mpr c7
        have c7b1 : ((rd l0 x5_1) != (rd l1 x5_1)) = true := bne_iff_ne.mpr c7
        obtain rfl := Option.some.inj H
        have p306 : 0 ≤ (x5_1 : Int) := of_decide_eq_true Zas
        have q306 : x5_1 < (l0.length : Int) := of_decide_eq_true Zas
        obtain ⟨ad306, e306, hx306_0⟩ := Kd.zcn HR0.out x5_1 p306 q306
        cases e306
        replace p306 := eq_true p306
        replace q306 := eq_true q306
        have p307 : 0 ≤ (x5_1 : Int) := of_decide_eq_true Zas
        have q307 : x5_1 < (l1.length : Int) := of_decide_eq_true Zas
        obtain ⟨ad307, e307, hx307_0⟩ := Kd.zcn HR1.out x5_1 p307 q307
        cases e307
        replace p307 := eq_true p307
        replace q307 := eq_true q307
        go_wp2
        repeat (go_quiet (fail); try go_wp2)
        go_ret
        exact ⟨by first | rfl | (simp; done) | (simp [*]; done), by repeat (first | exact zcj.refl _ | apply zcj.step)⟩
      ·rw [if_neg c6] at H
       exact absurd H (by simp)
     ·rw [if_neg c5] at H
      exact absurd H (by simp)
    ·rw [if_neg c4] at H
     have c4b0 : decide (x5_1 < (l0.length : Int)) = false := decide_eq_false c4
     clear c4
     obtain rfl := Option.some.inj H
     go_wp2
     repeat (go_quiet (fail); try go_wp2)
     go_ret
     exact ⟨by first | rfl | (simp; done) | (simp [*]; done), by repeat (first | exact zcj.refl _ | apply zcj.step)⟩
 ·rw [if_neg c3] at H
  have c3b0 : ((l0.length : Int) == (l1.length : Int)) = false := beq_eq_false_iff_ne.mpr c3
  have c3b1 : ((l0.length : Int) != (l1.length : Int)) = true := bne_iff_ne.mpr c3
  have c3b2 : (l0.length == l1.length) = false := by first | simpa using c3 | (simp at c3 ⊢; omega)
  obtain rfl := Option.some.inj H
  go_enter Try.func55, Try.ntmps55
  go_wp2
  repeat (go_quiet (fail); try go_wp2)
  go_ret
  exact ⟨by first | rfl | (simp; done) | (simp [*]; done), by repeat (first | exact zcj.refl _ | apply zcj.step)⟩
theorem Zmt {P : Prop} (h : P := by (try simp only [List.map_toArray, List.map_cons, List.map_nil]); first | done | rfl | (simp only [List.length_drop, List.length_take]; rfl)) : P := h
theorem Zq3 {X0 P : Prop} (x0 : X0) (h : X0 → P := by intro x0; repeat (first | (with_reducible first | exact x0 | apply zbn | apply zbm | apply zb6) | exact x0)) : P := h x0
theorem Zq4 {X0 P : Prop} (x0 : X0) (h : X0 → P := by intro x0; (with_reducible repeat (first | refine zn ?_ _ | refine zt ?_ | refine zm ?_ _)); exact x0) : P := h x0
theorem Zq5 {X0 X1 P : Prop} (x0 : X0) (x1 : X1) (h : X0 → X1 → P := by intro x0 x1; repeat (first | (with_reducible first | exact x0 | apply zbn | apply zbm | apply zb6 | refine zb3 ?_ x1) | exact x0)) : P := h x0 x1
theorem Zq6 {X0 P : Prop} (x0 : X0) (h : X0 → P := by intro x0; repeat (first | exact x0 | (with_reducible refine Kd.C_alloc ?_ _) | (with_reducible refine Kd.C_drewN ?_ _) | (with_reducible refine Kd.C_drew ?_))) : P := h x0
theorem Zq7 {X0 X1 X2 P : Prop} (x0 : X0) (x1 : X1) (x2 : X2) (h : X0 → X1 → X2 → P := by intro x0 x1 x2; repeat (first | (with_reducible first | exact x0 | apply zbn | apply zbm | apply zb6 | refine zb3 ?_ x1 | refine zb3 ?_ x2) | exact x0)) : P := h x0 x1 x2
def zcd.f (k : Nat) (l0_0 : List Int) (l0_1 : List Int) (l1_0 : List Int) (l1_1 : List Int) : Option (Bool) := (zca.f k l0_0 l1_0).bind fun t310 => (if t310 = true then ((zca.f k l0_1 l1_1).bind fun t311 => (some t311)) else (some false))
set_option maxHeartbeats 8000000 in
set_option maxRecDepth 100000 in
theorem zcd.calls (k : Nat) (A0_0 : Option Addr) (c0_0 : Nat) (l0_0 : List Int) (A0_1 : Option Addr) (c0_1 : Nat) (l0_1 : List Int) (A1_0 : Option Addr) (c1_0 : Nat) (l1_0 : List Int) (A1_1 : Option Addr) (c1_1 : Nat) (l1_1 : List Int) (r : Bool) (w : World) (hr0_0 : Kd.C (Kd.int .i64) w A0_0 l0_0.length l0_0) (hc0_0 : l0_0.length ≤ c0_0) (hr0_1 : Kd.C (Kd.int .i64) w A0_1 l0_1.length l0_1) (hc0_1 : l0_1.length ≤ c0_1) (hr1_0 : Kd.C (Kd.int .i64) w A1_0 l1_0.length l1_0) (hc1_0 : l1_0.length ≤ c1_0) (hr1_1 : Kd.C (Kd.int .i64) w A1_1 l1_1.length l1_1) (hc1_1 : l1_1.length ≤ c1_1) (h : zcd.f k l0_0 l0_1 l1_0 l1_1 = some r) :
  Calls Try.prog 13 #[.agg #[.slice A0_0 l0_0.length c0_0, .slice A0_1 l0_1.length c0_1], .agg #[.slice A1_0 l1_0.length c1_0, .slice A1_1 l1_1.length c1_1]] w fun e w' => e = .returned (.bool r) ∧ Below w.heap.size w w' := by
 have hu29 := Try.underlying29
 have HR0_0 := za.mk hr0_0
 have HC0_0 := za.mk hc0_0
 clear hr0_0 hc0_0
 have HR0_1 := za.mk hr0_1
 have HC0_1 := za.mk hc0_1
 clear hr0_1 hc0_1
 have HR1_0 := za.mk hr1_0
 have HC1_0 := za.mk hc1_0
 clear hr1_0 hc1_0
 have HR1_1 := za.mk hr1_1
 have HC1_1 := za.mk hc1_1
 clear hr1_1 hc1_1
 have HB := za.mk (Below.refl w.heap.size w)
 have H : ((zca.f k l0_0 l1_0).bind fun t310 => (if t310 = true then ((zca.f k l0_1 l1_1).bind fun t311 => (some t311)) else (some false))) = some r := h
 clear h
 replace H := Option.bind_eq_some_iff.mp H
 obtain ⟨t310, A30, H⟩ := H
 replace H : (if t310 = true then ((zca.f k l0_1 l1_1).bind fun t311 => (some t311)) else (some false)) = some r := H
 have A3 := za.mk A30
 clear A30
 by_cases c4 : t310 = true
 ·subst c4
  have H1 : ((zca.f k l0_1 l1_1).bind fun t311 => (some t311)) = some r := by rw [if_pos rfl] at H; exact H
  clear H
  have H := H1
  clear H1
  replace H := Option.bind_eq_some_iff.mp H
  obtain ⟨t311, A50, H⟩ := H
  replace H : (some t311) = some r := H
  have A5 := za.mk A50
  clear A50
  obtain rfl := Option.some.inj H
  go_enter Try.func13, Try.ntmps13
  go_wp2_with (first | ((with_reducible refine zbp (N := 2) rfl ?_); refine zb1 ?hg (N := 2) ?hd (cs := #[.slice A0_0 l0_0.length c0_0, .slice A0_1 l0_1.length c0_1]) (t := 29) ?hr ?_; (case hd => rfl); (case hg => rfl); (case hr => first | (go_simp; done) | (go_simp; rfl)); intro gb308 hg w6 hbox hb; have n0_ := za.mk (zo (Zq3 HB.out) hb); have n1_ := za.mk (hbox); have n2_ := za.mk ((by rw [hg]; exact (zbb (Zq3 HB.out)) : w.heap.size ≤ gb308)); have n3_ := za.mk ((by rw [hg]; exact (zbb (Zq3 HB.out)) : w.heap.size ≤ gb308)); clear HB; have HB := n0_; have BK308 := n1_; have GW308 := n2_; have GE308 := n3_; clear n0_ n1_ n2_ n3_; clear hb hbox hg) | ((with_reducible refine zbp (N := 3) rfl ?_); refine zb1 ?hg (N := 3) ?hd (cs := #[.slice A1_0 l1_0.length c1_0, .slice A1_1 l1_1.length c1_1]) (t := 29) ?hr ?_; (case hd => rfl); (case hg => rfl); (case hr => first | (go_simp; done) | (go_simp; rfl)); intro gb309 hg w7 hbox hb; have n0_ := za.mk (zbg (g := gb308) (o := .cells #[.slice A0_0 l0_0.length c0_0, .slice A0_1 l0_1.length c0_1] 29 (0, 0)) (Zq4 BK308.out) hb); have n1_ := za.mk (zo (Zq5 HB.out GE308.out) hb); have n2_ := za.mk (hbox); have n3_ := za.mk ((by rw [hg]; exact (zbb (Zq5 HB.out GE308.out)) : w.heap.size ≤ gb309)); have n4_ := za.mk ((by rw [hg]; exact (zbb (Zq5 HB.out GE308.out)) : w.heap.size ≤ gb309)); have n5_ := za.mk ((by rw [hg]; exact Nat.ne_of_lt (zcz (g := gb308) (o := .cells #[.slice A0_0 l0_0.length c0_0, .slice A0_1 l0_1.length c0_1] 29 (0, 0)) (Zq4 BK308.out)) : gb308 ≠ gb309)); have n6_ := za.mk ((by rw [hg]; exact Nat.ne_of_gt (zcz (g := gb308) (o := .cells #[.slice A0_0 l0_0.length c0_0, .slice A0_1 l0_1.length c0_1] 29 (0, 0)) (Zq4 BK308.out)) : gb309 ≠ gb308)); clear BK308; clear HB; have BK308 := n0_; have HB := n1_; have BK309 := n2_; have GW309 := n3_; have GE309 := n4_; have NB308_309 := n5_; have NB309_308 := n6_; clear n0_ n1_ n2_ n3_ n4_ n5_ n6_; clear hb hbox hg; have hnb8 := NB308_309.out; have hnc8 := NB309_308.out; have hcz9_0 : w7.cell? ⟨gb308, 0, none⟩ = some (.slice A0_0 l0_0.length c0_0) := (zh BK308.out 0).trans rfl; have hcz9_1 : w7.cell? ⟨gb308, 1, none⟩ = some (.slice A0_1 l0_1.length c0_1) := (zh BK308.out 1).trans rfl; have hfz9_0 := zg BK308.out 0; have hfz9_1 := zg BK308.out 1; have hcz10_0 : w7.cell? ⟨gb309, 0, none⟩ = some (.slice A1_0 l1_0.length c1_0) := (zh BK309.out 0).trans rfl; have hcz10_1 : w7.cell? ⟨gb309, 1, none⟩ = some (.slice A1_1 l1_1.length c1_1) := (zh BK309.out 1).trans rfl; have hfz10_0 := zg BK309.out 0; have hfz10_1 := zg BK309.out 1) | ((with_reducible refine zba (f := 55) rfl ?_); refine zbv (some 9) rfl rfl Try.func55 (by kernel_rfl) rfl #[.slice A0_0 l0_0.length c0_0, .slice A1_0 l1_0.length c1_0] rfl Zmt ?_; (with_reducible refine (zca.calls k _ _ l0_0 _ _ l1_0 true _ ?side1 ?side2 ?side3 ?side4 A3.out).mono ?_); (case side1 => exact Zq6 (Kd.zb8 HR0_0.out HB.out)); (case side2 => exact HC0_0.out); (case side3 => exact Zq6 (Kd.zb8 HR1_0.out HB.out)); (case side4 => exact HC1_0.out); rintro e w' ⟨rfl, ⟨nd, rfl⟩⟩; refine ⟨_, rfl, ?_⟩) | (go_at_call 55; (with_reducible refine (zca.calls k _ _ l0_1 _ _ l1_1 t311 _ ?side1 ?side2 ?side3 ?side4 A5.out).mono ?_); (case side1 => repeat (first | exact (Kd.zb8 HR0_1.out (Zq7 HB.out GE308.out GE309.out)) | (with_reducible refine Kd.C_alloc ?_ _) | (with_reducible refine Kd.C_drewN ?_ _) | (with_reducible refine Kd.C_drew ?_))); (case side2 => exact HC0_1.out); (case side3 => repeat (first | exact (Kd.zb8 HR1_1.out (Zq7 HB.out GE308.out GE309.out)) | (with_reducible refine Kd.C_alloc ?_ _) | (with_reducible refine Kd.C_drewN ?_ _) | (with_reducible refine Kd.C_drew ?_))); (case side4 => exact HC1_1.out); rintro e w' ⟨rfl, ⟨nd, rfl⟩⟩))
  go_ret
  exact ⟨by first | rfl | (simp [zbc, zbd] <;> rfl) | (simp [*, zbc, zbd] <;> rfl), Zq7 HB.out GE308.out GE309.out⟩
 ·replace c4 := Bool.eq_false_iff.mpr c4
  subst c4
  have H1 : (some false) = some r := by rw [if_neg (show ¬ (false = true) by decide)] at H; exact H
  clear H
  have H := H1
  clear H1
  obtain rfl := Option.some.inj H
  go_enter Try.func13, Try.ntmps13
  go_wp2_with (first | ((with_reducible refine zbp (N := 2) rfl ?_); refine zb1 ?hg (N := 2) ?hd (cs := #[.slice A0_0 l0_0.length c0_0, .slice A0_1 l0_1.length c0_1]) (t := 29) ?hr ?_; (case hd => rfl); (case hg => rfl); (case hr => first | (go_simp; done) | (go_simp; rfl)); intro gb308 hg w11 hbox hb; have n0_ := za.mk (zo (Zq3 HB.out) hb); have n1_ := za.mk (hbox); have n2_ := za.mk ((by rw [hg]; exact (zbb (Zq3 HB.out)) : w.heap.size ≤ gb308)); have n3_ := za.mk ((by rw [hg]; exact (zbb (Zq3 HB.out)) : w.heap.size ≤ gb308)); clear HB; have HB := n0_; have BK308 := n1_; have GW308 := n2_; have GE308 := n3_; clear n0_ n1_ n2_ n3_; clear hb hbox hg) | ((with_reducible refine zbp (N := 3) rfl ?_); refine zb1 ?hg (N := 3) ?hd (cs := #[.slice A1_0 l1_0.length c1_0, .slice A1_1 l1_1.length c1_1]) (t := 29) ?hr ?_; (case hd => rfl); (case hg => rfl); (case hr => first | (go_simp; done) | (go_simp; rfl)); intro gb309 hg w12 hbox hb; have n0_ := za.mk (zbg (g := gb308) (o := .cells #[.slice A0_0 l0_0.length c0_0, .slice A0_1 l0_1.length c0_1] 29 (0, 0)) (Zq4 BK308.out) hb); have n1_ := za.mk (zo (Zq5 HB.out GE308.out) hb); have n2_ := za.mk (hbox); have n3_ := za.mk ((by rw [hg]; exact (zbb (Zq5 HB.out GE308.out)) : w.heap.size ≤ gb309)); have n4_ := za.mk ((by rw [hg]; exact (zbb (Zq5 HB.out GE308.out)) : w.heap.size ≤ gb309)); have n5_ := za.mk ((by rw [hg]; exact Nat.ne_of_lt (zcz (g := gb308) (o := .cells #[.slice A0_0 l0_0.length c0_0, .slice A0_1 l0_1.length c0_1] 29 (0, 0)) (Zq4 BK308.out)) : gb308 ≠ gb309)); have n6_ := za.mk ((by rw [hg]; exact Nat.ne_of_gt (zcz (g := gb308) (o := .cells #[.slice A0_0 l0_0.length c0_0, .slice A0_1 l0_1.length c0_1] 29 (0, 0)) (Zq4 BK308.out)) : gb309 ≠ gb308)); clear BK308; clear HB; have BK308 := n0_; have HB := n1_; have BK309 := n2_; have GW309 := n3_; have GE309 := n4_; have NB308_309 := n5_; have NB309_308 := n6_; clear n0_ n1_ n2_ n3_ n4_ n5_ n6_; clear hb hbox hg; have hnb13 := NB308_309.out; have hnc13 := NB309_308.out; have hcz14_0 : w12.cell? ⟨gb308, 0, none⟩ = some (.slice A0_0 l0_0.length c0_0) := (zh BK308.out 0).trans rfl; have hcz14_1 : w12.cell? ⟨gb308, 1, none⟩ = some (.slice A0_1 l0_1.length c0_1) := (zh BK308.out 1).trans rfl; have hfz14_0 := zg BK308.out 0; have hfz14_1 := zg BK308.out 1; have hcz15_0 : w12.cell? ⟨gb309, 0, none⟩ = some (.slice A1_0 l1_0.length c1_0) := (zh BK309.out 0).trans rfl; have hcz15_1 : w12.cell? ⟨gb309, 1, none⟩ = some (.slice A1_1 l1_1.length c1_1) := (zh BK309.out 1).trans rfl; have hfz15_0 := zg BK309.out 0; have hfz15_1 := zg BK309.out 1) | ((with_reducible refine zba (f := 55) rfl ?_); refine zbv (some 9) rfl rfl Try.func55 (by kernel_rfl) rfl #[.slice A0_0 l0_0.length c0_0, .slice A1_0 l1_0.length c1_0] rfl Zmt ?_; (with_reducible refine (zca.calls k _ _ l0_0 _ _ l1_0 false _ ?side1 ?side2 ?side3 ?side4 A3.out).mono ?_); (case side1 => exact Zq6 (Kd.zb8 HR0_0.out HB.out)); (case side2 => exact HC0_0.out); (case side3 => exact Zq6 (Kd.zb8 HR1_0.out HB.out)); (case side4 => exact HC1_0.out); rintro e w' ⟨rfl, ⟨nd, rfl⟩⟩; refine ⟨_, rfl, ?_⟩))
  go_ret
  exact ⟨by first | rfl | (simp [zbc, zbd] <;> rfl) | (simp [*, zbc, zbd] <;> rfl), Zq7 HB.out GE308.out GE309.out⟩
def zcv.f (a0 : Int) (a1 : Int) (a2 : Int) : Option (Bool) := if a0 ≥ a1 then (some (decide (a0 ≤ a2))) else (some false)
set_option maxHeartbeats 8000000 in
set_option maxRecDepth 100000 in
theorem zcv.calls (a0 : Int) (a1 : Int) (a2 : Int) (r : Bool) (w : World) (h : zcv.f a0 a1 a2 = some r) :
  Calls Try.prog 103 #[.int .i64 a0, .int .i64 a1, .int .i64 a2] w fun e w' => e = .returned (.bool r) ∧ zcj w w' := by
 have H : (if a0 ≥ a1 then (some (decide (a0 ≤ a2))) else (some false)) = some r := h
 clear h
 by_cases c4 : a0 ≥ a1
 ·rw [if_pos c4] at H
  have c4b0 : decide (a1 ≤ a0) = true := decide_eq_true c4
  clear c4
  obtain rfl := Option.some.inj H
  go_enter Try.func103, Try.ntmps103
  go_wp2
  go_ret
  exact ⟨by first | rfl | (simp; done) | (simp [*]; done), by repeat (first | exact zcj.refl _ | apply zcj.step)⟩
 ·rw [if_neg c4] at H
  have c4b0 : decide (a1 ≤ a0) = false := decide_eq_false c4
  clear c4
  obtain rfl := Option.some.inj H
  go_enter Try.func103, Try.ntmps103
  go_wp2
  go_ret
  exact ⟨by first | rfl | (simp; done) | (simp [*]; done), by repeat (first | exact zcj.refl _ | apply zcj.step)⟩
def zcu.f (a0_0 : Int) (a0_1 : Int) (a0_2 : Int) : Option (Bool) := (zcv.f a0_0 1 8).bind fun t289 => (if t289 = true then ((zcv.f a0_1 a0_0 a0_2).bind fun t290 => (if t290 = true then (some (decide (a0_2 ≤ 12))) else (some false))) else (some false))
set_option maxHeartbeats 8000000 in
set_option maxRecDepth 100000 in
theorem zcu.calls (a0_0 : Int) (a0_1 : Int) (a0_2 : Int) (r : Bool) (w : World) (h : zcu.f a0_0 a0_1 a0_2 = some r) :
  Calls Try.prog 59 #[.agg #[.int .i64 a0_0, .int .i64 a0_1, .int .i64 a0_2]] w fun e w' => e = .returned (.bool r) ∧ Below w.heap.size w w' := by
 have hu88 := Try.underlying88
 have HB := za.mk (Below.refl w.heap.size w)
 have H : ((zcv.f a0_0 1 8).bind fun t289 => (if t289 = true then ((zcv.f a0_1 a0_0 a0_2).bind fun t290 => (if t290 = true then (some (decide (a0_2 ≤ 12))) else (some false))) else (some false))) = some r := h
 clear h
 replace H := Option.bind_eq_some_iff.mp H
 obtain ⟨t289, A20, H⟩ := H
 replace H : (if t289 = true then ((zcv.f a0_1 a0_0 a0_2).bind fun t290 => (if t290 = true then (some (decide (a0_2 ≤ 12))) else (some false))) else (some false)) = some r := H
 have A2 := za.mk A20
 clear A20
 by_cases c3 : t289 = true
 ·subst c3
  have H1 : ((zcv.f a0_1 a0_0 a0_2).bind fun t290 => (if t290 = true then (some (decide (a0_2 ≤ 12))) else (some false))) = some r := by rw [if_pos rfl] at H; exact H
  clear H
  have H := H1
  clear H1
  replace H := Option.bind_eq_some_iff.mp H
  obtain ⟨t290, A40, H⟩ := H
  replace H : (if t290 = true then (some (decide (a0_2 ≤ 12))) else (some false)) = some r := H
  have A4 := za.mk A40
  clear A40
  by_cases c5 : t290 = true
  ·subst c5
   have H1 : (some (decide (a0_2 ≤ 12))) = some r := by rw [if_pos rfl] at H; exact H
   clear H
   have H := H1
   clear H1
   obtain rfl := Option.some.inj H
   go_enter Try.func59, Try.ntmps59
   go_wp2_with (first | ((with_reducible refine zbp (N := 1) rfl ?_); refine zb1 ?hg (N := 1) ?hd (cs := #[.int .i64 a0_0, .int .i64 a0_1, .int .i64 a0_2]) (t := 88) ?hr ?_; (case hd => rfl); (case hg => rfl); (case hr => first | (go_simp; done) | (go_simp; rfl)); intro gb288 hg w6 hbox hb; have n0_ := za.mk (zo (Zq3 HB.out) hb); have n1_ := za.mk (hbox); have n2_ := za.mk ((by rw [hg]; exact (zbb (Zq3 HB.out)) : w.heap.size ≤ gb288)); have n3_ := za.mk ((by rw [hg]; exact (zbb (Zq3 HB.out)) : w.heap.size ≤ gb288)); clear HB; have HB := n0_; have BK288 := n1_; have GW288 := n2_; have GE288 := n3_; clear n0_ n1_ n2_ n3_; clear hb hbox hg; have hcz7_0 : w6.cell? ⟨gb288, 0, none⟩ = some (.int .i64 a0_0) := (zh BK288.out 0).trans rfl; have hcz7_1 : w6.cell? ⟨gb288, 1, none⟩ = some (.int .i64 a0_1) := (zh BK288.out 1).trans rfl; have hcz7_2 : w6.cell? ⟨gb288, 2, none⟩ = some (.int .i64 a0_2) := (zh BK288.out 2).trans rfl; have hfz7_0 := zg BK288.out 0; have hfz7_1 := zg BK288.out 1; have hfz7_2 := zg BK288.out 2) | ((with_reducible refine zba (f := 103) rfl ?_); refine zbv (some 5) rfl rfl Try.func103 (by kernel_rfl) rfl #[.int .i64 a0_0, .int .i64 1, .int .i64 8] rfl Zmt ?_; (with_reducible refine (zcv.calls a0_0 1 8 true _ A2.out).mono ?_); rintro e w' ⟨rfl, ⟨nd, rfl⟩⟩; refine ⟨_, rfl, ?_⟩) | (go_at_call 103; (with_reducible refine (zcv.calls a0_1 a0_0 a0_2 true _ A4.out).mono ?_); rintro e w' ⟨rfl, ⟨nd, rfl⟩⟩))
   go_ret
   exact ⟨by first | rfl | (simp [zbc, zbd] <;> rfl) | (simp [*, zbc, zbd] <;> rfl), Zq5 HB.out GE288.out⟩
  ·replace c5 := Bool.eq_false_iff.mpr c5
   subst c5
   have H1 : (some false) = some r := by rw [if_neg (show ¬ (false = true) by decide)] at H; exact H
   clear H
   have H := H1
   clear H1
   obtain rfl := Option.some.inj H
   go_enter Try.func59, Try.ntmps59
   go_wp2_with (first | ((with_reducible refine zbp (N := 1) rfl ?_); refine zb1 ?hg (N := 1) ?hd (cs := #[.int .i64 a0_0, .int .i64 a0_1, .int .i64 a0_2]) (t := 88) ?hr ?_; (case hd => rfl); (case hg => rfl); (case hr => first | (go_simp; done) | (go_simp; rfl)); intro gb288 hg w8 hbox hb; have n0_ := za.mk (zo (Zq3 HB.out) hb); have n1_ := za.mk (hbox); have n2_ := za.mk ((by rw [hg]; exact (zbb (Zq3 HB.out)) : w.heap.size ≤ gb288)); have n3_ := za.mk ((by rw [hg]; exact (zbb (Zq3 HB.out)) : w.heap.size ≤ gb288)); clear HB; have HB := n0_; have BK288 := n1_; have GW288 := n2_; have GE288 := n3_; clear n0_ n1_ n2_ n3_; clear hb hbox hg; have hcz9_0 : w8.cell? ⟨gb288, 0, none⟩ = some (.int .i64 a0_0) := (zh BK288.out 0).trans rfl; have hcz9_1 : w8.cell? ⟨gb288, 1, none⟩ = some (.int .i64 a0_1) := (zh BK288.out 1).trans rfl; have hcz9_2 : w8.cell? ⟨gb288, 2, none⟩ = some (.int .i64 a0_2) := (zh BK288.out 2).trans rfl; have hfz9_0 := zg BK288.out 0; have hfz9_1 := zg BK288.out 1; have hfz9_2 := zg BK288.out 2) | ((with_reducible refine zba (f := 103) rfl ?_); refine zbv (some 5) rfl rfl Try.func103 (by kernel_rfl) rfl #[.int .i64 a0_0, .int .i64 1, .int .i64 8] rfl Zmt ?_; (with_reducible refine (zcv.calls a0_0 1 8 true _ A2.out).mono ?_); rintro e w' ⟨rfl, ⟨nd, rfl⟩⟩; refine ⟨_, rfl, ?_⟩) | (go_at_call 103; (with_reducible refine (zcv.calls a0_1 a0_0 a0_2 false _ A4.out).mono ?_); rintro e w' ⟨rfl, ⟨nd, rfl⟩⟩))
   go_ret
   exact ⟨by first | rfl | (simp [zbc, zbd] <;> rfl) | (simp [*, zbc, zbd] <;> rfl), Zq5 HB.out GE288.out⟩
 ·replace c3 := Bool.eq_false_iff.mpr c3
  subst c3
  have H1 : (some false) = some r := by rw [if_neg (show ¬ (false = true) by decide)] at H; exact H
  clear H
  have H := H1
  clear H1
  obtain rfl := Option.some.inj H
  go_enter Try.func59, Try.ntmps59
  go_wp2_with (first | ((with_reducible refine zbp (N := 1) rfl ?_); refine zb1 ?hg (N := 1) ?hd (cs := #[.int .i64 a0_0, .int .i64 a0_1, .int .i64 a0_2]) (t := 88) ?hr ?_; (case hd => rfl); (case hg => rfl); (case hr => first | (go_simp; done) | (go_simp; rfl)); intro gb288 hg w10 hbox hb; have n0_ := za.mk (zo (Zq3 HB.out) hb); have n1_ := za.mk (hbox); have n2_ := za.mk ((by rw [hg]; exact (zbb (Zq3 HB.out)) : w.heap.size ≤ gb288)); have n3_ := za.mk ((by rw [hg]; exact (zbb (Zq3 HB.out)) : w.heap.size ≤ gb288)); clear HB; have HB := n0_; have BK288 := n1_; have GW288 := n2_; have GE288 := n3_; clear n0_ n1_ n2_ n3_; clear hb hbox hg; have hcz11_0 : w10.cell? ⟨gb288, 0, none⟩ = some (.int .i64 a0_0) := (zh BK288.out 0).trans rfl; have hcz11_1 : w10.cell? ⟨gb288, 1, none⟩ = some (.int .i64 a0_1) := (zh BK288.out 1).trans rfl; have hcz11_2 : w10.cell? ⟨gb288, 2, none⟩ = some (.int .i64 a0_2) := (zh BK288.out 2).trans rfl; have hfz11_0 := zg BK288.out 0; have hfz11_1 := zg BK288.out 1; have hfz11_2 := zg BK288.out 2) | ((with_reducible refine zba (f := 103) rfl ?_); refine zbv (some 5) rfl rfl Try.func103 (by kernel_rfl) rfl #[.int .i64 a0_0, .int .i64 1, .int .i64 8] rfl Zmt ?_; (with_reducible refine (zcv.calls a0_0 1 8 false _ A2.out).mono ?_); rintro e w' ⟨rfl, ⟨nd, rfl⟩⟩; refine ⟨_, rfl, ?_⟩))
  go_ret
  exact ⟨by first | rfl | (simp [zbc, zbd] <;> rfl) | (simp [*, zbc, zbd] <;> rfl), Zq5 HB.out GE288.out⟩
def zda.f  : Option (Bool) := (zcu.f 1 1 1).bind fun t365 => (some t365)
set_option maxHeartbeats 8000000 in
set_option maxRecDepth 100000 in
theorem zda.calls  (r : Bool) (w : World) (h : zda.f  = some r) :
  Calls Try.prog 15 #[] w fun e w' => e = .returned (.bool r) ∧ Below w.heap.size w w' := by
 have hu88 := Try.underlying88
 have HB := za.mk (Below.refl w.heap.size w)
 have H : ((zcu.f 1 1 1).bind fun t365 => (some t365)) = some r := h
 clear h
 replace H := Option.bind_eq_some_iff.mp H
 obtain ⟨t365, A10, H⟩ := H
 replace H : (some t365) = some r := H
 have A1 := za.mk A10
 clear A10
 obtain rfl := Option.some.inj H
 go_enter Try.func15, Try.ntmps15
 go_wp2_with (first | ((with_reducible refine zba (f := 59) rfl ?_); refine zbv (some 2) rfl rfl Try.func59 (by kernel_rfl) rfl #[.agg #[.int .i64 1, .int .i64 1, .int .i64 1]] rfl Zmt ?_; (with_reducible refine (zcu.calls 1 1 1 t365 _ A1.out).mono ?_); rintro e w2 ⟨rfl, hb⟩; refine ⟨_, rfl, ?_⟩; have n0_ := za.mk (zo (Zq3 HB.out) hb); clear HB; have HB := n0_; clear n0_; (try clear hb); (try clear hb2); (try clear hk); (try clear hi)))
 go_ret
 exact ⟨by first | rfl | (simp [zbc, zbd] <;> rfl) | (simp [*, zbc, zbd] <;> rfl), Zq3 HB.out⟩
abbrev JobT := S34
structure Mach (W : World) (g : Nat) (A : Option Addr) (c : Nat) (js : List JobT) (D : Option Addr) (cd : Nat) (dn : List Int) (now : Int) : Prop where
  jobs : W.cell? ⟨g, 0, none⟩ = some (.slice A js.length c)
  done : W.cell? ⟨g, 1, none⟩ = some (.slice D dn.length cd)
  time : W.cell? ⟨g, 2, none⟩ = some (.int .i64 now)
  row : Kd.C k34 W A js.length js
  drow : Kd.C (Kd.int .i64) W D dn.length dn
  len : dn.length = js.length
theorem Mach.below {W W' : World} {g : Nat} {A : Option Addr} {c : Nat} {js : List JobT} {D : Option Addr} {cd : Nat} {dn : List Int} {now : Int} (h : Mach W g A c js D cd dn now) (hb : Below W.heap.size W W') : Mach W' g A c js D cd dn now :=
  ⟨(hb.cell (World.block_lt_of_cell? _ _ h.jobs)).trans h.jobs, (hb.cell (World.block_lt_of_cell? _ _ h.done)).trans h.done, (hb.cell (World.block_lt_of_cell? _ _ h.time)).trans h.time, Kd.zb8 h.row hb, Kd.zb8 h.drow hb, h.len⟩
def jrd (js : List JobT) (i : Nat) : JobT := ze js (i : Int)
def rdyD (js : List JobT) (dn : List Int) (now : Int) (i : Nat) : Bool := decide ((jrd js i).f1 ≤ now) && decide (rd dn (i : Int) < (jrd js i).f3)
set_option maxHeartbeats 4000000 in
set_option maxRecDepth 100000 in
theorem ready_calls (g : Nat) (A : Option Addr) (c : Nat) (js : List JobT) (D : Option Addr) (cd : Nat) (dn : List Int) (now : Int) (i : Nat) (hi : i < js.length) (w : World) (h : Mach w g A c js D cd dn now) :
    Calls Try.prog 100 #[.pointer (some ⟨g, 0, none⟩), .int .i64 i] w fun e w' => e = .returned (.bool (rdyD js dn now i)) ∧ Below w.heap.size w w' := by
  obtain ⟨h0, h1, h2, hr, hd, hl⟩ := h
  have hi0 : (0 : Int) ≤ (i : Int) := by omega
  have hi1 : (i : Int) < (js.length : Int) := by omega
  have hi2 : (i : Int) < (dn.length : Int) := by omega
  obtain ⟨ad, ea, hx0, hx1, hx2, hx3⟩ := zc9 hr (i : Int) hi0 hi1
  obtain ⟨ad2, ea2, hy⟩ := Kd.zcn hd (i : Int) hi0 hi2
  cases ea
  cases ea2
  unfold rdyD jrd
  rw [Int.toNat_natCast] at hx1 hx3 hy
  clear hr hd hx0 hx2
  generalize (ze js (i : Int)).f1 = x at hx1 ⊢
  generalize (ze js (i : Int)).f3 = y at hx3 ⊢
  generalize rd dn (i : Int) = z at hy ⊢
  by_cases hc : x ≤ now
  · have hc1 : decide (x ≤ now) = true := decide_eq_true hc
    go_enter Try.func100, Try.ntmps100
    go_wp2_with fail
    go_big_region
    all_goals go_wp2
    go_ret
    refine ⟨?_, zb6 (Below.refl _ _)⟩
    simp [hc]
  · have hc1 : decide (x ≤ now) = false := decide_eq_false hc
    have hc2 : ¬ x ≤ now := hc
    go_enter Try.func100, Try.ntmps100
    go_wp2_with fail
    go_big_region
    all_goals go_wp2
    go_ret
    refine ⟨?_, zb6 (Below.refl _ _)⟩
    rw [hc1]; rfl
set_option maxHeartbeats 4000000 in
set_option maxRecDepth 100000 in
theorem deadline_calls (g : Nat) (A : Option Addr) (c : Nat) (js : List JobT) (D : Option Addr) (cd : Nat) (dn : List Int) (now : Int) (i : Nat) (hi : i < js.length) (w : World) (h : Mach w g A c js D cd dn now) :
    Calls Try.prog 52 #[.pointer (some ⟨g, 0, none⟩), .int .i64 i] w fun e w' => e = .returned (.int .i64 (jrd js i).f2) ∧ Below w.heap.size w w' := by
  obtain ⟨h0, h1, h2, hr, hd, hl⟩ := h
  have hi0 : (0 : Int) ≤ (i : Int) := by omega
  have hi1 : (i : Int) < (js.length : Int) := by omega
  obtain ⟨ad, ea, hx0, hx1, hx2, hx3⟩ := zc9 hr (i : Int) hi0 hi1
  cases ea
  unfold jrd
  rw [Int.toNat_natCast] at hx2
  clear hr hd hx0 hx1 hx3 h1 h2
  generalize (ze js (i : Int)).f2 = x at hx2 ⊢
  go_enter Try.func52, Try.ntmps52
  go_wp2
  go_ret
  exact ⟨rfl, Below.refl _ _⟩
set_option maxHeartbeats 4000000 in
set_option maxRecDepth 100000 in
theorem any_calls (g : Nat) (i : Nat) (w : World) :
    Calls Try.prog 101 #[.pointer (some ⟨g, 0, none⟩), .int .i64 i] w fun e w' => e = .returned (.bool true) ∧ Below w.heap.size w w' := by
  go_enter Try.func101, Try.ntmps101
  go_wp2
  go_ret
  exact ⟨rfl, Below.refl _ _⟩
def bestD (ok : Nat → Bool) (key : Nat → Int) : Nat → Int
  | 0 => -1
  | n + 1 => if ok n = true ∧ (bestD ok key n < 0 ∨ key n < key (bestD ok key n).toNat) then (n : Int) else bestD ok key n
theorem bestD_rng (ok : Nat → Bool) (key : Nat → Int) : ∀ n, bestD ok key n = -1 ∨ ∃ b : Nat, b < n ∧ bestD ok key n = (b : Int)
  | 0 => Or.inl rfl
  | n + 1 => by
    rw [bestD]
    split
    · exact Or.inr ⟨n, by omega, rfl⟩
    · rcases bestD_rng ok key n with h | ⟨b, hb, h⟩
      · exact Or.inl h
      · exact Or.inr ⟨b, by omega, h⟩
set_option maxHeartbeats 8000000 in
set_option maxRecDepth 100000 in
theorem best_calls (key : Nat → Int) (may : Nat → Bool) (kn mn : Nat) (kb kl mb ml : Array Value) (ek : ∀ args w, (callFunc kn args).run Try.prog w = .ok (.enter kn args) w) (em : ∀ args w, (callFunc mn args).run Try.prog w = .ok (.enter mn args) w) (hne : kn ≠ mn)
    (g : Nat) (A : Option Addr) (c : Nat) (js : List JobT) (D : Option Addr) (cd : Nat) (dn : List Int) (now : Int) (w : World) (h : Mach w g A c js D cd dn now)
    (hk : ∀ (W : World) (i : Nat), Below w.heap.size w W → i < js.length → Calls Try.prog kn (kb ++ #[.int .i64 i] ++ kl) W fun e w' => e = .returned (.int .i64 (key i)) ∧ Below W.heap.size W w')
    (hm : ∀ (W : World) (i : Nat), Below w.heap.size w W → i < js.length → Calls Try.prog mn (mb ++ #[.int .i64 i] ++ ml) W fun e w' => e = .returned (.bool (may i)) ∧ Below W.heap.size W w') :
    Calls Try.prog 51 #[.pointer (some ⟨g, 0, none⟩), .func (.func kn) kb kl, .func (.func mn) mb ml] w fun e w' => e = .returned (.int .i64 (bestD (fun i => rdyD js dn now i && may i) key js.length)) ∧ Below w.heap.size w w' := by
  have HM := za.mk h
  have HKY := za.mk hk
  have HMY := za.mk hm
  have hj := h.jobs
  have hjl : js.length ≤ 9223372036854775807 := h.row.2.1
  clear h hk hm
  go_enter Try.func51, Try.ntmps51
  go_wp2
  go_loopg [7, 14] js.length (fun gg v7 v14 wr => ∃ i : Nat, v14 = .int .i64 i ∧ i ≤ js.length ∧ js.length - i ≤ gg ∧ v7 = .int .i64 (bestD (fun i => rdyD js dn now i && may i) key i) ∧ za (Below w.heap.size w wr))
  case atStart => exact ⟨0, by go_num, by omega, by omega, rfl, ⟨Below.refl _ _⟩⟩
  case round =>
    obtain ⟨i, rfl, hil, hgg, rfl, BW⟩ := hrel
    by_cases hlt : i < js.length
    · have hltz : (i : Int) < (js.length : Int) := by omega
      obtain ⟨b, hb⟩ : ∃ b, bestD (fun i => rdyD js dn now i && may i) key i = b := ⟨_, rfl⟩
      have hrng := bestD_rng (fun i => rdyD js dn now i && may i) key i
      have hnext : ∀ v : Bool, (rdyD js dn now i && may i) = v → bestD (fun i => rdyD js dn now i && may i) key (i + 1) = if v = true ∧ (b < 0 ∨ key i < key b.toNat) then (i : Int) else b := fun v hv => by
        rw [bestD, hb]
        simp only [hv]
      rw [hb] at hrng ⊢
      have HN := za.mk hnext
      clear hnext hb
      cases hr : rdyD js dn now i with
      | false =>
        have hv := HN.out false (by rw [hr]; rfl)
        rw [if_neg (by simp)] at hv
        have HV := za.mk hv
        clear hv hrng
        go_wp2_with (go_at_call 100; refine (ready_calls g A c js D cd dn now i hlt _ (HM.out.below BW.out)).mono ?_; rw [hr]; rintro e w1 ⟨rfl, hb1⟩; have BW1 := za.mk (zo BW.out hb1); clear hb1)
        go_roundg (js.length - (i + 1))
        case measure => omega
        case rel => exact ⟨i + 1, by go_num, by omega, by omega, by rw [HV.out], BW1⟩
      | true =>
        cases hmm : may i with
        | false =>
          have hv := HN.out false (by rw [hr, hmm]; rfl)
          rw [if_neg (by simp)] at hv
          have HV := za.mk hv
          clear hv hrng
          go_wp2_with (first | (go_at_call 100; refine (ready_calls g A c js D cd dn now i hlt _ (HM.out.below BW.out)).mono ?_; rw [hr]; rintro e w1 ⟨rfl, hb1⟩; have BW1 := za.mk (zo BW.out hb1); clear hb1) | (go_at_fn mn; refine (HMY.out _ i BW1.out hlt).mono ?_; rw [hmm]; rintro e w2 ⟨rfl, hb2⟩; have BW2 := za.mk (zo BW1.out hb2); clear hb2))
          go_roundg (js.length - (i + 1))
          case measure => omega
          case rel => exact ⟨i + 1, by go_num, by omega, by omega, by rw [HV.out], BW2⟩
        | true =>
          have hv := HN.out true (by rw [hr, hmm]; rfl)
          rcases hrng with rfl | ⟨bn, hbn, rfl⟩
          · rw [if_pos ⟨rfl, Or.inl (by omega)⟩] at hv
            have HV := za.mk hv
            clear hv
            go_wp2_with (first | (go_at_call 100; refine (ready_calls g A c js D cd dn now i hlt _ (HM.out.below BW.out)).mono ?_; rw [hr]; rintro e w1 ⟨rfl, hb1⟩; have BW1 := za.mk (zo BW.out hb1); clear hb1) | (go_at_fn mn; refine (HMY.out _ i BW1.out hlt).mono ?_; rw [hmm]; rintro e w2 ⟨rfl, hb2⟩; have BW2 := za.mk (zo BW1.out hb2); clear hb2))
            go_roundg (js.length - (i + 1))
            case measure => omega
            case rel => exact ⟨i + 1, by go_num, by omega, by omega, by rw [HV.out], BW2⟩
          · have hbl : bn < js.length := by omega
            have hb0 : ¬ (bn : Int) < 0 := by omega
            obtain ⟨ki, hki⟩ : ∃ ki, key i = ki := ⟨_, rfl⟩
            obtain ⟨kq, hkb⟩ : ∃ kq, key bn = kq := ⟨_, rfl⟩
            rw [Int.toNat_natCast, hki, hkb] at hv
            have tok1 : True := trivial
            by_cases hlk : ki < kq
            · rw [if_pos ⟨rfl, Or.inr hlk⟩] at hv
              have HV := za.mk hv
              clear hv
              go_wp2_with (first | (go_at_call 100; refine (ready_calls g A c js D cd dn now i hlt _ (HM.out.below BW.out)).mono ?_; rw [hr]; rintro e w1 ⟨rfl, hb1⟩; have BW1 := za.mk (zo BW.out hb1); clear hb1) | (go_at_fn mn; refine (HMY.out _ i BW1.out hlt).mono ?_; rw [hmm]; rintro e w2 ⟨rfl, hb2⟩; have BW2 := za.mk (zo BW1.out hb2); clear hb2) | (go_at_fn kn; have _t := tok1; refine (HKY.out _ i BW2.out hlt).mono ?_; rw [hki]; rintro e w3 ⟨rfl, hb3⟩; have BW3 := za.mk (zo BW2.out hb3); clear hb3 tok1) | (go_at_fn kn; refine (HKY.out _ bn BW3.out hbl).mono ?_; rw [hkb]; rintro e w4 ⟨rfl, hb4⟩; have BW4 := za.mk (zo BW3.out hb4); clear hb4))
              go_roundg (js.length - (i + 1))
              case measure => omega
              case rel => exact ⟨i + 1, by go_num, by omega, by omega, by rw [HV.out], BW4⟩
            · rw [if_neg (fun h => h.2.elim hb0 hlk)] at hv
              have HV := za.mk hv
              clear hv
              go_wp2_with (first | (go_at_call 100; refine (ready_calls g A c js D cd dn now i hlt _ (HM.out.below BW.out)).mono ?_; rw [hr]; rintro e w1 ⟨rfl, hb1⟩; have BW1 := za.mk (zo BW.out hb1); clear hb1) | (go_at_fn mn; refine (HMY.out _ i BW1.out hlt).mono ?_; rw [hmm]; rintro e w2 ⟨rfl, hb2⟩; have BW2 := za.mk (zo BW1.out hb2); clear hb2) | (go_at_fn kn; have _t := tok1; refine (HKY.out _ i BW2.out hlt).mono ?_; rw [hki]; rintro e w3 ⟨rfl, hb3⟩; have BW3 := za.mk (zo BW2.out hb3); clear hb3 tok1) | (go_at_fn kn; refine (HKY.out _ bn BW3.out hbl).mono ?_; rw [hkb]; rintro e w4 ⟨rfl, hb4⟩; have BW4 := za.mk (zo BW3.out hb4); clear hb4))
              go_roundg (js.length - (i + 1))
              case measure => omega
              case rel => exact ⟨i + 1, by go_num, by omega, by omega, by rw [HV.out], BW4⟩
    · have hltz : ¬ (i : Int) < (js.length : Int) := by omega
      go_wp2
      go_ret
      exact ⟨by rw [show i = js.length by omega]; rfl, BW.out⟩
def edfD (js : List JobT) (dn : List Int) (now : Int) : Int := bestD (fun i => rdyD js dn now i) (fun i => (jrd js i).f2) js.length
set_option maxHeartbeats 4000000 in
set_option maxRecDepth 100000 in
theorem edf_calls (g : Nat) (A : Option Addr) (c : Nat) (js : List JobT) (D : Option Addr) (cd : Nat) (dn : List Int) (now : Int) (w : World) (h : Mach w g A c js D cd dn now) :
    Calls Try.prog 54 #[.pointer (some ⟨g, 0, none⟩)] w fun e w' => e = .returned (.int .i64 (edfD js dn now)) ∧ Below w.heap.size w w' := by
  have HC := za.mk (fun W (hW : W = w) => best_calls (fun i => (jrd js i).f2) (fun _ => true) 52 101 #[.pointer (some ⟨g, 0, none⟩)] #[] #[.pointer (some ⟨g, 0, none⟩)] #[]
    (enters_of Try.func52 (by kernel_rfl) rfl) (enters_of Try.func101 (by kernel_rfl) rfl) (by decide)
    g A c js D cd dn now W (by subst hW; exact h) (fun W' i hb hi => deadline_calls g A c js D cd dn now i hi W' ((show Mach W g A c js D cd dn now by subst hW; exact h).below hb)) (fun W' i _ _ => any_calls g i W'))
  clear h
  go_enter Try.func54, Try.ntmps54
  go_wp2_with (go_at_call 51; refine (HC.out _ rfl).mono ?_; rintro e w1 ⟨rfl, hb⟩; have HB := za.mk hb; clear hb)
  go_ret
  exact ⟨rfl, HB.out⟩
def bits_Mul64.f (a0 : Int) (a1 : Int) : Option (Int × Int) := some (IntKind.u64.wrap ((IntKind.u64.wrap ((IntKind.u64.wrap ((a0 / 4294967296) * (a1 / 4294967296))) + ((IntKind.u64.wrap ((IntKind.u64.wrap ((a0 / 4294967296) * (Go.bits .and .u64 a1 4294967295))) + ((IntKind.u64.wrap ((Go.bits .and .u64 a0 4294967295) * (Go.bits .and .u64 a1 4294967295))) / 4294967296))) / 4294967296))) + ((IntKind.u64.wrap ((Go.bits .and .u64 (IntKind.u64.wrap ((IntKind.u64.wrap ((a0 / 4294967296) * (Go.bits .and .u64 a1 4294967295))) + ((IntKind.u64.wrap ((Go.bits .and .u64 a0 4294967295) * (Go.bits .and .u64 a1 4294967295))) / 4294967296))) 4294967295) + (IntKind.u64.wrap ((Go.bits .and .u64 a0 4294967295) * (a1 / 4294967296))))) / 4294967296)), IntKind.u64.wrap (a0 * a1))
set_option maxHeartbeats 8000000 in
set_option maxRecDepth 100000 in
theorem bits_Mul64.calls (a0 : Int) (a1 : Int) (r1 : Int) (r2 : Int) (w : World) (h : bits_Mul64.f a0 a1 = some (r1, r2)) :
  Calls Try.prog 118 #[.int .u64 a0, .int .u64 a1] w fun e w' => e = .returned (.tuple #[.int .u64 r1, .int .u64 r2]) ∧ zcj w w' := by
 have H : (some (IntKind.u64.wrap ((IntKind.u64.wrap ((IntKind.u64.wrap ((a0 / 4294967296) * (a1 / 4294967296))) + ((IntKind.u64.wrap ((IntKind.u64.wrap ((a0 / 4294967296) * (Go.bits .and .u64 a1 4294967295))) + ((IntKind.u64.wrap ((Go.bits .and .u64 a0 4294967295) * (Go.bits .and .u64 a1 4294967295))) / 4294967296))) / 4294967296))) + ((IntKind.u64.wrap ((Go.bits .and .u64 (IntKind.u64.wrap ((IntKind.u64.wrap ((a0 / 4294967296) * (Go.bits .and .u64 a1 4294967295))) + ((IntKind.u64.wrap ((Go.bits .and .u64 a0 4294967295) * (Go.bits .and .u64 a1 4294967295))) / 4294967296))) 4294967295) + (IntKind.u64.wrap ((Go.bits .and .u64 a0 4294967295) * (a1 / 4294967296))))) / 4294967296)), IntKind.u64.wrap (a0 * a1))) = some (r1, r2) := h
 clear h
 simp only [Option.some.injEq, Prod.mk.injEq] at H
 obtain ⟨rfl, rfl⟩ := H
 go_enter Try.func118, Try.ntmps118
 go_wp2
 go_ret2
 exact ⟨by first | rfl | (simp; done) | (simp [*]; done), by repeat (first | exact zcj.refl _ | apply zcj.step)⟩
def bits_Mul.f (a0 : Int) (a1 : Int) : Option (Int × Int) := (bits_Mul64.f a0 a1).bind fun bt300 => (some (bt300.1, bt300.2))
set_option maxHeartbeats 8000000 in
set_option maxRecDepth 100000 in
theorem bits_Mul.calls (a0 : Int) (a1 : Int) (r1 : Int) (r2 : Int) (w : World) (h : bits_Mul.f a0 a1 = some (r1, r2)) :
  Calls Try.prog 116 #[.int .u64 a0, .int .u64 a1] w fun e w' => e = .returned (.tuple #[.int .u64 r1, .int .u64 r2]) ∧ zcj w w' := by
 have H : ((bits_Mul64.f a0 a1).bind fun bt300 => (some (bt300.1, bt300.2))) = some (r1, r2) := h
 clear h
 replace H := Option.bind_eq_some_iff.mp H
 obtain ⟨⟨t300, t301⟩, A30, H⟩ := H
 replace H : (some (t300, t301)) = some (r1, r2) := H
 have A3 := za.mk A30
 clear A30
 simp only [Option.some.injEq, Prod.mk.injEq] at H
 obtain ⟨rfl, rfl⟩ := H
 go_enter Try.func116, Try.ntmps116
 go_wp2_with (first | ((with_reducible refine zba (f := 118) rfl ?_); refine zbv (some 25) rfl rfl Try.func118 (by kernel_rfl) rfl #[.int .u64 a0, .int .u64 a1] rfl Zmt ?_; (with_reducible refine (bits_Mul64.calls a0 a1 t300 t301 _ A3.out).mono ?_); rintro e w' ⟨rfl, ⟨nd, rfl⟩⟩; refine ⟨_, rfl, ?_⟩))
 go_ret2
 exact ⟨by first | rfl | (simp; done) | (simp [*]; done), by repeat (first | exact zcj.refl _ | apply zcj.step)⟩
theorem and_lo (x : Int) (h0 : 0 ≤ x) (h1 : x < 4294967296) : Go.bits .and .u64 x 4294967295 = x := by
  obtain ⟨a, rfl⟩ := Int.eq_ofNat_of_zero_le h0
  have ha : a < 4294967296 := by omega
  have hb : (4294967295 : Int) = ((4294967295 : Nat) : Int) := rfl
  simp only [Go.bits]
  rw [show IntKind.u64.bits = 64 from rfl, hb, BitVec.toNat_and, BitVec.ofInt_natCast, BitVec.ofInt_natCast, BitVec.toNat_ofNat, BitVec.toNat_ofNat, Nat.mod_eq_of_lt (show a < 2 ^ 64 by omega), Nat.mod_eq_of_lt (show 4294967295 < 2 ^ 64 by omega)]
  rw [show (4294967295 : Nat) = 2 ^ 32 - 1 by decide, Nat.and_two_pow_sub_one_eq_mod, Nat.mod_eq_of_lt (by omega)]
  rw [IntKind.wrap_u64]
  omega
theorem mul_one_f (n : Int) (h0 : 0 ≤ n) (h1 : n ≤ 1000000) : bits_Mul.f 1 n = some (0, n) := by
  have hd : n / 4294967296 = 0 := Int.ediv_eq_zero_of_lt h0 (by omega)
  have w0 : ∀ x : Int, 0 ≤ x → x ≤ 1000000 → IntKind.u64.wrap x = x := fun x h h' => by rw [IntKind.wrap_u64]; omega
  unfold bits_Mul.f bits_Mul64.f
  rw [and_lo 1 (by omega) (by omega), and_lo n h0 (by omega), hd]
  simp only [Int.one_mul, show (1 : Int) / 4294967296 = 0 by decide, Int.zero_mul, w0 0 (by omega) (by omega), w0 n h0 h1, hd, Int.add_zero, Int.mul_zero, and_lo 0 (by omega) (by omega), show (0 : Int) / 4294967296 = 0 by decide, Option.bind_some]
def rowAt (n m : Nat) : List Int := List.replicate m (-1) ++ List.replicate (n - m) 0
theorem rowAt_set (n m : Nat) (h : m < n) : (rowAt n m).set m (-1) = rowAt n (m + 1) := by
  unfold rowAt
  rw [List.set_append_right _ _ (by simp), List.length_replicate, Nat.sub_self, show n - m = (n - (m + 1)) + 1 by omega, List.replicate_succ, List.set_cons_zero, List.replicate_succ', List.append_assoc, List.singleton_append]
theorem rowAt_rd (n m i : Nat) (h : i < m) (hm : m ≤ n) : rdOf 0 (rowAt n m) (i : Int) = -1 := by
  unfold rdOf rowAt
  rw [List.getD_eq_getElem?_getD, Int.toNat_natCast, List.getElem?_append_left (by simpa using h), List.getElem?_replicate, if_pos h]
  rfl
theorem R_rowAt {e base : Nat} {ok : Nat → Prop} {g n cap : Nat} : ∀ (q m : Nat) (W : World), m + q ≤ n → Kd.R (Kd.int .i64) e W base ok (.slice (some ⟨g, 0, none⟩) n cap) (rowAt n m) → Kd.R (Kd.int .i64) e (W.setCells g m (List.replicate q (.int .i64 (-1)))) base ok (.slice (some ⟨g, 0, none⟩) n cap) (rowAt n (m + q))
  | 0, m, W, _, h => h
  | q + 1, m, W, hq, h => by
    rw [List.replicate_succ, World.setCells]
    have h1 := (Kd.zc1 h (m : Int) (-1)).1
    rw [Int.toNat_natCast, rowAt_set n m (by omega)] at h1
    have := R_rowAt q (m + 1) _ (by omega) h1
    rwa [show m + 1 + q = m + (q + 1) by omega] at this
theorem below_setCells {base : Nat} {w : World} {g : Nat} (hg : base ≤ g) : ∀ (vs : List Value) (o : Nat) (W : World), Below base w W → Below base w (W.setCells g o vs)
  | [], _, _, h => h
  | v :: vs, o, W, h => below_setCells hg vs (o + 1) _ (h.setCell hg _)
theorem self_copy {base : Nat} {ok : Nat → Prop} {g n cap m : Nat} {W : World} (hm : 1 ≤ m) (hmn : m ≤ n) (h : Kd.R (Kd.int .i64) 3 W base ok (.slice (some ⟨g, 0, none⟩) n cap) (rowAt n m)) (ty dc sc : Nat) :
    (Builtin.copy_ #[27, 27] ty #[.slice (some ⟨g, m, none⟩) (n - m) dc, .slice (some ⟨g, 0, none⟩) m sc]).run Try.prog W = .ok (goInt ((List.replicate (min m (n - m)) (Value.int .i64 (-1))).length)) (W.setCells g m (List.replicate (min m (n - m)) (.int .i64 (-1)))) := by
  have hc := fun (i : Nat) (hi : i < n) => Kd.zcw 0 h (i : Int) (by omega) (by omega)
  refine run_copy_cells W 27 27 ty 3 g m (n - m) dc ⟨g, 0, none⟩ m sc _ Try.underlying27 (by kernel_rfl) (by rw [List.length_replicate]) (fun j v hj => ?_) (fun j hj => ?_) (fun j hj => ?_) (fun v hv => ?_)
  · rw [List.getElem?_replicate] at hj
    split at hj
    · rename_i hlt
      have := (hc j (by omega)).1
      rw [rowAt_rd n m j (by omega) hmn, Int.toNat_natCast] at this
      injection hj with hj
      rw [← hj, ← this]
      simp only [Addr.add]
      split
      · rename_i h0; subst h0; rfl
      · simp
    · cases hj
  · rw [List.length_replicate] at hj
    have := (hc (m + j) (by omega)).1
    rw [Int.toNat_natCast] at this
    rw [this]; rfl
  · rw [List.length_replicate] at hj
    have := (hc (m + j) (by omega)).2
    rwa [Int.toNat_natCast] at this
  · rw [List.eq_of_mem_replicate hv]; rfl
theorem wp_copy_run1 {P : Program} (w : World) {o : Oper} {a : Act} {K : Act → World → Prop} {Q : Exit → Act → World → Prop} (d s : Operand) (t t' : TypeId)
    (ho : o.op = .call { callee := .builtin .copy, args := #[d, s], argTypes := #[t, t'] }) (v u : Value) (hd : a.eval d = v) (hs : a.eval s = u) {v' : Value} {w' : World}
    (hr : (Builtin.copy_ #[t, t'] o.type #[v, u]).run P w = .ok v' w') (h : K (a.put o.dst v') w') : o.wp P a w K Q := by
  unfold Oper.wp execOp
  simp only [ho, resolve, invoke, builtin, Sem.run_bind, Sem.run_pure, Result.andThen_ok, List.map_toArray, List.map_cons, List.map_nil, hd, hs, hr]
  exact h
theorem step_copy_run1 {P : Program} {ops : Array Oper} {o : Oper} {a : Act} {w : World} {K : Act → World → Prop} {Q : Exit → Act → World → Prop} {E : Prop}
    (hg : o.guard = none) (d x : Operand) (dT sT : TypeId) (hop : o.op = Op.call { callee := Callee.builtin Builtin.copy, args := #[d, x], argTypes := #[dT, sT] })
    (v u : Value) (hd : a.eval d = v) (hx : a.eval x = u) {v' : Value} {w' : World} (hr : (Builtin.copy_ #[dT, sT] o.type #[v, u]).run P w = .ok v' w') (hK : K (a.put o.dst v') w') :
    if Region.wanted o (yielded ops a.tmps) = true then Oper.wp P o a w K Q else E := by
  have hw : Region.wanted o (yielded ops a.tmps) = true := by simp [Region.wanted, hg]
  rw [if_pos hw]
  exact wp_copy_run1 w d x dT sT hop v u hd hx hr hK
set_option maxHeartbeats 4000000 in
set_option maxRecDepth 100000 in
theorem repeat_calls (n : Nat) (hn : n ≤ 1000000) (hpos : 0 < n) (A : Option Addr) (c : Nat) (w : World) (hr : Kd.C (Kd.int .i64) w A 1 [-1]) :
    Calls Try.prog 114 #[.slice A 1 c, .int .i64 n] w fun e w' => ∃ v0_ : Value, e = .returned v0_ ∧ Kd.R (Kd.int .i64) 3 w' w.heap.size (fun _ => True) v0_ (List.replicate n (-1)) ∧ Below w.heap.size w w' := by
  have HR := za.mk hr
  clear hr
  have hM := za.mk (mul_one_f (n : Int) (by omega) (by omega))
  have hn0 : ¬ (n : Int) < 0 := by omega
  have hn1 : IntKind.u64.wrap (n : Int) = (n : Int) := by rw [IntKind.wrap_u64]; omega
  have hn2 : IntKind.i64.wrap (n : Int) = (n : Int) := by rw [IntKind.wrap_i64]; omega
  have hn3 : ¬ (n : Int) > 9223372036854775807 := by omega
  have hn4 : decide ((n : Int) > 9223372036854775807) = false := decide_eq_false (by omega)
  go_enter Try.func114, Try.ntmps114
  go_wp2_with (first
    | (go_at_call 116; refine (bits_Mul.calls 1 (n : Int) 0 (n : Int) _ hM.out).mono ?_; rintro e w' ⟨rfl, ⟨nq, rfl⟩⟩)
    | ((with_reducible refine zbp (N := 30) rfl ?_); refine Kd.R_make (Kd.int .i64) _ 3 rfl (N := 30) rfl 27 _ _ rfl (n : Int) rfl rfl Try.underlying27 (.int .i64 0) 8 info3 rfl (by decide) (by omega) 0 (ok := fun _ => True) (okp := fun _ => True) rfl (fun _ hk => hk) trivial (by omega) (by omega) (Below.refl _ _) (Nat.le_refl _) ?_; intro v w4 ho5 hb hg_ hnew_; rw [Int.toNat_natCast] at ho5; obtain ⟨gb, cap, ev, hgb, _, _, _⟩ := Kd.zdo ho5 (by rw [List.length_replicate]; exact hpos); subst ev; rw [List.length_replicate] at ho5; have HO := za.mk ho5; have HB := za.mk hb; have GB := za.mk hgb; clear hg_ hnew_ ho5 hb hgb)
    | ((with_reducible refine zbp (N := 33) rfl ?_); refine Kd.R_copy (0 : Int) (w.drewN nq).heap.size rfl _ _ 27 27 3 rfl Try.underlying27 (by kernel_rfl) _ _ [-1] A 1 c (fun _ => True) rfl rfl HO.out (Kd.zb8 HR.out ((zbm (Below.refl _ _) nq).trans HB.out)) HB.out HB.out.size ?_; intro w5 ho6 hb6 hg6; rw [show [(-1 : Int)].take (min 1 (List.replicate n (0 : Int)).length) ++ (List.replicate n (0 : Int)).drop (min 1 (List.replicate n (0 : Int)).length) = rowAt n 1 by rw [List.length_replicate, Nat.min_eq_left hpos]; simp [rowAt]] at ho6; have HO6 : za (Kd.R (Kd.int .i64) 3 w5 (w.drewN nq).heap.size (fun _ => True) (.slice (some ⟨gb, 0, none⟩) n cap) (rowAt n 1)) := ⟨ho6⟩; have HB6 := za.mk hb6; clear ho6 hb6 hg6))
  go_loopg [8] n (fun gg v8 wr => ∃ m : Nat, v8 = .int .i64 m ∧ 1 ≤ m ∧ m ≤ n ∧ n - m ≤ gg ∧ za (Kd.R (Kd.int .i64) 3 wr (w.drewN nq).heap.size (fun _ => True) (.slice (some ⟨gb, 0, none⟩) n cap) (rowAt n m)) ∧ za (Below (w.drewN nq).heap.size (w.drewN nq) wr))
  case atStart => exact ⟨1, by rw [Nat.min_eq_left hpos], by omega, by omega, by omega, HO6, HB6⟩
  case round =>
    obtain ⟨m, rfl, hm1, hmn, hgg, R7, B7⟩ := hrel
    by_cases hlt : m < n
    · have hltz : (m : Int) < (n : Int) := by omega
      have hmz : (m : Int) ≤ (n : Int) := by omega
      have hm0 : (0 : Int) ≤ (m : Int) := by omega
      have hcap : n ≤ cap := (Kd.zbe R7.out).2.1
      have hmc : m ≤ cap := by omega
      have hcm : ¬ cap = m := by omega
      go_wp2_with fail
      go_region_law (refine step_copy_run1 rfl _ _ 27 27 rfl (.slice (some ⟨gb, m, none⟩) (n - m) (cap - m)) (.slice (some ⟨gb, 0, none⟩) m cap) (by simp [Act.eval, Act.put]) (by simp [Act.eval, Act.put]) (self_copy hm1 hmn (Kd.zbj R7.out) _ _ _) ?_)
      all_goals go_wp2
      go_roundg (n - (m + min m (n - m)))
      case measure => omega
      case rel =>
        refine ⟨m + min m (n - m), ?_, by omega, by omega, Nat.le_refl _, ⟨R_rowAt _ _ _ (by omega) (Kd.zbj R7.out)⟩, ⟨below_setCells GB.out _ _ _ (zb6 B7.out)⟩⟩
        first | rfl | (congr 1; unfold wrap64; omega) | (congr 1; rw [IntKind.wrap_i64]; omega)
    · have hltz : ¬ (m : Int) < (n : Int) := by omega
      go_wp2
      go_ret
      refine ⟨_, rfl, ?_, ?_⟩
      · have := R7.out
        rw [show m = n by omega] at this
        unfold rowAt at this
        rw [Nat.sub_self, List.replicate_zero, List.append_nil] at this
        exact Kd.zb2 this (Nat.le_refl _)
      · exact zb7 (zbm (Below.refl _ _) nq) (Nat.le_refl _) B7.out
set_option maxHeartbeats 4000000 in
set_option maxRecDepth 100000 in
theorem repeat_none (A : Option Addr) (c : Nat) (w : World) (hr : Kd.C (Kd.int .i64) w A 1 [-1]) :
    Calls Try.prog 114 #[.slice A 1 c, .int .i64 0] w fun e w' => ∃ v0_ : Value, e = .returned v0_ ∧ Kd.R (Kd.int .i64) 3 w' w.heap.size (fun _ => True) v0_ [] ∧ Below w.heap.size w w' := by
  have HR := za.mk hr
  clear hr
  have hM := za.mk (mul_one_f 0 (by omega) (by omega))
  go_enter Try.func114, Try.ntmps114
  go_wp2_with (first
    | (go_at_call 116; refine (bits_Mul.calls 1 0 0 0 _ hM.out).mono ?_; rintro e w' ⟨rfl, ⟨nq, rfl⟩⟩)
    | ((with_reducible refine zbp (N := 30) rfl ?_); refine Kd.R_make (Kd.int .i64) _ 3 rfl (N := 30) rfl 27 _ _ rfl 0 rfl rfl Try.underlying27 (.int .i64 0) 8 info3 rfl (by decide) (by omega) 0 (ok := fun _ => True) (okp := fun _ => True) rfl (fun _ hk => hk) trivial (by omega) (by omega) (Below.refl _ _) (Nat.le_refl _) ?_; intro v w4 ho5 hb hg_ hnew_; have HO := za.mk ho5; have HB := za.mk hb; clear hg_ hnew_ ho5 hb; obtain ⟨A2, c2, ev⟩ := Kd.zbs HO.out; subst ev)
    | ((with_reducible refine zbp (N := 33) rfl ?_); refine Kd.R_copy (0 : Int) (w.drewN nq).heap.size rfl _ _ 27 27 3 rfl Try.underlying27 (by kernel_rfl) _ _ [-1] A 1 c (fun _ => True) rfl rfl HO.out (Kd.zb8 HR.out ((zbm (Below.refl _ _) nq).trans HB.out)) HB.out HB.out.size ?_; intro w5 ho6 hb6 hg6; have HO6 : za (Kd.R (Kd.int .i64) 3 w5 (w.drewN nq).heap.size (fun _ => True) (.slice A2 0 c2) []) := ⟨ho6⟩; have HB6 := za.mk hb6; clear ho6 hb6 hg6))
  go_loopg [8] 0 (fun gg v8 wr => v8 = .int .i64 0 ∧ za (Kd.R (Kd.int .i64) 3 wr (w.drewN nq).heap.size (fun _ => True) (.slice A2 0 c2) []) ∧ za (Below (w.drewN nq).heap.size (w.drewN nq) wr))
  case atStart => exact ⟨rfl, HO6, HB6⟩
  case round =>
    obtain ⟨rfl, R7, B7⟩ := hrel
    go_wp2
    go_ret
    exact ⟨_, rfl, Kd.zb2 R7.out (Nat.le_refl _), zb7 (zbm (Below.refl _ _) nq) (Nat.le_refl _) B7.out⟩
theorem repeat_any (n : Nat) (hn : n ≤ 1000000) (A : Option Addr) (c : Nat) (w : World) (hr : Kd.C (Kd.int .i64) w A 1 [-1]) :
    Calls Try.prog 114 #[.slice A 1 c, .int .i64 n] w fun e w' => ∃ v0_ : Value, e = .returned v0_ ∧ Kd.R (Kd.int .i64) 3 w' w.heap.size (fun _ => True) v0_ (List.replicate n (-1)) ∧ Below w.heap.size w w' := by
  rcases Nat.eq_zero_or_pos n with rfl | h
  · exact repeat_none A c w hr
  · exact repeat_calls n hn h A c w hr
def impl_none.f (a0 : Int) : Option (List Int) := if 0 ≤ a0 ∧ a0 ≤ 1000000 then (some (List.replicate a0.toNat (-1))) else (none)
set_option maxHeartbeats 4000000 in
set_option maxRecDepth 100000 in
theorem impl_none.calls (a0 : Int) (r : List Int) (w : World) (h : impl_none.f a0 = some r) :
    Calls Try.prog 99 #[.int .i64 a0] w fun e w' => ∃ v0_ : Value, e = .returned (v0_) ∧ Kd.R (Kd.int .i64) 3 w' w.heap.size (fun _ => True) v0_ r ∧ Below w.heap.size w w' := by
  unfold impl_none.f at h
  by_cases hc : 0 ≤ a0 ∧ a0 ≤ 1000000
  · rw [if_pos hc] at h
    obtain rfl := Option.some.inj h
    clear h
    obtain ⟨n, rfl⟩ := Int.eq_ofNat_of_zero_le hc.1
    rw [Int.toNat_natCast]
    have hn : n ≤ 1000000 := by omega
    clear hc
    go_enter Try.func99, Try.ntmps99
    go_wp2_with (go_at_call 114; refine (repeat_any n hn _ _ _ ?_).mono ?_)
    · refine ⟨rfl, by omega, fun _ => ⟨_, rfl, fun j p hj => ?_⟩⟩
      match j, hj with
      | 0, hj =>
        injection hj with hj
        subst hj
        refine ⟨[.int .i64 (-1)], rfl, rfl, fun i u hi => ?_⟩
        match i, hi with
        | 0, hi =>
          injection hi with hi
          subst hi
          show (w.alloc _).cell? (Addr.add _ 0) = _
          rw [Addr.add_zero']
          simp
        | i + 1, hi => simp at hi
      | j + 1, hj => simp at hj
    · rintro e w' ⟨v0_, rfl, hR, hB⟩
      have HR := za.mk hR
      have HB := za.mk hB
      clear hR hB
      go_wp2
      go_ret
      exact ⟨_, rfl, Kd.zb2 HR.out (by simp), zdb (zbn (Below.refl _ _) _) (by simp) HB.out⟩
  · rw [if_neg hc] at h
    cases h
def stepD (js : List JobT) (now : Int) (p : List Int × List Int) (i : Int) : List Int × List Int :=
  if i < 0 then p else (p.1.set i.toNat (wrap64 (rd p.1 i + 1)), if wrap64 (rd p.1 i + 1) = (jrd js i.toNat).f3 then p.2.set i.toNat (now + 1) else p.2)
def simT (pk : List Int → Int → Int) (js : List JobT) : Nat → List Int × List Int
  | 0 => (List.replicate js.length 0, List.replicate js.length (-1))
  | t + 1 => stepD js (t : Int) (simT pk js t) (pk (simT pk js t).1 (t : Int))
def runT (pk : List Int → Int → Int) (js : List JobT) (t : Nat) : Int := pk (simT pk js t).1 (t : Int)
def runRow (pk : List Int → Int → Int) (js : List JobT) (t : Nat) : List Int := (List.range t).map (runT pk js) ++ List.replicate (120 - t) (-1)
def simR (pk : List Int → Int → Int) (js : List JobT) : List Int × List Int := ((List.range 120).map (runT pk js), (simT pk js 120).2)
theorem stepD_len (js : List JobT) (now : Int) (p : List Int × List Int) (i : Int) : (stepD js now p i).1.length = p.1.length ∧ (stepD js now p i).2.length = p.2.length := by
  unfold stepD
  split
  · exact ⟨rfl, rfl⟩
  · refine ⟨by simp, ?_⟩
    simp only
    split <;> simp
theorem simT_len (pk : List Int → Int → Int) (js : List JobT) : ∀ t, (simT pk js t).1.length = js.length ∧ (simT pk js t).2.length = js.length
  | 0 => by simp [simT]
  | t + 1 => by
    have h1 := stepD_len js (t : Int) (simT pk js t) (pk (simT pk js t).1 (t : Int))
    have h2 := simT_len pk js t
    rw [simT]; omega
theorem runRow_len (pk : List Int → Int → Int) (js : List JobT) (t : Nat) (h : t ≤ 120) : (runRow pk js t).length = 120 := by simp [runRow]; omega
theorem runRow_set (pk : List Int → Int → Int) (js : List JobT) (t : Nat) (h : t < 120) : (runRow pk js t).set t (runT pk js t) = runRow pk js (t + 1) := by
  unfold runRow
  rw [List.set_append_right _ _ (by simp), List.length_map, List.length_range, Nat.sub_self, show 120 - t = (120 - (t + 1)) + 1 by omega, List.replicate_succ, List.set_cons_zero, List.range_succ, List.map_append, List.append_assoc]
  rfl
theorem simT_idle {pk : List Int → Int → Int} {js : List JobT} {t : Nat} (h : pk (simT pk js t).1 (t : Int) = -1) : simT pk js (t + 1) = simT pk js t := by
  rw [simT, h]
  rfl
theorem simT_runs {pk : List Int → Int → Int} {js : List JobT} {t b : Nat} {x y : Int} (h : pk (simT pk js t).1 (t : Int) = (b : Int)) (hx : rd (simT pk js t).1 (b : Int) = x) (hy : (jrd js b).f3 = y) :
    simT pk js (t + 1) = ((simT pk js t).1.set b (wrap64 (x + 1)), if wrap64 (x + 1) = y then (simT pk js t).2.set b ((t : Int) + 1) else (simT pk js t).2) := by
  rw [simT, h]
  unfold stepD
  rw [if_neg (by omega), hx, Int.toNat_natCast, hy]
structure SimW (w : World) (n : Nat) (A : Option Addr) (c g go : Nat) (D R F : Option Addr) (cd cr cf : Nat) (dn rn fn : List Int) (now : Int) (W : World) : Prop where
  jobs : W.cell? ⟨g, 0, none⟩ = some (.slice A n c)
  done : W.cell? ⟨g, 1, none⟩ = some (.slice D n cd)
  time : W.cell? ⟨g, 2, none⟩ = some (.int .i64 now)
  ftime : W.frozen? ⟨g, 2, none⟩ = false
  o0 : W.cell? ⟨go, 0, none⟩ = some (.slice R 120 cr)
  o1 : W.cell? ⟨go, 1, none⟩ = some (.slice F n cf)
  dR : Kd.R (Kd.int .i64) 3 W w.heap.size (fun k => some k = (Value.slice D n cd).ownBlock) (.slice D n cd) dn
  rR : Kd.R (Kd.int .i64) 3 W w.heap.size (fun k => some k = (Value.slice R 120 cr).ownBlock) (.slice R 120 cr) rn
  fR : Kd.R (Kd.int .i64) 3 W w.heap.size (fun k => some k = (Value.slice F n cf).ownBlock) (.slice F n cf) fn
  bel : Below w.heap.size w W
structure SimNe (w : World) (n g go : Nat) (D R F : Option Addr) (cd cr cf : Nat) : Prop where
  gn : w.heap.size ≤ g
  gon : w.heap.size ≤ go
  ggo : g ≠ go
  gD : ∀ k, (Value.slice D n cd).ownBlock = some k → k ≠ g ∧ k ≠ go
  gR : ∀ k, (Value.slice R 120 cr).ownBlock = some k → k ≠ g ∧ k ≠ go
  gF : ∀ k, (Value.slice F n cf).ownBlock = some k → k ≠ g ∧ k ≠ go
  DR : ∀ k, (Value.slice D n cd).ownBlock = some k → some k ≠ (Value.slice R 120 cr).ownBlock
  DF : ∀ k, (Value.slice D n cd).ownBlock = some k → some k ≠ (Value.slice F n cf).ownBlock
  RF : ∀ k, (Value.slice R 120 cr).ownBlock = some k → some k ≠ (Value.slice F n cf).ownBlock
section
variable {w W W1 : World} {n : Nat} {A : Option Addr} {c g go : Nat} {D R F : Option Addr} {cd cr cf : Nat} {dn rn fn : List Int} {now : Int}
theorem SimW.below (h : SimW w n A c g go D R F cd cr cf dn rn fn now W) (hb : Below W.heap.size W W1) : SimW w n A c g go D R F cd cr cf dn rn fn now W1 :=
  ⟨(hb.cell (World.block_lt_of_cell? _ _ h.jobs)).trans h.jobs, (hb.cell (World.block_lt_of_cell? _ _ h.done)).trans h.done, (hb.cell (World.block_lt_of_cell? _ _ h.time)).trans h.time,
   (hb.frozen (World.block_lt_of_cell? _ _ h.time)).trans h.ftime, (hb.cell (World.block_lt_of_cell? _ _ h.o0)).trans h.o0, (hb.cell (World.block_lt_of_cell? _ _ h.o1)).trans h.o1,
   Kd.zbl h.dR hb, Kd.zbl h.rR hb, Kd.zbl h.fR hb, zo h.bel hb⟩
theorem SimW.mach (h : SimW w n A c g go D R F cd cr cf dn rn fn now W) {js : List JobT} (hn : js.length = n) (hr : Kd.C k34 w A js.length js) (hl : dn.length = js.length) : Mach W g A c js D cd dn now := by
  subst hn
  refine ⟨h.jobs, by rw [hl]; exact h.done, h.time, Kd.zb8 hr h.bel, (Kd.zbe h.dR).2.2, hl⟩
theorem SimW.setTime (h : SimW w n A c g go D R F cd cr cf dn rn fn now W) (ne : SimNe w n g go D R F cd cr cf) (x : Int) : SimW w n A c g go D R F cd cr cf dn rn fn x (W.setCell ⟨g, 2, none⟩ (.int .i64 x)) := by
  refine ⟨?_, ?_, World.cell?_setCell_same _ _ _ h.time, ?_, ?_, ?_, Kd.zb9 h.dR (fun k hk => (ne.gD k hk.symm).1) _, Kd.zb9 h.rR (fun k hk => (ne.gR k hk.symm).1) _, Kd.zb9 h.fR (fun k hk => (ne.gF k hk.symm).1) _, h.bel.setCell ne.gn _⟩
  · rw [World.cell?_setCell_other _ _ _ _ (by simp)]; exact h.jobs
  · rw [World.cell?_setCell_other _ _ _ _ (by simp)]; exact h.done
  · rw [World.frozen?_setCell]; exact h.ftime
  · rw [World.cell?_setCell_far _ _ _ _ ne.ggo]; exact h.o0
  · rw [World.cell?_setCell_far _ _ _ _ ne.ggo]; exact h.o1
theorem SimW.setRun {gr : Nat} (h : SimW w n A c g go D (some ⟨gr, 0, none⟩) F cd cr cf dn rn fn now W) (ne : SimNe w n g go D (some ⟨gr, 0, none⟩) F cd cr cf) (ho : (Value.slice (some ⟨gr, 0, none⟩) 120 cr).ownBlock = some gr) (i : Nat) (x : Int) :
    SimW w n A c g go D (some ⟨gr, 0, none⟩) F cd cr cf dn (rn.set i x) fn now (W.setCell ⟨gr, i, none⟩ (.int .i64 x)) := by
  have hg := ne.gR gr ho
  have h1 := (Kd.zc1 h.rR (i : Int) x).1
  rw [Int.toNat_natCast] at h1
  refine ⟨?_, ?_, ?_, ?_, ?_, ?_, Kd.zb9 h.dR (fun k hk e => ne.DR k hk.symm (by rw [ho]; exact congrArg some e)) _, h1, Kd.zb9 h.fR (fun k hk e => ne.RF gr ho (by rw [← hk]; exact congrArg some e.symm)) _, h.bel.setCell (Kd.zch h.rR _ ho) _⟩
  · rw [World.cell?_setCell_far _ _ _ _ hg.1]; exact h.jobs
  · rw [World.cell?_setCell_far _ _ _ _ hg.1]; exact h.done
  · rw [World.cell?_setCell_far _ _ _ _ hg.1]; exact h.time
  · rw [World.frozen?_setCell]; exact h.ftime
  · rw [World.cell?_setCell_far _ _ _ _ hg.2]; exact h.o0
  · rw [World.cell?_setCell_far _ _ _ _ hg.2]; exact h.o1
theorem SimW.setFin {gr : Nat} (h : SimW w n A c g go D R (some ⟨gr, 0, none⟩) cd cr cf dn rn fn now W) (ne : SimNe w n g go D R (some ⟨gr, 0, none⟩) cd cr cf) (ho : (Value.slice (some ⟨gr, 0, none⟩) n cf).ownBlock = some gr) (i : Nat) (x : Int) :
    SimW w n A c g go D R (some ⟨gr, 0, none⟩) cd cr cf dn rn (fn.set i x) now (W.setCell ⟨gr, i, none⟩ (.int .i64 x)) := by
  have hg := ne.gF gr ho
  have h1 := (Kd.zc1 h.fR (i : Int) x).1
  rw [Int.toNat_natCast] at h1
  refine ⟨?_, ?_, ?_, ?_, ?_, ?_, Kd.zb9 h.dR (fun k hk e => ne.DF k hk.symm (by rw [ho]; exact congrArg some e)) _, Kd.zb9 h.rR (fun k hk e => ne.RF k hk.symm (by rw [ho]; exact congrArg some e)) _, h1, h.bel.setCell (Kd.zch h.fR _ ho) _⟩
  · rw [World.cell?_setCell_far _ _ _ _ hg.1]; exact h.jobs
  · rw [World.cell?_setCell_far _ _ _ _ hg.1]; exact h.done
  · rw [World.cell?_setCell_far _ _ _ _ hg.1]; exact h.time
  · rw [World.frozen?_setCell]; exact h.ftime
  · rw [World.cell?_setCell_far _ _ _ _ hg.2]; exact h.o0
  · rw [World.cell?_setCell_far _ _ _ _ hg.2]; exact h.o1
theorem SimW.setDone {gr : Nat} (h : SimW w n A c g go (some ⟨gr, 0, none⟩) R F cd cr cf dn rn fn now W) (ne : SimNe w n g go (some ⟨gr, 0, none⟩) R F cd cr cf) (ho : (Value.slice (some ⟨gr, 0, none⟩) n cd).ownBlock = some gr) (i : Nat) (x : Int) :
    SimW w n A c g go (some ⟨gr, 0, none⟩) R F cd cr cf (dn.set i x) rn fn now (W.setCell ⟨gr, i, none⟩ (.int .i64 x)) := by
  have hg := ne.gD gr ho
  have h1 := (Kd.zc1 h.dR (i : Int) x).1
  rw [Int.toNat_natCast] at h1
  refine ⟨?_, ?_, ?_, ?_, ?_, ?_, h1, Kd.zb9 h.rR (fun k hk e => ne.DR gr ho (by rw [← hk]; exact congrArg some e.symm)) _, Kd.zb9 h.fR (fun k hk e => ne.DF gr ho (by rw [← hk]; exact congrArg some e.symm)) _, h.bel.setCell (Kd.zch h.dR _ ho) _⟩
  · rw [World.cell?_setCell_far _ _ _ _ hg.1]; exact h.jobs
  · rw [World.cell?_setCell_far _ _ _ _ hg.1]; exact h.done
  · rw [World.cell?_setCell_far _ _ _ _ hg.1]; exact h.time
  · rw [World.frozen?_setCell]; exact h.ftime
  · rw [World.cell?_setCell_far _ _ _ _ hg.2]; exact h.o0
  · rw [World.cell?_setCell_far _ _ _ _ hg.2]; exact h.o1
end
set_option maxHeartbeats 4000000 in
set_option maxRecDepth 100000 in
theorem newMachine_calls (A : Option Addr) (c : Nat) (n : Nat) (hn : n ≤ 1000000) (w : World) :
    Calls Try.prog 98 #[.slice A n c] w fun e w' => ∃ (g : Nat) (D : Option Addr) (cd : Nat), e = .returned (.pointer (some ⟨g, 0, none⟩)) ∧ w.heap.size ≤ g ∧ g < w'.heap.size ∧
      w'.cell? ⟨g, 0, none⟩ = some (.slice A n c) ∧ w'.cell? ⟨g, 1, none⟩ = some (.slice D n cd) ∧ w'.cell? ⟨g, 2, none⟩ = some (.int .i64 0) ∧ w'.frozen? ⟨g, 2, none⟩ = false ∧
      Kd.R (Kd.int .i64) 3 w' w.heap.size (fun k => k ≠ g) (.slice D n cd) (List.replicate n 0) ∧ Below w.heap.size w w' := by
  have hn2 : IntKind.i64.wrap (n : Int) = (n : Int) := by rw [IntKind.wrap_i64]; omega
  go_enter Try.func98, Try.ntmps98
  go_wp2_with (first
    | ((with_reducible refine zbp (N := 6) rfl ?_); refine Kd.R_make (Kd.int .i64) _ 3 rfl (N := 6) rfl 27 _ _ rfl (n : Int) rfl rfl Try.underlying27 (.int .i64 0) 8 info3 rfl (by decide) (by omega) 0 (ok := fun _ => True) (okp := fun _ => True) rfl (fun _ hk => hk) trivial (by omega) (by omega) (Below.refl _ _) (Nat.le_refl _) ?_; intro v w4 ho5 hb hg_ hnew_; have HO := za.mk ho5; have HB := za.mk hb; clear hg_ hnew_ ho5 hb; obtain ⟨A2, c2, ev⟩ := Kd.zbs HO.out; subst ev))
  go_ret
  have hO := HO.out
  rw [List.length_replicate, Int.toNat_natCast] at hO
  refine ⟨_, A2, c2, rfl, HB.out.size, by simp, by simp, ?_, by simp, by simp, Kd.zy (Kd.zbi (Kd.R_bound hO) _) (fun k hk => by have := hk.2.2.1; omega), zbn HB.out _⟩
  simp [Int.toNat_natCast]
theorem none_sl (n : Nat) (hn : n ≤ 1000000) (x : Int) (hx : x = (n : Int)) (w : World) :
    Calls Try.prog 99 #[.int .i64 x] w fun e w' => ∃ (A : Option Addr) (c : Nat), e = .returned (.slice A n c) ∧ Kd.R (Kd.int .i64) 3 w' w.heap.size (fun _ => True) (.slice A n c) (List.replicate n (-1)) ∧ Below w.heap.size w w' := by
  subst hx
  refine (impl_none.calls (n : Int) (List.replicate n (-1)) w (by unfold impl_none.f; rw [if_pos (by omega)]; rfl)).mono ?_
  rintro e w' ⟨v, rfl, hr, hb⟩
  obtain ⟨A, c, ev⟩ := Kd.zbs hr
  subst ev
  rw [List.length_replicate] at hr ⊢
  exact ⟨A, c, rfl, hr, hb⟩
set_option maxHeartbeats 16000000 in
set_option maxRecDepth 100000 in
theorem simulate_calls (pk : List Int → Int → Int) (pn : Nat) (pb pl : Array Value) (ep : ∀ args w, (callFunc pn args).run Try.prog w = .ok (.enter pn args) w)
    (A : Option Addr) (c : Nat) (js : List JobT) (w : World) (hr : Kd.C k34 w A js.length js) (hlen : js.length ≤ 1000)
    (hrng : ∀ dn now, pk dn now = -1 ∨ ∃ b : Nat, b < js.length ∧ pk dn now = (b : Int))
    (hp : ∀ (W : World) (g : Nat) (D : Option Addr) (cd : Nat) (dn : List Int) (t : Nat), t < 120 → Below w.heap.size w W → Mach W g A c js D cd dn (t : Int) → Calls Try.prog pn (pb ++ #[.pointer (some ⟨g, 0, none⟩)] ++ pl) W fun e w' => e = .returned (.int .i64 (pk dn (t : Int))) ∧ Below W.heap.size W w') :
    Calls Try.prog 49 #[.slice A js.length c, .func (.func pn) pb pl] w fun e w' => ∃ v0_ v1_ : Value, e = .returned (.agg #[v0_, v1_]) ∧ Kd.R (Kd.int .i64) 3 w' w.heap.size (fun k_ => some k_ ≠ (v1_ : Value).ownBlock) v0_ (simR pk js).1 ∧ Kd.R (Kd.int .i64) 3 w' w.heap.size (fun k_ => some k_ ≠ (v0_ : Value).ownBlock) v1_ (simR pk js).2 ∧ Below w.heap.size w w' := by
  have HR := za.mk hr
  have HP := za.mk hp
  have HG := za.mk hrng
  clear hr hp hrng
  have tok1 : True := trivial
  go_enter Try.func49, Try.ntmps49
  go_wp2_with (first
    | (go_at_call 98; refine (newMachine_calls A c js.length (by omega) _).mono ?_; rintro e w1 ⟨g, D, cd, rfl, hg0, hg1, hj, hd, ht, hf, hdr, hb⟩; have N1 := za.mk (And.intro hg0 (And.intro hg1 (And.intro hj (And.intro hd (And.intro ht (And.intro hf (And.intro hdr hb))))))); clear hg0 hg1 hj hd ht hf hdr hb)
    | (go_at_call 99; have _t := tok1; refine (none_sl 120 (by omega) _ rfl _).mono ?_; rintro e w2 ⟨R, cr, rfl, hr2, hb2⟩; have N2 := za.mk (And.intro hr2 hb2); clear hr2 hb2 tok1)
    | (go_at_call 99; refine (none_sl js.length (by omega) _ rfl _).mono ?_; rintro e w3 ⟨F, cf, rfl, hr3, hb3⟩; have N3 := za.mk (And.intro hr3 hb3); clear hr3 hb3))
  have hne : SimNe (w.alloc (.cells #[.slice none 0 0, .slice none 0 0] 29)) js.length g w3.heap.size D R F cd cr cf ∧ SimW (w.alloc (.cells #[.slice none 0 0, .slice none 0 0] 29)) js.length A c g w3.heap.size D R F cd cr cf (simT pk js 0).1 (runRow pk js 0) (simT pk js 0).2 ((0 : Nat) : Int) (w3.alloc (.cells #[.slice R 120 cr, .slice F js.length cf] 29)) := by
    obtain ⟨hg0, hg1, hj, hd, ht, hf, hdr, hb⟩ := N1.out
    obtain ⟨hr2, hb2⟩ := N2.out
    obtain ⟨hr3, hb3⟩ := N3.out
    have s1 := hb.size
    have s2 := hb2.size
    have s3 := hb3.size
    have h14 : Below w1.heap.size w1 (w3.alloc (.cells #[.slice R 120 cr, .slice F js.length cf] 29)) := zbn (zo hb2 hb3) _
    have h24 : Below w2.heap.size w2 (w3.alloc (.cells #[.slice R 120 cr, .slice F js.length cf] 29)) := zbn hb3 _
    have h34 : Below w3.heap.size w3 (w3.alloc (.cells #[.slice R 120 cr, .slice F js.length cf] 29)) := zbn (Below.refl _ _) _
    have dlt := Kd.R_lt hdr
    have rlt := Kd.R_lt hr2
    have rge := Kd.zch hr2
    have flt := Kd.R_lt hr3
    have fge := Kd.zch hr3
    have dg := hdr.1
    refine ⟨⟨hg0, by omega, by omega, fun k hk => ⟨dg k hk, by have := dlt k hk; omega⟩, fun k hk => ?_, fun k hk => ?_, fun k hk e => ?_, fun k hk e => ?_, fun k hk e => ?_⟩, ?_⟩
    · have := rlt k hk; have := rge k hk; omega
    · have := flt k hk; have := fge k hk; omega
    · have := dlt k hk; have := rge k e.symm; omega
    · have := dlt k hk; have := fge k e.symm; omega
    · have := rlt k hk; have := fge k e.symm; omega
    · refine ⟨(h14.cell (World.block_lt_of_cell? _ _ hj)).trans hj, (h14.cell (World.block_lt_of_cell? _ _ hd)).trans hd, (h14.cell (World.block_lt_of_cell? _ _ ht)).trans ht, (h14.frozen (World.block_lt_of_cell? _ _ ht)).trans hf, by simp, by simp, Kd.zbl (Kd.R_tight rfl hdr) h14, ?_, Kd.zbl (Kd.R_tight rfl (Kd.zb2 hr3 (by omega))) h34, zo hb h14⟩
      have h := Kd.zbl (Kd.R_tight rfl (Kd.zb2 hr2 (by omega : (w.alloc (.cells #[.slice none 0 0, .slice none 0 0] 29)).heap.size ≤ w1.heap.size))) h24
      simpa [runRow] using h
  have NE := za.mk hne.1
  have S0 := za.mk hne.2
  have HB0 : za (Below w.heap.size w (w.alloc (.cells #[.slice none 0 0, .slice none 0 0] 29))) := ⟨zbn (Below.refl _ _) _⟩
  clear hne N1 N2 N3
  generalize w3.heap.size = go at NE S0 ⊢
  go_loopg [7] 120 (fun gg _ wr => ∃ t : Nat, t ≤ 120 ∧ 120 - t ≤ gg ∧ za (SimW (w.alloc (.cells #[.slice none 0 0, .slice none 0 0] 29)) js.length A c g go D R F cd cr cf (simT pk js t).1 (runRow pk js t) (simT pk js t).2 (t : Int) wr))
  case atStart => exact ⟨0, by omega, by omega, S0⟩
  case round =>
    obtain ⟨t, ht, hgg, SI⟩ := hrel
    have tm := SI.out.time
    by_cases hlt : t < 120
    · have hltz : (t : Int) < 120 := by omega
      have hcall := HP.out wr g D cd (simT pk js t).1 t hlt (zb7 HB0.out HB0.out.size SI.out.bel) (SI.out.mach rfl (Kd.C_alloc HR.out _) (simT_len pk js t).1)
      have hrl := runRow_len pk js t ht
      obtain ⟨gr, cr', er, _, _, _, _⟩ := Kd.zdo SI.out.rR (by omega)
      injection er with er1 er2 er3
      subst er1
      clear er2 er3
      rcases HG.out (simT pk js t).1 (t : Int) with hi | ⟨b, hb, hi⟩
      · rw [hi] at hcall
        have HI := za.mk hi
        clear hi hrl
        go_wp2_with (go_at_fn pn; refine hcall.mono ?_; rintro e w5 ⟨rfl, hb5⟩; have S5 := za.mk (SI.out.below hb5); have tm5 := S5.out.time; have o05 := S5.out.o0; obtain ⟨cx, fx⟩ := Kd.zcw 0 S5.out.rR (t : Int) (by omega) hltz; rw [Int.toNat_natCast] at cx fx; clear hb5)
        go_big_region
        have S6 := za.mk ((S5.out.setRun NE.out rfl t (-1)).below (zb6 (Below.refl _ _)))
        have tm6 := S6.out.time
        have ft6 := S6.out.ftime
        clear tm5 o05 cx fx hcall S5
        generalize (w5.setCell ⟨gr, t, none⟩ (Value.int .i64 (-1))).drew = w6 at S6 tm6 ft6 ⊢
        go_wp2
        go_roundg (120 - (t + 1))
        case measure => omega
        case rel =>
          refine ⟨t + 1, by omega, by omega, ⟨?_⟩⟩
          have h := S6.out.setTime NE.out ((t : Int) + 1)
          rw [show (-1 : Int) = runT pk js t from HI.out.symm, runRow_set pk js t hlt] at h
          rw [simT_idle HI.out]
          exact h
      · rw [hi] at hcall
        have HI := za.mk hi
        have hl := simT_len pk js t
        obtain ⟨gd, cd', er, _, _, _, _⟩ := Kd.zdo SI.out.dR (by omega)
        injection er with er1 er2 er3
        subst er1
        clear er2 er3
        obtain ⟨gf, cf', er, _, _, _, _⟩ := Kd.zdo SI.out.fR (by omega)
        injection er with er1 er2 er3
        subst er1
        clear er2 er3
        have hbz : (b : Int) < (js.length : Int) := by omega
        obtain ⟨ad, ea, hx0, hx1, hx2, hx3⟩ := zc9 HR.out (b : Int) (by omega) hbz
        cases ea
        rw [Int.toNat_natCast] at hx3
        obtain ⟨y, hy⟩ : ∃ y, (jrd js b).f3 = y := ⟨_, rfl⟩
        obtain ⟨x, hx⟩ : ∃ x, rd (simT pk js t).1 (b : Int) = x := ⟨_, rfl⟩
        have hx3' := hx3
        rw [show (ze js (b : Int)).f3 = y from hy] at hx3'
        have HX3 := za.mk hx3'
        have STEP := za.mk (simT_runs hi hx hy)
        have HX := za.mk hx
        have LEN := za.mk hl
        clear hi hrl hl hx0 hx1 hx2 hx3 hx3' hy hx
        go_wp2_with (go_at_fn pn; refine hcall.mono ?_; rintro e w5 ⟨rfl, hb5⟩; have S5 := za.mk (SI.out.below hb5); have tm5 := S5.out.time; have o05 := S5.out.o0; obtain ⟨cx, fx⟩ := Kd.zcw 0 S5.out.rR (t : Int) (by omega) hltz; rw [Int.toNat_natCast] at cx fx; clear hb5)
        go_big_region
        have S6 := za.mk ((S5.out.setRun NE.out rfl t (b : Int)).below (zb6 (Below.refl _ _)))
        have dn6 := S6.out.done
        obtain ⟨cd6, fd6⟩ := Kd.zcw 0 S6.out.dR (b : Int) (by omega) hbz
        rw [Int.toNat_natCast, show rdOf 0 (simT pk js t).1 (b : Int) = x from HX.out] at cd6
        rw [Int.toNat_natCast] at fd6
        clear tm5 o05 cx fx hcall S5
        generalize (w5.setCell ⟨gr, t, none⟩ (Value.int .i64 (b : Int))).drew = w6 at S6 dn6 cd6 fd6 ⊢
        go_wp2_with fail
        have S7 := za.mk (S6.out.setDone NE.out rfl b (wrap64 (x + 1)))
        have dn7 := S7.out.done
        have tm7 := S7.out.time
        have ft7 := S7.out.ftime
        have o17 := S7.out.o1
        have cd7 := World.cell?_setCell_same w6 ⟨gd, b, none⟩ (Value.int .i64 (wrap64 (x + 1))) cd6
        obtain ⟨cf7, ff7⟩ := Kd.zcw 0 S7.out.fR (b : Int) (by omega) hbz
        rw [Int.toNat_natCast] at cf7 ff7
        have hx7 := HX3.out
        have hx7 := (HB0.out.cell (World.block_lt_of_cell? _ _ hx7)).trans hx7
        have hx7 := (S7.out.bel.cell (World.block_lt_of_cell? _ _ hx7)).trans hx7
        clear dn6 cd6 fd6 S6
        generalize w6.setCell ⟨gd, b, none⟩ (Value.int .i64 (wrap64 (x + 1))) = w7 at S7 dn7 tm7 ft7 o17 cd7 cf7 ff7 hx7 ⊢
        generalize wrap64 (x + 1) = z at S7 cd7 STEP ⊢
        by_cases hq : z = y
        · subst hq
          rw [if_pos rfl] at STEP
          go_big_region
          go_wp2_with fail
          have S8 := za.mk (S7.out.below (zb6 (Below.refl _ _)))
          have tm8 := S8.out.time
          have o18 := S8.out.o1
          have cf8 : w7.drew.cell? ⟨gf, b, none⟩ = _ := cf7
          have ff8 : w7.drew.frozen? ⟨gf, b, none⟩ = false := ff7
          have hw : IntKind.i64.wrap ((t : Int) + 1) = (t : Int) + 1 := by rw [IntKind.wrap_i64]; omega
          clear dn7 tm7 ft7 o17 cd7 cf7 ff7 hx7 S7
          generalize w7.drew = w8 at S8 tm8 o18 cf8 ff8 ⊢
          go_big_region
          have S9 := za.mk ((S8.out.setFin NE.out rfl b ((t : Int) + 1)).below (zb6 (Below.refl _ _)))
          have tm9 := S9.out.time
          have ft9 := S9.out.ftime
          clear tm8 o18 cf8 ff8 hw S8
          generalize (w8.setCell ⟨gf, b, none⟩ (Value.int .i64 ((t : Int) + 1))).drew = w9 at S9 tm9 ft9 ⊢
          go_wp2
          go_roundg (120 - (t + 1))
          case measure => omega
          case rel =>
            refine ⟨t + 1, by omega, by omega, ⟨?_⟩⟩
            have h := S9.out.setTime NE.out ((t : Int) + 1)
            rw [show (b : Int) = runT pk js t from HI.out.symm, runRow_set pk js t hlt] at h
            rw [STEP.out]
            exact h
        · have hq2 : (z == y) = false := by simpa using hq
          have hq3 : decide (z = y) = false := by simpa using hq
          rw [if_neg hq] at STEP
          have QN := za.mk hq
          clear hq
          go_big_region
          have S8 := za.mk (S7.out.below (zb6 (Below.refl _ _)))
          have tm8 := S8.out.time
          have ft8 := S8.out.ftime
          clear dn7 tm7 ft7 o17 cd7 cf7 ff7 hx7 S7
          generalize w7.drew = w8 at S8 tm8 ft8 ⊢
          go_wp2
          go_roundg (120 - (t + 1))
          case measure => omega
          case rel =>
            refine ⟨t + 1, by omega, by omega, ⟨?_⟩⟩
            have h := S8.out.setTime NE.out ((t : Int) + 1)
            rw [show (b : Int) = runT pk js t from HI.out.symm, runRow_set pk js t hlt] at h
            rw [STEP.out]
            exact h
    · have hltz : ¬ (t : Int) < 120 := by omega
      obtain rfl : t = 120 := by omega
      have o0 := SI.out.o0
      have o1 := SI.out.o1
      have BKr : wr.heap[w.heap.size]? = some (.cells #[.slice none 0 0, .slice none 0 0] 29 (0, 0)) := (SI.out.bel.block w.heap.size (by simp)).trans (blk_new w _)
      have r0 : wr.cell? ⟨w.heap.size, 0, none⟩ = some (.slice none 0 0) := (zh BKr 0).trans rfl
      have r1 : wr.cell? ⟨w.heap.size, 1, none⟩ = some (.slice none 0 0) := (zh BKr 1).trans rfl
      have f0 := zg BKr 0
      have f1 := zg BKr 1
      have BK := za.mk BKr
      clear BKr
      go_wp2
      refine bodyPost_ret (results_cell_row rfl _ _ w.heap.size 29 #[.slice R 120 cr, .slice F js.length cf] (0, 0) _ rfl (by refine zbu (cs := #[.slice R 120 cr, .slice none 0 0]) ?_ 1 _ rfl; refine zbu (cs := #[.slice none 0 0, .slice none 0 0]) ?_ 0 _ rfl; exact BK.out) Try.underlying29 rfl (by kernel_rfl)) rfl ?_
      have hsz : w.heap.size < (w.alloc (.cells #[.slice none 0 0, .slice none 0 0] 29)).heap.size := by simp
      have mv : ∀ {v : Value} {l : List Int}, Kd.R (Kd.int .i64) 3 wr (w.alloc (.cells #[.slice none 0 0, .slice none 0 0] 29)).heap.size (fun k => some k = v.ownBlock) v l → ∀ x y, Kd.R (Kd.int .i64) 3 ((wr.setCell ⟨w.heap.size, 0, none⟩ x).setCell ⟨w.heap.size, 1, none⟩ y) w.heap.size (fun k => some k = v.ownBlock) v l := fun h x y =>
        Kd.zb2 (Kd.zb9 (Kd.zb9 h (fun k hk e => by have := Kd.zch h k hk.symm; simp only at e; omega) x) (fun k hk e => by have := Kd.zch h k hk.symm; simp only at e; omega) y) (by omega)
      refine ⟨_, _, rfl, ?_, ?_, ?_⟩
      · have h := mv SI.out.rR (.slice R 120 cr) (.slice F js.length cf)
        have e : runRow pk js 120 = (simR pk js).1 := by simp [runRow, simR]
        rw [e] at h
        exact Kd.zy h (fun k hk e2 => NE.out.RF k hk.symm e2)
      · exact Kd.zy (mv SI.out.fR (.slice R 120 cr) (.slice F js.length cf)) (fun k hk e2 => NE.out.RF k e2.symm hk)
      · exact ((zb7 HB0.out HB0.out.size SI.out.bel).setCell (Nat.le_refl _) _).setCell (Nat.le_refl _) _
theorem R_cells2 {W : World} {b g : Nat} {ok : Nat → Prop} {v : Value} {l : List Int} (hg : g < b) (h : Kd.R (Kd.int .i64) 3 W b ok v l) (x y : Value) : Kd.R (Kd.int .i64) 3 ((W.setCell ⟨g, 0, none⟩ x).setCell ⟨g, 1, none⟩ y) b (fun k => some k = v.ownBlock ∧ ok k) v l :=
  Kd.zb9 (Kd.zb9 (Kd.R_tight2 rfl h) (fun k hk e => by have := Kd.zch h k hk.1.symm; simp only at e; omega) x) (fun k hk e => by have := Kd.zch h k hk.1.symm; simp only at e; omega) y
theorem edfD_rng (js : List JobT) (dn : List Int) (now : Int) : edfD js dn now = -1 ∨ ∃ b : Nat, b < js.length ∧ edfD js dn now = (b : Int) := bestD_rng _ _ _
def pauD (js : List JobT) (tk : Int → Bool) (dn : List Int) (now : Int) : Int := if tk now = true then -1 else edfD js dn now
theorem pauD_rng (js : List JobT) (tk : Int → Bool) (dn : List Int) (now : Int) : pauD js tk dn now = -1 ∨ ∃ b : Nat, b < js.length ∧ pauD js tk dn now = (b : Int) := by
  unfold pauD
  split
  · exact Or.inl rfl
  · exact edfD_rng _ _ _
set_option maxHeartbeats 4000000 in
set_option maxRecDepth 100000 in
theorem paused1_calls (tk : Int → Bool) (tn : Nat) (tl : Array Value) (et : ∀ args w, (callFunc tn args).run Try.prog w = .ok (.enter tn args) w) (g : Nat) (A : Option Addr) (c : Nat) (js : List JobT) (D : Option Addr) (cd : Nat) (dn : List Int) (t : Nat) (B : Addr) (w : World) (hB : w.cell? B = some (.func (.func tn) #[] tl)) (h : Mach w g A c js D cd dn (t : Int))
    (ht : ∀ q : Nat, Calls Try.prog tn (#[.int .i64 t] ++ tl) (w.drewN q) fun e w' => e = .returned (.bool (tk (t : Int))) ∧ ∃ n, w' = (w.drewN q).drewN n) :
    Calls Try.prog 108 #[.pointer (some ⟨g, 0, none⟩), .pointer (some B)] w fun e w' => e = .returned (.int .i64 (pauD js tk dn (t : Int))) ∧ Below w.heap.size w w' := by
  have HM := za.mk h
  have HT := za.mk ht
  have tm := h.time
  clear h ht
  cases hk : tk (t : Int) with
  | true =>
    have HT2 := HT.out
    rw [hk] at HT2
    have e : pauD js tk dn (t : Int) = -1 := by unfold pauD; rw [if_pos hk]
    rw [e]
    clear e HT hk
    go_enter Try.func108, Try.ntmps108
    go_wp2_with fail
    go_quiet (first | (go_at_fn tn; refine Calls.quiet_of (HT2 _)))
    go_wp2
    go_ret
    exact ⟨rfl, zbm (Below.refl _ _) _⟩
  | false =>
    have HT2 := HT.out
    rw [hk] at HT2
    have e : pauD js tk dn (t : Int) = edfD js dn (t : Int) := by unfold pauD; rw [if_neg (by rw [hk]; simp)]
    rw [e]
    clear e HT hk
    go_enter Try.func108, Try.ntmps108
    go_wp2_with fail
    go_quiet (first | (go_at_fn tn; refine Calls.quiet_of (HT2 _)))
    go_wp2_with (go_at_call 54; refine (edf_calls g A c js D cd dn (t : Int) _ (HM.out.below (zbm (Below.refl _ _) _))).mono ?_; rintro e w1 ⟨rfl, hb⟩; have HB := za.mk (zo (zbm (Below.refl w.heap.size w) _) hb); clear hb)
    go_ret
    exact ⟨rfl, HB.out⟩
set_option maxHeartbeats 4000000 in
set_option maxRecDepth 100000 in
theorem paused_calls (tk : Int → Bool) (tn : Nat) (tl : Array Value) (et : ∀ args w, (callFunc tn args).run Try.prog w = .ok (.enter tn args) w) (A : Option Addr) (c : Nat) (js : List JobT) (w : World) (hr : Kd.C k34 w A js.length js) (hlen : js.length ≤ 1000)
    (ht : ∀ (W : World) (t : Nat), t < 120 → Below w.heap.size w W → Calls Try.prog tn (#[.int .i64 t] ++ tl) W fun e w' => e = .returned (.bool (tk (t : Int))) ∧ ∃ n, w' = W.drewN n) :
    Calls Try.prog 73 #[.slice A js.length c, .func (.func tn) #[] tl] w fun e w' => ∃ v0_ v1_ : Value, e = .returned (.agg #[v0_, v1_]) ∧ Kd.R (Kd.int .i64) 3 w' w.heap.size (fun k_ => some k_ ≠ (v1_ : Value).ownBlock) v0_ (simR (pauD js tk) js).1 ∧ Kd.R (Kd.int .i64) 3 w' w.heap.size (fun k_ => some k_ ≠ (v0_ : Value).ownBlock) v1_ (simR (pauD js tk) js).2 ∧ Below w.heap.size w w' := by
  obtain ⟨W0, hW0⟩ : ∃ W0 : World, W0 = (w.alloc (.cells #[.func (.func tn) #[] tl] 82)).alloc (.cells #[.slice none 0 0, .slice none 0 0] 29) := ⟨_, rfl⟩
  have B0 : Below w.heap.size w W0 := by rw [hW0]; exact zbn (zbn (Below.refl _ _) _) _
  have BK0 : W0.heap[w.heap.size + 1]? = some (.cells #[.slice none 0 0, .slice none 0 0] 29 (0, 0)) := by
    rw [hW0]
    have h := blk_new (w.alloc (.cells #[.func (.func tn) #[] tl] 82)) (.cells #[.slice none 0 0, .slice none 0 0] 29)
    rwa [show (w.alloc (.cells #[.func (.func tn) #[] tl] 82)).heap.size = w.heap.size + 1 by simp] at h
  have CB : W0.cell? ⟨w.heap.size, 0, none⟩ = some (.func (.func tn) #[] tl) := by rw [hW0]; exact ((zbn (Below.refl _ _) _).cell (p := ⟨w.heap.size, 0, none⟩) (by simp)).trans (by simp)
  have S0 : w.heap.size + 1 < W0.heap.size := by rw [hW0]; simp
  have HS := za.mk (simulate_calls (pauD js tk) 108 #[] #[.pointer (some ⟨w.heap.size, 0, none⟩)] (enters_of Try.func108 (by kernel_rfl) rfl) A c js W0 (Kd.zb8 hr B0) hlen (pauD_rng js tk)
    (fun W g D cd dn t htl hb hM => paused1_calls tk tn tl et g A c js D cd dn t ⟨w.heap.size, 0, none⟩ W ((hb.cell (p := ⟨w.heap.size, 0, none⟩) (show w.heap.size < W0.heap.size by omega)).trans CB) hM (fun q => ht (W.drewN q) t htl (zbm (zb7 B0 B0.size hb) q))))
  have HB0 := za.mk B0
  have HBK := za.mk BK0
  have HS0 := za.mk S0
  have HW := za.mk hW0
  clear hr ht B0 BK0 CB S0 hW0
  go_enter Try.func73, Try.ntmps73
  go_wp2_with (go_at_call 49; (try rw [← HW.out]); refine HS.out.mono ?_; rintro e w1 ⟨v0, v1, rfl, hR0, hR1, hb⟩; obtain ⟨A0, c0, ev⟩ := Kd.zbs hR0; subst ev; obtain ⟨A1, c1, ev⟩ := Kd.zbs hR1; subst ev; have H0 := za.mk hR0; have H1 := za.mk hR1; have HB := za.mk (zb7 HB0.out HB0.out.size hb); have BK1 := zbg HBK.out hb; have r0 := (zh BK1 0); have r1 := (zh BK1 1); have f0 := zg BK1 0; have f1 := zg BK1 1; have BK := za.mk BK1; clear hR0 hR1 hb BK1)
  refine bodyPost_ret (results_cell_row rfl _ _ (w.heap.size + 1) 29 #[.slice A0 (simR (pauD js tk) js).1.length c0, .slice A1 (simR (pauD js tk) js).2.length c1] (0, 0) _ rfl (by refine zbu (cs := #[.slice A0 (simR (pauD js tk) js).1.length c0, .slice none 0 0]) ?_ 1 _ rfl; refine zbu (cs := #[.slice none 0 0, .slice none 0 0]) ?_ 0 _ rfl; exact BK.out) Try.underlying29 rfl (by kernel_rfl)) rfl ?_
  exact ⟨_, _, rfl, Kd.zb2 (Kd.zy (R_cells2 HS0.out H0.out _ _) (fun k hk => hk.2)) HB0.out.size, Kd.zb2 (Kd.zy (R_cells2 HS0.out H1.out _ _) (fun k hk => hk.2)) HB0.out.size, (HB.out.setCell (by simp) _).setCell (by simp) _⟩
abbrev TaskT := S88
def trd (l : List TaskT) (i : Int) : TaskT := zbf l i
def inRng (l : List TaskT) (j : JobT) : Bool := decide (0 ≤ j.f0 ∧ j.f0 ≤ (l.length : Int) - 1)
def relOk (j : JobT) : Bool := decide (0 ≤ j.f1 ∧ j.f1 ≤ 119)
def exOk (l : List TaskT) (j : JobT) : Bool := decide (1 ≤ j.f3 ∧ j.f3 ≤ (trd l j.f0).f0)
def bhd (p j : JobT) : Bool := decide (p.f1 > j.f1) || (decide (p.f1 = j.f1) && decide (p.f0 ≥ j.f0))
def ordOk (l : List TaskT) (js : List JobT) (i : Nat) : Bool := inRng l (jrd js i) && relOk (jrd js i) && exOk l (jrd js i) && (decide (i = 0) || !(bhd (jrd js (i - 1)) (jrd js i)))
def allB (p : Nat → Bool) : Nat → Bool
  | 0 => true
  | n + 1 => allB p n && p n
theorem allB_false {p : Nat → Bool} {i : Nat} (h : p i = false) : ∀ n, i < n → allB p n = false
  | 0, hn => by omega
  | n + 1, hn => by
    rw [allB]
    by_cases e : i = n
    · subst e; rw [h]; simp
    · rw [allB_false h n (by omega)]; rfl
theorem allB_true {p : Nat → Bool} : ∀ {n : Nat}, allB p n = true → ∀ i, i < n → p i = true
  | 0, _, i, hi => by omega
  | n + 1, h, i, hi => by
    rw [allB, Bool.and_eq_true] at h
    by_cases e : i = n
    · subst e; exact h.2
    · exact allB_true h.1 i (by omega)
def ordB (l : List TaskT) (js : List JobT) : Bool := allB (ordOk l js) js.length && decide ((js.length : Int) ≤ 60)
set_option maxHeartbeats 4000000 in
set_option maxRecDepth 100000 in
theorem jl1_calls (A0 : Option Addr) (c0 : Nat) (l0 : List TaskT) (B : Addr) (a : Int) (h0 : 0 ≤ a) (h1 : a < (l0.length : Int)) (w : World) (hB : w.cell? B = some (.slice A0 l0.length c0)) (hr0 : Kd.C k88 w A0 l0.length l0) :
    Calls Try.prog 92 #[.int .i64 a, .pointer (some B)] w fun e w' => e = .returned (.int .i64 (trd l0 a).f0) ∧ zcj w w' := by
  obtain ⟨ad, ea, hx0, hx1, hx2⟩ := at_T88 hr0 a h0 h1
  cases ea
  unfold trd
  clear hr0 hx1 hx2
  generalize (zbf l0 a).f0 = x at hx0 ⊢
  go_enter Try.func92, Try.ntmps92
  go_wp2
  go_ret
  exact ⟨rfl, zcj.refl _⟩
set_option maxHeartbeats 4000000 in
set_option maxRecDepth 100000 in
theorem jl2_calls (A0 : Option Addr) (c0 : Nat) (l0 : List TaskT) (B : Addr) (a : Int) (h0 : 0 ≤ a) (h1 : a < (l0.length : Int)) (w : World) (hB : w.cell? B = some (.slice A0 l0.length c0)) (hr0 : Kd.C k88 w A0 l0.length l0) :
    Calls Try.prog 95 #[.int .i64 a, .pointer (some B)] w fun e w' => e = .returned (.int .i64 (trd l0 a).f2) ∧ zcj w w' := by
  obtain ⟨ad, ea, hx0, hx1, hx2⟩ := at_T88 hr0 a h0 h1
  cases ea
  unfold trd
  clear hr0 hx0 hx1
  generalize (zbf l0 a).f2 = x at hx2 ⊢
  go_enter Try.func95, Try.ntmps95
  go_wp2
  go_ret
  exact ⟨rfl, zcj.refl _⟩
def lateB (l : List TaskT) (j : JobT) : Bool := j.f2 != wrap64 (j.f1 + (trd l j.f0).f1)
set_option maxHeartbeats 4000000 in
set_option maxRecDepth 100000 in
theorem jl3_calls (A0 : Option Addr) (c0 : Nat) (l0 : List TaskT) (B : Addr) (j : JobT) (h0 : 0 ≤ j.f0) (h1 : j.f0 < (l0.length : Int)) (w : World) (hB : w.cell? B = some (.slice A0 l0.length c0)) (hr0 : Kd.C k88 w A0 l0.length l0) :
    Calls Try.prog 97 #[.agg #[.int .i64 j.f0, .int .i64 j.f1, .int .i64 j.f2, .int .i64 j.f3], .pointer (some B)] w fun e w' => e = .returned (.bool (lateB l0 j)) ∧ Below w.heap.size w w' := by
  have hBl := World.block_lt_of_cell? _ _ hB
  have hB2 : ∀ o, (w.alloc o).cell? B = some (.slice A0 l0.length c0) := fun o => (World.cell?_alloc_lt _ _ _ hBl).trans hB
  obtain ⟨ad, ea, hx0, hx1, hx2⟩ := at_T88 hr0 j.f0 h0 h1
  cases ea
  have hxl := World.block_lt_of_cell? _ _ hx1
  have hx3 := fun (o : Obj) => (show (w.alloc o).cell? _ = w.cell? _ from World.cell?_alloc_lt _ _ _ hxl).trans hx1
  unfold lateB trd
  clear hr0 hx0 hx1 hx2 hBl hxl hB
  generalize (zbf l0 j.f0).f1 = x at hx3 ⊢
  have hc2 := hB2 (.cells #[.int .i64 j.f0, .int .i64 j.f1, .int .i64 j.f2, .int .i64 j.f3] 34)
  have hx4 := hx3 (.cells #[.int .i64 j.f0, .int .i64 j.f1, .int .i64 j.f2, .int .i64 j.f3] 34)
  clear hB2 hx3
  go_enter Try.func97, Try.ntmps97
  go_wp2_with fail
  go_big_region
  all_goals go_wp2
  go_ret
  exact ⟨rfl, zb6 (zbn (Below.refl _ _) _)⟩
theorem in_is (a b c : Int) (v : Bool) (h : decide (b ≤ a ∧ a ≤ c) = v) : zcv.f a b c = some v := by
  unfold zcv.f
  subst h
  by_cases h1 : a ≥ b
  · rw [if_pos h1]; simp [show b ≤ a from h1]
  · rw [if_neg h1]; simp [show ¬ b ≤ a from h1]
set_option maxHeartbeats 16000000 in
set_option maxRecDepth 100000 in
theorem ordered_calls (mn : Nat) (ml : Array Value) (em : ∀ args w, (callFunc mn args).run Try.prog w = .ok (.enter mn args) w) (l0 : List TaskT) (A : Option Addr) (c : Nat) (js : List JobT) (hjl : js.length ≤ 1000000000) (hll : l0.length ≤ 1000000000) (w : World) (hm : ∀ (W : World) (a : Int), Below w.heap.size w W → 0 ≤ a → a < (l0.length : Int) → Calls Try.prog mn (#[.int .i64 a] ++ ml) W fun e w' => e = .returned (.int .i64 (trd l0 a).f0) ∧ ∃ q, w' = W.drewN q) (hr : Kd.C k34 w A js.length js) :
    Calls Try.prog 91 #[.slice A js.length c, .int .i64 (l0.length : Int), .func (.func mn) #[] ml] w fun e w' => e = .returned (.bool (ordB l0 js)) ∧ Below w.heap.size w w' := by
  have HMM := za.mk hm
  have HR := za.mk hr
  clear hm hr
  go_enter Try.func91, Try.ntmps91
  go_wp2
  go_loopg [11] js.length (fun gg v11 wr => ∃ i : Nat, v11 = .int .i64 i ∧ i ≤ js.length ∧ js.length - i ≤ gg ∧ za (Below w.heap.size w wr) ∧ za (allB (ordOk l0 js) i = true))
  case atStart => exact ⟨0, by go_num, by omega, by omega, ⟨Below.refl _ _⟩, ⟨rfl⟩⟩
  case round =>
    obtain ⟨i, rfl, hil, hgg, BW, OK⟩ := hrel
    by_cases hlt : i < js.length
    · have hltz : (i : Int) < (js.length : Int) := by omega
      obtain ⟨ad, ea, hx0, hx1, hx2, hx3⟩ := zc9 HR.out (i : Int) (by omega) hltz
      cases ea
      have hy0 := (BW.out.cell (World.block_lt_of_cell? w _ hx0)).trans hx0
      have hy1 := (BW.out.cell (World.block_lt_of_cell? w _ hx1)).trans hx1
      have hy2 := (BW.out.cell (World.block_lt_of_cell? w _ hx2)).trans hx2
      have hy3 := (BW.out.cell (World.block_lt_of_cell? w _ hx3)).trans hx3
      clear hx0 hx1 hx2 hx3
      rw [Int.toNat_natCast] at hy0 hy1 hy2 hy3
      obtain ⟨j, hj⟩ : ∃ j : JobT, j = jrd js i := ⟨_, rfl⟩
      rw [show ze js (i : Int) = j from hj.symm] at hy0 hy1 hy2 hy3
      have HJ := za.mk hj
      clear hj
      have hw : IntKind.i64.wrap ((l0.length : Int) - 1) = (l0.length : Int) - 1 := by rw [IntKind.wrap_i64]; omega
      have HW := za.mk hw
      clear hw
      have no : ordOk l0 js i = false → ordB l0 js = false := fun h => by unfold ordB; rw [allB_false h _ hlt]; rfl
      have NO := za.mk no
      clear no
      cases q1 : inRng l0 j with
      | false =>
        have H1 := za.mk (in_is j.f0 0 ((l0.length : Int) - 1) false q1)
        have F := za.mk (NO.out (by unfold ordOk; rw [← HJ.out, q1]; rfl))
        clear q1
        go_wp2_with fail
        have hw := HW.out
        go_quiet ((first | (go_at_call 103; (with_reducible refine (zcv.calls _ _ _ _ _ H1.out).mono ?_); rintro e w' ⟨rfl, ⟨nd, rfl⟩⟩; (try first | exact ⟨rfl, _, World.drewN_drewN _ _ _⟩ | exact ⟨rfl, _, Eq.trans (World.drewN_drewN _ _ _) (congrArg (World.drewN _) (Nat.add_assoc _ _ _))⟩ | exact ⟨rfl, _, rfl⟩))))
        clear hw
        go_wp2
        go_ret
        exact ⟨by rw [F.out]; rfl, by first | exact zbm (zbn BW.out _) _ | exact zb6 (zbn BW.out _) | exact zbn BW.out _⟩
      | true =>
        have H1 := za.mk (in_is j.f0 0 ((l0.length : Int) - 1) true q1)
        have Q1 := za.mk q1
        clear q1
        cases q2 : relOk j with
        | false =>
          have H2 := za.mk (in_is j.f1 0 119 false q2)
          have F := za.mk (NO.out (by unfold ordOk; rw [← HJ.out, q2, Bool.and_false]; rfl))
          clear q2
          go_wp2_with fail
          have hw := HW.out
          go_quiet ((first | (go_at_call 103; (with_reducible refine (zcv.calls _ _ _ _ _ H1.out).mono ?_); rintro e w' ⟨rfl, ⟨nd, rfl⟩⟩; (try first | exact ⟨rfl, _, World.drewN_drewN _ _ _⟩ | exact ⟨rfl, _, Eq.trans (World.drewN_drewN _ _ _) (congrArg (World.drewN _) (Nat.add_assoc _ _ _))⟩ | exact ⟨rfl, _, rfl⟩)) | (go_at_call 103; (with_reducible refine (zcv.calls _ _ _ _ _ H2.out).mono ?_); rintro e w' ⟨rfl, ⟨nd, rfl⟩⟩; (try first | exact ⟨rfl, _, World.drewN_drewN _ _ _⟩ | exact ⟨rfl, _, Eq.trans (World.drewN_drewN _ _ _) (congrArg (World.drewN _) (Nat.add_assoc _ _ _))⟩ | exact ⟨rfl, _, rfl⟩))))
          clear hw
          go_wp2
          go_ret
          exact ⟨by rw [F.out]; rfl, by first | exact zbm (zbn BW.out _) _ | exact zb6 (zbn BW.out _) | exact zbn BW.out _⟩
        | true =>
          have H2 := za.mk (in_is j.f1 0 119 true q2)
          have Q2 := za.mk q2
          clear q2
          have hr1 := of_decide_eq_true Q1.out
          have HM := za.mk (fun (W : World) (hb : Below w.heap.size w W) => HMM.out W j.f0 hb (by omega) (by omega))
          clear hr1
          obtain ⟨z, hz⟩ : ∃ z, (trd l0 j.f0).f0 = z := ⟨_, rfl⟩
          rw [hz] at HM
          have HZ := za.mk hz
          clear hz
          cases q3 : exOk l0 j with
          | false =>
            have H3 := za.mk (in_is j.f3 1 z false (by have := q3; unfold exOk at this; rw [HZ.out] at this; exact this))
            have F := za.mk (NO.out (by unfold ordOk; rw [← HJ.out, q3, Bool.and_false]; rfl))
            clear q3
            go_wp2_with fail
            have hw := HW.out
            go_quiet ((first | (go_at_call 103; (with_reducible refine (zcv.calls _ _ _ _ _ H1.out).mono ?_); rintro e w' ⟨rfl, ⟨nd, rfl⟩⟩; (try first | exact ⟨rfl, _, World.drewN_drewN _ _ _⟩ | exact ⟨rfl, _, Eq.trans (World.drewN_drewN _ _ _) (congrArg (World.drewN _) (Nat.add_assoc _ _ _))⟩ | exact ⟨rfl, _, rfl⟩)) | (go_at_call 103; (with_reducible refine (zcv.calls _ _ _ _ _ H2.out).mono ?_); rintro e w' ⟨rfl, ⟨nd, rfl⟩⟩; (try first | exact ⟨rfl, _, World.drewN_drewN _ _ _⟩ | exact ⟨rfl, _, Eq.trans (World.drewN_drewN _ _ _) (congrArg (World.drewN _) (Nat.add_assoc _ _ _))⟩ | exact ⟨rfl, _, rfl⟩)) | (go_at_call 103; (with_reducible refine (zcv.calls _ _ _ _ _ H3.out).mono ?_); rintro e w' ⟨rfl, ⟨nd, rfl⟩⟩; (try first | exact ⟨rfl, _, World.drewN_drewN _ _ _⟩ | exact ⟨rfl, _, Eq.trans (World.drewN_drewN _ _ _) (congrArg (World.drewN _) (Nat.add_assoc _ _ _))⟩ | exact ⟨rfl, _, rfl⟩)) | (go_at_fn mn; refine Calls.quiet_of (HM.out _ (by first | exact zbm (zbn BW.out _) _ | exact zbn BW.out _)))))
            clear hw
            go_wp2
            go_ret
            exact ⟨by rw [F.out]; rfl, by first | exact zbm (zbn BW.out _) _ | exact zb6 (zbn BW.out _) | exact zbn BW.out _⟩
          | true =>
            have H3 := za.mk (in_is j.f3 1 z true (by have := q3; unfold exOk at this; rw [HZ.out] at this; exact this))
            have Q3 := za.mk q3
            clear q3
            go_wp2_with fail
            have hw := HW.out
            go_quiet ((first | (go_at_call 103; (with_reducible refine (zcv.calls _ _ _ _ _ H1.out).mono ?_); rintro e w' ⟨rfl, ⟨nd, rfl⟩⟩; (try first | exact ⟨rfl, _, World.drewN_drewN _ _ _⟩ | exact ⟨rfl, _, Eq.trans (World.drewN_drewN _ _ _) (congrArg (World.drewN _) (Nat.add_assoc _ _ _))⟩ | exact ⟨rfl, _, rfl⟩)) | (go_at_call 103; (with_reducible refine (zcv.calls _ _ _ _ _ H2.out).mono ?_); rintro e w' ⟨rfl, ⟨nd, rfl⟩⟩; (try first | exact ⟨rfl, _, World.drewN_drewN _ _ _⟩ | exact ⟨rfl, _, Eq.trans (World.drewN_drewN _ _ _) (congrArg (World.drewN _) (Nat.add_assoc _ _ _))⟩ | exact ⟨rfl, _, rfl⟩)) | (go_at_call 103; (with_reducible refine (zcv.calls _ _ _ _ _ H3.out).mono ?_); rintro e w' ⟨rfl, ⟨nd, rfl⟩⟩; (try first | exact ⟨rfl, _, World.drewN_drewN _ _ _⟩ | exact ⟨rfl, _, Eq.trans (World.drewN_drewN _ _ _) (congrArg (World.drewN _) (Nat.add_assoc _ _ _))⟩ | exact ⟨rfl, _, rfl⟩)) | (go_at_fn mn; refine Calls.quiet_of (HM.out _ (by first | exact zbm (zbn BW.out _) _ | exact zbn BW.out _)))))
            clear hw
            go_wp2_with fail
            have B6 := za.mk (zbm (zbn BW.out (.cells #[.int .i64 j.f0, .int .i64 j.f1, .int .i64 j.f2, .int .i64 j.f3] 34)) nq)
            have cj0 : ((wr.alloc (.cells #[.int .i64 j.f0, .int .i64 j.f1, .int .i64 j.f2, .int .i64 j.f3] 34)).drewN nq).cell? ⟨wr.heap.size, 0, none⟩ = some (.int .i64 j.f0) := by simp
            have cj1 : ((wr.alloc (.cells #[.int .i64 j.f0, .int .i64 j.f1, .int .i64 j.f2, .int .i64 j.f3] 34)).drewN nq).cell? ⟨wr.heap.size, 1, none⟩ = some (.int .i64 j.f1) := by simp
            clear hy0 hy1 hy2 hy3
            generalize ((wr.alloc (.cells #[.int .i64 j.f0, .int .i64 j.f1, .int .i64 j.f2, .int .i64 j.f3] 34)).drewN nq) = w6 at B6 cj0 cj1 ⊢
            rcases Nat.eq_zero_or_pos i with h0 | h0
            · subst h0
              have ONE := za.mk (show ordOk l0 js 0 = true by unfold ordOk; rw [← HJ.out, Q1.out, Q2.out, Q3.out]; rfl)
              go_quiet (fail)
              go_wp2
              go_roundg (js.length - (0 + 1))
              case measure => omega
              case rel => exact ⟨0 + 1, by go_num, by omega, by omega, ⟨zbm B6.out _⟩, ⟨by rw [allB, OK.out, ONE.out]; rfl⟩⟩
            · obtain ⟨k, hk⟩ : ∃ k : Nat, k = i - 1 := ⟨_, rfl⟩
              have hkl : (k : Int) < (js.length : Int) := by omega
              have hk0 : (0 : Int) ≤ (k : Int) := by omega
              have hi0 : (0 : Int) < (i : Int) := by omega
              obtain ⟨ad2, ea2, hp0, hp1, hp2, hp3⟩ := zc9 HR.out (k : Int) (by omega) hkl
              cases ea2
              have hp0 := (B6.out.cell (World.block_lt_of_cell? w _ hp0)).trans hp0
              have hp1 := (B6.out.cell (World.block_lt_of_cell? w _ hp1)).trans hp1
              clear hp2 hp3
              rw [Int.toNat_natCast] at hp0 hp1
              obtain ⟨p, hp⟩ : ∃ p : JobT, p = jrd js k := ⟨_, rfl⟩
              rw [show ze js (k : Int) = p from hp.symm] at hp0 hp1
              have HPK : za (p = jrd js (i - 1)) := ⟨by rw [hp, hk]⟩
              have hw2 : IntKind.i64.wrap ((i : Int) - 1) = (k : Int) := by rw [IntKind.wrap_i64]; omega
              have HW2 := za.mk hw2
              have Hi0 := za.mk (show decide (i = 0) = false from decide_eq_false (by omega))
              clear hp hw2 hk
              have two : ∀ b, bhd p j = b → ordOk l0 js i = !b := fun b hb => by unfold ordOk; rw [← HJ.out, ← HPK.out, Q1.out, Q2.out, Q3.out, Hi0.out, hb]; simp
              have TWO := za.mk two
              clear two
              by_cases ha : p.f1 > j.f1
              · have F := za.mk (NO.out (TWO.out true (by unfold bhd; rw [decide_eq_true ha]; rfl)))
                have ha1 : decide (p.f1 > j.f1) = true := decide_eq_true ha
                have hw2 := HW2.out
                go_quiet (fail)
                clear hw2
                go_wp2
                go_ret
                exact ⟨by rw [F.out]; rfl, zbm B6.out _⟩
              · have ha1 : decide (p.f1 > j.f1) = false := decide_eq_false ha
                by_cases hb : p.f1 = j.f1
                · by_cases hc : p.f0 ≥ j.f0
                  · have F := za.mk (NO.out (TWO.out true (by unfold bhd; rw [decide_eq_true hb, decide_eq_true hc, Bool.and_self, Bool.or_true])))
                    have hb1 : (p.f1 == j.f1) = true := by simpa using hb
                    have hb2 : decide (p.f1 = j.f1) = true := decide_eq_true hb
                    have hc1 : decide (p.f0 ≥ j.f0) = true := decide_eq_true hc
                    clear hb
                    have hw2 := HW2.out
                    go_quiet (fail)
                    clear hw2
                    go_wp2
                    go_ret
                    exact ⟨by rw [F.out]; rfl, zbm B6.out _⟩
                  · have ONE := za.mk (TWO.out false (by unfold bhd; rw [decide_eq_false ha, decide_eq_false hc, Bool.and_false]; rfl))
                    have hb1 : (p.f1 == j.f1) = true := by simpa using hb
                    have hb2 : decide (p.f1 = j.f1) = true := decide_eq_true hb
                    have hc1 : decide (p.f0 ≥ j.f0) = false := decide_eq_false hc
                    clear hb
                    have hw2 := HW2.out
                    go_quiet (fail)
                    clear hw2
                    go_wp2
                    go_roundg (js.length - (i + 1))
                    case measure => omega
                    case rel => exact ⟨i + 1, by go_num, by omega, by omega, ⟨zbm B6.out _⟩, ⟨by rw [allB, OK.out, ONE.out]; rfl⟩⟩
                · have ONE := za.mk (TWO.out false (by unfold bhd; rw [decide_eq_false ha, decide_eq_false hb]; rfl))
                  have hb1 : (p.f1 == j.f1) = false := by simpa using hb
                  have hb2 : decide (p.f1 = j.f1) = false := decide_eq_false hb
                  have hw2 := HW2.out
                  go_quiet (fail)
                  clear hw2
                  go_wp2
                  go_roundg (js.length - (i + 1))
                  case measure => omega
                  case rel => exact ⟨i + 1, by go_num, by omega, by omega, ⟨zbm B6.out _⟩, ⟨by rw [allB, OK.out, ONE.out]; rfl⟩⟩
    · have hltz : ¬ (i : Int) < (js.length : Int) := by omega
      go_wp2
      go_ret
      exact ⟨by rw [show i = js.length by omega] at OK; unfold ordB; rw [OK.out]; rfl, BW.out⟩
theorem spc_law : Go.Maps.Keyed Try.prog 3 := Go.Maps.int_keyed Try.underlying3
theorem spc_zero (w : World) : (zeroValue 3).run Try.prog w = .ok (.int .i64 0) w := by kernel_rfl
def lastOf (js : List JobT) : Nat → Int → Option Int
  | 0, _ => none
  | i + 1, k => if (jrd js i).f0 = k then some (jrd js i).f1 else lastOf js i k
def spcOk (l : List TaskT) (js : List JobT) (i : Nat) : Bool :=
  match lastOf js i (jrd js i).f0 with
  | none => true
  | some b => !(decide (wrap64 ((jrd js i).f1 - b) < (trd l (jrd js i).f0).f2))
def spcB (l : List TaskT) (js : List JobT) : Bool := allB (spcOk l js) js.length
def Ds (js : List JobT) : Nat → DataW Unit
  | 0 => .map []
  | i + 1 => (Ds js i).put (.int .i64 (jrd js i).f0) (.lit (.int .i64 (jrd js i).f1))
theorem map_below {w w1 : World} {P : Program} {k : TypeId} {R : Value → Option (DataW Unit × List MemPlace)} {b n : Nat} {D : DataW Unit} (h : w.ownsMap P k R b n D) (hb : Below w.heap.size w w1) : w1.ownsMap P k R b n D := by
  obtain ⟨es, clock, h1, h2⟩ := h
  exact ⟨es, clock, (hb.block b (Array.getElem?_eq_some_iff.1 h1).1).trans h1, h2⟩
theorem Ds_map (js : List JobT) : ∀ i, Go.Maps.IsMap (Ds js i)
  | 0 => Go.Maps.isMap_empty
  | i + 1 => (Ds_map js i).put _ _
theorem Ds_has (js : List JobT) (k : Int) : ∀ i, Go.Maps.has (Ds js i) (.int .i64 k) = (lastOf js i k).isSome
  | 0 => rfl
  | i + 1 => by
    rw [Ds, lastOf]
    by_cases h : (jrd js i).f0 = k
    · rw [if_pos h, h, Go.Maps.has_put_same (Ds_map js i) (show Go.WideAt.IsKeyLit (.int .i64 k) from trivial)]; rfl
    · rw [if_neg h, Go.Maps.has_put_other (fun e => h (by injection e with _ e; exact e.symm)), Ds_has js k i]
theorem Ds_at (js : List JobT) (k b : Int) (z : DataW Unit) : ∀ i, lastOf js i k = some b → (Ds js i).atKey (.int .i64 k) z = .lit (.int .i64 b)
  | 0, h => by simp [lastOf] at h
  | i + 1, h => by
    rw [lastOf] at h
    rw [Ds]
    by_cases e : (jrd js i).f0 = k
    · rw [if_pos e] at h
      rw [e, Go.Maps.atKey_put_same (Ds_map js i) (show Go.WideAt.IsKeyLit (.int .i64 k) from trivial), Option.some.inj h]
    · rw [if_neg e] at h
      rw [Go.Maps.atKey_put_other (fun e2 => e (by injection e2 with _ e2; exact e2.symm)), Ds_at js k b z i h]
set_option maxHeartbeats 16000000 in
set_option maxRecDepth 100000 in
theorem spaced_calls (tn mn : Nat) (ml : Array Value) (et : ∀ args w, (callFunc tn args).run Try.prog w = .ok (.enter tn args) w) (em : ∀ args w, (callFunc mn args).run Try.prog w = .ok (.enter mn args) w) (hne : tn ≠ mn) (l0 : List TaskT) (A : Option Addr) (c : Nat) (js : List JobT) (hjl : js.length ≤ 1000000000)
    (hid : ∀ i, i < js.length → 0 ≤ (jrd js i).f0 ∧ (jrd js i).f0 < (l0.length : Int)) (hrel : ∀ i, i < js.length → 0 ≤ (jrd js i).f1 ∧ (jrd js i).f1 ≤ 119) (hll : l0.length ≤ 1000000000) (w : World)
    (ht : ∀ (W : World) (j : JobT), Below w.heap.size w W → Calls Try.prog tn #[.agg #[.int .i64 j.f0, .int .i64 j.f1, .int .i64 j.f2, .int .i64 j.f3]] W fun e w' => e = .returned (.int .i64 j.f1) ∧ Below W.heap.size W w')
    (hm : ∀ (W : World) (a : Int), Below w.heap.size w W → 0 ≤ a → a < (l0.length : Int) → Calls Try.prog mn (#[.int .i64 a] ++ ml) W fun e w' => e = .returned (.int .i64 (trd l0 a).f2) ∧ ∃ q, w' = W.drewN q) (hr : Kd.C k34 w A js.length js) :
    Calls Try.prog 93 #[.slice A js.length c, .func (.func tn) #[] #[], .func (.func mn) #[] ml] w fun e w' => e = .returned (.bool (spcB l0 js)) ∧ Below w.heap.size w w' := by
  have HT := za.mk ht
  have HMM := za.mk hm
  have HR := za.mk hr
  have HID := za.mk hid
  have HRL := za.mk hrel
  have hmm := @run_makeMap Try.prog
  clear ht hm hr hid hrel
  go_enter Try.func93, Try.ntmps93
  go_wp2
  go_loopg [16] js.length (fun gg v16 wr => ∃ i : Nat, v16 = .int .i64 i ∧ i ≤ js.length ∧ js.length - i ≤ gg ∧ za (Below w.heap.size w wr) ∧ za (wr.ownsMap Try.prog 3 (plainElem Try.prog 3) w.heap.size i (Ds js i)) ∧ za (allB (spcOk l0 js) i = true))
  case atStart => exact ⟨0, by go_num, by omega, by omega, ⟨(Below.refl _ _).alloc (Nat.le_refl _) _⟩, ⟨World.ownsMap_made _ _ _ _⟩, ⟨rfl⟩⟩
  case round =>
    obtain ⟨i, rfl, hil, hgg, BW, OM, OK⟩ := hrel
    by_cases hlt : i < js.length
    · have hltz : (i : Int) < (js.length : Int) := by omega
      obtain ⟨ad, ea, hx0, hx1, hx2, hx3⟩ := zc9 HR.out (i : Int) (by omega) hltz
      cases ea
      have hy0 := (BW.out.cell (World.block_lt_of_cell? w _ hx0)).trans hx0
      have hy1 := (BW.out.cell (World.block_lt_of_cell? w _ hx1)).trans hx1
      have hy2 := (BW.out.cell (World.block_lt_of_cell? w _ hx2)).trans hx2
      have hy3 := (BW.out.cell (World.block_lt_of_cell? w _ hx3)).trans hx3
      clear hx0 hx1 hx2 hx3
      rw [Int.toNat_natCast] at hy0 hy1 hy2 hy3
      have hb0 := HID.out i hlt
      have hb1 := HRL.out i hlt
      obtain ⟨j, hj⟩ : ∃ j : JobT, j = jrd js i := ⟨_, rfl⟩
      rw [show ze js (i : Int) = j from hj.symm] at hy0 hy1 hy2 hy3
      rw [← hj] at hb0 hb1
      have HJ := za.mk hj
      clear hj
      have WF := za.mk (show (Lit.int .i64 j.f0).wf = true from WalkArith.wf_i64 (by omega))
      have WF1 := za.mk (show (Lit.int .i64 j.f1).wf = true from WalkArith.wf_i64 (by omega))
      have KEY := za.mk (Go.Maps.keyOf_int_mk Try.underlying3 WF.out)
      obtain ⟨z, hz⟩ : ∃ z, (trd l0 j.f0).f2 = z := ⟨_, rfl⟩
      have HM := za.mk (fun (W : World) (hb : Below w.heap.size w W) => HMM.out W j.f0 hb hb0.1 hb0.2)
      rw [hz] at HM
      have HZ := za.mk hz
      clear hz hb0 hb1
      have no : spcOk l0 js i = false → spcB l0 js = false := fun h => by unfold spcB; exact allB_false h _ hlt
      have NO := za.mk no
      clear no
      cases hl : lastOf js i j.f0 with
      | none =>
        have HH := za.mk (show Go.Maps.has (Ds js i) (.int .i64 j.f0) = false by rw [Ds_has, hl]; rfl)
        have ONE := za.mk (show spcOk l0 js i = true by unfold spcOk; rw [← HJ.out, hl])
        clear hl
        go_wp2_with (first | (go_at_fn tn; refine (HT.out _ j (zbn BW.out _)).mono ?_; rintro e w2 ⟨rfl, hb2⟩; have B2 := za.mk (zo (zbn BW.out _) hb2); have O2 := za.mk (map_below (OM.out.alloc _) hb2); have j0 : w2.cell? ⟨wr.heap.size, 0, none⟩ = some (.int .i64 j.f0) := (hb2.cell (p := ⟨wr.heap.size, 0, none⟩) (by simp)).trans (by simp); clear hb2) | (at_lookup; refine wpList_lookup_own_ok_int _ rfl _ _ 122 rfl 3 3 .i64 spc_law Try.underlying122 Try.underlying3 (spc_zero _) w.heap.size i _ rfl O2.out _ _ rfl KEY.out ?_; intro c hat hwc; rw [HH.out]; clear hat hwc) | (at_mapUpdate; refine wpList_mapUpdate_own _ rfl _ _ _ 122 rfl 3 3 spc_law Try.underlying122 _ w.heap.size i _ rfl O2.out (by unfold maxLen; omega) _ _ _ rfl rfl KEY.out _ [] (plainElem_int Try.underlying3 WF1.out) ?_; intro w4 hown4 hgrow4))
        · have B4 := za.mk ((B2.out).grown hgrow4 (B2.out).size (fun k hk => by cases hk; exact Nat.le_refl _))
          have O4 := za.mk hown4
          clear hown4 hgrow4
          go_wp2
          go_roundg (js.length - (i + 1))
          case measure => omega
          case rel => exact ⟨i + 1, by go_num, by omega, by omega, B4, ⟨by rw [Ds, ← HJ.out]; exact O4.out⟩, ⟨by rw [allB, OK.out, ONE.out]; rfl⟩⟩
      | some b =>
        have HH := za.mk (show Go.Maps.has (Ds js i) (.int .i64 j.f0) = true by rw [Ds_has, hl]; rfl)
        have HA := za.mk (Ds_at js j.f0 b (.lit (.int .i64 0)) i hl)
        by_cases hc : wrap64 (j.f1 - b) < z
        · have F := za.mk (NO.out (by unfold spcOk; rw [← HJ.out, hl]; show (!(decide (wrap64 (j.f1 - b) < (trd l0 j.f0).f2))) = false; rw [HZ.out, decide_eq_true hc]; rfl))
          have hc1 : decide (wrap64 (j.f1 - b) < z) = true := decide_eq_true hc
          clear hl
          go_wp2_with (first | (go_at_fn tn; refine (HT.out _ j (zbn BW.out _)).mono ?_; rintro e w2 ⟨rfl, hb2⟩; have B2 := za.mk (zo (zbn BW.out _) hb2); have O2 := za.mk (map_below (OM.out.alloc _) hb2); have j0 : w2.cell? ⟨wr.heap.size, 0, none⟩ = some (.int .i64 j.f0) := (hb2.cell (p := ⟨wr.heap.size, 0, none⟩) (by simp)).trans (by simp); clear hb2) | (at_lookup; refine wpList_lookup_own_ok_int _ rfl _ _ 122 rfl 3 3 .i64 spc_law Try.underlying122 Try.underlying3 (spc_zero _) w.heap.size i _ rfl O2.out _ _ rfl KEY.out ?_; intro c hat hwc; rw [HH.out]; (obtain rfl : c = b := by (have e := HA.out.symm.trans hat; injection e with e; injection e with _ e; exact e.symm)); clear hat hwc) | (go_at_fn mn; refine (HM.out _ B2.out).mono ?_; rintro e w3 ⟨rfl, ⟨q, rfl⟩⟩))
          go_ret
          exact ⟨by rw [F.out]; rfl, zbm B2.out _⟩
        · have ONE := za.mk (show spcOk l0 js i = true by unfold spcOk; rw [← HJ.out, hl]; show (!(decide (wrap64 (j.f1 - b) < (trd l0 j.f0).f2))) = true; rw [HZ.out, decide_eq_false hc]; rfl)
          have hc1 : decide (wrap64 (j.f1 - b) < z) = false := decide_eq_false hc
          clear hl
          go_wp2_with (first | (go_at_fn tn; refine (HT.out _ j (zbn BW.out _)).mono ?_; rintro e w2 ⟨rfl, hb2⟩; have B2 := za.mk (zo (zbn BW.out _) hb2); have O2 := za.mk (map_below (OM.out.alloc _) hb2); have j0 : w2.cell? ⟨wr.heap.size, 0, none⟩ = some (.int .i64 j.f0) := (hb2.cell (p := ⟨wr.heap.size, 0, none⟩) (by simp)).trans (by simp); clear hb2) | (at_lookup; refine wpList_lookup_own_ok_int _ rfl _ _ 122 rfl 3 3 .i64 spc_law Try.underlying122 Try.underlying3 (spc_zero _) w.heap.size i _ rfl O2.out _ _ rfl KEY.out ?_; intro c hat hwc; rw [HH.out]; (obtain rfl : c = b := by (have e := HA.out.symm.trans hat; injection e with e; injection e with _ e; exact e.symm)); clear hat hwc) | (go_at_fn mn; refine (HM.out _ B2.out).mono ?_; rintro e w3 ⟨rfl, ⟨q, rfl⟩⟩) | (at_mapUpdate; refine wpList_mapUpdate_own _ rfl _ _ _ 122 rfl 3 3 spc_law Try.underlying122 _ w.heap.size i _ rfl (map_below O2.out (zbm (Below.refl _ _) _)) (by unfold maxLen; omega) _ _ _ rfl rfl KEY.out _ [] (plainElem_int Try.underlying3 WF1.out) ?_; intro w4 hown4 hgrow4))
          have B4 := za.mk ((zbm B2.out _).grown hgrow4 (zbm B2.out _).size (fun k hk => by cases hk; exact Nat.le_refl _))
          have O4 := za.mk hown4
          clear hown4 hgrow4
          go_wp2
          go_roundg (js.length - (i + 1))
          case measure => omega
          case rel => exact ⟨i + 1, by go_num, by omega, by omega, B4, ⟨by rw [Ds, ← HJ.out]; exact O4.out⟩, ⟨by rw [allB, OK.out, ONE.out]; rfl⟩⟩
    · have hltz : ¬ (i : Int) < (js.length : Int) := by omega
      go_wp2
      go_ret
      exact ⟨by rw [show i = js.length by omega] at OK; unfold spcB; rw [OK.out]; rfl, BW.out⟩
end Go.Proofs.Ytkdfjomhichkoaa.P
