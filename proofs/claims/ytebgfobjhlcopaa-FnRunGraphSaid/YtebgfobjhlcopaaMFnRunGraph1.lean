/- The law FnRunGraph for every input, part 1 of its proof: what the program's functions answer, and the plain law. No condition. -/
import Derived.Below
import Derived.Deep.Draws
import Derived.Deep.AppendLies
import Derived.Maps.AppendAt
import Derived.OwnWalk
import Derived.Laws.BytesArg
import Derived.Laws.MakeOwn
import Derived.Laws.OwnMore
import Derived.Deep.OwnRows
import Derived.Tactics
import Derived.Lib.ConvBytes
import Derived.Laws.Slices
import Derived.WalkKit
import Derived.KernelRfl
import Derived.RowKit3
import Derived.Deep.LoopGhost
import Derived.Deep.QuietTactic
import Derived.BigQuiet
import Derived.WideLaws
import Derived.Deep.DeepCutAuto
import Derived.Deep.CutBlock
import Derived.Deep.RegionHeld3
import Derived.Laws.Rows
import Derived.Lib.AppendStr
import Derived.ArgAppend
import Derived.Laws.IdiomCopy
import Derived.RowKit
import Derived.OrdersHeld
import Derived.Laws.BitsLemmas
import Derived.Laws.StructEq
import Derived.Test.YtebgfobjhlcopaaProg
import Derived.Shelf.Abstract
import Derived.Deep.RegionLaw
import Derived.Lib.SliceRun
set_option maxRecDepth 100000
set_option linter.unusedVariables false
set_option linter.unusedSimpArgs false
namespace Go.Proofs.YtebgfobjhlcopaaW.PrintWords
open Go.RowKit
structure za (p : Prop) : Prop where mk :: (out : p)
structure zbj (w w' : World) : Prop where mk :: (out : ∃ n, w' = w.drewN n)
theorem zbj.refl (w : World) : zbj w w := ⟨⟨0, rfl⟩⟩
theorem zbj.step {w w' : World} (h : zbj w w') (n : Nat) : zbj w (w'.drewN n) := by
  obtain ⟨m, rfl⟩ := h
  exact ⟨⟨m + n, World.drewN_drewN ..⟩⟩
theorem zbj.grown {w w' : World} (h : zbj w w') : Grown w w' := by
  obtain ⟨n, rfl⟩ := h
  induction n with
  | zero => exact Grown.refl _
  | succ n ih => rw [← World.drew_drewN]; exact Grown.drew ih
theorem zbj.below {w w' : World} (h : zbj w w') : Below w.heap.size w w' := by
  obtain ⟨n, rfl⟩ := h
  induction n with
  | zero => exact Below.refl _ _
  | succ n ih => rw [← World.drew_drewN]; exact ih.drew
def rd (xs : List Int) (i : Int) : Int := xs.getD i.toNat 0
theorem zbo {w W : World} (h : Below w.heap.size w W) (o : Obj) : Below w.heap.size w (W.alloc o) := h.alloc h.size o
theorem zef {B : Nat} {w W : World} (h : Below B w W) : Below B w W.drew := ⟨h.os, h.tape, h.output, h.size, h.block⟩
theorem zbk {B : Nat} {w W : World} (h : Below B w W) (n : Nat) : Below B w (W.drewN n) := ⟨h.os, h.tape, h.output, h.size, h.block⟩
theorem zcq {B : Nat} {w w1 w2 : World} (h : Below B w w1) (hB : B ≤ w1.heap.size) (k : Below w1.heap.size w1 w2) : Below B w w2 :=
  h.trans ⟨k.os, k.tape, k.output, k.size, fun i hi => k.block i (Nat.lt_of_lt_of_le hi hB)⟩
theorem ze0 {w w1 : World} (h : Below w.heap.size w w1) (row : Option Nat) : w.grownBy w1 row := ⟨h.os, h.tape, h.output, h.size, fun i hi _ => h.block i hi⟩
theorem zc7 {w w1 : World} (h : Below w.heap.size w w1) {a : Addr} {v : Value} (hc : w.cell? a = some v) : w1.cell? a = some v := (h.cell (World.block_lt_of_cell? w a hc)).trans hc
theorem add_plain (g j : Nat) : (⟨g, 0, none⟩ : Addr).add j = ⟨g, j, none⟩ := by unfold Addr.add; split <;> simp_all
def zc8 (w : World) (k : IntKind) (A : Option Addr) (n : Nat) (xs : List Int) : Prop :=
  xs.length = n ∧ n ≤ 9223372036854775807 ∧ (0 < n → ∃ ad, A = some ad ∧ ∀ j, j < n → w.cell? (ad.add j) = some (.int k (xs.getD j 0)))
theorem zc8.at_ {w : World} {k : IntKind} {A : Option Addr} {n : Nat} {xs : List Int} (h : zc8 w k A n xs) (i : Int) (h0 : 0 ≤ i) (h1 : i < n) : ∃ ad, A = some ad ∧ w.cell? (ad.add i.toNat) = some (.int k (rd xs i)) := by
  obtain ⟨ad, e, hc⟩ := h.2.2 (by omega)
  exact ⟨ad, e, hc _ (by omega)⟩
theorem zc8.below {w w1 : World} {k : IntKind} {A : Option Addr} {n : Nat} {xs : List Int} (h : zc8 w k A n xs) (hb : Below w.heap.size w w1) : zc8 w1 k A n xs :=
  ⟨h.1, h.2.1, fun hn => by
    obtain ⟨ad, e, hc⟩ := h.2.2 hn
    exact ⟨ad, e, fun j hj => zc7 hb (hc j hj)⟩⟩
theorem own_nil (W : World) (base : Nat) (e : TypeId) (size : Nat) : W.ownsRow base e size (.slice none 0 0) 0 [] := ⟨by simp, .inl ⟨rfl, rfl⟩⟩
theorem zel {w : World} {base : Nat} {e : TypeId} {size n : Nat} {v : Value} {xs : List Value} (h : w.ownsRow base e size v n xs) (k : Nat) (hk : v.ownBlock = some k) : base ≤ k := by
  rcases h.2 with ⟨rfl, _⟩ | ⟨g, cap, cur, rfl, hb, _⟩
  · simp [Value.ownBlock] at hk
  · have : g = k := by simpa [Value.ownBlock] using hk
    omega
theorem own_lt {w : World} {base : Nat} {e : TypeId} {size n : Nat} {v : Value} {xs : List Value} (h : w.ownsRow base e size v n xs) (k : Nat) (hk : v.ownBlock = some k) : k < w.heap.size := by
  rcases h.2 with ⟨rfl, _⟩ | ⟨g, cap, cur, rfl, hb, hh, _⟩
  · simp [Value.ownBlock] at hk
  · have : g = k := by simpa [Value.ownBlock] using hk
    subst this
    exact (Array.getElem?_eq_some_iff.1 hh).1
theorem zho {w w1 : World} {base : Nat} {e : TypeId} {size n : Nat} {v : Value} {xs : List Value} (h : w.ownsRow base e size v n xs) (hb : Below w.heap.size w w1) : w1.ownsRow base e size v n xs :=
  h.kept (ze0 hb none) (by cases v.ownBlock <;> simp)
theorem own_other {w w1 : World} {base : Nat} {e : TypeId} {size n : Nat} {v : Value} {xs : List Value} (h : w.ownsRow base e size v n xs) {row : Option Nat} (hg : w.grownBy w1 row) (hne : v.ownBlock = none ∨ v.ownBlock ≠ row) : w1.ownsRow base e size v n xs := h.kept hg hne
theorem own_slice {w : World} {base n : Nat} {e : TypeId} {size : Nat} {v : Value} {xs : List Value} (h : w.ownsRow base e size v n xs) : ∃ A c, v = .slice A n c := by
  rcases h.2 with ⟨rfl, rfl⟩ | ⟨g, cap, cur, rfl, _⟩
  · exact ⟨none, 0, rfl⟩
  · exact ⟨_, cap, rfl⟩
section
variable {P : Program} {ops : Array Oper} {rest : List Oper} {o : Oper} {a : Act} {Q : Exit → Act → World → Prop}
end
section
variable {P : Program}
end
section
variable {P : Program} {ops : Array Oper} {rest : List Oper} {o : Oper} {a : Act} {Q : Exit → Act → World → Prop}
end
def bytesOf (s : ByteArray) : List Int := s.data.toList.map fun b => (b.toNat : Int)
theorem zc8.zb3 {w : World} {k : IntKind} {A : Option Addr} {n : Nat} {xs : List Int} (h : zc8 w k A n xs) (i : Nat) (hi : i ≤ n) : zc8 w k A i (xs.take i) := by
  refine ⟨by rw [List.length_take, h.1]; omega, by have := h.2.1; omega, fun hp => ?_⟩
  obtain ⟨ad, e, hc⟩ := h.2.2 (by omega)
  refine ⟨ad, e, fun j hj => ?_⟩
  rw [hc j (by omega)]
  simp [List.getD_eq_getElem?_getD, hj]
def LeO {α : Type} (a b : Option α) : Prop := ∀ r, a = some r → b = some r
theorem LeO.refl {α : Type} (a : Option α) : LeO a a := fun _ h => h
theorem LeO.none {α : Type} (b : Option α) : LeO Option.none b := fun _ h => by cases h
theorem LeO.trans {α : Type} {a b c : Option α} (h : LeO a b) (k : LeO b c) : LeO a c := fun r hr => k r (h r hr)
theorem LeO.ite {α : Type} {c : Prop} [Decidable c] {a a' b b' : Option α} (h : LeO a a') (k : LeO b b') : LeO (if c then a else b) (if c then a' else b') := by
  split
  · exact h
  · exact k
theorem LeO.bind {α β : Type} {a a' : Option α} {f f' : α → Option β} (h : LeO a a') (k : ∀ x, LeO (f x) (f' x)) : LeO (a.bind f) (a'.bind f') := by
  intro r hr
  obtain ⟨x, hx, hf⟩ := Option.bind_eq_some_iff.1 hr
  exact Option.bind_eq_some_iff.2 ⟨x, h x hx, k x r hf⟩
theorem LeO.map {α β : Type} {a a' : Option α} (f : α → β) (h : LeO a a') : LeO (a.map f) (a'.map f) := by
  intro r hr
  obtain ⟨x, hx, hf⟩ := Option.map_eq_some_iff.1 hr
  exact Option.map_eq_some_iff.2 ⟨x, h x hx, hf⟩
theorem zf2 {α : Type} {g : Nat → Option α} (h : ∀ k, LeO (g k) (g (k + 1))) (k : Nat) : ∀ j, LeO (g k) (g (k + j))
  | 0 => LeO.refl _
  | j + 1 => (zf2 h k j).trans (h (k + j))
theorem zhp {α : Type} {g : Nat → Option α} (h : ∀ k, LeO (g k) (g (k + 1))) {k k' : Nat} (hk : k ≤ k') {r : α} (hr : g k = some r) : g k' = some r := by
  have := zf2 h k (k' - k) r hr
  rwa [Nat.add_sub_cancel' hk] at this
def Reps {α : Type} (R : α → List Value → Prop) (size : Nat) (ps : List α) (cs : List Value) : Prop :=
  cs.length = ps.length * size ∧ ∀ j p, ps[j]? = some p → R p ((cs.drop (j * size)).take size)
theorem Reps.none {α : Type} (R : α → List Value → Prop) (size : Nat) : Reps R size [] [] := ⟨by simp, fun j p h => by simp at h⟩
theorem Reps.snoc {α : Type} {R : α → List Value → Prop} {size : Nat} {ps : List α} {cs c : List Value} {p : α} (h : Reps R size ps cs) (hp : R p c) (hc : c.length = size) : Reps R size (ps ++ [p]) (cs ++ c) := by
  refine ⟨by rw [List.length_append, h.1, hc, List.length_append, List.length_singleton, Nat.add_mul, Nat.one_mul], fun j q hq => ?_⟩
  rcases Nat.lt_or_ge j ps.length with hj | hj
  · rw [List.getElem?_append_left hj] at hq
    have h1 : j * size + size ≤ cs.length := by rw [h.1, ← Nat.succ_mul]; exact Nat.mul_le_mul_right _ hj
    have h2 := h.2 j q hq
    rw [List.drop_append_of_le_length (by omega), List.take_append_of_le_length (by rw [List.length_drop]; omega)]
    exact h2
  · have hj' : j = ps.length := by
      have := (List.getElem?_eq_some_iff.1 hq).1
      rw [List.length_append, List.length_singleton] at this
      omega
    subst hj'
    have hq' : p = q := by simpa using hq
    subst hq'
    rw [← h.1, List.drop_left, ← hc, List.take_length]
    exact hp
theorem Reps.imp_ {α : Type} {R R' : α → List Value → Prop} {size : Nat} {ps : List α} {cs : List Value} (h : Reps R size ps cs) (hR : ∀ p c, R p c → R' p c) : Reps R' size ps cs := ⟨h.1, fun j p hj => hR _ _ (h.2 j p hj)⟩
def zc1 {α : Type} (R : α → List Value → Prop) (size : Nat) (w : World) (A : Option Addr) (n : Nat) (ps : List α) : Prop :=
  ps.length = n ∧ n ≤ 9223372036854775807 ∧ (0 < n → ∃ ad, A = some ad ∧ ∀ j p, ps[j]? = some p → ∃ c, c.length = size ∧ R p c ∧ ∀ i u, c[i]? = some u → w.cell? (ad.add (j * size + i)) = some u)
theorem zc1.get_ {α : Type} {R : α → List Value → Prop} {size : Nat} {w : World} {A : Option Addr} {n : Nat} {ps : List α} (h : zc1 R size w A n ps) (d : α) (i : Int) (h0 : 0 ≤ i) (h1 : i < n) :
    ∃ ad c, A = some ad ∧ c.length = size ∧ R (ps.getD i.toNat d) c ∧ ∀ j u, c[j]? = some u → w.cell? (ad.add (i.toNat * size + j)) = some u := by
  obtain ⟨ad, e, hc⟩ := h.2.2 (by omega)
  have hl : i.toNat < ps.length := by have := h.1; omega
  obtain ⟨c, hs, hr, hcell⟩ := hc i.toNat _ (List.getElem?_eq_getElem hl)
  refine ⟨ad, c, e, hs, ?_, hcell⟩
  rw [List.getD_eq_getElem?_getD, List.getElem?_eq_getElem hl]
  exact hr
theorem zc1.imp_ {α : Type} {R R' : α → List Value → Prop} {size : Nat} {w w1 : World} {A : Option Addr} {n : Nat} {ps : List α} (h : zc1 R size w A n ps) (hb : Below w.heap.size w w1) (hR : ∀ p c, R p c → R' p c) : zc1 R' size w1 A n ps :=
  ⟨h.1, h.2.1, fun hn => by
    obtain ⟨ad, e, hc⟩ := h.2.2 hn
    refine ⟨ad, e, fun j p hj => ?_⟩
    obtain ⟨c, hs, hr, hcell⟩ := hc j p hj
    exact ⟨c, hs, hR _ _ hr, fun i u hu => zc7 hb (hcell i u hu)⟩⟩
theorem zg1 {α : Type} {R : α → List Value → Prop} {w : World} {base n size : Nat} {e : TypeId} {v : Value} {ps : List α} {cs : List Value} (h : w.ownsRow base e size v n cs) (hR : Reps R size ps cs) (hn : ps.length = n) :
    ∃ A c, v = .slice A n c ∧ zc1 R size w A n ps := by
  rcases Nat.eq_zero_or_pos n with h0 | h0
  · rcases h.2 with ⟨rfl, rfl⟩ | ⟨g, cap, cur, rfl, _⟩
    · exact ⟨none, 0, rfl, hn, by omega, fun hp => absurd hp (by omega)⟩
    · exact ⟨_, cap, rfl, hn, by omega, fun hp => absurd hp (by omega)⟩
  · obtain ⟨g, cap, rfl, _, _⟩ := h.form h0
    have hm : n ≤ 9223372036854775807 := by
      rcases h.2 with ⟨_, h1⟩ | ⟨g', cap', cur, he, _, _, h1, h2, _⟩
      · omega
      · simp only [maxLen] at h2
        omega
    refine ⟨_, cap, rfl, hn, hm, fun _ => ⟨_, rfl, fun j p hj => ⟨(cs.drop (j * size)).take size, ?_, hR.2 j p hj, fun i u hu => ?_⟩⟩⟩
    · have hjl := (List.getElem?_eq_some_iff.1 hj).1
      have h1 : j * size + size ≤ cs.length := by rw [hR.1, ← Nat.succ_mul]; exact Nat.mul_le_mul_right _ hjl
      rw [List.length_take, List.length_drop]
      omega
    · refine h.cells (g := g) rfl _ u ?_
      rw [List.getElem?_take] at hu
      split at hu
      · rw [List.getElem?_drop] at hu
        exact hu
      · cases hu
section
variable {P : Program} {ops : Array Oper} {rest : List Oper} {o : Oper} {a : Act} {Q : Exit → Act → World → Prop}
theorem zd6 {w0 W : World} (base : Nat) (hgd : o.guard = none) (s x : Operand) (t e : TypeId) (z : Value) (size bytes : Nat)
    (ho : o.op = .call { callee := .builtin .append, args := #[s, x], argTypes := #[t, t] })
    (ht : P.underlying t = some (.slice e)) (hinfo : (P.info? e).map (fun i => (i.zero, i.size, i.bytes)) = some (some z, size, bytes)) (hz : z.cells.size = size) (hs0 : 0 < size) (hb0 : 0 < bytes)
    (v : Value) (n : Nat) (xs ys : List Value) (hs : a.eval s = v) (hx : a.eval x = .slice (some ⟨W.heap.size, 0, none⟩) 1 1) (hys : ys.length = size) (h1 : ∀ u ∈ ys, u.oneCell' = true)
    (HO : W.ownsRow base e size v n xs) (HB : Below base w0 W) (hbase : base ≤ W.heap.size) (hl : (n + 1) * bytes ≤ 140737488355328)
    (h : ∀ v1 w1, w1.ownsRow base e size v1 (n + 1) (xs ++ ys) → Below base w0 w1 → W.grownBy w1 v.ownBlock → (v1.ownBlock = v.ownBlock ∨ ∃ b, v1.ownBlock = some b ∧ W.heap.size ≤ b) → wpList P ops Q rest (a.put o.dst v1) w1) :
    wpList P ops Q (o :: rest) a (W.alloc (.cells ys.toArray e)) := by
  obtain ⟨i0, hi, hzz⟩ := Option.map_eq_some_iff.1 hinfo
  simp only [Prod.mk.injEq] at hzz
  obtain ⟨hz0, hz1, hz2⟩ := hzz
  have hlen : n + 1 ≤ 140737488355328 := Nat.le_trans (Nat.le_mul_of_pos_right _ hb0) hl
  refine wpList_append_own_at (W.alloc (.cells ys.toArray e)) hgd s x t ho base e i0 z size bytes ht hi hz0 hz1 hz2 hz hs0 v n xs hs (HO.alloc _) ⟨W.heap.size, 0, none⟩ 1 1 ys hx (by rw [hys]; simp)
    (by simpa using World.news_of_block (cs := ys.toArray) (t := e) (fr := (0, 0)) (heap_alloc_new W (.cells ys.toArray e))) h1 (by simp only [maxLen]; omega) hl (by simp; omega) ?_
  intro v1 w1 hown hg _ hat
  refine h v1 w1 hown ((HB.alloc hbase _).grown hg (by simp; omega) (zel HO)) (World.grownBy.trans (World.grownBy_alloc W _ _) hg) ?_
  rcases hat with hat | hat
  · exact .inl hat
  · exact .inr ⟨_, hat, by simp⟩
end
theorem own_ne {w : World} {base : Nat} {e t : TypeId} {size n g : Nat} {v : Value} {xs : List Value} {cs : Array Value} (h : w.ownsRow base e size v n xs) (hg : w.heap[g]? = some (.cells cs t (0, 0))) (hne : e ≠ t) : some g ≠ v.ownBlock := by
  rcases h.2 with ⟨rfl, _⟩ | ⟨g', cap, cur, rfl, _, hh, _⟩
  · simp [Value.ownBlock]
  · intro he
    have : g = g' := by simpa [Value.ownBlock] using he
    subst this
    rw [hg] at hh
    injection hh with hh
    injection hh with _ ht
    exact hne ht.symm
theorem zh8 {w : World} {base : Nat} {e : TypeId} {size n : Nat} {v : Value} {xs : List Value} (h : w.ownsRow base e size v n xs) {p : Addr} (hne : some p.block ≠ v.ownBlock) (u : Value) : (w.setCell p u).ownsRow base e size v n xs := by
  obtain ⟨h1, h2⟩ := h
  refine ⟨h1, ?_⟩
  rcases h2 with h2 | ⟨g, cap, cur, rfl, hg, hh, r⟩
  · exact .inl h2
  · exact .inr ⟨g, cap, cur, rfl, hg, by rw [Below.heap_setCell _ _ _ _ (fun e => hne (by rw [e]; rfl))]; exact hh, r⟩
theorem zh9 {w : World} {g : Nat} {t : TypeId} {cs : Array Value} (h : w.heap[g]? = some (.cells cs t (0, 0))) (i : Nat) (u : Value) : (w.setCell ⟨g, i, none⟩ u).heap[g]? = some (.cells (cs.setIfInBounds i u) t (0, 0)) := by
  simp [World.setCell, Array.getElem?_modify, h]
theorem zem {w : World} {g : Nat} {t : TypeId} {cs : Array Value} (h : w.heap[g]? = some (.cells cs t (0, 0))) {p : Addr} (hp : g ≠ p.block) (u : Value) : (w.setCell p u).heap[g]? = some (.cells cs t (0, 0)) := (Below.heap_setCell w p u g hp).trans h
theorem zer {w : World} {g : Nat} {o : Obj} (h : w.heap[g]? = some o) : g < w.heap.size := (Array.getElem?_eq_some_iff.1 h).1
theorem z8 {w : World} {g : Nat} {t : TypeId} {cs : Array Value} (h : w.heap[g]? = some (.cells cs t (0, 0))) (i : Nat) : w.cell? ⟨g, i, none⟩ = cs[i]? := cell_of_row w g i cs t (0, 0) h
theorem zy {w : World} {g : Nat} {t : TypeId} {cs : Array Value} (h : w.heap[g]? = some (.cells cs t (0, 0))) (i : Nat) : w.frozen? ⟨g, i, none⟩ = false := by simp [World.frozen?, h]
theorem zes {w w1 : World} {g : Nat} {o : Obj} {row : Option Nat} (h : w.heap[g]? = some o) (hg : w.grownBy w1 row) (hne : some g ≠ row) : w1.heap[g]? = some o := (hg.block g (zer h) hne).trans h
def zbc (w w' : World) (g : Nat) (row : Option Nat) : Prop := w.heap.size ≤ w'.heap.size ∧ ∀ i, i < w.heap.size → i ≠ g → some i ≠ row → w'.heap[i]? = w.heap[i]?
theorem zbc.refl (w : World) (g : Nat) (row : Option Nat) : zbc w w g row := ⟨Nat.le_refl _, fun _ _ _ _ => rfl⟩
theorem zbc.zd7 {w w1 : World} {row : Option Nat} (h : w.grownBy w1 row) (g : Nat) : zbc w w1 g row := ⟨h.size, fun i hi _ hr => h.block i hi hr⟩
theorem zbc.of_below {w w1 : World} (h : Below w.heap.size w w1) (g : Nat) (row : Option Nat) : zbc w w1 g row := ⟨h.size, fun i hi _ _ => h.block i hi⟩
theorem zbc.set_ {w w1 : World} {g : Nat} {row : Option Nat} (h : zbc w w1 g row) (j : Nat) (u : Value) : zbc w (w1.setCell ⟨g, j, none⟩ u) g row :=
  ⟨by simpa [World.setCell] using h.1, fun i hi hg hr => (Below.heap_setCell w1 ⟨g, j, none⟩ u i hg).trans (h.2 i hi hg hr)⟩
theorem zbc.trans {w w1 w2 : World} {g : Nat} {row row1 : Option Nat} (h : zbc w w1 g row) (k : zbc w1 w2 g row1) (hr : row1 = row ∨ ∃ b, row1 = some b ∧ w.heap.size ≤ b) : zbc w w2 g row :=
  ⟨Nat.le_trans h.1 k.1, fun i hi hg hn => by
    refine (k.2 i (Nat.lt_of_lt_of_le hi h.1) hg ?_).trans (h.2 i hi hg hn)
    rcases hr with rfl | ⟨b, rfl, hb⟩
    · exact hn
    · intro e
      injection e with e
      omega⟩
theorem zbc.blk {w w1 : World} {g g' : Nat} {row : Option Nat} {o : Obj} (h : zbc w w1 g row) (hb : w.heap[g']? = some o) (hg : g' ≠ g) (hr : some g' ≠ row) : w1.heap[g']? = some o := (h.2 g' (zer hb) hg hr).trans hb
theorem zbc.own {w w1 : World} {g : Nat} {row : Option Nat} {base : Nat} {e : TypeId} {size n : Nat} {v : Value} {xs : List Value} (h : zbc w w1 g row) (ho : w.ownsRow base e size v n xs) (hg : v.ownBlock ≠ some g) (hr : v.ownBlock = none ∨ v.ownBlock ≠ row) : w1.ownsRow base e size v n xs := by
  obtain ⟨h1, h2⟩ := ho
  refine ⟨h1, ?_⟩
  rcases h2 with h2 | ⟨b, cap, cur, rfl, hb, hh, r⟩
  · exact .inl h2
  · refine .inr ⟨b, cap, cur, rfl, hb, h.blk hh ?_ ?_, r⟩
    · intro e
      exact hg (by rw [← e]; rfl)
    · rcases hr with hr | hr
      · simp [Value.ownBlock] at hr
      · exact hr
def Ev {α : Type} (g : Nat → Option α) (r : α) : Prop := ∃ K, ∀ k, K ≤ k → g k = some r
theorem Ev.of {α : Type} {g : Nat → Option α} {r : α} (hg : ∀ k, LeO (g k) (g (k + 1))) {k : Nat} (h : g k = some r) : Ev g r := ⟨k, fun _ hk => zhp hg hk h⟩
theorem Ev.now {α : Type} (r : α) : Ev (fun _ => some r) r := ⟨0, fun _ _ => rfl⟩
theorem Ev.rounds {α : Type} {g : Nat → Option α} {r : α} (h : Ev g r) : ∃ k, g k = some r := by
  obtain ⟨K, h⟩ := h
  exact ⟨K, h K (Nat.le_refl _)⟩
theorem Ev.bind {α β : Type} {g : Nat → Option α} {f : Nat → α → Option β} {a : α} {r : β} (h : Ev g a) (k : Ev (fun n => f n a) r) : Ev (fun n => (g n).bind (f n)) r := by
  obtain ⟨K, h⟩ := h
  obtain ⟨K', k⟩ := k
  refine ⟨max K K', fun n hn => ?_⟩
  have h1 := h n (by omega)
  have h2 := k n (by omega)
  simp only [h1, Option.bind_some]
  exact h2
theorem Ev.step {α : Type} {g f : Nat → Option α} {r : α} (h : ∀ k, g (k + 1) = f k) (k : Ev f r) : Ev g r := by
  obtain ⟨K, k⟩ := k
  refine ⟨K + 1, fun n hn => ?_⟩
  obtain ⟨m, rfl⟩ : ∃ m, n = m + 1 := ⟨n - 1, by omega⟩
  rw [h]
  exact k m (by omega)
theorem Ev.congr {α : Type} {g f : Nat → Option α} {r : α} (h : ∀ k, g k = f k) (k : Ev f r) : Ev g r := by
  obtain ⟨K, k⟩ := k
  exact ⟨K, fun n hn => (h n).trans (k n hn)⟩
section
variable {P : Program} {ops : Array Oper} {o : Oper} {a : Act} {Q : Exit → Act → World → Prop} {K : Act → World → Prop}
theorem zfk {w0 W : World} (base : Nat) (hw : Region.wanted o (yielded ops a.tmps) = true) (s x : Operand) (t e : TypeId) (z : Value) (size bytes : Nat)
    (ho : o.op = .call { callee := .builtin .append, args := #[s, x], argTypes := #[t, t] })
    (ht : P.underlying t = some (.slice e)) (hinfo : (P.info? e).map (fun i => (i.zero, i.size, i.bytes)) = some (some z, size, bytes)) (hz : z.cells.size = size) (hs0 : 0 < size) (hb0 : 0 < bytes)
    (v : Value) (n : Nat) (xs ys : List Value) (hs : a.eval s = v) (hx : a.eval x = .slice (some ⟨W.heap.size, 0, none⟩) 1 1) (hys : ys.length = size) (h1 : ∀ u ∈ ys, u.oneCell' = true)
    (HO : W.ownsRow base e size v n xs) (HB : Below base w0 W) (hbase : base ≤ W.heap.size) (hl : (n + 1) * bytes ≤ 140737488355328)
    (h : ∀ v1 w1, w1.ownsRow base e size v1 (n + 1) (xs ++ ys) → Below base w0 w1 → W.grownBy w1 v.ownBlock → (v1.ownBlock = v.ownBlock ∨ ∃ b, v1.ownBlock = some b ∧ W.heap.size ≤ b) → K (a.put o.dst v1) w1) :
    if Region.wanted o (yielded ops a.tmps) = true then Oper.wp P o a (W.alloc (.cells ys.toArray e)) K Q else K (a.put o.dst undef) (W.alloc (.cells ys.toArray e)) := by
  obtain ⟨i0, hi, hzz⟩ := Option.map_eq_some_iff.1 hinfo
  simp only [Prod.mk.injEq] at hzz
  obtain ⟨hz0, hz1, hz2⟩ := hzz
  have hlen : n + 1 ≤ 140737488355328 := Nat.le_trans (Nat.le_mul_of_pos_right _ hb0) hl
  rw [if_pos hw]
  obtain ⟨v1, w1, hr, hown, hg, _, hat⟩ := run_append_own_at (P := P) (W.alloc (.cells ys.toArray e)) base t o.type e i0 z size bytes ht hi hz0 hz1 hz2 hz hs0 v n xs (HO.alloc _) ⟨W.heap.size, 0, none⟩ 1 1 ys (by rw [hys]; simp)
    (by simpa using World.news_of_block (cs := ys.toArray) (t := e) (fr := (0, 0)) (heap_alloc_new W (.cells ys.toArray e))) h1 (by simp only [maxLen]; omega) hl (by simp; omega)
  unfold Oper.wp execOp
  simp only [ho, resolve, invoke, builtin, Sem.run_bind, Sem.run_pure, Result.andThen_ok, List.map_toArray, List.map_cons, List.map_nil, hs, hx, hr]
  refine h v1 w1 hown ((HB.alloc hbase _).grown hg (by simp; omega) (zel HO)) (World.grownBy.trans (World.grownBy_alloc W _ _) hg) ?_
  rcases hat with hat | hat
  · exact .inl hat
  · exact .inr ⟨_, hat, by simp⟩
end
theorem zgr {w : World} {base base' : Nat} {e : TypeId} {size n : Nat} {v : Value} {xs : List Value} (h : w.ownsRow base e size v n xs) (hb : base' ≤ base) : w.ownsRow base' e size v n xs := by
  obtain ⟨h1, h2⟩ := h
  refine ⟨h1, ?_⟩
  rcases h2 with h2 | ⟨g, cap, cur, rfl, hg, r⟩
  · exact .inl h2
  · exact .inr ⟨g, cap, cur, rfl, Nat.le_trans hb hg, r⟩
section
variable {α : Type} {enc : α → Value} {d : α}
def encs (enc : α → Value) (xs : List α) : List Value := xs.map enc
def rdOf (d : α) (xs : List α) (i : Int) : α := xs.getD i.toNat d
theorem zd4 (xs : List α) : (encs enc xs).length = xs.length := by simp [encs]
theorem zia (xs ys : List α) : encs enc (xs ++ ys) = encs enc xs ++ encs enc ys := by simp [encs]
theorem encs_get (xs : List α) (j : Nat) (h : j < xs.length) : (encs enc xs)[j]? = some (enc (xs.getD j d)) := by
  simp [encs, List.getElem?_eq_getElem h, List.getD_eq_getElem?_getD]
def zc0 (enc : α → Value) (d : α) (w : World) (A : Option Addr) (n : Nat) (xs : List α) : Prop :=
  xs.length = n ∧ n ≤ 9223372036854775807 ∧ (0 < n → ∃ ad, A = some ad ∧ ∀ j, j < n → w.cell? (ad.add j) = some (enc (xs.getD j d)))
theorem zc0.at_ {w : World} {A : Option Addr} {n : Nat} {xs : List α} (h : zc0 enc d w A n xs) (i : Int) (h0 : 0 ≤ i) (h1 : i < n) : ∃ ad, A = some ad ∧ w.cell? (ad.add i.toNat) = some (enc (rdOf d xs i)) := by
  obtain ⟨ad, e, hc⟩ := h.2.2 (by omega)
  exact ⟨ad, e, hc _ (by omega)⟩
theorem zc0.below {w w1 : World} {A : Option Addr} {n : Nat} {xs : List α} (h : zc0 enc d w A n xs) (hb : Below w.heap.size w w1) : zc0 enc d w1 A n xs :=
  ⟨h.1, h.2.1, fun hn => by
    obtain ⟨ad, e, hc⟩ := h.2.2 hn
    exact ⟨ad, e, fun j hj => zc7 hb (hc j hj)⟩⟩
theorem zc0.zb3 {w : World} {A : Option Addr} {n : Nat} {xs : List α} (h : zc0 enc d w A n xs) (i : Nat) (hi : i ≤ n) : zc0 enc d w A i (xs.take i) := by
  refine ⟨by rw [List.length_take, h.1]; omega, by have := h.2.1; omega, fun hp => ?_⟩
  obtain ⟨ad, e, hc⟩ := h.2.2 (by omega)
  refine ⟨ad, e, fun j hj => ?_⟩
  rw [hc j (by omega)]
  simp [List.getD_eq_getElem?_getD, hj]
theorem own_at_of {W : World} {base g n cap : Nat} {e : TypeId} {xs : List α} (h : W.ownsRow base e 1 (.slice (some ⟨g, 0, none⟩) n cap) n (encs enc xs)) (i : Int) (h0 : 0 ≤ i) (h1 : i < n) :
    W.cell? ⟨g, i.toNat, none⟩ = some (enc (rdOf d xs i)) ∧ W.frozen? ⟨g, i.toNat, none⟩ = false := by
  have hl : xs.length = n := by have := h.1; simp [encs] at this; exact this
  constructor
  · have hc := h.cells (g := g) rfl i.toNat _ (encs_get (d := d) xs i.toNat (by omega))
    rwa [add_plain] at hc
  · rcases h.2 with ⟨h', _⟩ | ⟨g', cap', cur, h', _, hh, _⟩
    · cases h'
    · have : g = g' := by injection h' with h'; injection h' with h'; injection h' with h'
      subst this
      simp [World.frozen?, hh]
theorem zhq {W : World} {base g n cap : Nat} {e : TypeId} {xs : List α} (h : W.ownsRow base e 1 (.slice (some ⟨g, 0, none⟩) n cap) n (encs enc xs)) (i : Int) (x : α) :
    (W.setCell ⟨g, i.toNat, none⟩ (enc x)).ownsRow base e 1 (.slice (some ⟨g, 0, none⟩) n cap) n (encs enc (xs.set i.toNat x)) ∧ W.grownBy (W.setCell ⟨g, i.toNat, none⟩ (enc x)) (some g) := by
  have hs := h.stored i.toNat (enc x)
  have he : (encs enc xs).set i.toNat (enc x) = encs enc (xs.set i.toNat x) := by simp [encs, List.map_set]
  rwa [he] at hs
end
section
variable {α : Type} {P : Program} {ops : Array Oper} {rest : List Oper} {o : Oper} {a : Act} {Q : Exit → Act → World → Prop}
end
theorem zb0 {w : World} {g : Nat} {o : Obj} (h : w.heap[g]? = some o) (o' : Obj) : (w.alloc o').heap[g]? = some o := (Below.heap_alloc w o' g (zer h)).trans h
theorem zbv {w : World} {g : Nat} {o : Obj} (h : w.heap[g]? = some o) : w.drew.heap[g]? = some o := h
theorem zbw {w : World} {g : Nat} {o : Obj} (h : w.heap[g]? = some o) (n : Nat) : (w.drewN n).heap[g]? = some o := h
theorem zb1 {w w1 : World} {g : Nat} {o : Obj} (h : w.heap[g]? = some o) (hb : Below w.heap.size w w1) : w1.heap[g]? = some o := (hb.block g (zer h)).trans h
theorem zdi (w : World) (o : Obj) : (w.alloc o).heap[w.heap.size]? = some o := heap_alloc_new w o
section
variable {P : Program}
end
theorem own_le {w : World} {base n m c size : Nat} {e : TypeId} {A : Option Addr} {xs : List Value} (h : w.ownsRow base e size (.slice A m c) n xs) : m ≤ c := by
  rcases h.2 with ⟨he, _⟩ | ⟨g, cap, cur, he, _, _, hnc, _⟩
  · injection he with _ h2 h3
    omega
  · injection he with _ h2 h3
    omega
def zcp {α : Type} (R : α → List Value → Prop) (e : TypeId) (size : Nat) (w : World) (base : Nat) (v : Value) (ps : List α) : Prop :=
  ∃ inner, w.ownsRow base e size v ps.length inner ∧ Reps R size ps inner
section
variable {α : Type} {R R' : α → List Value → Prop} {e : TypeId} {size : Nat} {w w1 : World} {base : Nat} {v : Value} {ps : List α}
theorem zcp.none_ (R : α → List Value → Prop) (e : TypeId) (size : Nat) (w : World) (base : Nat) : zcp R e size w base (.slice none 0 0) [] := ⟨[], own_nil _ _ _ _, Reps.none _ _⟩
theorem zcp.imp_ (h : zcp R e size w base v ps) (hR : ∀ p c, R p c → R' p c) : zcp R' e size w base v ps := by
  obtain ⟨inner, ho, hr⟩ := h
  exact ⟨inner, ho, hr.imp_ hR⟩
theorem zcp.below (h : zcp R e size w base v ps) (hb : Below w.heap.size w w1) : zcp R e size w1 base v ps := by
  obtain ⟨inner, ho, hr⟩ := h
  exact ⟨inner, zho ho hb, hr⟩
theorem zcp.other (h : zcp R e size w base v ps) {row : Option Nat} (hg : w.grownBy w1 row) (hne : v.ownBlock = none ∨ v.ownBlock ≠ row) : zcp R e size w1 base v ps := by
  obtain ⟨inner, ho, hr⟩ := h
  exact ⟨inner, own_other ho hg hne, hr⟩
theorem zcp.set_ (h : zcp R e size w base v ps) {g : Nat} {t : TypeId} {cells : Array Value} (hb : w.heap[g]? = some (.cells cells t (0, 0))) (ht : e ≠ t) (j : Nat) (u : Value) : zcp R e size (w.setCell ⟨g, j, none⟩ u) base v ps := by
  obtain ⟨inner, ho, hr⟩ := h
  exact ⟨inner, zh8 ho (own_ne ho hb ht) u, hr⟩
theorem zcp.lower (h : zcp R e size w base v ps) {base' : Nat} (hb : base' ≤ base) : zcp R e size w base' v ps := by
  obtain ⟨inner, ho, hr⟩ := h
  exact ⟨inner, zgr ho hb, hr⟩
theorem zcp.reads (h : zcp R e size w base v ps) : ∃ A c, v = .slice A ps.length c ∧ ps.length ≤ c ∧ zc1 R size w A ps.length ps := by
  obtain ⟨inner, ho, hr⟩ := h
  obtain ⟨A, c, rfl, hrow⟩ := zg1 ho hr rfl
  exact ⟨A, c, rfl, own_le ho, hrow⟩
theorem zcp.ne_block (h : zcp R e size w base v ps) {g : Nat} {t : TypeId} {cells : Array Value} (hb : w.heap[g]? = some (.cells cells t (0, 0))) (ht : e ≠ t) : some g ≠ v.ownBlock := by
  obtain ⟨inner, ho, hr⟩ := h
  exact own_ne ho hb ht
end
section
variable {P : Program} {ops : Array Oper} {rest : List Oper} {o : Oper} {a : Act} {Q : Exit → Act → World → Prop} {α : Type} {R : α → List Value → Prop}
theorem zcp.append {w0 W : World} (base : Nat) (hgd : o.guard = none) (s x : Operand) (t e : TypeId) (z : Value) (size bytes : Nat)
    (ho : o.op = .call { callee := .builtin .append, args := #[s, x], argTypes := #[t, t] })
    (ht : P.underlying t = some (.slice e)) (hinfo : (P.info? e).map (fun i => (i.zero, i.size, i.bytes)) = some (some z, size, bytes)) (hz : z.cells.size = size) (hs0 : 0 < size) (hb0 : 0 < bytes)
    (v : Value) (ps : List α) (p : α) (cs : List Value) (hs : a.eval s = v) (hx : a.eval x = .slice (some ⟨W.heap.size, 0, none⟩) 1 1) (hp : R p cs) (hcs : cs.length = size) (h1 : ∀ u ∈ cs, u.oneCell' = true)
    (HO : zcp R e size W base v ps) (HB : Below base w0 W) (hbase : base ≤ W.heap.size) (hl : (ps.length + 1) * bytes ≤ 140737488355328)
    (h : ∀ v1 w1, zcp R e size w1 base v1 (ps ++ [p]) → Below base w0 w1 → W.grownBy w1 v.ownBlock → (v1.ownBlock = v.ownBlock ∨ ∃ b, v1.ownBlock = some b ∧ W.heap.size ≤ b) → wpList P ops Q rest (a.put o.dst v1) w1) :
    wpList P ops Q (o :: rest) a (W.alloc (.cells cs.toArray e)) := by
  obtain ⟨inner, hown, hr⟩ := HO
  refine zd6 base hgd s x t e z size bytes ho ht hinfo hz hs0 hb0 v ps.length inner cs hs hx hcs h1 hown HB hbase hl ?_
  intro v1 w1 hown1 hb1 hg1 hat1
  exact h v1 w1 ⟨inner ++ cs, by rw [List.length_append, List.length_singleton]; exact hown1, hr.snoc hp hcs⟩ hb1 hg1 hat1
end
section
variable {P : Program} {ops : Array Oper} {o : Oper} {a : Act} {Q : Exit → Act → World → Prop} {K : Act → World → Prop} {α : Type} {R : α → List Value → Prop}
end
theorem zc1.inner_ {α : Type} {R : α → List Value → Prop} {size : Nat} {w : World} {ad : Addr} {n : Nat} {ps : List α} (h : zc1 R size w (some ad) n ps) :
    ∃ inner, Reps R size ps inner ∧ ∀ j u, inner[j]? = some u → w.cell? (ad.add j) = some u := by
  have key : ∀ m, m ≤ ps.length → ∃ inner, Reps R size (ps.take m) inner ∧ ∀ j u, inner[j]? = some u → w.cell? (ad.add j) = some u := by
    intro m
    induction m with
    | zero => exact fun _ => ⟨[], Reps.none _ _, fun j u hu => by simp at hu⟩
    | succ m ih =>
      intro hm
      obtain ⟨inner, hr, hc⟩ := ih (by omega)
      obtain ⟨ad', he, hcell⟩ := h.2.2 (by have := h.1; omega)
      injection he with he
      subst he
      obtain ⟨c, hcl, hp, hcc⟩ := hcell m _ (List.getElem?_eq_getElem (show m < ps.length by omega))
      refine ⟨inner ++ c, ?_, fun j u hu => ?_⟩
      · rw [List.take_succ_eq_append_getElem (show m < ps.length by omega)]
        exact hr.snoc hp hcl
      · have hil : inner.length = m * size := by rw [hr.1, List.length_take, Nat.min_eq_left (by omega)]
        rcases Nat.lt_or_ge j inner.length with hj | hj
        · rw [List.getElem?_append_left hj] at hu
          exact hc j u hu
        · rw [List.getElem?_append_right hj] at hu
          have := hcc (j - inner.length) u hu
          rwa [hil, Nat.add_sub_cancel' (by omega)] at this
  obtain ⟨inner, hr, hc⟩ := key ps.length (Nat.le_refl _)
  rw [List.take_length] at hr
  exact ⟨inner, hr, hc⟩
section
variable {α : Type} {P : Program}
theorem zg2 (enc : α → Value) (d : α) (t e : TypeId) (kl : IntKind) {i : TypeInfo} (ht : P.underlying t = some (.slice e)) (hi : P.info? e = some i) (hsz : i.size = 1) (A : Option Addr) (c : Nat) (xs : List α) (j : Int) (h0 : 0 ≤ j) (hm : j ≤ xs.length) (hc : xs.length ≤ c) :
    (∀ W : World, (Instr.slice t (.slice A xs.length c) none (some (.int kl j)) none).run P W = .ok (.slice A (xs.take j.toNat).length c) W) ∧
      (∀ w : World, zc0 enc d w A xs.length xs → zc0 enc d w A (xs.take j.toNat).length (xs.take j.toNat)) ∧ (xs.take j.toNat).length ≤ c := by
  have hl : (xs.take j.toNat).length = j.toNat := by rw [List.length_take]; omega
  refine ⟨fun W => ?_, fun w h => by rw [hl]; exact h.zb3 j.toNat (by omega), by rw [hl]; omega⟩
  have hel : P.elem t = e := by simp [Program.elem, ht]
  have hu : P.underlying t = some (.slice (P.elem t)) := by rw [hel]; exact ht
  have ha : (A.map fun x => x.add 0) = A := by cases A <;> simp [Addr.add]
  rw [run_slice_h W t A xs.length c hu kl j h0 (by omega), hel, hl]
  simp [sizeOf, typeInfo, hi, hsz, sliced, Result.andThen, ha]
end
section
variable {P : Program} {ops : Array Oper} {rest : List Oper} {o : Oper} {a : Act} {Q : Exit → Act → World → Prop}
end
structure Kd (α : Type) where
  sz : Nat
  E : List Nat
  K : World → α → List Value → Prop
  M : World → Nat → (Nat → Prop) → α → List Value → Prop
  K_len : ∀ {w x cs}, K w x cs → cs.length = sz
  K_one : ∀ {w x cs}, K w x cs → ∀ u ∈ cs, u.oneCell' = true
  K_below : ∀ {w w1 : World} {x cs}, Below w.heap.size w w1 → K w x cs → K w1 x cs
  K_of_M : ∀ {w base ok x cs}, M w base ok x cs → K w x cs
  M_mono : ∀ {w base ok ok' x cs}, (∀ k, ok k → ok' k) → M w base ok x cs → M w base ok' x cs
  M_bound : ∀ {w : World} {base ok x cs}, M w base ok x cs → M w base (fun k => ok k ∧ base ≤ k ∧ k < w.heap.size ∧ ∃ q, q ∈ E ∧ ∃ cells, w.heap[k]? = some (.cells cells q (0, 0))) x cs
  M_move : ∀ {w w1 : World} {base ok x cs}, (∀ k, ok k → w1.heap[k]? = w.heap[k]?) → M w base ok x cs → M w1 base ok x cs
  M_lower : ∀ {w base base' ok x cs}, base' ≤ base → M w base ok x cs → M w base' ok x cs
theorem own_move {w w1 : World} {base : Nat} {e : TypeId} {size n : Nat} {v : Value} {xs : List Value} (h : w.ownsRow base e size v n xs) (hm : ∀ k, v.ownBlock = some k → w1.heap[k]? = w.heap[k]?) : w1.ownsRow base e size v n xs := by
  obtain ⟨h1, h2⟩ := h
  refine ⟨h1, ?_⟩
  rcases h2 with h2 | ⟨g, cap, cur, rfl, hg, hh, r⟩
  · exact .inl h2
  · exact .inr ⟨g, cap, cur, rfl, hg, (hm g (by simp [Value.ownBlock])).trans hh, r⟩
theorem ze7 {w : World} {base : Nat} {e : TypeId} {size n : Nat} {v : Value} {xs : List Value} (h : w.ownsRow base e size v n xs) (k : Nat) (hk : v.ownBlock = some k) : ∃ cells, w.heap[k]? = some (.cells cells e (0, 0)) := by
  rcases h.2 with ⟨rfl, _⟩ | ⟨g, cap, cur, rfl, hg, hh, r⟩
  · simp [Value.ownBlock] at hk
  · have : g = k := by simpa [Value.ownBlock] using hk
    subst this
    exact ⟨cur, hh⟩
namespace Kd
def C {α : Type} (d : Kd α) (w : World) (A : Option Addr) (n : Nat) (xs : List α) : Prop := zc1 (d.K w) d.sz w A n xs
def R {α : Type} (d : Kd α) (e : Nat) (w : World) (base : Nat) (ok : Nat → Prop) (v : Value) (xs : List α) : Prop :=
  (∀ k, v.ownBlock = some k → ok k) ∧ zcp (d.M w base (fun k => ok k ∧ some k ≠ v.ownBlock)) e d.sz w base v xs
section
variable {α : Type} {d : Kd α} {e : Nat} {w w1 : World} {base : Nat} {ok ok' : Nat → Prop} {v : Value} {xs : List α}
theorem zci {A : Option Addr} {n : Nat} (h : d.C w A n xs) (hb : Below w.heap.size w w1) : d.C w1 A n xs := zc1.imp_ h hb (fun _ _ hp => d.K_below hb hp)
theorem R_nil (d : Kd α) (e : Nat) (w : World) (base : Nat) (ok : Nat → Prop) : d.R e w base ok (.slice none 0 0) [] := ⟨fun k hk => by simp [Value.ownBlock] at hk, zcp.none_ _ _ _ _ _⟩
theorem zbz (h : d.R e w base ok v xs) (hok : ∀ k, ok k → ok' k) : d.R e w base ok' v xs := ⟨fun k hk => hok k (h.1 k hk), h.2.imp_ (fun _ _ hp => d.M_mono (fun k hk => ⟨hok k hk.1, hk.2⟩) hp)⟩
theorem zc2 (h : d.R e w base ok v xs) : d.R e w base (fun k => ok k ∧ base ≤ k ∧ k < w.heap.size ∧ ∃ q, q ∈ e :: d.E ∧ ∃ cells, w.heap[k]? = some (.cells cells q (0, 0))) v xs := by
  obtain ⟨h0, inner, ho, hr⟩ := h
  refine ⟨fun k hk => ?_, inner, ho, hr.imp_ (fun _ _ hp => d.M_mono (fun k hk => ?_) (d.M_bound hp))⟩
  · obtain ⟨cells, hc⟩ := ze7 ho k hk
    exact ⟨h0 k hk, zel ho k hk, own_lt ho k hk, e, List.mem_cons_self, cells, hc⟩
  · obtain ⟨⟨h1, h2⟩, h3, h4, q, hq, hc⟩ := hk
    exact ⟨⟨h1, h3, h4, q, List.mem_cons_of_mem _ hq, hc⟩, h2⟩
theorem zf3 (h : d.R e w base ok v xs) (hm : ∀ k, ok k → w1.heap[k]? = w.heap[k]?) : d.R e w1 base ok v xs := by
  obtain ⟨h0, inner, ho, hr⟩ := h
  exact ⟨h0, inner, own_move ho (fun k hk => hm k (h0 k hk)), hr.imp_ (fun _ _ hp => d.M_move (fun k hk => hm k hk.1) hp)⟩
theorem zcg {base' : Nat} (h : d.R e w base ok v xs) (hb : base' ≤ base) : d.R e w base' ok v xs := by
  obtain ⟨h0, inner, ho, hr⟩ := h
  exact ⟨h0, inner, zgr ho hb, hr.imp_ (fun _ _ hp => d.M_lower hb hp)⟩
theorem R_step (h : d.R e w base ok v xs) (hm : ∀ k, ok k → k < w.heap.size → w1.heap[k]? = w.heap[k]?) : d.R e w1 base ok v xs :=
  zbz (zf3 (zc2 h) (fun k hk => hm k hk.1 hk.2.2.1)) (fun _ hk => hk.1)
theorem M_step {x : α} {cs : List Value} (h : d.M w base ok x cs) (hm : ∀ k, ok k → k < w.heap.size → w1.heap[k]? = w.heap[k]?) : d.M w1 base ok x cs :=
  d.M_mono (fun _ hk => hk.1) (d.M_move (fun k hk => hm k hk.1 hk.2.2.1) (d.M_bound h))
theorem zc3 (h : d.R e w base ok v xs) (hb : Below w.heap.size w w1) : d.R e w1 base ok v xs := R_step h (fun k _ hk => hb.block k hk)
theorem M_below {x : α} {cs : List Value} (h : d.M w base ok x cs) (hb : Below w.heap.size w w1) : d.M w1 base ok x cs := M_step h (fun k _ hk => hb.block k hk)
theorem zg3 (h : d.R e w base ok v xs) {row : Option Nat} (hg : w.grownBy w1 row) (hok : ∀ k, ok k → some k ≠ row) : d.R e w1 base ok v xs := R_step h (fun k ho hk => hg.block k hk (hok k ho))
theorem zdo (h : d.R e w base ok v xs) {p : Addr} (hok : ∀ k, ok k → k ≠ p.block) (u : Value) : d.R e (w.setCell p u) base ok v xs := R_step h (fun k ho _ => Below.heap_setCell w p u k (hok k ho))
theorem zdp (h : d.R e w base ok v xs) {g : Nat} (hk : zbc w w1 g none) (hok : ∀ k, ok k → k ≠ g) : d.R e w1 base ok v xs := R_step h (fun k ho hlt => hk.2 k hlt (hok k ho) (by simp))
theorem zib (h : d.R e w base ok v xs) {g t : Nat} {cells : Array Value} (hb : w.heap[g]? = some (.cells cells t (0, 0))) (ht : ∀ q, q ∈ e :: d.E → q ≠ t) : d.R e w base (fun k => ok k ∧ k ≠ g) v xs :=
  zbz (zc2 h) (fun k hk => ⟨hk.1, by
    obtain ⟨_, _, _, q, hq, cells', hc⟩ := hk
    rintro rfl
    rw [hc] at hb
    injection hb with hb
    injection hb with _ hb
    exact ht q hq hb⟩)
theorem zg4 (h : d.R e w base ok v xs) : ∃ A c, v = .slice A xs.length c ∧ xs.length ≤ c ∧ d.C w A xs.length xs := by
  obtain ⟨A, c, he, hl, hr⟩ := zcp.reads h.2
  exact ⟨A, c, he, hl, hr.imp_ (Below.refl _ _) (fun _ _ hp => d.K_of_M hp)⟩
theorem zce (h : d.R e w base ok v xs) : ∃ A c, v = .slice A xs.length c := by
  obtain ⟨A, c, he, _⟩ := zg4 h
  exact ⟨A, c, he⟩
theorem R_own (h : d.R e w base ok v xs) : ∃ inner, w.ownsRow base e d.sz v xs.length inner := by
  obtain ⟨_, inner, ho, _⟩ := h
  exact ⟨inner, ho⟩
theorem R_ne (h : d.R e w base ok v xs) {g t : Nat} {cells : Array Value} (hb : w.heap[g]? = some (.cells cells t (0, 0))) (ht : e ≠ t) : some g ≠ v.ownBlock := zcp.ne_block h.2 hb ht
end
def scalar {α : Type} (enc : α → Value) (h1 : ∀ x, (enc x).oneCell' = true) : Kd α where
  sz := 1
  E := []
  K := fun _ x cs => cs = [enc x]
  M := fun _ _ _ x cs => cs = [enc x]
  K_len := fun h => by rw [h]; rfl
  K_one := fun h u hu => by
    rw [h] at hu
    rw [List.mem_singleton.1 hu]
    exact h1 _
  K_below := fun _ h => h
  K_of_M := fun h => h
  M_mono := fun _ h => h
  M_bound := fun h => h
  M_move := fun _ h => h
  M_lower := fun _ h => h
def int (k : IntKind) : Kd Int := scalar (Value.int k) (fun _ => rfl)
def bool : Kd Bool := scalar Value.bool (fun _ => rfl)
def slice {α : Type} (e : Nat) (d : Kd α) : Kd (List α) where
  sz := 1
  E := e :: d.E
  K := fun w xs cs => ∃ A c, cs = [.slice A xs.length c] ∧ xs.length ≤ c ∧ d.C w A xs.length xs
  M := fun w base ok xs cs => ∃ v, cs = [v] ∧ d.R e w base ok v xs
  K_len := by
    rintro w x cs ⟨A, c, rfl, _⟩
    rfl
  K_one := by
    rintro w x cs ⟨A, c, rfl, _⟩ u hu
    rw [List.mem_singleton.1 hu]
    rfl
  K_below := by
    rintro w w1 x cs hb ⟨A, c, rfl, hl, hr⟩
    exact ⟨A, c, rfl, hl, zci hr hb⟩
  K_of_M := by
    rintro w base ok x cs ⟨v, rfl, h⟩
    obtain ⟨A, c, rfl, hl, hr⟩ := zg4 h
    exact ⟨A, c, rfl, hl, hr⟩
  M_mono := by
    rintro w base ok ok' x cs hok ⟨v, rfl, h⟩
    exact ⟨v, rfl, zbz h hok⟩
  M_bound := by
    rintro w base ok x cs ⟨v, rfl, h⟩
    exact ⟨v, rfl, zc2 h⟩
  M_move := by
    rintro w w1 base ok x cs hm ⟨v, rfl, h⟩
    exact ⟨v, rfl, zf3 h hm⟩
  M_lower := by
    rintro w base base' ok x cs hb ⟨v, rfl, h⟩
    exact ⟨v, rfl, zcg h hb⟩
def bot {α : Type} (sz : Nat) (E : List Nat) : Kd α where
  sz := sz
  E := E
  K := fun _ _ _ => False
  M := fun _ _ _ _ _ => False
  K_len := fun h => h.elim
  K_one := fun h => h.elim
  K_below := fun _ h => h
  K_of_M := fun h => h
  M_mono := fun _ h => h
  M_bound := fun h => h
  M_move := fun _ h => h
  M_lower := fun _ h => h
def upto {α : Type} (F : Kd α → Kd α) (sz : Nat) (E : List Nat) : Nat → Kd α
  | 0 => bot sz E
  | n + 1 => F (upto F sz E n)
theorem C_get {α : Type} {d : Kd α} {w : World} {A : Option Addr} {n : Nat} {xs : List α} (h : d.C w A n xs) (z : α) (i : Int) (h0 : 0 ≤ i) (h1 : i < n) :
    ∃ ad c, A = some ad ∧ c.length = d.sz ∧ d.K w (xs.getD i.toNat z) c ∧ ∀ j u, c[j]? = some u → w.cell? (ad.add (i.toNat * d.sz + j)) = some u := zc1.get_ h z i h0 h1
theorem zgs {α : Type} {d : Kd α} {e base : Nat} {ok okp : Nat → Prop} {W w1 : World} {v v1 : Value} {xs : List α} {p : α} {inner cs : List Value} (h0 : ∀ k, v.ownBlock = some k → ok k) (hr : Reps (d.M W base (fun k => ok k ∧ some k ≠ v.ownBlock)) d.sz xs inner) (hp : d.M W base okp p cs) (hokp : ∀ k, okp k → ok k ∧ some k ≠ v.ownBlock) (hfresh : ∀ k, W.heap.size ≤ k → ok k)
    (hown : w1.ownsRow base e d.sz v1 (xs.length + 1) (inner ++ cs)) (hg : W.grownBy w1 v.ownBlock) (hat : v1.ownBlock = v.ownBlock ∨ ∃ b, v1.ownBlock = some b ∧ W.heap.size ≤ b) : d.R e w1 base ok v1 (xs ++ [p]) := by
  have hne : ∀ k, some k ≠ v.ownBlock → k < W.heap.size → some k ≠ v1.ownBlock := by
    intro k hk hlt
    rcases hat with hat | ⟨b, hb, hle⟩
    · rw [hat]; exact hk
    · rw [hb]
      intro he
      injection he with he
      omega
  have step : ∀ {q : α} {c : List Value} {o : Nat → Prop}, d.M W base o q c → (∀ k, o k → ok k ∧ some k ≠ v.ownBlock) → d.M w1 base (fun k => ok k ∧ some k ≠ v1.ownBlock) q c := by
    intro q c o hq ho
    have h1 := d.M_move (w1 := w1) (fun k hk => hg.block k hk.2.2.1 (ho k hk.1).2) (d.M_bound hq)
    exact d.M_mono (fun k hk => ⟨(ho k hk.1).1, hne k (ho k hk.1).2 hk.2.2.1⟩) h1
  refine ⟨fun k hk => ?_, inner ++ cs, by rw [List.length_append, List.length_singleton]; exact hown, ?_⟩
  · rcases hat with hat | ⟨b, hb, hle⟩
    · exact h0 k (hat ▸ hk)
    · rw [hb] at hk
      injection hk with hk
      exact hfresh k (by omega)
  · exact (hr.imp_ (fun _ _ hq => step hq (fun _ hk => hk))).snoc (step hp hokp) (d.K_len (d.K_of_M hp))
section
variable {P : Program} {ops : Array Oper} {rest : List Oper} {o : Oper} {a : Act} {Q : Exit → Act → World → Prop} {α : Type}
theorem zds (d : Kd α) {w0 W : World} (base : Nat) (hgd : o.guard = none) (s x : Operand) (t e : TypeId) (z : Value) (bytes : Nat)
    (ho : o.op = .call { callee := .builtin .append, args := #[s, x], argTypes := #[t, t] })
    (ht : P.underlying t = some (.slice e)) (hinfo : (P.info? e).map (fun i => (i.zero, i.size, i.bytes)) = some (some z, d.sz, bytes)) (hz : z.cells.size = d.sz) (hs0 : 0 < d.sz) (hb0 : 0 < bytes)
    (v : Value) (xs : List α) (p : α) (cs : List Value) (ok okp : Nat → Prop) (hs : a.eval s = v) (hx : a.eval x = .slice (some ⟨W.heap.size, 0, none⟩) 1 1) (hp : d.M W base okp p cs) (hokp : ∀ k, okp k → ok k ∧ some k ≠ v.ownBlock) (hfresh : ∀ k, W.heap.size ≤ k → ok k)
    (HO : d.R e W base ok v xs) (HB : Below base w0 W) (hbase : base ≤ W.heap.size) (hl : (xs.length + 1) * bytes ≤ 140737488355328)
    (h : ∀ v1 w1, d.R e w1 base ok v1 (xs ++ [p]) → Below base w0 w1 → W.grownBy w1 v.ownBlock → (v1.ownBlock = v.ownBlock ∨ ∃ b, v1.ownBlock = some b ∧ W.heap.size ≤ b) → wpList P ops Q rest (a.put o.dst v1) w1) :
    wpList P ops Q (o :: rest) a (W.alloc (.cells cs.toArray e)) := by
  obtain ⟨h0, inner, hown, hr⟩ := HO
  refine zd6 base hgd s x t e z d.sz bytes ho ht hinfo hz hs0 hb0 v xs.length inner cs hs hx (d.K_len (d.K_of_M hp)) (d.K_one (d.K_of_M hp)) hown HB hbase hl ?_
  intro v1 w1 hown1 hb1 hg1 hat1
  exact h v1 w1 (zgs h0 hr hp hokp hfresh hown1 hg1 hat1) hb1 hg1 hat1
end
section
variable {P : Program} {ops : Array Oper} {o : Oper} {a : Act} {Q : Exit → Act → World → Prop} {Kc : Act → World → Prop} {α : Type}
theorem zg5 (d : Kd α) {w0 W : World} (base : Nat) (hw : Region.wanted o (yielded ops a.tmps) = true) (s x : Operand) (t e : TypeId) (z : Value) (bytes : Nat)
    (ho : o.op = .call { callee := .builtin .append, args := #[s, x], argTypes := #[t, t] })
    (ht : P.underlying t = some (.slice e)) (hinfo : (P.info? e).map (fun i => (i.zero, i.size, i.bytes)) = some (some z, d.sz, bytes)) (hz : z.cells.size = d.sz) (hs0 : 0 < d.sz) (hb0 : 0 < bytes)
    (v : Value) (xs : List α) (p : α) (cs : List Value) (ok okp : Nat → Prop) (hs : a.eval s = v) (hx : a.eval x = .slice (some ⟨W.heap.size, 0, none⟩) 1 1) (hp : d.M W base okp p cs) (hokp : ∀ k, okp k → ok k ∧ some k ≠ v.ownBlock) (hfresh : ∀ k, W.heap.size ≤ k → ok k)
    (HO : d.R e W base ok v xs) (HB : Below base w0 W) (hbase : base ≤ W.heap.size) (hl : (xs.length + 1) * bytes ≤ 140737488355328)
    (h : ∀ v1 w1, d.R e w1 base ok v1 (xs ++ [p]) → Below base w0 w1 → W.grownBy w1 v.ownBlock → (v1.ownBlock = v.ownBlock ∨ ∃ b, v1.ownBlock = some b ∧ W.heap.size ≤ b) → Kc (a.put o.dst v1) w1) :
    if Region.wanted o (yielded ops a.tmps) = true then Oper.wp P o a (W.alloc (.cells cs.toArray e)) Kc Q else Kc (a.put o.dst undef) (W.alloc (.cells cs.toArray e)) := by
  obtain ⟨h0, inner, hown, hr⟩ := HO
  refine zfk base hw s x t e z d.sz bytes ho ht hinfo hz hs0 hb0 v xs.length inner cs hs hx (d.K_len (d.K_of_M hp)) (d.K_one (d.K_of_M hp)) hown HB hbase hl ?_
  intro v1 w1 hown1 hb1 hg1 hat1
  exact h v1 w1 (zgs h0 hr hp hokp hfresh hown1 hg1 hat1) hb1 hg1 hat1
end
theorem zic {α : Type} {enc : α → Value} (xs : List α) : Reps (fun (x : α) (cs : List Value) => cs = [enc x]) 1 xs (encs enc xs) := by
  refine ⟨by simp [encs], fun j p hj => ?_⟩
  obtain ⟨hl, hp⟩ := List.getElem?_eq_some_iff.1 hj
  have hl' : j < (encs enc xs).length := by rw [zd4]; exact hl
  rw [Nat.mul_one, List.drop_eq_getElem_cons hl']
  simp [encs, hp]
theorem R_of_own {α : Type} {enc : α → Value} {h1 : ∀ x, (enc x).oneCell' = true} {e : Nat} {w : World} {base : Nat} {ok : Nat → Prop} {v : Value} {xs : List α} (ho : w.ownsRow base e 1 v xs.length (encs enc xs)) (hok : ∀ k, v.ownBlock = some k → ok k) : (scalar enc h1).R e w base ok v xs := ⟨hok, encs enc xs, ho, zic xs⟩
theorem zg6 {α : Type} {enc : α → Value} {h1 : ∀ x, (enc x).oneCell' = true} {e : Nat} {w : World} {base : Nat} {ok : Nat → Prop} {v : Value} {xs : List α} (h : (scalar enc h1).R e w base ok v xs) : w.ownsRow base e 1 v xs.length (encs enc xs) := by
  obtain ⟨_, inner, ho, hr⟩ := h
  have : inner = encs enc xs := by
    apply List.ext_getElem?
    intro j
    rcases Nat.lt_or_ge j xs.length with hj | hj
    · have h2 := hr.2 j _ (List.getElem?_eq_getElem hj)
      have hl : j < inner.length := by have := hr.1; simp [scalar] at this; omega
      have h3 : (inner.drop (j * 1)).take 1 = [enc xs[j]] := h2
      rw [Nat.mul_one, List.drop_eq_getElem_cons hl] at h3
      have h4 : inner[j] = enc xs[j] := by
        have h5 := congrArg List.head? h3
        rw [List.take_succ_cons] at h5
        exact Option.some.inj h5
      rw [List.getElem?_eq_getElem hl, h4]
      simp [encs, List.getElem?_eq_getElem hj]
    · have h3 : inner.length = xs.length := by have := hr.1; simp [scalar] at this; omega
      rw [List.getElem?_eq_none (by omega), List.getElem?_eq_none (by rw [zd4]; omega)]
  rw [← this]
  exact ho
theorem C_of_reads {α : Type} {enc : α → Value} {d : α} {h1 : ∀ x, (enc x).oneCell' = true} {w : World} {A : Option Addr} {n : Nat} {xs : List α} (h : zc0 enc d w A n xs) : (scalar enc h1).C w A n xs := by
  refine ⟨h.1, h.2.1, fun hn => ?_⟩
  obtain ⟨ad, e, hc⟩ := h.2.2 hn
  refine ⟨ad, e, fun j p hj => ⟨[enc p], rfl, rfl, fun i u hu => ?_⟩⟩
  obtain ⟨hl, hp⟩ := List.getElem?_eq_some_iff.1 hj
  have h2 := hc j (by have := h.1; omega)
  rw [List.getD_eq_getElem?_getD, hj] at h2
  cases i with
  | zero =>
    have : enc p = u := by simpa using hu
    subst this
    simpa [scalar] using h2
  | succ i => simp at hu
theorem zfl {α : Type} {enc : α → Value} {d : α} {h1 : ∀ x, (enc x).oneCell' = true} {w : World} {A : Option Addr} {n : Nat} {xs : List α} (h : (scalar enc h1).C w A n xs) : zc0 enc d w A n xs := by
  refine ⟨h.1, h.2.1, fun hn => ?_⟩
  obtain ⟨ad, e, hc⟩ := h.2.2 hn
  refine ⟨ad, e, fun j hj => ?_⟩
  have hl : j < xs.length := by have := h.1; omega
  obtain ⟨c, _, hK, hcell⟩ := hc j _ (List.getElem?_eq_getElem hl)
  have hK' : c = [enc xs[j]] := hK
  subst hK'
  have := hcell 0 _ rfl
  simpa [scalar, List.getD_eq_getElem?_getD, List.getElem?_eq_getElem hl] using this
end Kd
namespace Kd
section
variable {α : Type} {F : Kd α → Kd α} {sz : Nat} {E : List Nat} {hs : ∀ n, (upto F sz E n).sz = sz} {hE : ∀ n q, q ∈ (upto F sz E n).E → q ∈ E}
end
end Kd
namespace Kd
theorem zid {α : Type} {d : Kd α} {e base : Nat} {ok : Nat → Prop} {W w1 : World} {u v v1 : Value} {xs : List α} (h : d.R e W base (fun k => ok k ∧ some k ≠ v.ownBlock) u xs) (hg : W.grownBy w1 v.ownBlock) (hat : v1.ownBlock = v.ownBlock ∨ ∃ b, v1.ownBlock = some b ∧ W.heap.size ≤ b) : d.R e w1 base (fun k => ok k ∧ some k ≠ v1.ownBlock) u xs := by
  refine zbz (zf3 (zc2 h) (fun k hk => hg.block k hk.2.2.1 hk.1.2)) (fun k hk => ⟨hk.1.1, ?_⟩)
  rcases hat with hat | ⟨b, hb, hle⟩
  · rw [hat]; exact hk.1.2
  · rw [hb]
    intro he
    injection he with he
    have := hk.2.2.1
    omega
theorem M_row {α : Type} {d : Kd α} {e base : Nat} {ok : Nat → Prop} {w : World} {v : Value} {xs : List α} (h : d.R e w base ok v xs) : (slice e d).M w base ok xs [v] := ⟨v, rfl, h⟩
end Kd
namespace Kd
section
variable {α β : Type} {d : Kd α} {d' : Kd β} {e e' : Nat} {w w1 W : World} {base b b' : Nat} {ok ok' okv oku : Nat → Prop} {v u : Value} {xs : List α} {ys : List β}
theorem zdm (h : d.R e w base ok v xs) (o : Obj) : d.R e (w.alloc o) base ok v xs := zc3 h (zbo (Below.refl _ _) o)
theorem zd8 (h : d.R e w base ok v xs) : d.R e w.drew base ok v xs := zc3 h (zef (Below.refl _ _))
theorem zdv (h : d.R e w base ok v xs) (m : Nat) : d.R e (w.drewN m) base ok v xs := zc3 h (zbk (Below.refl _ _) m)
theorem zdj {A : Option Addr} {n : Nat} (h : d.C w A n xs) (o : Obj) : d.C (w.alloc o) A n xs := zci h (zbo (Below.refl _ _) o)
theorem zdk {A : Option Addr} {n : Nat} (h : d.C w A n xs) : d.C w.drew A n xs := zci h (zef (Below.refl _ _))
theorem zdc {A : Option Addr} {n : Nat} (h : d.C w A n xs) (m : Nat) : d.C (w.drewN m) A n xs := zci h (zbk (Below.refl _ _) m)
theorem C_nil (d : Kd α) (w : World) : d.C w none ([] : List α).length [] := ⟨rfl, by simp, fun h => absurd h (Nat.lt_irrefl 0)⟩
theorem C_max {A : Option Addr} {n : Nat} (h : d.C w A n xs) : n ≤ 9223372036854775807 := h.2.1
theorem zcj {A : Option Addr} {n c : Nat} (h : d.R e w base ok (.slice A n c) xs) : n = xs.length ∧ n ≤ c ∧ d.C w A xs.length xs := by
  obtain ⟨A', c', he, hl, hr⟩ := zg4 h
  injection he with h1 h2 h3
  subst h1
  exact ⟨h2, by omega, hr⟩
theorem R_lt (h : d.R e w base ok v xs) : ∀ k, v.ownBlock = some k → k < w.heap.size := by
  obtain ⟨inner, ho⟩ := R_own h
  exact own_lt ho
theorem zd5 (h : d.R e w base ok v xs) : ∀ k, v.ownBlock = some k → base ≤ k := by
  obtain ⟨inner, ho⟩ := R_own h
  exact zel ho
theorem zf4 (h : d.R e w base ok v xs) (hp : 0 < xs.length) : ∃ g cap, v = .slice (some ⟨g, 0, none⟩) xs.length cap ∧ base ≤ g ∧ g < w.heap.size ∧ ∃ cells, w.heap[g]? = some (.cells cells e (0, 0)) := by
  obtain ⟨inner, ho⟩ := R_own h
  obtain ⟨g, cap, he, hb, hl⟩ := ho.form hp
  obtain ⟨cells, hc⟩ := ze7 ho g (by rw [he]; simp [Value.ownBlock])
  exact ⟨g, cap, he, hb, hl, cells, hc⟩
end
section
variable {w W : World} {A : Option Addr} {n : Nat}
theorem zbq {k : IntKind} {xs : List Int} (h : (Kd.int k).C w A n xs) (i : Int) (h0 : 0 ≤ i) (h1 : i < n) : ∃ ad, A = some ad ∧ w.cell? (ad.add i.toNat) = some (.int k (rd xs i)) :=
  zc0.at_ (zfl (enc := Value.int k) (d := (0 : Int)) (h1 := fun _ => rfl) h) i h0 h1
variable {α : Type} {enc : α → Value} {h1 : ∀ x, (enc x).oneCell' = true} {e base g cap : Nat} {ok : Nat → Prop} {xs : List α}
theorem R_cell (d : α) (h : (scalar enc h1).R e W base ok (.slice (some ⟨g, 0, none⟩) xs.length cap) xs) (i : Int) (h0 : 0 ≤ i) (hi : i < xs.length) : W.cell? ⟨g, i.toNat, none⟩ = some (enc (rdOf d xs i)) ∧ W.frozen? ⟨g, i.toNat, none⟩ = false := own_at_of (zg6 h) i h0 hi
theorem R_put (h : (scalar enc h1).R e W base ok (.slice (some ⟨g, 0, none⟩) xs.length cap) xs) (i : Int) (x : α) : (scalar enc h1).R e (W.setCell ⟨g, i.toNat, none⟩ (enc x)) base ok (.slice (some ⟨g, 0, none⟩) xs.length cap) (xs.set i.toNat x) ∧ W.grownBy (W.setCell ⟨g, i.toNat, none⟩ (enc x)) (some g) := by
  obtain ⟨ho, hg⟩ := zhq (zg6 h) i x
  exact ⟨R_of_own (by rw [List.length_set]; exact ho) h.1, hg⟩
end
section
variable {P : Program} {ops : Array Oper} {rest : List Oper} {o : Oper} {a : Act} {Q : Exit → Act → World → Prop}
theorem zhr {W w1 : World} {v : Value} (hgd : o.guard = none) (hrun : (execOp a.eval o).run P W = .ok (.value v) w1) (h : wpList P ops Q rest (a.put o.dst v) w1) : wpList P ops Q (o :: rest) a W := by
  refine wpList_plain hgd fun K hK => ?_
  unfold Oper.wp
  rw [hrun]
  exact hK _ _ h
variable {α : Type}
theorem zft (d : Kd α) {w0 W : World} (base e : Nat) (hgd : o.guard = none) {N : Tmp} (_hd : o.dst = some N) {xs : List α} {inner : List Value} {ok okp : Nat → Prop}
    (hrun : (execOp a.eval o).run P W = .ok (.value (.slice (some ⟨W.heap.size, 0, none⟩) xs.length xs.length)) (W.alloc (.cells inner.toArray e)))
    (hrep : Reps (d.M W base okp) d.sz xs inner) (hok : ∀ k, okp k → ok k) (hfresh : ok W.heap.size) (HB : Below base w0 W) (hbase : base ≤ W.heap.size) (hm : xs.length ≤ 9223372036854775807)
    (h : ∀ v1 w1, d.R e w1 base ok v1 xs → Below base w0 w1 → W.grownBy w1 none → (∃ b, v1.ownBlock = some b ∧ W.heap.size ≤ b) → wpList P ops Q rest (a.put o.dst v1) w1) : wpList P ops Q (o :: rest) a W := by
  refine zhr hgd hrun (h _ _ ⟨fun k hk => ?_, inner, ?_, ?_⟩ (HB.alloc hbase _) (World.grownBy_alloc W _ none) ⟨W.heap.size, by simp [Value.ownBlock], Nat.le_refl _⟩)
  · have : W.heap.size = k := by simpa [Value.ownBlock] using hk
    subst this
    exact hfresh
  · have h2 := World.ownsRow_lit (base := base) (e := e) (size := d.sz) W inner.toArray xs.length hbase (by simpa [maxLen] using hm) (by simpa using hrep.1)
    simpa using h2
  · refine hrep.imp_ (fun p c hp => d.M_mono (fun k hk => ⟨hok k hk.1, fun he => ?_⟩) (M_below (d.M_bound hp) (zbo (Below.refl _ _) _)))
    have h3 : k = W.heap.size := by simpa [Value.ownBlock] using he
    have := hk.2.2.1
    omega
theorem reps_made {α : Type} {R : α → List Value → Prop} {z : Value} {size : Nat} {z0 : α} (hz : z.cells.size = size) (hs : 0 < size) (h0 : R z0 z.cells.toList) (m : Nat) : Reps R size (List.replicate m z0) (madeCells z.cells (m * size)).toList := by
  refine ⟨by simp [size_madeCells], fun j p hj => ?_⟩
  obtain ⟨hjl, hp⟩ := List.getElem?_eq_some_iff.1 hj
  have hjm : j < m := by simpa using hjl
  have hp' : z0 = p := by simpa using hp
  subst hp'
  have hle : j * size + size ≤ m * size := by rw [← Nat.succ_mul]; exact Nat.mul_le_mul_right _ hjm
  have : ((madeCells z.cells (m * size)).toList.drop (j * size)).take size = z.cells.toList := by
    apply List.ext_getElem
    · simp [size_madeCells, hz]
      omega
    · intro i h1 h2
      have hi : i < size := by rw [Array.length_toList, hz] at h2; exact h2
      have hmod : (j * size + i) % size = i := by
        rw [Nat.mul_comm, Nat.mul_add_mod]
        exact Nat.mod_eq_of_lt hi
      simp [madeCells, hz, hmod]
      rw [getElem!_pos z.cells i (by omega)]
  rw [this]
  exact h0
theorem R_make (d : Kd α) {w0 W : World} (base e : Nat) (hgd : o.guard = none) {N : Tmp} (hd : o.dst = some N) (t : TypeId) (x y : Operand) (ho : o.op = .makeSlice t x y) (n : Int) (hx : a.eval x = .int .i64 n) (hy : a.eval y = .int .i64 n)
    (ht : P.underlying t = some (.slice e)) (z : Value) (bytes : Nat) (hinfo : (P.info? e).map (fun i => (i.zero, i.size, i.bytes)) = some (some z, d.sz, bytes)) (hz : z.cells.size = d.sz) (hs0 : 0 < d.sz) (hb0 : 0 < bytes)
    (z0 : α) {ok okp : Nat → Prop} (hzero : d.M W base okp z0 z.cells.toList) (hok : ∀ k, okp k → ok k) (hfresh : ok W.heap.size) (h0 : 0 ≤ n) (hl : n.toNat * bytes ≤ 281474976710656) (HB : Below base w0 W) (hbase : base ≤ W.heap.size)
    (h : ∀ v1 w1, d.R e w1 base ok v1 (List.replicate n.toNat z0) → Below base w0 w1 → W.grownBy w1 none → (∃ b, v1.ownBlock = some b ∧ W.heap.size ≤ b) → wpList P ops Q rest (a.put o.dst v1) w1) : wpList P ops Q (o :: rest) a W := by
  obtain ⟨m, rfl⟩ := Int.eq_ofNat_of_zero_le h0
  simp only [Int.toNat_natCast] at hl h
  obtain ⟨i0, hi, hzz⟩ := Option.map_eq_some_iff.1 hinfo
  simp only [Prod.mk.injEq] at hzz
  obtain ⟨hz0, hz1, hz2⟩ := hzz
  have hm : m ≤ 281474976710656 := Nat.le_trans (Nat.le_mul_of_pos_right _ hb0) hl
  have hr := run_make (P := P) W t e i0 z ht hi hz0 .i64 .i64 (m : Int) (m : Int) (by omega) (by omega)
    (by
      have h3 : ((i0.bytes * m : Nat) : Int) ≤ 281474976710656 := by rw [hz2, Nat.mul_comm]; omega
      rwa [Int.natCast_mul] at h3) (by omega)
  simp only [Int.toNat_natCast] at hr
  rw [hz1] at hr
  refine zft d base e hgd hd (xs := List.replicate m z0) (inner := (madeCells z.cells (m * d.sz)).toList) (okp := okp) (ok := ok) ?_ (reps_made hz hs0 hzero m) hok hfresh HB hbase (by simp; omega) h
  simp [execOp, ho, hx, hy, hr]
end
end Kd
section
variable {P : Program}
end
def QRow (w : World) (base : Nat) (e : TypeId) (size : Nat) (v : Value) (n : Nat) (xs : List Value) : Prop :=
  xs.length = n * size ∧
  ((n = 0 ∧ ∃ A, v = .slice A 0 0 ∧ ∀ a, A = some a → base ≤ a.block ∧ ∃ cur, w.heap[a.block]? = some (.cells cur e (0, 0))) ∨
   ∃ g off cap cur, v = .slice (some ⟨g, off * size, none⟩) n cap ∧ base ≤ g ∧ w.heap[g]? = some (.cells cur e (0, 0)) ∧ n ≤ cap ∧ off + cap ≤ maxLen ∧ cur.size = (off + cap) * size ∧ (cur.toList.drop (off * size)).take (n * size) = xs)
section
variable {w w1 : World} {base n size : Nat} {e : TypeId} {v : Value} {xs : List Value}
theorem zhs (g o j : Nat) : (⟨g, o, none⟩ : Addr).add j = ⟨g, o + j, none⟩ := by unfold Addr.add; split <;> simp_all
theorem zfp {g : Nat} : ∀ (vs : List Value) (o : Nat) {w : World} (k : Nat), k ≠ g → (w.setCells g o vs).heap[k]? = w.heap[k]?
  | [], _, _, _, _ => rfl
  | v :: r, o, w, k, hk => by
    rw [World.setCells, zfp r (o + 1) k hk]
    exact Below.heap_setCell w ⟨g, o, none⟩ v k hk
theorem ze8 (g : Nat) : ∀ (vs : List Value) (o : Nat) (w : World), (w.setCells g o vs).os = w.os ∧ (w.setCells g o vs).tape = w.tape ∧ (w.setCells g o vs).output = w.output ∧ (w.setCells g o vs).heap.size = w.heap.size
  | [], _, _ => ⟨rfl, rfl, rfl, rfl⟩
  | v :: r, o, w => by
    obtain ⟨h1, h2, h3, h4⟩ := ze8 g r (o + 1) (w.setCell ⟨g, o, none⟩ v)
    rw [World.setCells]
    exact ⟨h1, h2, h3, by rw [h4]; simp [World.setCell]⟩
theorem zfq {g : Nat} {e : TypeId} : ∀ (vs : List Value) (o : Nat) (w : World) (cur : Array Value), w.heap[g]? = some (.cells cur e (0, 0)) → o + vs.length ≤ cur.size →
    ∃ cur', (w.setCells g o vs).heap[g]? = some (.cells cur' e (0, 0)) ∧ cur'.size = cur.size ∧ cur'.toList = cur.toList.take o ++ vs ++ cur.toList.drop (o + vs.length)
  | [], o, w, cur, h, _ => ⟨cur, h, rfl, by simp⟩
  | v :: r, o, w, cur, h, hl => by
    have h2 := zh9 h o v
    simp only [List.length_cons] at hl
    obtain ⟨cur', h3, h4, h5⟩ := zfq r (o + 1) (w.setCell ⟨g, o, none⟩ v) _ h2 (by simp; omega)
    refine ⟨cur', h3, by rw [h4]; simp, ?_⟩
    rw [h5, Array.toList_setIfInBounds]
    have ho : o < cur.toList.length := by rw [Array.length_toList]; omega
    rw [List.take_set, List.drop_set_of_lt (by omega)]
    simp only [List.length_cons]
    rw [show o + 1 + r.length = o + (r.length + 1) by omega]
    congr 1
    rw [List.take_succ_eq_append_getElem ho, List.set_append_right _ _ (by rw [List.length_take]; omega)]
    have ho' : o < cur.size := by omega
    simp [Nat.min_eq_left (Nat.le_of_lt ho')]
end
section
variable {P : Program}
end
namespace Kd
def Q {α : Type} (d : Kd α) (e : Nat) (w : World) (base : Nat) (ok : Nat → Prop) (v : Value) (xs : List α) : Prop :=
  (∀ k, v.ownBlock = some k → ok k) ∧ ∃ inner, QRow w base e d.sz v xs.length inner ∧ Reps (d.M w base (fun k => ok k ∧ some k ≠ v.ownBlock)) d.sz xs inner
section
variable {α : Type} {d : Kd α} {e : Nat} {w w1 W : World} {base : Nat} {ok ok' : Nat → Prop} {v : Value} {xs : List α}
end
section
variable {P : Program} {ops : Array Oper} {rest : List Oper} {o : Oper} {a : Act} {Q' : Exit → Act → World → Prop} {Kc : Act → World → Prop} {α : Type}
end
end Kd
namespace Kd
section
variable {α : Type} {d : Kd α} {e e' : Nat} {w w1 W : World} {base : Nat} {ok : Nat → Prop} {u v : Value} {xs : List α}
theorem R_typed (h : d.R e w base ok v xs) : ∀ k, v.ownBlock = some k → ∃ cells, w.heap[k]? = some (.cells cells e (0, 0)) := by
  obtain ⟨inner, ho⟩ := R_own h
  exact fun k hk => ze7 ho k hk
theorem zg7 (h : d.R e W base ok u xs) (hty : ∀ k, v.ownBlock = some k → ∃ cells, W.heap[k]? = some (.cells cells e' (0, 0))) (ht : ∀ q, q ∈ e :: d.E → q ≠ e') (hg : W.grownBy w1 v.ownBlock) : d.R e w1 base ok u xs := by
  refine zbz (zf3 (zc2 h) (fun k hk => hg.block k hk.2.2.1 (fun he => ?_))) (fun _ hk => hk.1)
  obtain ⟨_, _, _, q, hq, cells, hc⟩ := hk
  obtain ⟨cells', hc'⟩ := hty k he.symm
  rw [hc] at hc'
  injection hc' with hc'
  injection hc' with _ hc'
  exact ht q hq hc'
theorem zd9 (h : d.R e W base ok u xs) (hty : ∀ k, v.ownBlock = some k → ∃ cells, W.heap[k]? = some (.cells cells e' (0, 0))) (ht : ∀ q, q ∈ e :: d.E → q ≠ e') : d.R e W base (fun k => ok k ∧ some k ≠ v.ownBlock) u xs := by
  refine zbz (zc2 h) (fun k hk => ⟨hk.1, fun he => ?_⟩)
  obtain ⟨_, _, _, q, hq, cells, hc⟩ := hk
  obtain ⟨cells', hc'⟩ := hty k he.symm
  rw [hc] at hc'
  injection hc' with hc'
  injection hc' with _ hc'
  exact ht q hq hc'
theorem zen (hu : d.R e W base ok u xs) (hbase : ∀ k, v.ownBlock = some k → W.heap.size ≤ k) (hb : Below W.heap.size W w1) : d.R e w1 base (fun k => ok k ∧ some k ≠ v.ownBlock) u xs :=
  zbz (zf3 (zc2 hu) (fun k hk => hb.block k hk.2.2.1)) (fun k hk => ⟨hk.1, fun he => by have := hbase k he.symm; have := hk.2.2.1; omega⟩)
theorem zf5 (h : d.R e w1 W.heap.size ok v xs) (hlt : ∀ k, u.ownBlock = some k → k < W.heap.size) : d.R e w1 W.heap.size (fun k => ok k ∧ some k ≠ u.ownBlock) v xs :=
  zbz (zc2 h) (fun k hk => ⟨hk.1, fun he => by have := hlt k he.symm; have := hk.2.1; omega⟩)
theorem fresh' (hlt : ∀ k, u.ownBlock = some k → k < W.heap.size) : ∀ k, W.heap.size ≤ k → some k ≠ u.ownBlock := fun k hk he => by have := hlt k he.symm; omega
end
end Kd
namespace Kd
section
variable {α : Type} {d : Kd α} {e base g n cap : Nat} {ok okp : Nat → Prop} {W : World} {xs : List α}
theorem R_elem (h : d.R e W base ok (.slice (some ⟨g, 0, none⟩) n cap) xs) (z : α) (i : Int) (h0 : 0 ≤ i) (h1 : i < n) :
    ∃ c, c.length = d.sz ∧ d.M W base (fun k => ok k ∧ k ≠ g) (xs.getD i.toNat z) c ∧ (∀ j u, c[j]? = some u → W.cell? ⟨g, i.toNat * d.sz + j, none⟩ = some u) ∧ ∀ j, W.frozen? ⟨g, i.toNat * d.sz + j, none⟩ = false := by
  obtain ⟨hn, hnc, hC⟩ := zcj h
  obtain ⟨_, inner, ho, hr⟩ := h
  have hil : i.toNat < xs.length := by omega
  have hseg : i.toNat * d.sz + d.sz ≤ inner.length := by rw [hr.1, ← Nat.succ_mul]; exact Nat.mul_le_mul_right _ hil
  have hM := hr.2 i.toNat _ (List.getElem?_eq_getElem hil)
  refine ⟨(inner.drop (i.toNat * d.sz)).take d.sz, by rw [List.length_take, List.length_drop]; omega, ?_, fun j u hu => ?_, fun j => ?_⟩
  · rw [List.getD_eq_getElem?_getD, List.getElem?_eq_getElem hil]
    exact d.M_mono (fun k hk => ⟨hk.1, fun he => hk.2 (by rw [he]; simp [Value.ownBlock])⟩) hM
  · rw [List.getElem?_take] at hu
    split at hu
    · rw [List.getElem?_drop] at hu
      have := ho.cells (g := g) (by simp [Value.ownBlock]) _ u hu
      rwa [add_plain] at this
    · cases hu
  · obtain ⟨cells, hc⟩ := ze7 ho g (by simp [Value.ownBlock])
    exact zy hc _
end
end Kd
namespace Kd
section
variable {α : Type} {F : Kd α → Kd α} {sz : Nat} {E : List Nat} {hs : ∀ n, (upto F sz E n).sz = sz} {hE : ∀ n q, q ∈ (upto F sz E n).E → q ∈ E}
end
end Kd
namespace Kd
theorem zie {α : Type} {R : α → List Value → Prop} {size : Nat} {ps qs : List α} {cs ds : List Value} (h : Reps R size ps cs) (h' : Reps R size qs ds) : Reps R size (ps ++ qs) (cs ++ ds) := by
  refine ⟨by rw [List.length_append, List.length_append, h.1, h'.1, Nat.add_mul], fun j p hj => ?_⟩
  rcases Nat.lt_or_ge j ps.length with hlt | hge
  · rw [List.getElem?_append_left hlt] at hj
    have hle : j * size + size ≤ cs.length := by rw [h.1, ← Nat.succ_mul]; exact Nat.mul_le_mul_right _ hlt
    rw [List.drop_append_of_le_length (by omega), List.take_append_of_le_length (by rw [List.length_drop]; omega)]
    exact h.2 j p hj
  · rw [List.getElem?_append_right hge] at hj
    have h2 := h'.2 (j - ps.length) p hj
    have hle : ps.length * size ≤ j * size := Nat.mul_le_mul_right _ hge
    rw [List.drop_append, List.drop_eq_nil_of_le (by rw [h.1]; exact hle), List.nil_append, h.1, ← Nat.sub_mul]
    exact h2
section
variable {P : Program} {ops : Array Oper} {rest : List Oper} {o : Oper} {a : Act} {Q : Exit → Act → World → Prop} {α : Type}
theorem ze9 (d : Kd α) {Rr : α → List Value → Prop} {w0 W : World} (base : Nat) (hgd : o.guard = none) (s x : Operand) (t e : TypeId) (z : Value) (bytes : Nat)
    (ho : o.op = .call { callee := .builtin .append, args := #[s, x], argTypes := #[t, t] })
    (ht : P.underlying t = some (.slice e)) (hinfo : (P.info? e).map (fun i => (i.zero, i.size, i.bytes)) = some (some z, d.sz, bytes)) (hz : z.cells.size = d.sz) (hs0 : 0 < d.sz) (hb0 : 0 < bytes)
    (v : Value) (xs ys : List α) (A : Option Addr) (m c : Nat) (ok okp : Nat → Prop) (hs : a.eval s = v) (hx : a.eval x = .slice A m c)
    (HO : d.R e W base ok v xs) (HR : zc1 Rr d.sz W A m ys) (hKM : ∀ x cs, Rr x cs → d.M W base okp x cs) (hokp : ∀ k, okp k → ok k ∧ some k ≠ v.ownBlock) (hfresh : ∀ k, W.heap.size ≤ k → ok k)
    (HB : Below base w0 W) (hbase : base ≤ W.heap.size) (hl : (xs.length + m) * bytes ≤ 140737488355328)
    (h : ∀ v1 w1, d.R e w1 base ok v1 (xs ++ ys) → Below base w0 w1 → W.grownBy w1 v.ownBlock → (v1.ownBlock = v.ownBlock ∨ ∃ b, v1.ownBlock = some b ∧ W.heap.size ≤ b) → wpList P ops Q rest (a.put o.dst v1) w1) :
    wpList P ops Q (o :: rest) a W := by
  obtain ⟨i0, hi, hzz⟩ := Option.map_eq_some_iff.1 hinfo
  simp only [Prod.mk.injEq] at hzz
  obtain ⟨hz0, hz1, hz2⟩ := hzz
  have hm : ys.length = m := HR.1
  have hlen : xs.length + m ≤ 140737488355328 := Nat.le_trans (Nat.le_mul_of_pos_right _ hb0) hl
  obtain ⟨hok, inner, hown, hr⟩ := HO
  have hrun : ∃ v1 w1, (Builtin.append_ #[t, t] o.type #[v, .slice A m c]).run P W = .ok v1 w1 ∧ d.R e w1 base ok v1 (xs ++ ys) ∧ W.grownBy w1 v.ownBlock ∧ (v1.ownBlock = v.ownBlock ∨ ∃ b, v1.ownBlock = some b ∧ W.heap.size ≤ b) := by
    rcases A with _ | ad
    · have h0 : m = 0 := by
        rcases Nat.eq_zero_or_pos m with h0 | h0
        · exact h0
        · obtain ⟨ad, h, _⟩ := HR.2.2 h0
          cases h
      subst h0
      obtain rfl : ys = [] := List.eq_nil_of_length_eq_zero hm
      refine ⟨v, W, ?_, by rw [List.append_nil]; exact ⟨hok, inner, hown, hr⟩, World.grownBy.refl W _, .inl rfl⟩
      rcases hown.2 with ⟨rfl, hn⟩ | ⟨g, cap, cur, rfl, _, _, hnc, _⟩
      · simp [Builtin.append_, run_underlying ht, sizeOf, typeInfo, hi, Builtin.lenOf, Builtin.firstCells]
      · simp [Builtin.append_, run_underlying ht, sizeOf, typeInfo, hi, Builtin.lenOf, Builtin.firstCells, hnc, storeCells]
    · obtain ⟨news, hnr, hnc⟩ := zc1.inner_ HR
      have hnM : Reps (d.M W base okp) d.sz ys news := hnr.imp_ (fun p c hp => hKM p c hp)
      have hone : ∀ u ∈ news, u.oneCell' = true := by
        intro u hu
        obtain ⟨q, hq, rfl⟩ := List.mem_iff_getElem.1 hu
        have hql : q / d.sz < ys.length := by
          rw [Nat.div_lt_iff_lt_mul hs0]
          rw [← hnM.1]
          exact hq
        have hc := hnM.2 (q / d.sz) _ (List.getElem?_eq_getElem hql)
        refine d.K_one (d.K_of_M hc) _ ?_
        rw [List.mem_iff_getElem?]
        refine ⟨q % d.sz, ?_⟩
        rw [List.getElem?_take, if_pos (Nat.mod_lt _ hs0), List.getElem?_drop, Nat.mul_comm, Nat.div_add_mod, List.getElem?_eq_getElem hq]
      obtain ⟨v1, w1, hrun, h2, hg, _, hat⟩ := run_append_own_at (P := P) W base t o.type e i0 z d.sz bytes ht hi hz0 hz1 hz2 hz hs0 v xs.length inner hown ad m c news (by rw [hnM.1, hm]) hnc hone (by simp only [maxLen]; omega) hl hbase
      have hat' : v1.ownBlock = v.ownBlock ∨ ∃ b, v1.ownBlock = some b ∧ W.heap.size ≤ b := by
        rcases hat with hat | hat
        · exact .inl hat
        · exact .inr ⟨_, hat, Nat.le_refl _⟩
      have hne : ∀ k, some k ≠ v.ownBlock → k < W.heap.size → some k ≠ v1.ownBlock := by
        intro k hk hlt
        rcases hat' with hat | ⟨b, hb, hle⟩
        · rw [hat]; exact hk
        · rw [hb]
          intro he
          injection he with he
          omega
      have step : ∀ {q : α} {c : List Value} {o : Nat → Prop}, d.M W base o q c → (∀ k, o k → ok k ∧ some k ≠ v.ownBlock) → d.M w1 base (fun k => ok k ∧ some k ≠ v1.ownBlock) q c := by
        intro q c o hq ho
        have h1 := d.M_move (w1 := w1) (fun k hk => hg.block k hk.2.2.1 (ho k hk.1).2) (d.M_bound hq)
        exact d.M_mono (fun k hk => ⟨(ho k hk.1).1, hne k (ho k hk.1).2 hk.2.2.1⟩) h1
      refine ⟨v1, w1, hrun, ⟨fun k hk => ?_, inner ++ news, by rw [List.length_append, hm]; exact h2, zie (hr.imp_ (fun _ _ hq => step hq (fun _ hk => hk))) (hnM.imp_ (fun _ _ hq => step hq hokp))⟩, hg, hat'⟩
      rcases hat' with hat | ⟨b, hb, hle⟩
      · exact hok k (hat ▸ hk)
      · rw [hb] at hk
        injection hk with hk
        exact hfresh k (by omega)
  obtain ⟨v1, w1, hr1, h1, hg, hat⟩ := hrun
  refine wpList_plain hgd fun K hK => ?_
  unfold Oper.wp execOp
  simp only [ho, resolve, invoke, builtin, Sem.run_bind, Sem.run_pure, Result.andThen_ok, List.map_toArray, List.map_cons, List.map_nil, hs, hx, hr1]
  exact hK _ _ (h v1 w1 h1 (HB.grown hg hbase (zel hown)) hg hat)
theorem R_copy {enc : α → Value} {h1 : ∀ x, (enc x).oneCell' = true} (d : α) {w0 W : World} (base : Nat) (hgd : o.guard = none) (s x : Operand) (t t' e : TypeId)
    (ho : o.op = .call { callee := .builtin .copy, args := #[s, x], argTypes := #[t, t'] }) (ht : P.underlying t = some (.slice e)) (hinfo : (P.info? e).map (·.size) = some 1)
    (v : Value) (xs ys : List α) (A : Option Addr) (m c : Nat) (ok : Nat → Prop) (hs : a.eval s = v) (hx : a.eval x = .slice A m c)
    (HO : (scalar enc h1).R e W base ok v xs) (HR : (scalar enc h1).C W A m ys) (HB : Below base w0 W) (hbase : base ≤ W.heap.size)
    (h : ∀ w1, (scalar enc h1).R e w1 base ok v (ys.take (min m xs.length) ++ xs.drop (min m xs.length)) → Below base w0 w1 → W.grownBy w1 v.ownBlock → wpList P ops Q rest (a.put o.dst (.int .i64 ((min m xs.length : Nat) : Int))) w1) :
    wpList P ops Q (o :: rest) a W := by
  have hR := zfl (enc := enc) (d := d) (h1 := h1) HR
  have hm : ys.length = m := hR.1
  have hown := zg6 HO
  have fin : ∀ w1, (Builtin.copy_ #[t, t'] o.type #[v, .slice A m c]).run P W = .ok (goInt ((min m xs.length : Nat) : Int)) w1 → (scalar enc h1).R e w1 base ok v (ys.take (min m xs.length) ++ xs.drop (min m xs.length)) → W.grownBy w1 v.ownBlock → wpList P ops Q (o :: rest) a W := by
    intro w1 hr hrow hg
    refine wpList_plain hgd fun K hK => ?_
    unfold Oper.wp execOp
    simp only [ho, resolve, invoke, builtin, Sem.run_bind, Sem.run_pure, Result.andThen_ok, List.map_toArray, List.map_cons, List.map_nil, hs, hx, hr]
    exact hK _ _ (h w1 hrow (HB.grown hg hbase (zel hown)) hg)
  rcases Nat.eq_zero_or_pos (min m xs.length) with h0 | hp
  · obtain ⟨A', c', hv⟩ := own_slice hown
    refine fin W ?_ (by rw [h0, List.take_zero, List.drop_zero, List.nil_append]; exact HO) (World.grownBy.refl W _)
    rw [h0, hv]
    exact run_copy_none W t t' o.type e A' A xs.length c' m c ht hinfo h0
  · obtain ⟨ad, hA, hc⟩ := hR.2.2 (by omega)
    rcases hown.2 with ⟨_, hx0⟩ | ⟨g, cap, cur, hv, hb, hh, hnc, hcm, hcs, htake⟩
    · omega
    have hcs1 : cur.size = cap := by omega
    have hsrc : ∀ j u, (encs enc (ys.take (min m xs.length)))[j]? = some u → W.cell? (ad.add j) = some u := by
      intro j u hu
      have hj : j < (ys.take (min m xs.length)).length := by
        rcases Nat.lt_or_ge j (ys.take (min m xs.length)).length with h | h
        · exact h
        · rw [List.getElem?_eq_none (by rw [zd4]; exact h)] at hu
          cases hu
      have hjm : j < min m xs.length := by rw [List.length_take] at hj; omega
      rw [encs_get (d := d) _ j hj] at hu
      rw [hc j (by omega), ← hu]
      simp [List.getD_eq_getElem?_getD, hjm]
    have hkl : (encs enc (ys.take (min m xs.length))).length = min m xs.length := by rw [zd4, List.length_take]; omega
    have hr := run_copy_cells (P := P) W t t' o.type e g 0 xs.length cap ad m c (encs enc (ys.take (min m xs.length))) ht hinfo (by rw [hkl]) hsrc
      (fun j hj => by rw [cell_of_row W g _ cur e (0, 0) hh]; simp; omega) (fun j _ => zy hh _) (by intro u hu; simp only [encs, List.mem_map] at hu; obtain ⟨q, _, rfl⟩ := hu; exact h1 q)
    obtain ⟨cur', h3, h4, h5⟩ := zfq (encs enc (ys.take (min m xs.length))) 0 W cur hh (by rw [hkl]; omega)
    obtain ⟨s1, s2, s3, s4⟩ := ze8 g (encs enc (ys.take (min m xs.length))) 0 W
    refine fin _ (by rw [hv, hA, hr, hkl]) (R_of_own ?_ HO.1) ⟨s1, s2, s3, by rw [s4]; exact Nat.le_refl _, fun k _ hk => zfp _ _ k (fun he => hk (by rw [hv, he]; simp [Value.ownBlock]))⟩
    have hln : (ys.take (min m xs.length) ++ xs.drop (min m xs.length)).length = xs.length := by
      rw [List.length_append, List.length_take, List.length_drop]
      omega
    rw [hln]
    refine ⟨by rw [zd4, hln, Nat.mul_one], .inr ⟨g, cap, cur', hv, hb, h3, hnc, hcm, by rw [h4, hcs], ?_⟩⟩
    rw [h5, List.take_zero, List.nil_append, hkl, Nat.zero_add, zia, Nat.mul_one]
    rw [List.take_append, hkl, List.take_of_length_le (by rw [hkl]; omega)]
    congr 1
    have htk : cur.toList.take xs.length = encs enc xs := by rw [← htake, Nat.mul_one]
    have hd : encs enc (xs.drop (min m xs.length)) = (encs enc xs).drop (min m xs.length) := by simp [encs, List.map_drop]
    rw [hd, ← htk, List.drop_take]
end
end Kd
namespace Kd
section
variable {P : Program} {ops : Array Oper} {rest : List Oper} {o : Oper} {a : Act} {Q : Exit → Act → World → Prop} {α : Type}
end
end Kd
theorem add_add (a : Addr) (i j : Nat) : (a.add i).add j = a.add (i + j) := by
  unfold Addr.add
  by_cases h1 : i = 0 <;> by_cases h2 : j = 0 <;> simp [h1, h2, Nat.add_assoc]
namespace Kd
section
variable {α : Type} {k : Kd α} {w : World} {A : Option Addr} {xs : List α} {m c : Nat}
end
end Kd
section
variable {P : Program}
end
theorem zbs {w W : World} (h : Below w.heap.size w W) : w.heap.size ≤ W.heap.size := h.size
theorem zbi {w W w2 : World} (h : Below w.heap.size w W) (k : Below W.heap.size W w2) : Below w.heap.size w w2 := zcq h h.size k
theorem zc8.nil (W : World) (k : IntKind) : zc8 W k none ([] : List Int).length [] := ⟨rfl, by simp, fun h => absurd h (Nat.lt_irrefl 0)⟩
theorem zc8.drewN {W : World} {k : IntKind} {A : Option Addr} {n : Nat} {xs : List Int} (h : zc8 W k A n xs) (m : Nat) : zc8 (W.drewN m) k A n xs := h
theorem zdn {w W : World} {g j : Nat} {v : Value} (h : Below w.heap.size w W) (hg : w.heap.size ≤ g) : Below w.heap.size w (W.setCell ⟨g, j, none⟩ v) := h.setCell hg _
theorem keep_drewN {w W : World} {g : Nat} {row : Option Nat} (h : zbc w W g row) (m : Nat) : zbc w (W.drewN m) g row := h
theorem keep_alloc {w W : World} {g : Nat} (h : zbc w W g none) (o : Obj) : zbc w (W.alloc o) g none := h.trans (zbc.zd7 (World.grownBy_alloc W o none) g) (.inl rfl)
theorem zc4 {w0 w w1 : World} {B : Nat} (h : Below w0.heap.size w0 w) (hB : w0.heap.size ≤ B) (k : Below B w w1) : Below w0.heap.size w0 w1 :=
  h.trans ⟨k.os, k.tape, k.output, k.size, fun i hi => k.block i (Nat.lt_of_lt_of_le hi hB)⟩
theorem own_base' {w : World} {base : Nat} {e : TypeId} {size n : Nat} {v : Value} {xs : List Value} (h : w.ownsRow base e size v n xs) : v.ownBlock = none ∨ ∃ b, v.ownBlock = some b ∧ base ≤ b := by
  cases hv : v.ownBlock with
  | none => exact .inl rfl
  | some b => exact .inr ⟨b, rfl, zel h b hv⟩
theorem zck {w W : World} {g : Nat} {row : Option Nat} (h : zbc w W g row) : w.heap.size ≤ W.heap.size := h.1
theorem zc0.nil {α : Type} (enc : α → Value) (d : α) (W : World) : zc0 enc d W none ([] : List α).length [] := ⟨rfl, by simp, fun h => absurd h (Nat.lt_irrefl 0)⟩
theorem zc0.drewN {α : Type} {enc : α → Value} {d : α} {W : World} {A : Option Addr} {n : Nat} {xs : List α} (h : zc0 enc d W A n xs) (m : Nat) : zc0 enc d (W.drewN m) A n xs := h
theorem zcr {w : World} {g : Nat} {t : TypeId} {cs cs' : Array Value} (h : w.heap[g]? = some (.cells cs t (0, 0))) (i : Nat) (u : Value) (e : cs.setIfInBounds i u = cs') : (w.setCell ⟨g, i, none⟩ u).heap[g]? = some (.cells cs' t (0, 0)) := e ▸ zh9 h i u
theorem zbr {base : Nat} {w W : World} (h : Below base w W) : Below base w W.drew := h.drew
theorem keep_drew {w W : World} {g : Nat} {row : Option Nat} (h : zbc w W g row) : zbc w W.drew g row := h
namespace Kd
section
variable {α β : Type} {d : Kd α} {d' : Kd β} {e e' base base' n : Nat} {ok ok' : Nat → Prop} {w W w1 W1 : World} {v u : Value} {xs : List α} {ys : List β} {A : Option Addr} {c : Nat}
theorem zif (h : d.R e w base ok v xs) : v.ownBlock = none ∨ ∃ k, v.ownBlock = some k ∧ base ≤ k := by
  obtain ⟨inner, ho⟩ := R_own h
  exact own_base' ho
end
section
variable {α : Type} {enc : α → Value} {h1 : ∀ x, (enc x).oneCell' = true} {w W : World} {A : Option Addr} {n g : Nat} {xs : List α}
end
end Kd
namespace Kd
section
variable {α : Type} {d : Kd α} {e base g : Nat} {ok : Nat → Prop} {w w1 : World} {v : Value} {xs : List α} {o : Obj}
end
end Kd
section
variable {P : Program} {ops : Array Oper} {rest : List Oper} {o : Oper} {a : Act} {Q : Exit → Act → World → Prop}
theorem zdu {W : World} (hgd : o.guard = none) {N : Tmp} (_hd : o.dst = some N) {cs : Array Value} {t : TypeId}
    (hrun : (execOp a.eval o).run P W = .ok (.value (.pointer (some ⟨W.heap.size, 0, none⟩))) (W.alloc (.cells cs t (0, 0))))
    (h : ∀ g, g = W.heap.size → ∀ w1, w1.heap[g]? = some (.cells cs t (0, 0)) → Below W.heap.size W w1 → wpList P ops Q rest (a.put o.dst (.pointer (some ⟨g, 0, none⟩))) w1) : wpList P ops Q (o :: rest) a W :=
  Kd.zhr hgd hrun (h _ rfl _ (zdi W _) (zbo (Below.refl _ _) _))
end
namespace Kd
section
variable {α : Type} {enc : α → Value} {h1 : ∀ x, (enc x).oneCell' = true} {e base g n cap : Nat} {ok : Nat → Prop} {W : World} {xs : List α}
theorem zeb (d : α) (h : (scalar enc h1).R e W base ok (.slice (some ⟨g, 0, none⟩) n cap) xs) (i : Int) (h0 : 0 ≤ i) (hi : i < n) : W.cell? ⟨g, i.toNat, none⟩ = some (enc (rdOf d xs i)) ∧ W.frozen? ⟨g, i.toNat, none⟩ = false := by
  obtain ⟨rfl, _⟩ := zcj h
  exact R_cell d h i h0 hi
end
end Kd
section
variable {P : Program} {ops : Array Oper} {rest : List Oper} {o : Oper} {a : Act} {Q : Exit → Act → World → Prop}
theorem zf6 {W w1 : World} (hgd : o.guard = none) {t : TypeId} {p : Tmp} {v : Operand} (_ho : o.op = .store t (.tmp p) v) (hN : o.dst = none)
    (hrun : (execOp a.eval o).run P W = .ok .skip w1) (h : ∀ w', w' = w1 → wpList P ops Q rest a w') : wpList P ops Q (o :: rest) a W := by
  refine wpList_plain hgd fun K hK => ?_
  unfold Oper.wp
  rw [hrun]
  show K (a.put o.dst undef) w1
  rw [hN]
  exact hK _ _ (h _ rfl)
end
namespace Kd
section
variable {α : Type} {enc : α → Value} {h1 : ∀ x, (enc x).oneCell' = true} {e base g n cap : Nat} {ok : Nat → Prop} {W : World} {xs : List α}
theorem zfr (h : (scalar enc h1).R e W base ok (.slice (some ⟨g, 0, none⟩) n cap) xs) (i : Int) (x : α) : (scalar enc h1).R e (W.setCell ⟨g, i.toNat, none⟩ (enc x)) base ok (.slice (some ⟨g, 0, none⟩) n cap) (xs.set i.toNat x) ∧ W.grownBy (W.setCell ⟨g, i.toNat, none⟩ (enc x)) (some g) := by
  obtain ⟨rfl, _⟩ := zcj h
  exact R_put h i x
end
end Kd
section
variable {P : Program} {ops : Array Oper} {rest : List Oper} {o : Oper} {a : Act} {Q : Exit → Act → World → Prop} {W : World}
theorem zb8 {N : Tmp} (_hN : o.dst = some N) (h : wpList P ops Q (o :: rest) a W) : wpList P ops Q (o :: rest) a W := h
theorem zgt {t : TypeId} {p : Tmp} {v : Operand} (_ho : o.op = .store t (.tmp p) v) (h : wpList P ops Q (o :: rest) a W) : wpList P ops Q (o :: rest) a W := h
end
section
variable {P : Program} {ops : Array Oper} {o : Oper} {a : Act} {Q : Exit → Act → World → Prop} {Kc : Act → World → Prop}
namespace Kd
variable {α : Type}
end Kd
end
section
variable {P : Program} {tmps : Array Value} {w : World}
end
namespace Kd
section
variable {P : Program} {α : Type}
end
section
variable {P : Program} {ops : Array Oper} {rest : List Oper} {o : Oper} {a : Act} {Q : Exit → Act → World → Prop} {Kc : Act → World → Prop} {α : Type}
end
end Kd
end Go.Proofs.YtebgfobjhlcopaaW.PrintWords
namespace Go.Proofs.YtebgfobjhlcopaaW.PrintLast
section
variable {P : Program} {ops : Array Oper} {Q : Exit → Act → World → Prop} {md : Region.Mode} {S : World → Prop} {ds : List Nat}
def Region.zep (md : Region.Mode) (ops : Array Oper) (i : Nat) : Nat → Nat → Bool
  | 0, _ => false
  | fuel + 1, d => match ops[d]? with
    | some o => o.after.any fun e => Region.binds md e && (e.on == i || Region.zep md ops i fuel e.on)
    | none => false
def Region.zf7 (md : Region.Mode) (ops : Array Oper) (listed : Array Bool) : Bool :=
  (List.range ops.size).all fun j => !listed.getD j false || match ops[j]? with
    | some o => o.after.all fun e => !Region.binds md e || listed.getD e.on false
    | none => true
def Region.lastB (md : Region.Mode) (ops : Array Oper) (listed : Array Bool) (ds : List Nat) (i : Nat) : Bool :=
  ds.all fun d => listed.getD d true || Region.zep md ops i ops.size d
def zc5 (md : Region.Mode) (ops : Array Oper) (listed : Array Bool) : Prop :=
  ∀ j oj, ops[j]? = some oj → listed.getD j false = true → ∀ e ∈ oj.after, Region.binds md e = true → listed.getD e.on false = true
theorem Region.zht {listed : Array Bool} (h : Region.zf7 md ops listed = true) : zc5 md ops listed := by
  intro j oj hj hl e he hb
  have hlt : j < ops.size := (Array.getElem?_eq_some_iff.1 hj).1
  have h1 := List.all_eq_true.1 h j (List.mem_range.2 hlt)
  simp only [hl, hj, Bool.not_true, Bool.false_or] at h1
  have h2 := Array.all_eq_true_iff_forall_mem.1 h1 e he
  simpa [hb] using h2
theorem zc5.set {listed : Array Bool} {i : Nat} (h : zc5 md ops listed) (hi : i ∈ Region.ready md ops listed) : zc5 md ops (listed.setIfInBounds i true) := by
  obtain ⟨_, oi, hoi, hall⟩ := mem_ready.1 hi
  intro j oj hj hl e he hb
  by_cases hij : i = j
  · subst hij
    have : oj = oi := Option.some.inj (hj.symm.trans hoi)
    subst this
    exact getD_set_true (hall e he hb)
  · rw [getD_set_ne false hij] at hl
    exact getD_set_true (h j oj hj hl e he hb)
theorem Region.zfs {listed : Array Bool} {i : Nat} (hc : zc5 md ops listed) : ∀ (fuel d : Nat), Region.zep md ops i fuel d = true → listed.getD d false = true → listed.getD i false = true
  | 0, _, h, _ => by simp [Region.zep] at h
  | fuel + 1, d, h, hl => by
    unfold Region.zep at h
    cases ho : ops[d]? with
    | none => rw [ho] at h; simp at h
    | some o =>
      rw [ho] at h
      obtain ⟨e, he, h1⟩ := Array.any_eq_true'.1 h
      simp only [Bool.and_eq_true, Bool.or_eq_true, beq_iff_eq] at h1
      have hle := hc d o ho hl e he h1.1
      rcases h1.2 with h2 | h2
      · rw [← h2]; exact hle
      · exact Region.zfs hc fuel e.on h2 hle
theorem Region.zf8 {listed : Array Bool} {i d fuel : Nat} (hc : zc5 md ops listed) (hr : Region.zep md ops i fuel d = true) (hun : listed.getD i true = false) : d ∉ Region.ready md ops listed := by
  intro hd
  obtain ⟨_, o, ho, hall⟩ := mem_ready.1 hd
  have hi : listed.getD i false = true := by
    cases fuel with
    | zero => simp [Region.zep] at hr
    | succ n =>
      unfold Region.zep at hr
      rw [ho] at hr
      obtain ⟨e, he, h1⟩ := Array.any_eq_true'.1 hr
      simp only [Bool.and_eq_true, Bool.or_eq_true, beq_iff_eq] at h1
      have hle := hall e he h1.1
      rcases h1.2 with h2 | h2
      · rw [← h2]; exact hle
      · exact Region.zfs hc n e.on h2 hle
  rcases Nat.lt_or_ge i listed.size with h' | h'
  · simp [h'] at hun hi
    rw [hun] at hi
    cases hi
  · simp [Array.getElem?_eq_none h'] at hun
def zbx (P : Program) (md : Region.Mode) (ops : Array Oper) (Q : Exit → Act → World → Prop) (S : World → Prop) (ds : List Nat) : Nat → Array Bool → Act → World → Prop
  | 0, listed, a, w => Region.ready md ops listed = [] ∧ Q .normal a w
  | fuel + 1, listed, a, w =>
    (Region.ready md ops listed = [] → Q .normal a w) ∧
    ∀ i ∈ Region.ready md ops listed, wpOp P ops Q i (fun a' w' => (i ∉ ds → S w → S w') ∧ zbx P md ops Q S ds fuel (listed.setIfInBounds i true) a' w') a w
theorem zfa : ∀ (fuel : Nat) (listed : Array Bool) (a : Act) (w : World), zbx P md ops Q S ds fuel listed a w → wpAny P md ops Q fuel listed a w
  | 0, _, _, _, h => h
  | fuel + 1, _, _, _, h => ⟨h.1, fun i hi => wpOp_mono (fun a' w' h' => zfa fuel _ a' w' h'.2) (h.2 i hi)⟩
theorem zf9 {i : Nat} {oi : Oper} {v : Value} (hi : ops[i]? = some oi) (hsel : ∀ (j : Nat) (o : Oper) cs b, ops[j]? = some o → o.op ≠ .select cs b)
    (hQ : ∀ c a w, Q (.panic c) (a.put oi.dst v) w → Q (.panic c) a w) (n : Nat) :
    ∀ (fuel : Nat) (listed : Array Bool) (a : Act) (w : World),
      (∀ j oj, ops[j]? = some oj → j ≠ i → listed.getD j true = false → (∀ e ∈ oj.after, Region.binds md e = true → e.on ≠ i) → oi.apart ops oj = true) →
      zc5 md ops listed → (∀ d ∈ ds, listed.getD d true = false → Region.zep md ops i n d = true) →
      i ∈ Region.ready md ops listed → YieldsIf P ops S oi v a → S w →
      zbx P md ops Q S ds fuel (listed.setIfInBounds i true) (a.put oi.dst v) w → zbx P md ops Q S ds (fuel + 1) listed a w := by
  intro fuel
  induction fuel with
  | zero =>
    intro listed a w _ _ _ hr hy hS H
    refine ⟨fun h => (by rw [h] at hr; cases hr), fun j hj => ?_⟩
    by_cases hji : j = i
    · subst hji; exact hy.wpOp hi hS ⟨fun _ h => h, H⟩
    · have := ready_mono hj hji
      rw [H.1] at this
      cases this
  | succ fuel ih =>
    intro listed a w hfree hc hd hr hy hS H
    refine ⟨fun h => (by rw [h] at hr; cases hr), fun j hj => ?_⟩
    by_cases hji : j = i
    · subst hji; exact hy.wpOp hi hS ⟨fun _ h => h, H⟩
    · have h1 := H.2 j (ready_mono hj hji)
      obtain ⟨hjun, oj, hoj, hall⟩ := mem_ready.1 hj
      have hiun := (mem_ready.1 hr).1
      have hnot : ∀ e ∈ oj.after, Region.binds md e = true → e.on ≠ i := fun e he hb heq => by
        have h1 := hall e he hb
        rw [heq] at h1
        rcases Nat.lt_or_ge i listed.size with h' | h'
        · simp [h'] at hiun h1; rw [hiun] at h1; cases h1
        · simp [Array.getElem?_eq_none h'] at h1
      have hjd : j ∉ ds := fun hm => Region.zf8 hc (hd j hm hjun) hiun hj
      have h2 := wpOp_putIf hoj (hfree j oj hoj hji hjun hnot) (fun cs b => hsel i oi cs b hi) (fun cs b => hsel j oj cs b hoj) hQ hy h1
      have hfree' : ∀ k ok, ops[k]? = some ok → k ≠ i → (listed.setIfInBounds j true).getD k true = false →
          (∀ e ∈ ok.after, Region.binds md e = true → e.on ≠ i) → oi.apart ops ok = true := fun k ok hk hki hun hno => by
        refine hfree k ok hk hki ?_ hno
        by_cases hjk : j = k
        · subst hjk; exact hjun
        · rw [getD_set_ne true hjk] at hun; exact hun
      have hd' : ∀ d ∈ ds, (listed.setIfInBounds j true).getD d true = false → Region.zep md ops i n d = true := fun d hm hun => by
        refine hd d hm ?_
        by_cases hjk : j = d
        · subst hjk; exact hjun
        · rw [getD_set_ne true hjk] at hun; exact hun
      refine wpOp_mono (fun a' w' h3 => ⟨h3.2.1, ih (listed.setIfInBounds j true) a' w' hfree' (hc.set hj) hd' (ready_mono hr (Ne.symm hji)) h3.1 (h3.2.1 hjd hS) ?_⟩) h2
      rw [Array.setIfInBounds_comm _ _ hji]
      exact h3.2.2
theorem zg8 {i : Nat} {oi : Oper} {v : Value} (hi : ops[i]? = some oi) (hsel : ∀ (j : Nat) (o : Oper) cs b, ops[j]? = some o → o.op ≠ .select cs b)
    (hQ : ∀ c a w, Q (.panic c) (a.put oi.dst v) w → Q (.panic c) a w) :
    ∀ (fuel : Nat) (listed : Array Bool) (a : Act) (w : World),
      (∀ j oj, ops[j]? = some oj → j ≠ i → listed.getD j true = false → (∀ e ∈ oj.after, Region.binds md e = true → e.on ≠ i) → oi.apart ops oj = true) →
      i ∈ Region.ready md ops listed → Yields P ops oi v a →
      zbx P md ops Q S ds fuel (listed.setIfInBounds i true) (a.put oi.dst v) w → zbx P md ops Q S ds (fuel + 1) listed a w := by
  intro fuel
  induction fuel with
  | zero =>
    intro listed a w _ hr hy H
    refine ⟨fun h => (by rw [h] at hr; cases hr), fun j hj => ?_⟩
    by_cases hji : j = i
    · subst hji; exact (hy.yieldsIf (S := fun _ => True)).wpOp hi trivial ⟨fun _ h => h, H⟩
    · have := ready_mono hj hji
      rw [H.1] at this
      cases this
  | succ fuel ih =>
    intro listed a w hfree hr hy H
    refine ⟨fun h => (by rw [h] at hr; cases hr), fun j hj => ?_⟩
    by_cases hji : j = i
    · subst hji; exact (hy.yieldsIf (S := fun _ => True)).wpOp hi trivial ⟨fun _ h => h, H⟩
    · have h1 := H.2 j (ready_mono hj hji)
      obtain ⟨hjun, oj, hoj, hall⟩ := mem_ready.1 hj
      have hiun := (mem_ready.1 hr).1
      have hnot : ∀ e ∈ oj.after, Region.binds md e = true → e.on ≠ i := fun e he hb heq => by
        have h1 := hall e he hb
        rw [heq] at h1
        rcases Nat.lt_or_ge i listed.size with h' | h'
        · simp [h'] at hiun h1; rw [hiun] at h1; cases h1
        · simp [Array.getElem?_eq_none h'] at h1
      have h2 := wpOp_put hoj (hfree j oj hoj hji hjun hnot) (fun cs b => hsel i oi cs b hi) (fun cs b => hsel j oj cs b hoj) hQ hy h1
      have hfree' : ∀ k ok, ops[k]? = some ok → k ≠ i → (listed.setIfInBounds j true).getD k true = false →
          (∀ e ∈ ok.after, Region.binds md e = true → e.on ≠ i) → oi.apart ops ok = true := fun k ok hk hki hun hno => by
        refine hfree k ok hk hki ?_ hno
        by_cases hjk : j = k
        · subst hjk; exact hjun
        · rw [getD_set_ne true hjk] at hun; exact hun
      refine wpOp_mono (fun a' w' h3 => ⟨h3.2.1, ih (listed.setIfInBounds j true) a' w' hfree' (ready_mono hr (Ne.symm hji)) h3.1 ?_⟩) h2
      rw [Array.setIfInBounds_comm _ _ hji]
      exact h3.2.2
theorem zgm {i : Nat} {oi : Oper} {v : Value} {fuel : Nat} {listed : Array Bool} {a : Act} {w : World} (hi : ops[i]? = some oi)
    (hs : Region.noSelect ops = true) (hf : Region.free md ops listed i = true) (hr : (Region.ready md ops listed).contains i = true)
    (hc : Region.zf7 md ops listed = true) (hl : Region.lastB md ops listed ds i = true)
    (hQ : ∀ c a w, Q (.panic c) (a.put oi.dst v) w → Q (.panic c) a w) (hy : YieldsIf P ops S oi v a) (hS : S w)
    (h : zbx P md ops Q S ds fuel (listed.setIfInBounds i true) (a.put oi.dst v) w) : zbx P md ops Q S ds (fuel + 1) listed a w :=
  zf9 hi (Region.noSelect_spec hs) hQ ops.size fuel listed a w (Region.free_spec hi hf) (Region.zht hc)
    (fun d hm hun => by have := List.all_eq_true.1 hl d hm; rw [hun] at this; simpa using this) (by simpa using hr) hy hS h
theorem zg9 {rs : List Nat} {fuel : Nat} {listed : Array Bool} {a : Act} {w : World} (hr : Region.ready md ops listed = rs) (hne : rs ≠ [])
    (h : ∀ i ∈ rs, wpOp P ops Q i (fun a' w' => (i ∉ ds → S w → S w') ∧ zbx P md ops Q S ds fuel (listed.setIfInBounds i true) a' w') a w) : zbx P md ops Q S ds (fuel + 1) listed a w :=
  ⟨fun h0 => absurd (hr ▸ h0) hne, hr ▸ h⟩
theorem zgn {listed : Array Bool} {a : Act} {w : World} (hr : Region.ready md ops listed = []) (h : Q .normal a w) :
    ∀ fuel, zbx P md ops Q S ds fuel listed a w
  | 0 => ⟨hr, h⟩
  | _ + 1 => ⟨fun _ => h, by rw [hr]; simp⟩
theorem zgo {id : Nat} {a : Act} {w : World} (hm : P.follows .mixedOrders = true)
    (h : zbx P .any ops Q S ds ops.size (Array.replicate ops.size false) a { w with drawn := w.drawn + 1 }) : (Code.region id ops true).wp P Q a w :=
  wp_region_any hm (zfa _ _ _ _ h)
end
section
variable {P : Program} {ops : Array Oper} {Q : Exit → Act → World → Prop} {md : Region.Mode} {S : World → Prop} {ds : List Nat}
def zcs (P : Program) (md : Region.Mode) (ops : Array Oper) (Q : Exit → Act → World → Prop) (S : World → Prop) (ds : List Nat) (fuel : Nat) (listed : Array Bool) (a : Act) (w : World) (rs : List Nat) : Prop :=
  ∀ i ∈ rs, wpOp P ops Q i (fun a' w' => (i ∉ ds → S w → S w') ∧ zbx P md ops Q S ds fuel (listed.setIfInBounds i true) a' w') a w
theorem zcs.nil {fuel : Nat} {listed : Array Bool} {a : Act} {w : World} : zcs P md ops Q S ds fuel listed a w [] := fun _ h => by cases h
theorem zcs.cons {fuel : Nat} {listed : Array Bool} {a : Act} {w : World} {i : Nat} {o : Oper} {rs : List Nat} (ho : ops[i]? = some o) (hd : i ∉ ds)
    (h : ∀ K' : Act → World → Prop, Shut (∀ a w, S w → (S w → zbx P md ops Q S ds fuel (listed.setIfInBounds i true) a w) → K' a w) → if Region.wanted o (yielded ops a.tmps) = true then Oper.wp P o a w K' Q else K' (a.put o.dst undef) w)
    (hs : zcs P md ops Q S ds fuel listed a w rs) : zcs P md ops Q S ds fuel listed a w (i :: rs) := fun j hj => by
  rcases List.mem_cons.1 hj with rfl | hj
  · exact wpOp_step ho (fun K' hK => h K' (fun a w hS hW => hK a w ⟨fun _ _ => hS, hW hS⟩))
  · exact hs j hj
theorem zcs.cons_last {fuel : Nat} {listed : Array Bool} {a : Act} {w : World} {i : Nat} {o : Oper} {rs : List Nat} (ho : ops[i]? = some o) (hd : i ∈ ds)
    (h : ∀ K' : Act → World → Prop, Shut (∀ a w, zbx P md ops Q S ds fuel (listed.setIfInBounds i true) a w → K' a w) → if Region.wanted o (yielded ops a.tmps) = true then Oper.wp P o a w K' Q else K' (a.put o.dst undef) w)
    (hs : zcs P md ops Q S ds fuel listed a w rs) : zcs P md ops Q S ds fuel listed a w (i :: rs) := fun j hj => by
  rcases List.mem_cons.1 hj with rfl | hj
  · exact wpOp_step ho (fun K' hK => h K' (fun a w hW => hK a w ⟨fun hn => absurd hd hn, hW⟩))
  · exact hs j hj
theorem zet {rs : List Nat} {fuel : Nat} {listed : Array Bool} {a : Act} {w : World} (hr : Region.ready md ops listed = rs) (hne : rs ≠ [])
    (h : zcs P md ops Q S ds fuel listed a w rs) : zbx P md ops Q S ds (fuel + 1) listed a w := zg9 hr hne h
theorem zdl {id n : Nat} {a : Act} {w : World} (l : Array Bool) (hm : P.follows .mixedOrders = true) (hn : ops.size = n) (hl : Array.replicate n false = l) (hS : S w.drew)
    (h : S w.drew → zbx P .any ops Q S ds n l a w.drew) : (Code.region id ops true).wp P Q a w := by
  subst hn
  subst hl
  exact zgo hm (h hS)
def takeB (md : Region.Mode) (ops : Array Oper) (ds : List Nat) (l l' : Array Bool) (i : Nat) : Bool :=
  Region.noSelect ops && Region.free md ops l i && (Region.ready md ops l).contains i && Region.zf7 md ops l && Region.lastB md ops l ds i && (l.setIfInBounds i true == l')
theorem zb3 {i : Nat} {N : Option Tmp} {oi : Oper} {v : Value} {fuel : Nat} {l : Array Bool} {a : Act} {w : World} (l' : Array Bool) (hi : ops[i]? = some oi) (hN : oi.dst = N) (hc : takeB md ops ds l l' i = true)
    (hQ : ∀ c a w, Q (.panic c) (a.put oi.dst v) w → Q (.panic c) a w) (hy : YieldsIf P ops S oi v a) (hS : S w) {a' : Act} (ha : a.put N v = a')
    (h : zbx P md ops Q S ds fuel l' a' w) : zbx P md ops Q S ds (fuel + 1) l a w := by
  subst ha
  subst hN
  simp only [takeB, Bool.and_eq_true, beq_iff_eq] at hc
  obtain ⟨⟨⟨⟨⟨h1, h2⟩, h3⟩, h4⟩, h5⟩, h6⟩ := hc
  subst h6
  exact zgm hi h1 h2 h3 h4 h5 hQ hy hS h
def anyB (md : Region.Mode) (ops : Array Oper) (l l' : Array Bool) (i : Nat) : Bool :=
  Region.noSelect ops && Region.free md ops l i && (Region.ready md ops l).contains i && (l.setIfInBounds i true == l')
theorem zi {i : Nat} {N : Option Tmp} {oi : Oper} {v : Value} {fuel : Nat} {l : Array Bool} {a : Act} {w : World} (l' : Array Bool) (hi : ops[i]? = some oi) (hN : oi.dst = N) (hc : anyB md ops l l' i = true)
    (hQ : ∀ c a w, Q (.panic c) (a.put oi.dst v) w → Q (.panic c) a w) (hy : Yields P ops oi v a) {a' : Act} (ha : a.put N v = a')
    (h : zbx P md ops Q S ds fuel l' a' w) : zbx P md ops Q S ds (fuel + 1) l a w := by
  subst ha
  subst hN
  simp only [anyB, Bool.and_eq_true, beq_iff_eq] at hc
  obtain ⟨⟨⟨h1, h2⟩, h3⟩, h6⟩ := hc
  subst h6
  exact zg8 hi (Region.noSelect_spec h1) hQ fuel l a w (Region.free_spec hi h2) (by simpa using h3) hy h
def zgu (md : Region.Mode) (ops : Array Oper) (l l' : Array Bool) (i : Nat) : Bool := (Region.ready md ops l == [i]) && (l.setIfInBounds i true == l')
theorem one_ {i : Nat} {N : Option Tmp} {oi : Oper} {fuel : Nat} {l : Array Bool} {a : Act} {w : World} (l' : Array Bool) (hi : ops[i]? = some oi) (hN : oi.dst = N) (hc : zgu md ops l l' i = true) (hd : i ∉ ds)
    (h : ∀ K : Act → World → Prop, Shut (∀ a' w', S w' → (S w' → zbx P md ops Q S ds fuel l' a' w') → K a' w') → if Region.wanted oi (yielded ops a.tmps) = true then Oper.wp P oi a w K Q else K (a.put N undef) w) :
    zbx P md ops Q S ds (fuel + 1) l a w := by
  subst hN
  simp only [zgu, Bool.and_eq_true, beq_iff_eq] at hc
  obtain ⟨h1, h2⟩ := hc
  subst h2
  exact zet h1 (by simp) (zcs.cons hi hd (fun K hK => h K hK) zcs.nil)
theorem last_ {i : Nat} {N : Option Tmp} {oi : Oper} {fuel : Nat} {l : Array Bool} {a : Act} {w : World} (l' : Array Bool) (hi : ops[i]? = some oi) (hN : oi.dst = N) (hc : zgu md ops l l' i = true) (hd : i ∈ ds)
    (h : ∀ K : Act → World → Prop, Shut (∀ a' w', zbx P md ops Q S ds fuel l' a' w' → K a' w') → if Region.wanted oi (yielded ops a.tmps) = true then Oper.wp P oi a w K Q else K (a.put N undef) w) :
    zbx P md ops Q S ds (fuel + 1) l a w := by
  subst hN
  simp only [zgu, Bool.and_eq_true, beq_iff_eq] at hc
  obtain ⟨h1, h2⟩ := hc
  subst h2
  exact zet h1 (by simp) (zcs.cons_last hi hd (fun K hK => h K hK) zcs.nil)
theorem zeg {l : Array Bool} {a : Act} {w : World} {n : Nat} (hr : (Region.ready md ops l == []) = true) (h : Q .normal a w) : zbx P md ops Q S ds n l a w := zgn (by simpa using hr) h n
theorem zeu {fuel : Nat} {l : Array Bool} {a a' : Act} {w : World} (ha : a = a') (h : zbx P md ops Q S ds fuel l a' w) : zbx P md ops Q S ds fuel l a w := by
  subst ha
  exact h
theorem call_ {oi : Oper} {N : Option Tmp} {a : Act} {w : World} {K : Act → World → Prop} (f : FuncId) (args : Array Value) (hw : Region.wanted oi (yielded ops a.tmps) = true) (hN : oi.dst = N) (hrun : (execOp a.eval oi).run P w = .ok (.enter f args) w)
    (h : Calls P f args w fun e w' => ∃ v, e = .returned v ∧ K (a.put N v) w') : if Region.wanted oi (yielded ops a.tmps) = true then Oper.wp P oi a w K Q else K (a.put N undef) w := by
  rw [if_pos hw]
  subst hN
  unfold Oper.wp
  rw [hrun, Oper.upon_enter]
  refine h.mono fun e w'' hh => ?_
  obtain ⟨v, rfl, hk⟩ := hh
  exact hk
theorem enters_ {f : FuncId} {fn : Func} (hf : P.funcs[f]? = some fn) (hname : (fn.name == "runtime.NumGoroutine") = false) (hb : fn.body.isSome = true) (args : Array Value) (w : World) : (callFunc f args).run P w = .ok (.enter f args) w := by
  have h1 : fn.name ≠ "runtime.NumGoroutine" := by simpa using hname
  obtain ⟨c, hc⟩ := Option.isSome_iff_exists.1 hb
  simp [callFunc, hf, h1, hc]
theorem ze4 {oi : Oper} {N : Option Tmp} {a : Act} {w : World} {K : Act → World → Prop} {f : FuncId} {fn : Func} {as_ : Array Operand} {ts : Array TypeId} (hf : P.funcs[f]? = some fn) (hname : (fn.name == "runtime.NumGoroutine") = false) (hb : fn.body.isSome = true) (args : Array Value)
    (hw : Region.wanted oi (yielded ops a.tmps) = true) (hN : oi.dst = N) (hop : oi.op = .call { callee := .value (.func f), args := as_, argTypes := ts }) (hargs : as_.map a.eval = args)
    (h : Calls P f args w fun e w' => ∃ v, e = .returned v ∧ K (a.put N v) w') : if Region.wanted oi (yielded ops a.tmps) = true then Oper.wp P oi a w K Q else K (a.put N undef) w := by
  refine call_ f args hw hN ?_ h
  have he := enters_ hf hname hb args w
  unfold execOp
  simp [hop, resolve, Deferred.ofValue, invoke, Act.eval, hargs, he]
theorem zb7 {rest : List Oper} {oi : Oper} {a : Act} {w : World} (N : Option Tmp) (hd : oi.dst = N) (hg : oi.guard = none) {f : FuncId} {fn : Func} {as_ : Array Operand} {ts : Array TypeId} (hf : P.funcs[f]? = some fn) (hname : (fn.name == "runtime.NumGoroutine") = false) (hb : fn.body.isSome = true) (args : Array Value)
    (hop : oi.op = .call { callee := .value (.func f), args := as_, argTypes := ts }) (hargs : as_.map a.eval = args)
    (h : Calls P f args w fun e w' => ∃ v, e = .returned v ∧ wpList P ops Q rest (a.put N v) w') : wpList P ops Q (oi :: rest) a w := by
  refine wpList_plain hg fun K hK => ?_
  have he := enters_ hf hname hb args w
  have hrun : (execOp a.eval oi).run P w = .ok (.enter f args) w := by
    unfold execOp
    simp [hop, resolve, Deferred.ofValue, invoke, Act.eval, hargs, he]
  unfold Oper.wp
  rw [hrun, Oper.upon_enter]
  refine h.mono fun e w'' hh => ?_
  obtain ⟨v, rfl, hk⟩ := hh
  subst hd
  exact hK _ _ hk
theorem value_ {oi : Oper} {N : Option Tmp} {a : Act} {w w1 : World} {v : Value} {K : Act → World → Prop} (hw : Region.wanted oi (yielded ops a.tmps) = true) (hN : oi.dst = N) (hrun : (execOp a.eval oi).run P w = .ok (.value v) w1)
    (h : K (a.put N v) w1) : if Region.wanted oi (yielded ops a.tmps) = true then Oper.wp P oi a w K Q else K (a.put N undef) w := by
  rw [if_pos hw]
  subst hN
  unfold Oper.wp
  rw [hrun]
  exact h
theorem skip_ {oi : Oper} {a : Act} {w w1 : World} {K : Act → World → Prop} (hw : Region.wanted oi (yielded ops a.tmps) = true) (hN : oi.dst = none) (hrun : (execOp a.eval oi).run P w = .ok .skip w1)
    (h : K a w1) : if Region.wanted oi (yielded ops a.tmps) = true then Oper.wp P oi a w K Q else K (a.put none undef) w := by
  rw [if_pos hw]
  unfold Oper.wp
  rw [hrun]
  show K (a.put oi.dst undef) w1
  rw [hN]
  exact h
theorem ze (n : Int) : IntKind.i64.wrap n = Go.RowKit.wrap64 n := by unfold Go.RowKit.wrap64; exact IntKind.wrap_i64 n
theorem zf (n : Int) : IntKind.i32.wrap n = Go.RowKit.wrap32 n := by unfold Go.RowKit.wrap32; exact IntKind.wrap_i32 n
end
end Go.Proofs.YtebgfobjhlcopaaW.PrintLast
namespace Go.Proofs.YtebgfobjhlcopaaW.PrintLast
open Go.Proofs.YtebgfobjhlcopaaW.PrintWords (za)
def zfm (md : Region.Mode) (o : Oper) : List Nat := (o.after.toList.filter (fun e => Region.binds md e)).map (fun e => e.on)
def zih (md : Region.Mode) (ops : Array Oper) (i : Nat) (oi : Oper) : List Nat := (List.range ops.size).filter fun j => !(j == i) && match ops[j]? with
  | some oj => !(oj.after.any (fun e => Region.binds md e && e.on == i) || oi.apart ops oj)
  | none => false
def rtab (md : Region.Mode) (ops : Array Oper) : Bool × List (List Nat × List Nat) := (Region.noSelect ops, (List.range ops.size).map fun i => match ops[i]? with
  | some o => (zfm md o, zih md ops i o)
  | none => ([], []))
def zev (T : List (List Nat × List Nat)) (l : List Bool) (i : Nat) : Bool := !l.getD i true && match T[i]? with
  | some r => r.1.all (fun j => l.getD j false)
  | none => false
def zhu (T : List (List Nat × List Nat)) (l : List Bool) : List Nat := (List.range T.length).filter (zev T l)
def freeT (T : List (List Nat × List Nat)) (l : List Bool) (i : Nat) : Bool := match T[i]? with
  | some r => r.2.all (fun j => l.getD j true)
  | none => false
def zha (T : List (List Nat × List Nat)) (l : List Bool) : Bool := (List.range T.length).all fun j => !l.getD j false || match T[j]? with
  | some r => r.1.all (fun k => l.getD k false)
  | none => true
def zgv (T : List (List Nat × List Nat)) (i : Nat) : Nat → Nat → Bool
  | 0, _ => false
  | fuel + 1, d => match T[d]? with
    | some r => r.1.any fun j => j == i || zgv T i fuel j
    | none => false
def lastT (T : List (List Nat × List Nat)) (l : List Bool) (ds : List Nat) (i : Nat) : Bool := ds.all fun d => l.getD d true || zgv T i T.length d
section
variable {md : Region.Mode} {ops : Array Oper} {T : Bool × List (List Nat × List Nat)} {l l' li lj lk : Array Bool} {ds : List Nat} {i j k : Nat}
theorem gd (l : Array Bool) (j : Nat) (b : Bool) : l.getD j b = l.toList.getD j b := by simp [Array.getD_eq_getD_getElem?, List.getD_eq_getElem?_getD]
theorem zhv (o : Oper) (p : Nat → Bool) : o.after.all (fun e => !Region.binds md e || p e.on) = (zfm md o).all p := by
  unfold zfm
  rw [← Array.all_toList]
  induction o.after.toList with
  | nil => rfl
  | cons e r ih =>
    rw [List.all_cons, ih, List.filter_cons]
    cases h : Region.binds md e <;> simp
theorem needs_any (o : Oper) (p : Nat → Bool) : o.after.any (fun e => Region.binds md e && p e.on) = (zfm md o).any p := by
  unfold zfm
  rw [← Array.any_toList]
  induction o.after.toList with
  | nil => rfl
  | cons e r ih =>
    rw [List.any_cons, ih, List.filter_cons]
    cases h : Region.binds md e <;> simp
theorem zeo : (rtab md ops).2.length = ops.size := by simp [rtab]
theorem zfb {o : Oper} (h : ops[i]? = some o) : (rtab md ops).2[i]? = some (zfm md o, zih md ops i o) := by
  have hi := (Array.getElem?_eq_some_iff.1 h).1
  unfold rtab
  rw [List.getElem?_map, List.getElem?_range hi, Option.map_some, h]
theorem zfc (h : ops[i]? = none) : (rtab md ops).2[i]? = none := by
  have hi : ops.size ≤ i := Array.getElem?_eq_none_iff.1 h
  exact List.getElem?_eq_none (by rw [zeo]; exact hi)
theorem readyAt_eq : zev (rtab md ops).2 l.toList i = (!l.getD i true && ((ops[i]?).map (·.after.all fun e => !Region.binds md e || l.getD e.on false)).getD false) := by
  unfold zev
  rw [gd]
  cases h : ops[i]? with
  | none => rw [zfc h]; rfl
  | some o =>
    rw [zfb h]
    simp only [Option.map_some, Option.getD_some]
    rw [← zhv]
    simp only [gd]
theorem ready_eq : Region.ready md ops l = zhu (rtab md ops).2 l.toList := by
  unfold Region.ready zhu
  rw [zeo]
  refine List.filter_congr (fun i _ => ?_)
  rw [readyAt_eq]
theorem free_eq : Region.free md ops l i = freeT (rtab md ops).2 l.toList i := by
  unfold Region.free freeT
  cases h : ops[i]? with
  | none => rw [zfc h]
  | some oi =>
    rw [zfb h]
    simp only [zih]
    rw [List.all_filter]
    congr 1
    funext j
    rw [gd]
    cases hj : ops[j]? with
    | none => cases (j == i) <;> cases (l.toList.getD j true) <;> simp
    | some oj =>
      cases (j == i) <;> cases (l.toList.getD j true) <;> cases (oj.after.any (fun e => Region.binds md e && e.on == i) || oi.apart ops oj) <;> simp_all
theorem closed_eq : Region.zf7 md ops l = zha (rtab md ops).2 l.toList := by
  unfold Region.zf7 zha
  rw [zeo]
  congr 1
  funext j
  rw [gd]
  cases h : ops[j]? with
  | none => rw [zfc h]
  | some o =>
    rw [zfb h]
    simp only
    rw [← zhv]
    simp only [gd]
theorem reach_eq : ∀ (fuel d : Nat), Region.zep md ops i fuel d = zgv (rtab md ops).2 i fuel d
  | 0, _ => rfl
  | fuel + 1, d => by
    unfold Region.zep zgv
    cases h : ops[d]? with
    | none => rw [zfc h]
    | some o =>
      rw [zfb h]
      simp only
      rw [← needs_any]
      congr 1
      funext e
      rw [reach_eq fuel]
theorem last_eq : Region.lastB md ops l ds i = lastT (rtab md ops).2 l.toList ds i := by
  unfold Region.lastB lastT
  rw [zeo]
  congr 1
  funext d
  rw [gd, reach_eq]
theorem zga (h : zev T.2 l.toList i = true) (hT : rtab md ops = T) : (Region.ready md ops l).contains i = true := by
  subst hT
  rw [ready_eq]
  unfold zhu
  rw [List.contains_iff_mem, List.mem_filter, List.mem_range]
  refine ⟨?_, h⟩
  unfold zev at h
  rw [Bool.and_eq_true] at h
  cases hq : (rtab md ops).2[i]? with
  | none => rw [hq] at h; simp at h
  | some r => exact (List.getElem?_eq_some_iff.1 hq).1
theorem set_of (h : (l.toList.set i true == l'.toList) = true) : (l.setIfInBounds i true == l') = true := by
  rw [beq_iff_eq] at h ⊢
  apply Array.ext'
  rw [Array.toList_setIfInBounds]
  exact h
def anyT (T : Bool × List (List Nat × List Nat)) (l l' : List Bool) (i : Nat) : Bool := T.1 && freeT T.2 l i && zev T.2 l i && (l.set i true == l')
theorem zb (hT : rtab md ops = T) (h : anyT T l.toList l'.toList i = true) : anyB md ops l l' i = true := by
  simp only [anyT, Bool.and_eq_true] at h
  obtain ⟨⟨⟨h1, h2⟩, h3⟩, h4⟩ := h
  have h5 := zga h3 hT
  have h6 := set_of h4
  subst hT
  simp only [anyB, Bool.and_eq_true]
  exact ⟨⟨⟨h1, by rw [free_eq]; exact h2⟩, h5⟩, h6⟩
def takeT (T : Bool × List (List Nat × List Nat)) (ds : List Nat) (l l' : List Bool) (i : Nat) : Bool := T.1 && freeT T.2 l i && zev T.2 l i && zha T.2 l && lastT T.2 l ds i && (l.set i true == l')
theorem take_of (hT : rtab md ops = T) (h : takeT T ds l.toList l'.toList i = true) : takeB md ops ds l l' i = true := by
  simp only [takeT, Bool.and_eq_true] at h
  obtain ⟨⟨⟨⟨⟨h1, h2⟩, h3⟩, h4⟩, h5⟩, h6⟩ := h
  have h7 := zga h3 hT
  have h8 := set_of h6
  subst hT
  simp only [takeB, Bool.and_eq_true]
  exact ⟨⟨⟨⟨⟨h1, by rw [free_eq]; exact h2⟩, h7⟩, by rw [closed_eq]; exact h4⟩, by rw [last_eq]; exact h5⟩, h8⟩
theorem zdb (hT : rtab md ops = T) (h : (zhu T.2 l.toList == [i] && l.toList.set i true == l'.toList) = true) : zgu md ops l l' i = true := by
  simp only [Bool.and_eq_true] at h
  obtain ⟨h1, h2⟩ := h
  subst hT
  simp only [zgu, Bool.and_eq_true]
  exact ⟨by rw [ready_eq]; exact h1, set_of h2⟩
theorem zct (hT : rtab md ops = T) (h : (zhu T.2 l.toList == []) = true) : (Region.ready md ops l == []) = true := by
  subst hT
  rw [ready_eq]
  exact h
def upM (B : List Nat) (d : Nat) : List Nat → Nat
  | [] => 0
  | n :: r => (2 ^ n ||| (if n < d then B.getD n 0 else 0)) ||| upM B d r
def zdw (T : List (List Nat × List Nat)) (B : List Nat) : Bool := (List.range T.length).all fun d => match T[d]? with
  | some r => (B.getD d 0 ||| upM B d r.1) == upM B d r.1
  | none => false
theorem upM_bit {B : List Nat} {d i : Nat} : ∀ {ns : List Nat}, (upM B d ns).testBit i = true → ∃ n ∈ ns, n = i ∨ (n < d ∧ (B.getD n 0).testBit i = true)
  | [], h => by simp [upM] at h
  | n :: r, h => by
    unfold upM at h
    rw [Nat.testBit_or, Nat.testBit_or, Bool.or_eq_true, Bool.or_eq_true] at h
    rcases h with (h | h) | h
    · rw [Nat.testBit_two_pow] at h
      exact ⟨n, List.mem_cons_self, .inl (by simpa using h)⟩
    · by_cases hn : n < d
      · rw [if_pos hn] at h
        exact ⟨n, List.mem_cons_self, .inr ⟨hn, h⟩⟩
      · rw [if_neg hn] at h
        simp at h
    · obtain ⟨m, hm, h2⟩ := upM_bit h
      exact ⟨m, List.mem_cons_of_mem _ hm, h2⟩
theorem zhw {T : List (List Nat × List Nat)} {B : List Nat} (hB : zdw T B = true) : ∀ (fuel d : Nat), d < fuel → d < T.length → (B.getD d 0).testBit i = true → zgv T i fuel d = true
  | 0, d, h, _, _ => by omega
  | fuel + 1, d, h, hd, hb => by
    have h1 := List.all_eq_true.1 hB d (List.mem_range.2 hd)
    cases hr : T[d]? with
    | none => rw [hr] at h1; simp at h1
    | some r =>
      rw [hr] at h1
      simp only [beq_iff_eq] at h1
      have h2 : (upM B d r.1).testBit i = true := by rw [← h1, Nat.testBit_or, hb, Bool.true_or]
      obtain ⟨n, hn, h3⟩ := upM_bit h2
      unfold zgv
      rw [hr]
      simp only
      rw [List.any_eq_true]
      refine ⟨n, hn, ?_⟩
      rcases h3 with rfl | ⟨h4, h5⟩
      · simp
      · rw [zhw hB fuel n (by omega) (by omega) h5, Bool.or_true]
def lastW (T : List (List Nat × List Nat)) (B : List Nat) (l : List Bool) (ds : List Nat) (i : Nat) : Bool := ds.all fun d => l.getD d true || (decide (d < T.length) && (B.getD d 0).testBit i)
def takeW (T : Bool × List (List Nat × List Nat)) (B : List Nat) (ds : List Nat) (l l' : List Bool) (i : Nat) : Bool := T.1 && freeT T.2 l i && zev T.2 l i && zha T.2 l && lastW T.2 B l ds i && (l.set i true == l')
theorem zbf {B : List Nat} (hT : rtab md ops = T) (hB : zdw T.2 B = true) (h : takeW T B ds l.toList l'.toList i = true) : takeB md ops ds l l' i = true := by
  refine take_of hT ?_
  simp only [takeW, takeT, Bool.and_eq_true] at h ⊢
  obtain ⟨⟨⟨⟨⟨h1, h2⟩, h3⟩, h4⟩, h5⟩, h6⟩ := h
  refine ⟨⟨⟨⟨⟨h1, h2⟩, h3⟩, h4⟩, ?_⟩, h6⟩
  unfold lastW at h5
  unfold lastT
  rw [List.all_eq_true] at h5 ⊢
  intro d hd
  have h7 := h5 d hd
  rw [Bool.or_eq_true, Bool.and_eq_true, decide_eq_true_eq] at h7
  rcases h7 with h7 | ⟨h8, h9⟩
  · rw [h7, Bool.true_or]
  · rw [zhw hB _ d h8 h8 h9, Bool.or_true]
theorem zb9 {P : Program} {Q : Exit → Act → World → Prop} {S : World → Prop} {n : Nat} {a : Act} {w : World} {B : List Nat} (hT : rtab md ops = T) (hB : zdw T.2 B = true) (h : za (rtab md ops = T) → za (zdw T.2 B = true) → zbx P md ops Q S ds n l a w) : zbx P md ops Q S ds n l a w := h ⟨hT⟩ ⟨hB⟩
end
def zgp : Code → Nat → Option (Array Oper)
  | .region id ops _, k => if id == k then some ops else none
  | .seq a b, k => match zgp a k with
    | some o => some o
    | none => zgp b k
  | .cond _ a b, k => match zgp a k with
    | some o => some o
    | none => zgp b k
  | .block _ c, k => zgp c k
  | .loop c, k => zgp c k
  | .scope c, k => zgp c k
  | .rangeFunc _ _ a b, k => match zgp a k with
    | some o => some o
    | none => zgp b k
  | _, _ => none
def opsOf (f : Func) (k : Nat) : Array Oper := ((f.body.bind fun c => zgp c k)).getD #[]
end Go.Proofs.YtebgfobjhlcopaaW.PrintLast
namespace Go.Proofs.YtebgfobjhlcopaaW.PrintWords
open Go.RowKit
namespace Kd
def tag {α : Type} (f : Nat → Nat) (d : Kd α) : Kd (α × Nat) where
  sz := d.sz
  E := d.E
  K := fun w x cs => d.K w x.1 cs
  M := fun w base ok x cs => d.M w base (fun k => ok k ∧ f k = x.2) x.1 cs
  K_len := fun h => d.K_len h
  K_one := fun h => d.K_one h
  K_below := fun hb h => d.K_below hb h
  K_of_M := fun h => d.K_of_M h
  M_mono := fun hok h => d.M_mono (fun k hk => ⟨hok k hk.1, hk.2⟩) h
  M_bound := fun h => d.M_mono (fun _ hk => ⟨⟨hk.1.1, hk.2⟩, hk.1.2⟩) (d.M_bound h)
  M_move := fun hm h => d.M_move (fun k hk => hm k hk.1) h
  M_lower := fun hb h => d.M_lower hb h
def bare {α : Type} (d : Kd α) : Kd α where
  sz := d.sz
  E := d.E
  K := d.K
  M := fun w base _ x cs => d.M w base (fun _ => False) x cs
  K_len := fun h => d.K_len h
  K_one := fun h => d.K_one h
  K_below := fun hb h => d.K_below hb h
  K_of_M := fun h => d.K_of_M h
  M_mono := fun _ h => h
  M_bound := fun h => h
  M_move := fun _ h => d.M_move (fun _ hk => hk.elim) h
  M_lower := fun hb h => d.M_lower hb h
def raw (sz : Nat) : Kd (List Value) where
  sz := sz
  E := []
  K := fun _ x cs => cs = x ∧ cs.length = sz ∧ ∀ u ∈ cs, u.oneCell' = true
  M := fun _ _ _ x cs => cs = x ∧ cs.length = sz ∧ ∀ u ∈ cs, u.oneCell' = true
  K_len := fun h => h.2.1
  K_one := fun h => h.2.2
  K_below := fun _ h => h
  K_of_M := fun h => h
  M_mono := fun _ h => h
  M_bound := fun h => h
  M_move := fun _ h => h
  M_lower := fun _ h => h
def S {α : Type} (d : Kd α) (e : Nat) (w : World) (base : Nat) (ok : Nat → Prop) (v : Value) (xs : List α) : Prop := ∃ f, (tag f d).R e w base ok v xs.zipIdx
section
variable {α β : Type} {d : Kd α} {d' : Kd β} {e e' : Nat} {w w1 W : World} {base b : Nat} {ok ok' okv oku : Nat → Prop} {u v : Value} {xs : List α} {ys : List β}
theorem zip_at {xs : List α} {j : Nat} {p : α} (h : xs[j]? = some p) : xs.zipIdx[j]? = some (p, j) := by rw [List.getElem?_zipIdx, h, Nat.zero_add]; rfl
theorem S_R (h : S d e w base ok v xs) : d.R e w base ok v xs := by
  obtain ⟨f, h0, inner, ho, hr⟩ := h
  rw [List.length_zipIdx] at ho
  exact ⟨h0, inner, ho, by have := hr.1; rw [List.length_zipIdx] at this; exact this, fun j p hj => d.M_mono (fun _ hk => hk.1) (hr.2 j (p, j) (zip_at hj))⟩
theorem R_head {ad : Addr} {n cap : Nat} (h : d.R e w base ok (.slice (some ad) n cap) xs) : ∃ g, ad = ⟨g, 0, none⟩ := by
  obtain ⟨_, inner, ho, hr⟩ := h
  rcases ho.2 with ⟨hv, _⟩ | ⟨g, cap', cur, hv, _⟩
  · cases hv
  · injection hv with ha _ _
    injection ha with ha
    exact ⟨g, ha⟩
theorem R_getA {ad : Addr} {n cap : Nat} (h : d.R e W base ok (.slice (some ad) n cap) xs) (z : α) (i : Int) (h0 : 0 ≤ i) (h1 : i < n) :
    ∃ c, c.length = d.sz ∧ d.M W base (fun k => ok k ∧ some k ≠ (Value.slice (some ad) n cap).ownBlock) (xs.getD i.toNat z) c ∧ ∀ j u, c[j]? = some u → W.cell? (ad.add (i.toNat * d.sz + j)) = some u := by
  obtain ⟨g, rfl⟩ := R_head h
  obtain ⟨c, hcl, hM, hcc, _⟩ := R_elem h z i h0 h1
  refine ⟨c, hcl, d.M_mono (fun k hk => ⟨hk.1, fun he => hk.2 (by simpa [Value.ownBlock] using he)⟩) hM, fun j u hu => ?_⟩
  rw [zhs, Nat.zero_add]
  exact hcc j u hu
theorem zew (hE : d.E = []) (h : d.R e w base ok v xs) : d.R e w base (fun k => some k = v.ownBlock) v xs := by
  obtain ⟨h0, inner, ho, hr⟩ := h
  refine ⟨fun k hk => hk.symm, inner, ho, hr.imp_ (fun p c hp => d.M_mono (fun k hk => ?_) (d.M_bound hp))⟩
  obtain ⟨_, _, _, q, hq, _⟩ := hk
  rw [hE] at hq
  cases hq
theorem zcx (h : S d e w base ok v xs) (hok : ∀ k, ok k → ok' k) : S d e w base ok' v xs := by
  obtain ⟨f, h⟩ := h
  exact ⟨f, zbz h hok⟩
theorem S_bound (h : S d e w base ok v xs) : S d e w base (fun k => ok k ∧ base ≤ k ∧ k < w.heap.size ∧ ∃ q, q ∈ e :: d.E ∧ ∃ cells, w.heap[k]? = some (.cells cells q (0, 0))) v xs := by
  obtain ⟨f, h⟩ := h
  exact ⟨f, zc2 h⟩
theorem S_move (h : S d e w base ok v xs) (hm : ∀ k, ok k → w1.heap[k]? = w.heap[k]?) : S d e w1 base ok v xs := by
  obtain ⟨f, h⟩ := h
  exact ⟨f, zf3 h hm⟩
theorem zii {base' : Nat} (h : S d e w base ok v xs) (hb : base' ≤ base) : S d e w base' ok v xs := by
  obtain ⟨f, h⟩ := h
  exact ⟨f, zcg h hb⟩
theorem S_step (h : S d e w base ok v xs) (hm : ∀ k, ok k → k < w.heap.size → w1.heap[k]? = w.heap[k]?) : S d e w1 base ok v xs :=
  zcx (S_move (S_bound h) (fun k hk => hm k hk.1 hk.2.2.1)) (fun _ hk => hk.1)
theorem zij (h : S d e w base ok v xs) (hb : Below w.heap.size w w1) : S d e w1 base ok v xs := S_step h (fun k _ hk => hb.block k hk)
theorem zec (h : S d e w base ok v xs) (o : Obj) : S d e (w.alloc o) base ok v xs := zij h (zbo (Below.refl _ _) o)
theorem ze1 (h : S d e w base ok v xs) : S d e w.drew base ok v xs := zij h (zef (Below.refl _ _))
theorem zed (h : S d e w base ok v xs) (m : Nat) : S d e (w.drewN m) base ok v xs := zij h (zbk (Below.refl _ _) m)
theorem zd1 (h : S d e w base ok v xs) {g : Nat} (hk : zbc w w1 g none) (hok : ∀ k, ok k → k ≠ g) : S d e w1 base ok v xs := S_step h (fun k ho hlt => hk.2 k hlt (hok k ho) (by simp))
theorem S_types (h : S d e w base ok v xs) {g t : Nat} {cells : Array Value} (hb : w.heap[g]? = some (.cells cells t (0, 0))) (ht : ∀ q, q ∈ e :: d.E → q ≠ t) : S d e w base (fun k => ok k ∧ k ≠ g) v xs := by
  obtain ⟨f, h⟩ := h
  exact ⟨f, zib h hb ht⟩
theorem zdx (h : S d e w base ok v xs) : ∀ k, v.ownBlock = some k → ∃ cells, w.heap[k]? = some (.cells cells e (0, 0)) := R_typed (S_R h)
theorem zfd (h : S d e W base ok u xs) (hbase : ∀ k, v.ownBlock = some k → W.heap.size ≤ k) (hb : Below W.heap.size W w1) : S d e w1 base (fun k => ok k ∧ some k ≠ v.ownBlock) u xs := by
  obtain ⟨f, h⟩ := h
  exact ⟨f, zen h hbase hb⟩
theorem S_new' (h : S d e w1 W.heap.size ok v xs) (hlt : ∀ k, u.ownBlock = some k → k < W.heap.size) : S d e w1 W.heap.size (fun k => ok k ∧ some k ≠ u.ownBlock) v xs := by
  obtain ⟨f, h⟩ := h
  exact ⟨f, zf5 h hlt⟩
theorem S_after {v1 : Value} (h : S d e W base (fun k => ok k ∧ some k ≠ v.ownBlock) u xs) (hg : W.grownBy w1 v.ownBlock) (hat : v1.ownBlock = v.ownBlock ∨ ∃ b, v1.ownBlock = some b ∧ W.heap.size ≤ b) : S d e w1 base (fun k => ok k ∧ some k ≠ v1.ownBlock) u xs := by
  obtain ⟨f, h⟩ := h
  exact ⟨f, zid h hg hat⟩
theorem S_bare (h : (bare d).R e w base ok v xs) : S d e w base ok v xs := by
  obtain ⟨h0, inner, ho, hr⟩ := h
  refine ⟨fun _ => 0, h0, inner, by rw [List.length_zipIdx]; exact ho, by rw [List.length_zipIdx]; exact hr.1, fun j p hj => ?_⟩
  rw [List.getElem?_zipIdx, Nat.zero_add] at hj
  obtain ⟨x, hx, rfl⟩ := Option.map_eq_some_iff.1 hj
  exact d.M_mono (fun _ hk => hk.elim) (hr.2 j x hx)
theorem R_tag {f f' : Nat → Nat} {zs : List (α × Nat)} (h : (tag f d).R e w base ok v zs) (hf : ∀ k, ok k → k < w.heap.size → f' k = f k) : (tag f' d).R e w base ok v zs := by
  obtain ⟨h0, inner, ho, hr⟩ := zc2 h
  exact ⟨fun k hk => (h0 k hk).1, inner, ho, hr.1, fun j p hj => d.M_mono (fun k hk => ⟨⟨hk.1.1.1, hk.1.2⟩, (hf k hk.1.1.1 hk.1.1.2.2.1).trans hk.2⟩) (hr.2 j p hj)⟩
end
section
variable {α β : Type} {d : Kd α} {d' : Kd β} {e e' g : Nat} {w w1 W : World} {base b : Nat} {ok ok' okv oku : Nat → Prop} {u v : Value} {xs : List α} {ys : List β}
theorem S_ne (h : S d e w base ok v xs) {t : Nat} {cells : Array Value} (hb : w.heap[g]? = some (.cells cells t (0, 0))) (ht : e ≠ t) : some g ≠ v.ownBlock := R_ne (S_R h) hb ht
theorem zhb (h : S d e w base ok v xs) : v.ownBlock = none ∨ ∃ k, v.ownBlock = some k ∧ base ≤ k := zif (S_R h)
theorem zip_snoc (xs : List α) (p : α) : (xs ++ [p]).zipIdx = xs.zipIdx ++ [(p, xs.length)] := by rw [List.zipIdx_append]; simp
end
section
open Classical in
theorem S_tag {α : Type} {d : Kd α} {e base : Nat} {okv : Nat → Prop} {w : World} {v : Value} {xs : List α} (h : S d e w base okv v xs) (m : Nat) (okp : Nat → Prop) (hap : ∀ k, okp k → ¬ okv k) : ∃ f, (∀ k, okp k → f k = m) ∧ (tag f d).R e w base okv v xs.zipIdx := by
  obtain ⟨f, h⟩ := h
  exact ⟨fun k => if okp k then m else f k, fun k hk => if_pos hk, R_tag h (fun k hk _ => if_neg (fun h2 => hap k h2 hk))⟩
variable {P : Program} {ops : Array Oper} {rest : List Oper} {o : Oper} {a : Act} {Q : Exit → Act → World → Prop} {Kc : Act → World → Prop} {α : Type}
theorem zfv (d : Kd α) {w0 W : World} (base : Nat) (hgd : o.guard = none) (s x : Operand) (t e : TypeId) (z : Value) (bytes : Nat)
    (ho : o.op = .call { callee := .builtin .append, args := #[s, x], argTypes := #[t, t] })
    (ht : P.underlying t = some (.slice e)) (hinfo : (P.info? e).map (fun i => (i.zero, i.size, i.bytes)) = some (some z, d.sz, bytes)) (hz : z.cells.size = d.sz) (hs0 : 0 < d.sz) (hb0 : 0 < bytes)
    (v : Value) (xs : List α) (p : α) (cs : List Value) (ok okp : Nat → Prop) (hs : a.eval s = v) (hx : a.eval x = .slice (some ⟨W.heap.size, 0, none⟩) 1 1) (hp : d.M W base okp p cs) (hokp : ∀ k, okp k → ok k ∧ some k ≠ v.ownBlock) (hfresh : ∀ k, W.heap.size ≤ k → ok k)
    (HO : S d e W base (fun k => ok k ∧ ¬ okp k) v xs) (HB : Below base w0 W) (hbase : base ≤ W.heap.size) (hl : (xs.length + 1) * bytes ≤ 140737488355328)
    (h : ∀ v1 w1, S d e w1 base ok v1 (xs ++ [p]) → Below base w0 w1 → W.grownBy w1 v.ownBlock → (v1.ownBlock = v.ownBlock ∨ ∃ b, v1.ownBlock = some b ∧ W.heap.size ≤ b) → wpList P ops Q rest (a.put o.dst v1) w1) :
    wpList P ops Q (o :: rest) a (W.alloc (.cells cs.toArray e)) := by
  obtain ⟨f, hf, hR⟩ := S_tag HO xs.length okp (fun _ hk h2 => h2.2 hk)
  refine zds (tag f d) base hgd s x t e z bytes ho ht hinfo hz hs0 hb0 v xs.zipIdx (p, xs.length) cs ok okp hs hx (d.M_mono (fun k hk => ⟨hk, hf k hk⟩) hp) hokp hfresh (zbz hR (fun _ hk => hk.1)) HB hbase (by rw [List.length_zipIdx]; exact hl) ?_
  intro v1 w1 hr
  rw [← zip_snoc] at hr
  exact h v1 w1 ⟨f, hr⟩
theorem S_lit (d : Kd α) {w0 W : World} (base e : Nat) (hgd : o.guard = none) {N : Tmp} (_hd : o.dst = some N) {xs : List α} {inner : List Value} {ok okp : Nat → Prop}
    (hrun : (execOp a.eval o).run P W = .ok (.value (.slice (some ⟨W.heap.size, 0, none⟩) xs.length xs.length)) (W.alloc (.cells inner.toArray e)))
    (hrep : Reps (d.M W base (fun _ => False)) d.sz xs inner) (_hok : ∀ k, okp k → ok k) (hfresh : ok W.heap.size) (HB : Below base w0 W) (hbase : base ≤ W.heap.size) (hm : xs.length ≤ 9223372036854775807)
    (h : ∀ v1 w1, S d e w1 base ok v1 xs → Below base w0 w1 → W.grownBy w1 none → (∃ b, v1.ownBlock = some b ∧ W.heap.size ≤ b) → wpList P ops Q rest (a.put o.dst v1) w1) : wpList P ops Q (o :: rest) a W :=
  zft (bare d) base e hgd _hd (ok := ok) (okp := ok) hrun hrep (fun _ hk => hk) hfresh HB hbase hm (fun v1 w1 hr => h v1 w1 (S_bare hr))
end
def gap {α : Type} (f : Nat → Nat) (d : Kd α) (i : Nat) (c : List Value) : Kd (α × Nat) where
  sz := d.sz
  E := d.E
  K := fun w x cs => (x.2 = i → cs = c ∧ cs.length = d.sz ∧ ∀ u ∈ cs, u.oneCell' = true) ∧ (x.2 ≠ i → d.K w x.1 cs)
  M := fun w base ok x cs => (x.2 = i → cs = c ∧ cs.length = d.sz ∧ ∀ u ∈ cs, u.oneCell' = true) ∧ (x.2 ≠ i → d.M w base (fun k => ok k ∧ f k = x.2) x.1 cs)
  K_len := fun {w x cs} h => by
    by_cases hx : x.2 = i
    · exact (h.1 hx).2.1
    · exact d.K_len (h.2 hx)
  K_one := fun {w x cs} h => by
    by_cases hx : x.2 = i
    · exact (h.1 hx).2.2
    · exact d.K_one (h.2 hx)
  K_below := fun hb h => ⟨h.1, fun hx => d.K_below hb (h.2 hx)⟩
  K_of_M := fun h => ⟨h.1, fun hx => d.K_of_M (h.2 hx)⟩
  M_mono := fun hok h => ⟨h.1, fun hx => d.M_mono (fun k hk => ⟨hok k hk.1, hk.2⟩) (h.2 hx)⟩
  M_bound := fun h => ⟨h.1, fun hx => d.M_mono (fun _ hk => ⟨⟨hk.1.1, hk.2⟩, hk.1.2⟩) (d.M_bound (h.2 hx))⟩
  M_move := fun hm h => ⟨h.1, fun hx => d.M_move (fun k hk => hm k hk.1) (h.2 hx)⟩
  M_lower := fun hb h => ⟨h.1, fun hx => d.M_lower hb (h.2 hx)⟩
def H {α : Type} (d : Kd α) (e : Nat) (w : World) (base : Nat) (ok : Nat → Prop) (v : Value) (xs : List α) (i : Int) (oki : Nat → Prop) (c : List Value) : Prop :=
  (∀ k, oki k → ok k) ∧ ∃ f, (gap f d i.toNat c).R e w base (fun k => ok k ∧ ¬ oki k) v xs.zipIdx
section
variable {α β : Type} {d : Kd α} {e e' g n cap : Nat} {w w1 W : World} {base : Nat} {ok ok' oki okp : Nat → Prop} {u v : Value} {xs : List α} {i : Int} {c : List Value}
open Classical in
end
section
variable {P : Program} {ops : Array Oper} {rest : List Oper} {o : Oper} {a : Act} {Q : Exit → Act → World → Prop} {α : Type}
end
end Kd
namespace Kd
structure Heap {α : Type} (d : Kd α) : Prop where
  K : ∀ {w w1 : World} {x : α} {cs : List Value}, (∀ k, k < w.heap.size → w1.heap[k]? = w.heap[k]?) → d.K w x cs → d.K w1 x cs
theorem cell_heap {w w1 : World} (hb : ∀ k, k < w.heap.size → w1.heap[k]? = w.heap[k]?) {a : Addr} {v : Value} (h : w.cell? a = some v) : w1.cell? a = some v := by
  have := hb a.block (World.block_lt_of_cell? w a h)
  simpa [World.cell?, this] using h
theorem Heap.C {α : Type} {d : Kd α} (hd : Heap d) {w w1 : World} {A : Option Addr} {n : Nat} {xs : List α} (hb : ∀ k, k < w.heap.size → w1.heap[k]? = w.heap[k]?) (h : d.C w A n xs) : d.C w1 A n xs :=
  ⟨h.1, h.2.1, fun hn => by
    obtain ⟨ad, e, hc⟩ := h.2.2 hn
    refine ⟨ad, e, fun j p hj => ?_⟩
    obtain ⟨c, hs, hr, hcell⟩ := hc j p hj
    exact ⟨c, hs, hd.K hb hr, fun i u hu => cell_heap hb (hcell i u hu)⟩⟩
section
variable {α : Type} {d : Kd α} {e base g n c : Nat} {ok : Nat → Prop} {w w0 W : World} {A : Option Addr} {xs : List α}
end
end Kd
def Kept (w W : World) (S : Nat → Prop) : Prop := w.heap.size ≤ W.heap.size ∧ ∀ i, i < w.heap.size → ¬ S i → W.heap[i]? = w.heap[i]?
section
variable {w W W2 : World} {S S2 S' : Nat → Prop}
theorem Kept.refl (w : World) (S : Nat → Prop) : Kept w w S := ⟨Nat.le_refl _, fun _ _ _ => rfl⟩
theorem Kept.of_below (h : Below w.heap.size w W) (S : Nat → Prop) : Kept w W S := ⟨h.size, fun i hi _ => h.block i hi⟩
theorem Kept.mono (h : Kept w W S) (hs : ∀ k, S k → S' k) : Kept w W S' := ⟨h.1, fun i hi hn => h.2 i hi (fun hk => hn (hs i hk))⟩
theorem Kept.then_ (h : Kept w W S) (k : Kept W W2 S2) (hs : ∀ k, S2 k → S k ∨ w.heap.size ≤ k) : Kept w W2 S :=
  ⟨Nat.le_trans h.1 k.1, fun i hi hn => (k.2 i (Nat.lt_of_lt_of_le hi h.1) (fun h2 => (hs i h2).elim hn (fun h3 => by omega))).trans (h.2 i hi hn)⟩
theorem Kept.zd7 {row : Option Nat} (hg : W.grownBy W2 row) (h : Kept w W S) (hr : ∀ k, row = some k → S k ∨ w.heap.size ≤ k) : Kept w W2 S :=
  h.then_ (S2 := fun k => row = some k) ⟨hg.size, fun i hi hn => hg.block i hi (fun he => hn he.symm)⟩ hr
theorem Kept.below (h : Kept w W S) (hb : Below W.heap.size W W2) : Kept w W2 S := h.then_ (Kept.of_below hb (fun _ => False)) (fun _ hk => hk.elim)
theorem Kept.alloc (h : Kept w W S) (o : Obj) : Kept w (W.alloc o) S := h.below (zbo (Below.refl _ _) o)
theorem Kept.drew (h : Kept w W S) : Kept w W.drew S := h
theorem Kept.drewN (h : Kept w W S) (m : Nat) : Kept w (W.drewN m) S := h
theorem Kept.setCell (h : Kept w W S) {p : Addr} (hp : S p.block ∨ w.heap.size ≤ p.block) (u : Value) : Kept w (W.setCell p u) S :=
  h.then_ (S2 := fun k => k = p.block) ⟨by simp [World.setCell], fun i _ hn => Below.heap_setCell W p u i hn⟩ (fun k hk => by rw [hk]; exact hp)
theorem blk_kept {g : Nat} {o : Obj} (hb : W.heap[g]? = some o) (hk : Kept W W2 S) (hne : ¬ S g) : W2.heap[g]? = some o := (hk.2 g (zer hb) hne).trans hb
end
namespace Kd
section
variable {α : Type} {d : Kd α} {e base n c : Nat} {ok oki S S2 : Nat → Prop} {w w0 W W1 W2 : World} {v : Value} {A : Option Addr} {xs : List α} {i : Int} {cs : List Value}
end
end Kd
def Foot (P : World → Prop) (W : World) (ok : Nat → Prop) : Prop := ∀ W' : World, (∀ k, ok k → k < W.heap.size → W'.heap[k]? = W.heap[k]?) → P W'
theorem heap_lt {W W1 : World} {k : Nat} (h : W1.heap[k]? = W.heap[k]?) (hlt : k < W.heap.size) : k < W1.heap.size := by
  rw [Array.getElem?_eq_getElem hlt] at h
  exact (Array.getElem?_eq_some_iff.1 h).1
namespace Foot
variable {P Q : World → Prop} {W W1 : World} {ok ok' : Nat → Prop}
theorem now (h : Foot P W ok) : P W := h W (fun _ _ _ => rfl)
theorem mono (h : Foot P W ok) (hok : ∀ k, ok k → ok' k) : Foot P W ok' := fun W' hW => h W' (fun k hk hlt => hW k (hok k hk) hlt)
theorem bound (h : Foot P W ok) : Foot P W (fun k => ok k ∧ k < W.heap.size) := fun W' hW => h W' (fun k hk hlt => hW k ⟨hk, hlt⟩ hlt)
theorem step (h : Foot P W ok) (hm : ∀ k, ok k → k < W.heap.size → W1.heap[k]? = W.heap[k]?) : Foot P W1 ok := fun W' hW => h W' (fun k hk hlt => (hW k hk (heap_lt (hm k hk hlt) hlt)).trans (hm k hk hlt))
theorem old (h : Foot P W ok) (hb : Below W.heap.size W W1) : Foot P W1 (fun k => ok k ∧ k < W.heap.size) := (h.bound).step (fun k _ hlt => hb.block k hlt)
end Foot
namespace Kd
def F {α : Type} (d : Kd α) (W : World) (ok : Nat → Prop) (A : Option Addr) (n : Nat) (xs : List α) : Prop := Foot (fun W => d.C W A n xs) W ok
def FK {α : Type} (d : Kd α) (W : World) (ok : Nat → Prop) (x : α) (c : List Value) : Prop := Foot (fun W => d.K W x c) W ok
section
variable {α β : Type} {d : Kd α} {e base n n' cc g N : Nat} {ok ok' okp S : Nat → Prop} {w w0 w1 W W1 : World} {A A' : Option Addr} {u v v1 : Value} {xs : List α} {xs' : List β} {d' : Kd β} {x : α} {c : List Value}
end
end Kd
namespace Kd
section
variable {α : Type} {d : Kd α} {e base n cc g : Nat} {ok ok' okp S : Nat → Prop} {w w1 W W1 : World} {A : Option Addr} {u v v1 : Value} {xs : List α} {x : α} {c : List Value}
def N {α : Type} (d : Kd α) (e : Nat) (w : World) (base : Nat) (ok : Nat → Prop) (v : Value) (xs : List α) : Prop :=
  (∀ k, v.ownBlock = some k → ok k) ∧ ∃ rows : List (List Value), rows.length = xs.length ∧ (raw d.sz).R e w base (fun k => some k = v.ownBlock) v rows ∧ ∀ (j : Nat) (x : α) (c : List Value), xs[j]? = some x → rows[j]? = some c → FK d w (fun k => ok k ∧ some k ≠ v.ownBlock) x c
end
end Kd
end Go.Proofs.YtebgfobjhlcopaaW.PrintWords
namespace Go.Proofs.YtebgfobjhlcopaaW.PrintWords
theorem Reps.one {α : Type} {R : α → List Value → Prop} {ps : List α} {cs : List Value} {p : α} {v : Value} (hp : R p [v]) (h : Reps R 1 ps cs) : Reps R 1 (p :: ps) (v :: cs) := by
  refine ⟨by simp [h.1], fun j q hq => ?_⟩
  cases j with
  | zero =>
    simp only [List.getElem?_cons_zero, Option.some.injEq] at hq
    subst hq
    simpa using hp
  | succ j =>
    simp only [List.getElem?_cons_succ] at hq
    have h1 := h.2 j q hq
    simpa [Nat.mul_one] using h1
theorem Reps.front {α : Type} {R : α → List Value → Prop} {size : Nat} {ps : List α} {cs c all : List Value} {p : α} (hp : R p c) (hc : c.length = size) (h : Reps R size ps cs) (ha : c ++ cs = all) : Reps R size (p :: ps) all := by
  subst ha
  refine ⟨by rw [List.length_append, hc, h.1, List.length_cons, Nat.succ_mul, Nat.add_comm], fun j q hq => ?_⟩
  cases j with
  | zero =>
    simp only [List.getElem?_cons_zero, Option.some.injEq] at hq
    subst hq
    rw [Nat.zero_mul, List.drop_zero, List.take_append_of_le_length (by omega), List.take_of_length_le (by omega)]
    exact hp
  | succ j =>
    simp only [List.getElem?_cons_succ] at hq
    have h1 := h.2 j q hq
    rw [Nat.succ_mul, List.drop_append, List.drop_of_length_le (by rw [hc]; exact Nat.le_add_left _ _), List.nil_append, hc, Nat.add_sub_cancel]
    exact h1
theorem Reps.c2 {α : Type} {R : α → List Value → Prop} {ps : List α} {cs : List Value} {p : α} {va vb : Value} (hp : R p [va, vb]) (h : Reps R 2 ps cs) : Reps R 2 (p :: ps) (va :: vb :: cs) := Reps.front hp rfl h rfl
theorem Reps.c3 {α : Type} {R : α → List Value → Prop} {ps : List α} {cs : List Value} {p : α} {va vb vc : Value} (hp : R p [va, vb, vc]) (h : Reps R 3 ps cs) : Reps R 3 (p :: ps) (va :: vb :: vc :: cs) := Reps.front hp rfl h rfl
theorem Reps.c4 {α : Type} {R : α → List Value → Prop} {ps : List α} {cs : List Value} {p : α} {va vb vc vd : Value} (hp : R p [va, vb, vc, vd]) (h : Reps R 4 ps cs) : Reps R 4 (p :: ps) (va :: vb :: vc :: vd :: cs) := Reps.front hp rfl h rfl
theorem Reps.c5 {α : Type} {R : α → List Value → Prop} {ps : List α} {cs : List Value} {p : α} {va vb vc vd ve : Value} (hp : R p [va, vb, vc, vd, ve]) (h : Reps R 5 ps cs) : Reps R 5 (p :: ps) (va :: vb :: vc :: vd :: ve :: cs) := Reps.front hp rfl h rfl
theorem Reps.c6 {α : Type} {R : α → List Value → Prop} {ps : List α} {cs : List Value} {p : α} {va vb vc vd ve vf : Value} (hp : R p [va, vb, vc, vd, ve, vf]) (h : Reps R 6 ps cs) : Reps R 6 (p :: ps) (va :: vb :: vc :: vd :: ve :: vf :: cs) := Reps.front hp rfl h rfl
theorem Reps.c7 {α : Type} {R : α → List Value → Prop} {ps : List α} {cs : List Value} {p : α} {va vb vc vd ve vf vg : Value} (hp : R p [va, vb, vc, vd, ve, vf, vg]) (h : Reps R 7 ps cs) : Reps R 7 (p :: ps) (va :: vb :: vc :: vd :: ve :: vf :: vg :: cs) := Reps.front hp rfl h rfl
theorem Reps.c8 {α : Type} {R : α → List Value → Prop} {ps : List α} {cs : List Value} {p : α} {va vb vc vd ve vf vg vh : Value} (hp : R p [va, vb, vc, vd, ve, vf, vg, vh]) (h : Reps R 8 ps cs) : Reps R 8 (p :: ps) (va :: vb :: vc :: vd :: ve :: vf :: vg :: vh :: cs) := Reps.front hp rfl h rfl
theorem Reps.c9 {α : Type} {R : α → List Value → Prop} {ps : List α} {cs : List Value} {p : α} {va vb vc vd ve vf vg vh vi : Value} (hp : R p [va, vb, vc, vd, ve, vf, vg, vh, vi]) (h : Reps R 9 ps cs) : Reps R 9 (p :: ps) (va :: vb :: vc :: vd :: ve :: vf :: vg :: vh :: vi :: cs) := Reps.front hp rfl h rfl
theorem Reps.c10 {α : Type} {R : α → List Value → Prop} {ps : List α} {cs : List Value} {p : α} {va vb vc vd ve vf vg vh vi vj : Value} (hp : R p [va, vb, vc, vd, ve, vf, vg, vh, vi, vj]) (h : Reps R 10 ps cs) : Reps R 10 (p :: ps) (va :: vb :: vc :: vd :: ve :: vf :: vg :: vh :: vi :: vj :: cs) := Reps.front hp rfl h rfl
end Go.Proofs.YtebgfobjhlcopaaW.PrintWords
namespace Go.Proofs.YtebgfobjhlcopaaW.PrintLast
def up (b : Nat → Bool) (i : Nat) : Nat → Bool := fun j => if j = i then true else b j
section
variable {P : Program} {ops : Array Oper} {Q : Exit → Act → World → Prop} {md : Region.Mode} {T : Bool × List (List Nat × List Nat)} {B : List Nat} {O : List Nat} {b : Nat → Bool} {i j n : Nat}
end
end Go.Proofs.YtebgfobjhlcopaaW.PrintLast
namespace Go.Proofs.YtebgfobjhlcopaaW.PrintWords
open Go.RowKit
section
variable {P : Program} {ops : Array Oper} {rest : List Oper} {o : Oper} {a : Act} {Q : Exit → Act → World → Prop} {W : World}
theorem zca (hw : Region.wanted o (yielded ops a.tmps) = true) (h : wpList P ops Q ({ o with guard := none } :: rest) a W) : wpList P ops Q (o :: rest) a W := by
  have h1 : Region.wanted { o with guard := none } (yielded ops a.tmps) = true := rfl
  unfold wpList at h ⊢
  rw [if_pos h1] at h
  rw [if_pos hw]
  exact h
end
end Go.Proofs.YtebgfobjhlcopaaW.PrintWords
namespace Go.Proofs.YtebgfobjhlcopaaW.PrintMore
open Go.RowKit Go.Proofs.YtebgfobjhlcopaaW.PrintWords
namespace Kd
open Go.Proofs.YtebgfobjhlcopaaW.PrintWords.Kd
end Kd
namespace Kd
open Go.Proofs.YtebgfobjhlcopaaW.PrintWords.Kd
section
variable {α : Type} {d : Kd α} {e base g N : Nat} {ok : Nat → Prop} {W w1 : World} {u v : Value} {xs : List α}
theorem R_old (hu : d.R e W base ok u xs) (hb : Below W.heap.size W w1) : d.R e w1 base (fun k => ok k ∧ k < W.heap.size) u xs :=
  zbz (zc3 (zc2 hu) hb) (fun _ h => ⟨h.1, h.2.2.1⟩)
theorem R_told (h : d.R e w1 base (fun k => ok k ∧ k < N) u xs) (hbase : ∀ k, v.ownBlock = some k → N ≤ k) : d.R e w1 base (fun k => (ok k ∧ some k ≠ v.ownBlock) ∧ k < N) u xs :=
  zbz h (fun k hk => ⟨⟨hk.1, fun e => Nat.lt_irrefl _ (Nat.lt_of_lt_of_le hk.2 (hbase k e.symm))⟩, hk.2⟩)
end
end Kd
theorem zfw (k k' : IntKind) (x y : Int) : Builtin.max2 (.int k x) (.int k' y) = pure (.int k (if x < y then y else x)) := by simp only [Builtin.max2, gt_iff_lt]
theorem zfx (k k' : IntKind) (x y : Int) : Builtin.min2 (.int k x) (.int k' y) = pure (.int k (if y < x then y else x)) := by simp only [Builtin.min2]
theorem zhc (ats : Array TypeId) (ty : TypeId) (a b : Value) : Builtin.max_ ats ty #[a, b] = (Builtin.max2 a b >>= fun s => pure s) := by simp only [Builtin.max_, List.foldlM_cons, List.foldlM_nil]
theorem zhd (ats : Array TypeId) (ty : TypeId) (a b : Value) : Builtin.min_ ats ty #[a, b] = (Builtin.min2 a b >>= fun s => pure s) := by simp only [Builtin.min_, List.foldlM_cons, List.foldlM_nil]
theorem zfe (ats : Array TypeId) (ty : TypeId) (a b c : Value) : Builtin.max_ ats ty #[a, b, c] = (Builtin.max2 a b >>= fun s => Builtin.max2 s c >>= fun s => pure s) := by simp only [Builtin.max_, List.foldlM_cons, List.foldlM_nil]
theorem zff (ats : Array TypeId) (ty : TypeId) (a b c : Value) : Builtin.min_ ats ty #[a, b, c] = (Builtin.min2 a b >>= fun s => Builtin.min2 s c >>= fun s => pure s) := by simp only [Builtin.min_, List.foldlM_cons, List.foldlM_nil]
theorem zfy (ats : Array TypeId) (ty : TypeId) (a b c d : Value) : Builtin.max_ ats ty #[a, b, c, d] = (Builtin.max2 a b >>= fun s => Builtin.max2 s c >>= fun s => Builtin.max2 s d >>= fun s => pure s) := by simp only [Builtin.max_, List.foldlM_cons, List.foldlM_nil]
theorem zfz (ats : Array TypeId) (ty : TypeId) (a b c d : Value) : Builtin.min_ ats ty #[a, b, c, d] = (Builtin.min2 a b >>= fun s => Builtin.min2 s c >>= fun s => Builtin.min2 s d >>= fun s => pure s) := by simp only [Builtin.min_, List.foldlM_cons, List.foldlM_nil]
end Go.Proofs.YtebgfobjhlcopaaW.PrintMore
namespace Go.Proofs.YtebgfobjhlcopaaW.PrintWords
open Go.RowKit
section
variable {P : Program} {ops : Array Oper} {rest : List Oper} {o : Oper} {a : Act} {Q : Exit → Act → World → Prop} {W : World}
theorem zbd {f : FuncId} {as_ : Array Operand} {ts : Array TypeId} (_ho : o.op = .call { callee := .value (.func f), args := as_, argTypes := ts }) (h : wpList P ops Q (o :: rest) a W) : wpList P ops Q (o :: rest) a W := h
theorem zb4 {b : Builtin} {xs : Array Operand} {ts : Array TypeId} (_ho : o.op = .call { callee := .builtin b, args := xs, argTypes := ts }) (h : wpList P ops Q (o :: rest) a W) : wpList P ops Q (o :: rest) a W := h
end
namespace Kd
section
variable {α : Type} {d : Kd α} {e base : Nat} {ok : Nat → Prop} {W w1 : World} {v : Value} {xs : List α}
end
section
variable {α : Type} {d : Kd α} {e base g n cap : Nat} {ok oki okp : Nat → Prop} {W : World} {xs : List α} {i : Int} {c : List Value}
end
section
variable {α : Type} {d : Kd α} {e base b b' g N : Nat} {ok ok1 : Nat → Prop} {W W2 w1 : World} {u v : Value} {xs ys : List α} {S : Nat → Prop}
end
end Kd
end Go.Proofs.YtebgfobjhlcopaaW.PrintWords
namespace Go.Proofs.YtebgfobjhlcopaaW.PrintWords
open Go.RowKit
namespace Kd
def V {α : Type} (d : Kd α) (_e : Nat) (W : World) (_base : Nat) (ok : Nat → Prop) (v : Value) (xs : List α) : Prop := ∃ A c, v = .slice A xs.length c ∧ xs.length ≤ c ∧ F d W ok A xs.length xs
section
variable {α β : Type} {d : Kd α} {e base base' n m c g N' lo hi : Nat} {ok ok' S : Nat → Prop} {w W w1 : World} {A : Option Addr} {ad : Addr} {u v v1 : Value} {xs : List α}
end
end Kd
end Go.Proofs.YtebgfobjhlcopaaW.PrintWords
namespace Go.Proofs.Ytebgfobjhlcopaa.P
open Go.RowKit Go.Proofs.YtebgfobjhlcopaaW.PrintWords Go.Proofs.YtebgfobjhlcopaaW.PrintLast Go.Proofs.YtebgfobjhlcopaaW.PrintMore
attribute [local go_sem] zfw zfx zhc zhd zfe zff zfy zfz
set_option linter.unusedVariables false
set_option linter.unusedSimpArgs false
def errW : Option Int → Value
 | none => .nilIface
 | some c => .iface 0 (.int .i64 c)
theorem zq : errW none = .nilIface := rfl
theorem zt (c : Int) : errW (some c) = .iface 0 (.int .i64 c) := rfl
theorem info3 : (Try.prog.info? 3).map (fun i => (i.zero, i.size, i.bytes)) = some (some (.int .i64 0), 1, 8) := by kernel_rfl
theorem info5 : (Try.prog.info? 5).map (fun i => (i.zero, i.size, i.bytes)) = some (some (.int .u8 0), 1, 1) := by kernel_rfl
theorem zgb : (Try.prog.info? 23).map (fun i => (i.zero, i.size, i.bytes)) = some (some (.slice none 0 0), 1, 24) := by kernel_rfl
def zh (xs : List (List Int)) (i : Int) : (List Int) := xs.getD i.toNat ([] : List Int)
theorem zc6 {w : World} {A : Option Addr} {n : Nat} {xs : List (List Int)} (h : Kd.C (Kd.slice 3 (Kd.int .i64)) w A n xs) (i : Int) (h0 : 0 ≤ i) (h1 : i < n) : ∃ ad A0 c0, A = some ad ∧ w.cell? (ad.add i.toNat) = some (.slice A0 (zh xs i).length c0) ∧ (zh xs i).length ≤ c0 ∧ (Kd.int .i64).C w A0 (zh xs i).length (zh xs i) := by
 obtain ⟨ad, c, e, _, hK, hc0⟩ := Kd.C_get h ([] : List Int) i h0 h1
 have hc : ∀ j u, c[j]? = some u → w.cell? (ad.add (i.toNat * 1 + j)) = some u := hc0
 obtain ⟨A0, c0, rfl, l0, g0⟩ := hK
 exact ⟨ad, A0, c0, e, by have hq := hc 0 _ rfl; rwa [Nat.mul_one, Nat.add_zero] at hq, l0, g0⟩
theorem Zas {P : Prop} (h : P := by first | (with_reducible assumption) | assumption) : P := h
theorem Zq1 {X0 P : Prop} (x0 : za X0) (h : X0 → P := by intro x0; repeat (first | (with_reducible first | exact x0 | apply zbo | apply zbk | apply zbr) | exact x0)) : P := h x0.out
theorem Zq2 {X0 P : Prop} (x0 : za X0) (h : X0 → P := by intro x0; (with_reducible repeat (first | refine zbw ?_ _ | refine zbv ?_ | refine zb0 ?_ _)); exact x0) : P := h x0.out
theorem Zq3 {X0 X1 P : Prop} (x0 : za X0) (x1 : za X1) (h : X0 → X1 → P := by intro x0 x1; repeat (first | (with_reducible first | exact x0 | apply zbo | apply zbk | apply zbr | refine zdn ?_ x1) | exact x0)) : P := h x0.out x1.out
def zx (w0 W : World) (g : Nat) (f0 : List Int) (f1 : Int) : Prop := ∃ A0 c0, W.heap[g]? = some (.cells #[.slice A0 f0.length c0, .int .i64 f1] 63 (0, 0)) ∧ w0.heap.size ≤ g ∧ Kd.C (Kd.int .u8) w0 A0 f0.length f0
theorem zx.grown {w0 W : World} {g : Nat} {f0 : List Int} {f1 : Int} {W1 : World} {row : Option Nat} (h : zx w0 W g f0 f1) (hw : W.grownBy W1 row) (hne : some g ≠ row) : zx w0 W1 g f0 f1 := by
 obtain ⟨A0, c0, hb, hg, hr0⟩ := h
 exact ⟨A0, c0, zes hb hw hne, hg, hr0⟩
theorem zx.kept {w0 W : World} {g : Nat} {f0 : List Int} {f1 : Int} {W1 : World} {S : Nat → Prop} (h : zx w0 W g f0 f1) (hk : Kept W W1 S) (hne : ¬ S g) : zx w0 W1 g f0 f1 := by
 obtain ⟨A0, c0, hb, hg, hr0⟩ := h
 exact ⟨A0, c0, blk_kept hb hk hne, hg, hr0⟩
theorem zx.below {w0 W : World} {g : Nat} {f0 : List Int} {f1 : Int} {W1 : World} (h : zx w0 W g f0 f1) (hw : Below W.heap.size W W1) : zx w0 W1 g f0 f1 := h.grown (ze0 hw none) (by simp)
theorem zx.alloc {w0 W : World} {g : Nat} {f0 : List Int} {f1 : Int} (h : zx w0 W g f0 f1) (o : Obj) : zx w0 (W.alloc o) g f0 f1 := h.below (zbo (Below.refl _ _) o)
theorem zx.drewN {w0 W : World} {g : Nat} {f0 : List Int} {f1 : Int} (h : zx w0 W g f0 f1) (m : Nat) : zx w0 (W.drewN m) g f0 f1 := h
theorem zx.drew {w0 W : World} {g : Nat} {f0 : List Int} {f1 : Int} (h : zx w0 W g f0 f1) : zx w0 W.drew g f0 f1 := h
theorem zx.at_ {w0 W : World} {g : Nat} {f0 : List Int} {f1 : Int} {w' : World} {m : Nat} (hq : W.drewN m = w') (h : zx w0 W g f0 f1) : zx w0 w' g f0 f1 := by subst hq; exact zx.drewN h m
theorem zx.apart {w0 W : World} {g : Nat} {f0 : List Int} {f1 : Int} {α : Type} {d : Kd α} {e : Nat} {base : Nat} {ok : Nat → Prop} {v : Value} {xs : List α} (h : zx w0 W g f0 f1) (ho : d.R e W base ok v xs) (ht : ∀ q, q ∈ e :: d.E → q ≠ 63) : d.R e W base (fun k => ok k ∧ k ≠ g) v xs := by
 obtain ⟨A0, c0, hb, hg, hr0⟩ := h
 exact Kd.zib ho hb ht
theorem zx.own_ne {w0 W : World} {g : Nat} {f0 : List Int} {f1 : Int} {α : Type} {d : Kd α} {e : Nat} {base : Nat} {ok : Nat → Prop} {v : Value} {xs : List α} (h : zx w0 W g f0 f1) (ho : d.R e W base ok v xs) (ht : e ≠ 63) : some g ≠ v.ownBlock := by
 obtain ⟨A0, c0, hb, hg, hr0⟩ := h
 exact Kd.R_ne ho hb ht
theorem zx.zd2 {w0 W : World} {g : Nat} {f0 : List Int} {f1 : Int} {α : Type} {d : Kd α} {e : Nat} {base : Nat} {ok : Nat → Prop} {v : Value} {xs : List α} (h : zx w0 W g f0 f1) (ho : d.S e W base ok v xs) (ht : ∀ q, q ∈ e :: d.E → q ≠ 63) : d.S e W base (fun k => ok k ∧ k ≠ g) v xs := by
 obtain ⟨A0, c0, hb, hg, hr0⟩ := h
 exact Kd.S_types ho hb ht
theorem zx.zhe {w0 W : World} {g : Nat} {f0 : List Int} {f1 : Int} {α : Type} {d : Kd α} {e : Nat} {base : Nat} {ok : Nat → Prop} {v : Value} {xs : List α} (h : zx w0 W g f0 f1) (ho : d.S e W base ok v xs) (ht : e ≠ 63) : some g ≠ v.ownBlock := by
 obtain ⟨A0, c0, hb, hg, hr0⟩ := h
 exact Kd.S_ne ho hb ht
theorem zx.ge {w0 W : World} {g : Nat} {f0 : List Int} {f1 : Int} (h : zx w0 W g f0 f1) : w0.heap.size ≤ g := by
 obtain ⟨A0, c0, hb, hg, hr0⟩ := h
 exact hg
theorem zx.far {w0 W : World} {g : Nat} {f0 : List Int} {f1 : Int} {p : Addr} (h : zx w0 W g f0 f1) (hne : g ≠ p.block) (u : Value) : zx w0 (W.setCell p u) g f0 f1 := by
 obtain ⟨A0, c0, hb, hg, hr0⟩ := h
 exact ⟨A0, c0, zem hb hne u, hg, hr0⟩
theorem zfg {W : World} {g : Nat} {A0 : Option Addr} {c0 : Nat} {f0 : List Int} {f1 : Int} (h : W.heap[g]? = some (.cells #[.slice A0 f0.length c0, .int .i64 f1] 63 (0, 0))) : W.cell? ⟨g, 0, none⟩ = some (.slice A0 f0.length c0) := (z8 h 0).trans rfl
theorem zfh {W : World} {g : Nat} {A0 : Option Addr} {c0 : Nat} {f0 : List Int} {f1 : Int} (h : W.heap[g]? = some (.cells #[.slice A0 f0.length c0, .int .i64 f1] 63 (0, 0))) : W.cell? ⟨g, 1, none⟩ = some (.int .i64 f1) := (z8 h 1).trans rfl
theorem zx.set_1 {w0 W : World} {g : Nat} {f0 : List Int} {f1 : Int} (h : zx w0 W g f0 f1) (x : Int) : zx w0 (W.setCell ⟨g, 1, none⟩ (.int .i64 x)) g f0 x := by
 obtain ⟨A0, c0, hb, hg, hr0⟩ := h
 exact ⟨A0, c0, by simpa using zh9 hb 1 (.int .i64 x), hg, hr0⟩
theorem zx.new (w0 W : World) (A0 : Option Addr) (c0 : Nat) (f0 : List Int) (f1 : Int) (hB : Below w0.heap.size w0 W) (hr0 : Kd.C (Kd.int .u8) w0 A0 f0.length f0) : zx w0 (W.alloc (.cells #[.slice A0 f0.length c0, .int .i64 f1] 63)) W.heap.size f0 f1 := ⟨A0, c0, by simpa using heap_alloc_new W _, hB.size, hr0⟩
def zcy.f (l0 : List Int) : Option (List Int × Int) := if (l0.length : Int) > 2000 then (if 2000 ≤ (l0.length : Int) then (some (l0.take 2000, 0)) else (none)) else (some (l0, 0))
set_option maxHeartbeats 8000000 in
theorem zcy.calls (A0 : Option Addr) (c0 : Nat) (l0 : List Int) (r1 : List Int) (r2 : Int) (w0 w : World) (hB : Below w0.heap.size w0 w) (hr0 : Kd.C (Kd.int .u8) w0 A0 l0.length l0) (hc0 : l0.length ≤ c0) (h : zcy.f l0 = some (r1, r2)) :
  Calls Try.prog 43 #[.slice A0 l0.length c0] w fun e w' => ∃ g_ : Nat, e = .returned (.pointer (some ⟨g_, 0, none⟩)) ∧ zx w0 w' g_ r1 r2 ∧ Below w0.heap.size w0 w' ∧ Below w.heap.size w w' := by
 have hu63 := Try.underlying63
 have HR0 := za.mk hr0
 have HC0 := za.mk hc0
 clear hr0 hc0
 have HBW := za.mk (Below.refl w.heap.size w)
 have HW0 := za.mk hB.size
 have HB := za.mk hB
 clear hB
 have H : (if (l0.length : Int) > 2000 then (if 2000 ≤ (l0.length : Int) then (some (l0.take 2000, 0)) else (none)) else (some (l0, 0))) = some (r1, r2) := h
 clear h
 by_cases c2 : (l0.length : Int) > 2000
 ·rw [if_pos c2] at H
  have c2b0 : decide (2000 < (l0.length : Int)) = true := decide_eq_true c2;have c2b1 : decide (2000 < l0.length) = true := decide_eq_true (by omega);clear c2;by_cases c3 : 2000 ≤ (l0.length : Int)
  ·rw [if_pos c3] at H
   have c3b0 := eq_true c3;have c3b1 : decide (2000 ≤ (l0.length : Int)) = true := decide_eq_true c3;clear c3;simp only [Option.some.injEq, Prod.mk.injEq] at H;obtain ⟨rfl, rfl⟩ := H;obtain ⟨i04, hi04, _, hsz4, _⟩ := info_parts info5;obtain ⟨hcut4, hA4, hC4⟩ := zg2 (P := Try.prog) (Value.int .u8) 0 22 5 .i64 Try.underlying22 hi04 hsz4 A0 c0 l0 2000 (by omega) (of_decide_eq_true Zas) HC0.out;have HR101 := za.mk (Kd.C_of_reads (h1 := fun _ => rfl) (hA4 _ (Kd.zfl HR0.out)));have HC101 := za.mk hC4;clear hA4 hC4 hi04 hsz4;go_enter Try.func43, Try.ntmps43;go_wp2_with (first | ((with_reducible refine zb8 (N := 10) rfl ?_); refine zdu ?hg (N := 10) ?hd (cs := #[.slice A0 (l0.take 2000).length c0, .int .i64 0]) (t := 63) ?hr ?_; (case hd => rfl); (case hg => rfl); (case hr => first | (go_simp; done) | (go_simp; rfl)); intro gb102 hg w5 hbox hb; have n0_ := za.mk (zbi HBW.out hb); have n1_ := za.mk (zbi (Zq1 HB) hb); have n2_ := za.mk (hbox); have n3_ := za.mk ((by rw [hg]; exact (zbs (Zq1 HBW)) : w.heap.size ≤ gb102)); have n4_ := za.mk ((Nat.le_trans HW0.out (by rw [hg]; exact (zbs (Zq1 HBW)) : w.heap.size ≤ gb102) : w0.heap.size ≤ gb102)); clear HBW; clear HB; have HBW := n0_; have HB := n1_; have BK102 := n2_; have GW102 := n3_; have GE102 := n4_; clear n0_ n1_ n2_ n3_ n4_; clear hb hbox hg));go_ret;exact ⟨_, rfl, (show zx w0 _ gb102 (l0.take 2000) 0 from ⟨_, _, Zq2 BK102, GE102.out, HR101.out⟩), Zq3 HB GE102, Zq3 HBW GW102⟩
  ·rw [if_neg c3] at H
   exact absurd H (by simp)
 ·rw [if_neg c2] at H
  have c2b0 : decide (2000 < (l0.length : Int)) = false := decide_eq_false c2;have c2b1 : decide (2000 < l0.length) = false := decide_eq_false (by omega);clear c2;simp only [Option.some.injEq, Prod.mk.injEq] at H;obtain ⟨rfl, rfl⟩ := H;go_enter Try.func43, Try.ntmps43;go_wp2_with (first | ((with_reducible refine zb8 (N := 10) rfl ?_); refine zdu ?hg (N := 10) ?hd (cs := #[.slice A0 l0.length c0, .int .i64 0]) (t := 63) ?hr ?_; (case hd => rfl); (case hg => rfl); (case hr => first | (go_simp; done) | (go_simp; rfl)); intro gb103 hg w6 hbox hb; have n0_ := za.mk (zbi HBW.out hb); have n1_ := za.mk (zbi (Zq1 HB) hb); have n2_ := za.mk (hbox); have n3_ := za.mk ((by rw [hg]; exact (zbs (Zq1 HBW)) : w.heap.size ≤ gb103)); have n4_ := za.mk ((Nat.le_trans HW0.out (by rw [hg]; exact (zbs (Zq1 HBW)) : w.heap.size ≤ gb103) : w0.heap.size ≤ gb103)); clear HBW; clear HB; have HBW := n0_; have HB := n1_; have BK103 := n2_; have GW103 := n3_; have GE103 := n4_; clear n0_ n1_ n2_ n3_ n4_; clear hb hbox hg));go_ret;exact ⟨_, rfl, (show zx w0 _ gb103 l0 0 from ⟨_, _, Zq2 BK103, GE103.out, HR0.out⟩), Zq3 HB GE103, Zq3 HBW GW103⟩
theorem Zrs {P : Prop} (h : P := by first | rfl | (simp; done) | (simp [*]; done)) : P := h
theorem Zq5 {X0 P : Prop} (x0 : za X0) (h : X0 → P := by intro x0; repeat (first | (with_reducible first | exact x0 | apply zx.alloc | apply zx.drewN | apply zx.drew | apply zx.set_1) | exact x0)) : P := h x0.out
theorem Zq6 {X0 P : Prop} (x0 : za X0) (h : X0 → P := by intro x0; repeat (first | (with_reducible first | exact x0 | apply zbc.set_ | apply keep_drewN | apply keep_drew | apply keep_alloc) | exact x0)) : P := h x0.out
theorem Zq7 {X0 X1 P : Prop} (x0 : za X0) (x1 : X1) (h : X0 → X1 → P := by intro x0 x1; repeat (first | (with_reducible first | exact x0 | apply zbo | apply zbk | apply zbr | refine zdn ?_ x1) | exact x0)) : P := h x0.out x1
def zg.j0 : Nat → Int → Bool → List Int → Int → Option (Int × Int)
 | 0, _, _, _, _ => none
 | k + 1, x1, x24, x1000, x1001 => if x24 = true then (some (0, x1001)) else (if (wrap64 (x1001 - 1)) < (x1000.length : Int) then (if 0 ≤ (wrap64 (x1001 - 1)) then (if x1 = 0 then (none) else (some (Int.tmod (wrap64 (rd x1000 (wrap64 (x1001 - 1)))) x1, x1001))) else (none)) else (if (x1000.length : Int) = 0 then (none) else (if 0 ≤ (Int.tmod (wrap64 (x1001 - 1)) (x1000.length : Int)) then (if (Int.tmod (wrap64 (x1001 - 1)) (x1000.length : Int)) < (x1000.length : Int) then (if 0 ≤ (Int.tmod (wrap64 ((wrap64 ((wrap64 (x1001 - 1)) * 7)) + 3)) (x1000.length : Int)) then (if (Int.tmod (wrap64 ((wrap64 ((wrap64 (x1001 - 1)) * 7)) + 3)) (x1000.length : Int)) < (x1000.length : Int) then (if x1 = 0 then (none) else (some (Int.tmod (Go.bits .xor .i64 (wrap64 ((wrap64 ((wrap64 ((wrap64 ((wrap64 (rd x1000 (Int.tmod (wrap64 (x1001 - 1)) (x1000.length : Int)))) * 131)) + (wrap64 ((wrap64 (rd x1000 (Int.tmod (wrap64 ((wrap64 ((wrap64 (x1001 - 1)) * 7)) + 3)) (x1000.length : Int)))) * 1117)))) + (wrap64 ((wrap64 (x1001 - 1)) * 29)))) + (wrap64 ((wrap64 (Int.tdiv (wrap64 (x1001 - 1)) (x1000.length : Int))) * 53)))) (wrap64 (Int.tdiv (wrap64 ((wrap64 ((wrap64 ((wrap64 ((wrap64 (rd x1000 (Int.tmod (wrap64 (x1001 - 1)) (x1000.length : Int)))) * 131)) + (wrap64 ((wrap64 (rd x1000 (Int.tmod (wrap64 ((wrap64 ((wrap64 (x1001 - 1)) * 7)) + 3)) (x1000.length : Int)))) * 1117)))) + (wrap64 ((wrap64 (x1001 - 1)) * 29)))) + (wrap64 ((wrap64 (Int.tdiv (wrap64 (x1001 - 1)) (x1000.length : Int))) * 53)))) 64))) x1, x1001))) else (none)) else (none)) else (none)) else (none))))
def zg.f (k : Nat) (s0_0 : List Int) (s0_1 : Int) (a1 : Int) : Option (Int × Int) := if a1 < 1 then (zg.j0 k a1 true s0_0 (wrap64 (s0_1 + 1))) else (zg.j0 k a1 ((s0_0.length : Int) == 0) s0_0 (wrap64 (s0_1 + 1)))
theorem zg.zhx : ∀ k, (∀ y0 y1 y2 y3, LeO (zg.j0 k y0 y1 y2 y3) (zg.j0 (k + 1) y0 y1 y2 y3))
 | 0 => fun _ _ _ _ r h => by simp [zg.j0] at h
 | k + 1 => by
  have ih0 := zg.zhx k
  ·intro y0 y1 y2 y3
   unfold zg.j0
   repeat' first
   | (with_reducible exact ih0 _ _ _ _)
   | (with_reducible exact LeO.refl _)
   | (with_reducible exact LeO.none _)
   | (with_reducible refine LeO.ite ?_ ?_)
   | (with_reducible refine LeO.bind ?_ (fun _ => ?_))
   | exact ih0 _ _ _ _
   | exact LeO.none _
   | refine LeO.ite ?_ ?_
   | refine LeO.bind ?_ (fun _ => ?_)
theorem zg.mono : ∀ a0 a1 a2 k, LeO (zg.f k a0 a1 a2) (zg.f (k + 1) a0 a1 a2) := by
 intro a0 a1 a2 k
 have ih0 := zg.zhx k
 unfold zg.f
 repeat' first
   | (with_reducible exact ih0 _ _ _ _)
   | (with_reducible exact LeO.refl _)
   | (with_reducible exact LeO.none _)
   | (with_reducible refine LeO.ite ?_ ?_)
   | (with_reducible refine LeO.bind ?_ (fun _ => ?_))
   | exact ih0 _ _ _ _
   | exact LeO.none _
   | refine LeO.ite ?_ ?_
   | refine LeO.bind ?_ (fun _ => ?_)
set_option maxHeartbeats 8000000 in
theorem zg.calls (k : Nat) (g : Nat) (s0_0 : List Int) (s0_1 : Int) (a1 : Int) (r1 : Int) (r2 : Int) (w0 w : World) (hI : zx w0 w g s0_0 s0_1) (hB : Below w0.heap.size w0 w) (h : zg.f k s0_0 s0_1 a1 = some (r1, r2)) :
  Calls Try.prog 59 #[.pointer (some ⟨g, 0, none⟩), .int .i64 a1] w fun e w' => e = .returned (.int .i64 r1) ∧ zx w0 w' g s0_0 r2 ∧ Below w0.heap.size w0 w' ∧ zbc w w' g none := by
 have HI0 := za.mk hI
 have HK := za.mk (zbc.refl w g none)
 have HL := za.mk hB.size
 clear hI
 have HW0 := za.mk hB.size
 have HB := za.mk hB
 clear hB
 have H : (if a1 < 1 then (zg.j0 k a1 true s0_0 (wrap64 (s0_1 + 1))) else (zg.j0 k a1 ((s0_0.length : Int) == 0) s0_0 (wrap64 (s0_1 + 1)))) = some (r1, r2) := h
 clear h
 have HC3 := za.mk H
 clear H
 obtain ⟨ASz4_0, cSz4_0, HGz4, hgz4, HSz4_0⟩ := HI0.out
 have hcz4_0 := zfg HGz4
 have hcz4_1 := zfh HGz4
 have hfz4_1 := zy HGz4 1
 clear HGz4 hgz4
 go_enter Try.func59, Try.ntmps59
 go_upto_region 2 with (fail)
 repeat (go_quiet (fail); go_upto_region 2 with (fail))
 go_cut [24] (fun v24 wc => ∃ (kq : Nat) (x24_2 : Bool), v24 = .bool x24_2 ∧ za (zg.j0 kq a1 x24_2 s0_0 (wrap64 (s0_1 + 1)) = some (r1, r2)) ∧ za (kq ≤ k) ∧ za (zx w0 wc g s0_0 (wrap64 (s0_1 + 1))) ∧ za (zbc w wc g none) ∧ za (Below w0.heap.size w0 wc))
 case first =>
  have H := HC3.out;clear HC3;by_cases c5 : a1 < 1
  ·rw [if_pos c5] at H
   have c5b0 : decide (a1 < 1) = true := decide_eq_true c5;clear c5;(first | rw [c5b0] | (simp only [ze, zf]; rw [c5b0]) | skip);have H' := za.mk H;clear H;go_wp2
   repeat (go_quiet (fail); try go_wp2)
   go_meet
   case rel => exact ⟨_, (true), Zrs, H', ⟨by first | omega | exact Nat.le_refl _⟩, ⟨Zq5 HI0⟩, ⟨Zq6 HK⟩, ⟨Zq7 HB (zx.ge HI0.out)⟩⟩
  ·rw [if_neg c5] at H
   have c5b0 : decide (a1 < 1) = false := decide_eq_false c5;clear c5;(first | rw [c5b0] | (simp only [ze, zf]; rw [c5b0]) | skip);have H' := za.mk H;clear H;obtain ⟨ASz6_0, cSz6_0, HGz6, hgz6, HSz6_0⟩ := HI0.out;have hcz6_0 := zfg HGz6;have hcz6_1 := zfh HGz6;have hfz6_1 := zy HGz6 1;clear HGz6 hgz6;go_wp2
   repeat (go_quiet (fail); try go_wp2)
   go_meet
   case rel => exact ⟨_, (((s0_0.length : Int) == 0)), Zrs, H', ⟨by first | omega | exact Nat.le_refl _⟩, ⟨Zq5 HI0⟩, ⟨Zq6 HK⟩, ⟨Zq7 HB (zx.ge HI0.out)⟩⟩
 case rest =>
  clear HC3
  (try clear p2);(try clear c5);(try clear c5b0);(try clear p6);(try clear hcz4_0);(try clear hcz4_1);(try clear hcz6_0);(try clear hcz6_1);(try clear hfz4_1);(try clear hfz6_1)
  obtain ⟨kq, x24_2, rfl, HA, HJ2, HI0, HK, HB⟩ := hcut
  cases kq with
  | zero => exact absurd HA.out (by simp [zg.j0])
  | succ kj2 =>
   have H := HA.out;clear HA;simp only [zg.j0] at H;by_cases c7 : x24_2 = true
   ·subst c7
    have H1 : (some (0, (wrap64 (s0_1 + 1)))) = some (r1, r2) := by rw [if_pos rfl] at H; exact H
    clear H;have H := H1;clear H1;simp only [Option.some.injEq, Prod.mk.injEq] at H;obtain ⟨rfl, rfl⟩ := H;go_wp2
    repeat (go_quiet (fail); try go_wp2)
    go_ret;exact ⟨by first | rfl | (simp [zq, zt] <;> rfl) | (simp [*, zq, zt] <;> rfl), Zq5 HI0, Zq7 HB (zx.ge HI0.out), Zq6 HK⟩
   ·replace c7 := Bool.eq_false_iff.mpr c7
    subst c7;have H1 : (if (wrap64 ((wrap64 (s0_1 + 1)) - 1)) < (s0_0.length : Int) then (if 0 ≤ (wrap64 ((wrap64 (s0_1 + 1)) - 1)) then (if a1 = 0 then (none) else (some (Int.tmod (wrap64 (rd s0_0 (wrap64 ((wrap64 (s0_1 + 1)) - 1)))) a1, (wrap64 (s0_1 + 1))))) else (none)) else (if (s0_0.length : Int) = 0 then (none) else (if 0 ≤ (Int.tmod (wrap64 ((wrap64 (s0_1 + 1)) - 1)) (s0_0.length : Int)) then (if (Int.tmod (wrap64 ((wrap64 (s0_1 + 1)) - 1)) (s0_0.length : Int)) < (s0_0.length : Int) then (if 0 ≤ (Int.tmod (wrap64 ((wrap64 ((wrap64 ((wrap64 (s0_1 + 1)) - 1)) * 7)) + 3)) (s0_0.length : Int)) then (if (Int.tmod (wrap64 ((wrap64 ((wrap64 ((wrap64 (s0_1 + 1)) - 1)) * 7)) + 3)) (s0_0.length : Int)) < (s0_0.length : Int) then (if a1 = 0 then (none) else (some (Int.tmod (Go.bits .xor .i64 (wrap64 ((wrap64 ((wrap64 ((wrap64 ((wrap64 (rd s0_0 (Int.tmod (wrap64 ((wrap64 (s0_1 + 1)) - 1)) (s0_0.length : Int)))) * 131)) + (wrap64 ((wrap64 (rd s0_0 (Int.tmod (wrap64 ((wrap64 ((wrap64 ((wrap64 (s0_1 + 1)) - 1)) * 7)) + 3)) (s0_0.length : Int)))) * 1117)))) + (wrap64 ((wrap64 ((wrap64 (s0_1 + 1)) - 1)) * 29)))) + (wrap64 ((wrap64 (Int.tdiv (wrap64 ((wrap64 (s0_1 + 1)) - 1)) (s0_0.length : Int))) * 53)))) (wrap64 (Int.tdiv (wrap64 ((wrap64 ((wrap64 ((wrap64 ((wrap64 (rd s0_0 (Int.tmod (wrap64 ((wrap64 (s0_1 + 1)) - 1)) (s0_0.length : Int)))) * 131)) + (wrap64 ((wrap64 (rd s0_0 (Int.tmod (wrap64 ((wrap64 ((wrap64 ((wrap64 (s0_1 + 1)) - 1)) * 7)) + 3)) (s0_0.length : Int)))) * 1117)))) + (wrap64 ((wrap64 ((wrap64 (s0_1 + 1)) - 1)) * 29)))) + (wrap64 ((wrap64 (Int.tdiv (wrap64 ((wrap64 (s0_1 + 1)) - 1)) (s0_0.length : Int))) * 53)))) 64))) a1, (wrap64 (s0_1 + 1))))) else (none)) else (none)) else (none)) else (none)))) = some (r1, r2) := by rw [if_neg (show ¬ (false = true) by decide)] at H; exact H
    clear H;have H := H1;clear H1;by_cases c8 : (wrap64 ((wrap64 (s0_1 + 1)) - 1)) < (s0_0.length : Int)
    ·rw [if_pos c8] at H
     have c8b0 : decide ((wrap64 ((wrap64 (s0_1 + 1)) - 1)) < (s0_0.length : Int)) = true := decide_eq_true c8;clear c8;obtain ⟨ji9, hji9⟩ : ∃ j_ : Int, (wrap64 ((wrap64 (s0_1 + 1)) - 1)) = j_ := ⟨_, rfl⟩;replace H : (if 0 ≤ (ji9) then (if a1 = 0 then (none) else (some (Int.tmod (wrap64 (rd s0_0 (ji9))) a1, (wrap64 (s0_1 + 1))))) else (none)) = some (r1, r2) := by first | (rw [hji9] at H; exact H) | (simp only [hji9] at H ⊢; exact H)
     (try rw [hji9] at c8b0);have hji9w : (IntKind.i64.wrap ((wrap64 (s0_1 + 1)) - 1)) = ji9 := (ze _).trans hji9;by_cases c10 : 0 ≤ (ji9)
     ·rw [if_pos c10] at H
      have c10b0 : decide (0 ≤ (ji9)) = true := decide_eq_true c10;clear c10;by_cases c11 : a1 = 0
      ·rw [if_pos c11] at H
       exact absurd H (by simp)
      ·rw [if_neg c11] at H
       have c11b0 : (a1 == 0) = false := beq_eq_false_iff_ne.mpr c11;have c11b1 : (a1 != 0) = true := bne_iff_ne.mpr c11;simp only [Option.some.injEq, Prod.mk.injEq] at H;obtain ⟨rfl, rfl⟩ := H;obtain ⟨ASz12_0, cSz12_0, HGz12, hgz12, HSz12_0⟩ := HI0.out;have hcz12_0 := zfg HGz12;have hcz12_1 := zfh HGz12;have hfz12_1 := zy HGz12 1;clear HGz12 hgz12;have p104 : 0 ≤ ((ji9) : Int) := of_decide_eq_true Zas;have q104 : (ji9) < (s0_0.length : Int) := of_decide_eq_true Zas;obtain ⟨ad104, e104, hx104_0⟩ := Kd.zbq HSz12_0 (ji9) p104 q104
       cases e104
       replace hx104_0 := zc7 HB.out hx104_0;replace p104 := eq_true p104;replace q104 := eq_true q104;go_wp2
       repeat (go_quiet (fail); try go_wp2)
       go_ret;exact ⟨by first | rfl | (simp [zq, zt] <;> rfl) | (simp only [← hji9]; first | rfl | (simp [zq, zt] <;> rfl)) | (simp [*, zq, zt] <;> rfl), Zq5 HI0, Zq7 HB (zx.ge HI0.out), Zq6 HK⟩
     ·rw [if_neg c10] at H
      exact absurd H (by simp)
    ·rw [if_neg c8] at H
     have c8b0 : decide ((wrap64 ((wrap64 (s0_1 + 1)) - 1)) < (s0_0.length : Int)) = false := decide_eq_false c8;clear c8;by_cases c13 : (s0_0.length : Int) = 0
     ·rw [if_pos c13] at H
      exact absurd H (by simp)
     ·rw [if_neg c13] at H
      have c13b0 : ((s0_0.length : Int) == 0) = false := beq_eq_false_iff_ne.mpr c13;have c13b1 : ((s0_0.length : Int) != 0) = true := bne_iff_ne.mpr c13;have c13b2 : ¬ (s0_0 = []) := fun h_ => c13 (by rw [h_]; rfl)
      obtain ⟨ji14, hji14⟩ : ∃ j_ : Int, (Int.tmod (wrap64 ((wrap64 (s0_1 + 1)) - 1)) (s0_0.length : Int)) = j_ := ⟨_, rfl⟩;replace H : (if 0 ≤ (ji14) then (if (ji14) < (s0_0.length : Int) then (if 0 ≤ (Int.tmod (wrap64 ((wrap64 ((wrap64 ((wrap64 (s0_1 + 1)) - 1)) * 7)) + 3)) (s0_0.length : Int)) then (if (Int.tmod (wrap64 ((wrap64 ((wrap64 ((wrap64 (s0_1 + 1)) - 1)) * 7)) + 3)) (s0_0.length : Int)) < (s0_0.length : Int) then (if a1 = 0 then (none) else (some (Int.tmod (Go.bits .xor .i64 (wrap64 ((wrap64 ((wrap64 ((wrap64 ((wrap64 (rd s0_0 (ji14))) * 131)) + (wrap64 ((wrap64 (rd s0_0 (Int.tmod (wrap64 ((wrap64 ((wrap64 ((wrap64 (s0_1 + 1)) - 1)) * 7)) + 3)) (s0_0.length : Int)))) * 1117)))) + (wrap64 ((wrap64 ((wrap64 (s0_1 + 1)) - 1)) * 29)))) + (wrap64 ((wrap64 (Int.tdiv (wrap64 ((wrap64 (s0_1 + 1)) - 1)) (s0_0.length : Int))) * 53)))) (wrap64 (Int.tdiv (wrap64 ((wrap64 ((wrap64 ((wrap64 ((wrap64 (rd s0_0 (ji14))) * 131)) + (wrap64 ((wrap64 (rd s0_0 (Int.tmod (wrap64 ((wrap64 ((wrap64 ((wrap64 (s0_1 + 1)) - 1)) * 7)) + 3)) (s0_0.length : Int)))) * 1117)))) + (wrap64 ((wrap64 ((wrap64 (s0_1 + 1)) - 1)) * 29)))) + (wrap64 ((wrap64 (Int.tdiv (wrap64 ((wrap64 (s0_1 + 1)) - 1)) (s0_0.length : Int))) * 53)))) 64))) a1, (wrap64 (s0_1 + 1))))) else (none)) else (none)) else (none)) else (none)) = some (r1, r2) := by first | (rw [hji14] at H; exact H) | (simp only [hji14] at H ⊢; exact H)
      by_cases c15 : 0 ≤ (ji14)
      ·rw [if_pos c15] at H
       have c15b0 : decide (0 ≤ (ji14)) = true := decide_eq_true c15;clear c15;by_cases c16 : (ji14) < (s0_0.length : Int)
       ·rw [if_pos c16] at H
        have c16b0 : decide ((ji14) < (s0_0.length : Int)) = true := decide_eq_true c16;clear c16;obtain ⟨ji17, hji17⟩ : ∃ j_ : Int, (Int.tmod (wrap64 ((wrap64 ((wrap64 ((wrap64 (s0_1 + 1)) - 1)) * 7)) + 3)) (s0_0.length : Int)) = j_ := ⟨_, rfl⟩;replace H : (if 0 ≤ (ji17) then (if (ji17) < (s0_0.length : Int) then (if a1 = 0 then (none) else (some (Int.tmod (Go.bits .xor .i64 (wrap64 ((wrap64 ((wrap64 ((wrap64 ((wrap64 (rd s0_0 (ji14))) * 131)) + (wrap64 ((wrap64 (rd s0_0 (ji17))) * 1117)))) + (wrap64 ((wrap64 ((wrap64 (s0_1 + 1)) - 1)) * 29)))) + (wrap64 ((wrap64 (Int.tdiv (wrap64 ((wrap64 (s0_1 + 1)) - 1)) (s0_0.length : Int))) * 53)))) (wrap64 (Int.tdiv (wrap64 ((wrap64 ((wrap64 ((wrap64 ((wrap64 (rd s0_0 (ji14))) * 131)) + (wrap64 ((wrap64 (rd s0_0 (ji17))) * 1117)))) + (wrap64 ((wrap64 ((wrap64 (s0_1 + 1)) - 1)) * 29)))) + (wrap64 ((wrap64 (Int.tdiv (wrap64 ((wrap64 (s0_1 + 1)) - 1)) (s0_0.length : Int))) * 53)))) 64))) a1, (wrap64 (s0_1 + 1))))) else (none)) else (none)) = some (r1, r2) := by first | (rw [hji17] at H; exact H) | (simp only [hji17] at H ⊢; exact H)
        by_cases c18 : 0 ≤ (ji17)
        ·rw [if_pos c18] at H
         have c18b0 : decide (0 ≤ (ji17)) = true := decide_eq_true c18;clear c18;by_cases c19 : (ji17) < (s0_0.length : Int)
         ·rw [if_pos c19] at H
          have c19b0 : decide ((ji17) < (s0_0.length : Int)) = true := decide_eq_true c19;clear c19;by_cases c20 : a1 = 0
          ·rw [if_pos c20] at H
           exact absurd H (by simp)
          ·rw [if_neg c20] at H
           have c20b0 : (a1 == 0) = false := beq_eq_false_iff_ne.mpr c20;have c20b1 : (a1 != 0) = true := bne_iff_ne.mpr c20;simp only [Option.some.injEq, Prod.mk.injEq] at H;obtain ⟨rfl, rfl⟩ := H;obtain ⟨ASz21_0, cSz21_0, HGz21, hgz21, HSz21_0⟩ := HI0.out;have hcz21_0 := zfg HGz21;have hcz21_1 := zfh HGz21;have hfz21_1 := zy HGz21 1;clear HGz21 hgz21;have p105 : 0 ≤ ((ji14) : Int) := of_decide_eq_true Zas;have q105 : (ji14) < (s0_0.length : Int) := of_decide_eq_true Zas;obtain ⟨ad105, e105, hx105_0⟩ := Kd.zbq HSz21_0 (ji14) p105 q105
           cases e105
           replace hx105_0 := zc7 HB.out hx105_0;replace p105 := eq_true p105;replace q105 := eq_true q105;have p106 : 0 ≤ ((ji17) : Int) := of_decide_eq_true Zas;have q106 : (ji17) < (s0_0.length : Int) := of_decide_eq_true Zas;obtain ⟨ad106, e106, hx106_0⟩ := Kd.zbq HSz21_0 (ji17) p106 q106;obtain rfl : ad105 = ad106 := (by injection e106);replace hx106_0 := zc7 HB.out hx106_0;replace p106 := eq_true p106;replace q106 := eq_true q106;go_wp2
           repeat (go_quiet (fail); try go_wp2)
           go_ret;exact ⟨by first | rfl | (simp [zq, zt] <;> rfl) | (simp only [← hji14, ← hji17]; first | rfl | (simp [zq, zt] <;> rfl)) | (simp [*, zq, zt] <;> rfl), Zq5 HI0, Zq7 HB (zx.ge HI0.out), Zq6 HK⟩
         ·rw [if_neg c19] at H
          exact absurd H (by simp)
        ·rw [if_neg c18] at H
         exact absurd H (by simp)
       ·rw [if_neg c16] at H
        exact absurd H (by simp)
      ·rw [if_neg c15] at H
       exact absurd H (by simp)
def zby.f (k : Nat) (s0_0 : List Int) (s0_1 : Int) (a1 : Int) : Option (Bool × Int) := if a1 > 0 then ((zg.f k s0_0 s0_1 a1).bind fun bt107 => (some ((bt107.1 == (wrap64 (a1 - 1))), bt107.2))) else (some (false, s0_1))
set_option maxHeartbeats 8000000 in
theorem zby.calls (k : Nat) (g : Nat) (s0_0 : List Int) (s0_1 : Int) (a1 : Int) (r1 : Bool) (r2 : Int) (w0 w : World) (hI : zx w0 w g s0_0 s0_1) (hB : Below w0.heap.size w0 w) (h : zby.f k s0_0 s0_1 a1 = some (r1, r2)) :
  Calls Try.prog 60 #[.pointer (some ⟨g, 0, none⟩), .int .i64 a1] w fun e w' => e = .returned (.bool r1) ∧ zx w0 w' g s0_0 r2 ∧ Below w0.heap.size w0 w' ∧ zbc w w' g none := by
 have HI0 := za.mk hI
 have HK := za.mk (zbc.refl w g none)
 have HL := za.mk hB.size
 clear hI
 have HW0 := za.mk hB.size
 have HB := za.mk hB
 clear hB
 have H : (if a1 > 0 then ((zg.f k s0_0 s0_1 a1).bind fun bt107 => (some ((bt107.1 == (wrap64 (a1 - 1))), bt107.2))) else (some (false, s0_1))) = some (r1, r2) := h
 clear h
 by_cases c3 : a1 > 0
 ·rw [if_pos c3] at H
  have c3b0 : decide (0 < a1) = true := decide_eq_true c3;clear c3;replace H := Option.bind_eq_some_iff.mp H;obtain ⟨⟨t107, t108⟩, A40, H⟩ := H;replace H : (some ((t107 == (wrap64 (a1 - 1))), t108)) = some (r1, r2) := H;have A4 := za.mk A40;clear A40;simp only [Option.some.injEq, Prod.mk.injEq] at H;obtain ⟨rfl, rfl⟩ := H;go_enter Try.func60, Try.ntmps60;go_wp2_with (first | (go_at_call 59; (with_reducible refine (zg.calls k g s0_0 s0_1 a1 t107 t108 w0 _ ?side1 ?side2 A4.out).mono ?_); (case side1 => exact Zq5 HI0); (case side2 => exact Zq7 HB (zx.ge HI0.out)); rintro e w5 ⟨rfl, hi, hb, hk⟩; have n0_ := za.mk (zbc.trans (Zq6 HK) hk (.inl rfl)); have n1_ := za.mk (hb); have n2_ := za.mk (hi); clear HK; clear HB; clear HI0; have HK := n0_; have HB := n1_; have HI0 := n2_; clear n0_ n1_ n2_; (try clear hb); (try clear hb2); (try clear hk); (try clear hi)));go_ret;exact ⟨by first | rfl | (simp [zq, zt] <;> rfl) | (simp [*, zq, zt] <;> rfl), Zq5 HI0, Zq7 HB (zx.ge HI0.out), Zq6 HK⟩
 ·rw [if_neg c3] at H
  have c3b0 : decide (0 < a1) = false := decide_eq_false c3;clear c3;simp only [Option.some.injEq, Prod.mk.injEq] at H;obtain ⟨rfl, rfl⟩ := H;go_enter Try.func60, Try.ntmps60;go_wp2;go_ret;exact ⟨by first | rfl | (simp [zq, zt] <;> rfl) | (simp [*, zq, zt] <;> rfl), Zq5 HI0, Zq7 HB (zx.ge HI0.out), Zq6 HK⟩
theorem Zmt {P : Prop} (h : P := by (try simp only [List.map_toArray, List.map_cons, List.map_nil]); first | done | rfl | (simp only [List.length_drop, List.length_take]; rfl)) : P := h
theorem Zq9 {X0 P : Prop} (x0 : za X0) (h : X0 → P := by intro x0; (with_reducible repeat (first | apply Kd.zdm | apply Kd.zdv | apply Kd.zd8)); exact x0) : P := h x0.out
theorem Zq10 {X0 P : Prop} (x0 : za X0) (h : X0 → P := by intro x0; (with_reducible repeat (first | apply Kd.zec | apply Kd.zed | apply Kd.ze1)); exact x0) : P := h x0.out
mutual
def zo.l0 : Nat → Int → List Int → List (List Int) → Int → List Int → Int → Option (List Int × (List (List Int)) × Int)
 | 0, _, _, _, _, _, _ => none
 | k + 1, x1, x6, x7, x8, x1000, x1001 => if x8 > 0 then ((zg.f k x1000 x1001 8).bind fun bt117 => (if x6.length < 17592186044416 then (zo.l0 k x1 (x6 ++ [wrap64 (1 + bt117.1)]) x7 (wrap64 (x8 - 1)) x1000 bt117.2) else (none))) else ((zg.f k x1000 x1001 10).bind fun bt122 => (zo.l1 k x1 x6 x7 bt122.1 x1000 bt122.2))
def zo.l1 : Nat → Int → List Int → List (List Int) → Int → List Int → Int → Option (List Int × (List (List Int)) × Int)
 | 0, _, _, _, _, _, _ => none
 | k + 1, x1, x6, x7, x9, x1000, x1001 => if x9 > 0 then (zo.j2 k x1 x6 x7 x9 (decide ((x6.length : Int) > 1)) x1000 x1001) else (zo.j2 k x1 x6 x7 x9 false x1000 x1001)
def zo.j2 : Nat → Int → List Int → List (List Int) → Int → Bool → List Int → Int → Option (List Int × (List (List Int)) × Int)
 | 0, _, _, _, _, _, _, _ => none
 | k + 1, x1, x6, x7, x9, x33, x1000, x1001 => if x33 = true then ((zg.f k x1000 x1001 (wrap64 ((x6.length : Int) - 1))).bind fun bt124 => ((zg.f k x1000 bt124.2 (wrap64 (1 + bt124.1))).bind fun bt126 => (if x7.length < 5864062014805 then (zo.l1 k x1 x6 (x7 ++ [(([bt126.1, wrap64 (1 + bt124.1)] : List Int))]) (wrap64 (x9 - 1)) x1000 bt126.2) else (none)))) else ((zby.f k x1000 x1001 x1).bind fun bt134 => (if bt134.1 = true then ((zg.f k x1000 bt134.2 4).bind fun bt136 => (if bt136.1 = 0 then ((some (([0, 9] : List Int) : List Int)).bind fun y138 => ((zg.f k x1000 bt136.2 2).bind fun bt141 => (if 0 ≤ bt141.1 then (if bt141.1 < (y138.length : Int) then (if x6.length < 17592186044416 then (some ((x6 ++ [rd y138 bt141.1]), x7, bt141.2)) else (none)) else (none)) else (none)))) else (if bt136.1 = 1 then (if x7.length < 5864062014805 then (some (x6, (x7 ++ [(([1, 1] : List Int))]), bt136.2)) else (none)) else (if bt136.1 = 2 then (if x7.length < 5864062014805 then (some (x6, (x7 ++ [(([0, (x6.length : Int)] : List Int))]), bt136.2)) else (none)) else (if x7.length < 5864062014805 then (some (x6, (x7 ++ [(([0] : List Int))]), bt136.2)) else (none)))))) else (some (x6, x7, bt134.2))))
end
def zo.f (k : Nat) (s0_0 : List Int) (s0_1 : Int) (a1 : Int) : Option (List Int × (List (List Int)) × Int) := (zg.f k s0_0 s0_1 9).bind fun bt115 => (zo.l0 k a1 (([] : List Int)) (([] : List (List Int))) bt115.1 s0_0 bt115.2)
set_option maxHeartbeats 8000000 in
theorem zo.calls (k : Nat) (g : Nat) (s0_0 : List Int) (s0_1 : Int) (a1 : Int) (r1 : List Int) (r2 : List (List Int)) (r3 : Int) (w0 w : World) (hI : zx w0 w g s0_0 s0_1) (hB : Below w0.heap.size w0 w) (h : zo.f k s0_0 s0_1 a1 = some (r1, r2, r3)) :
  Calls Try.prog 44 #[.pointer (some ⟨g, 0, none⟩), .int .i64 a1] w fun e w' => ∃ v0_ v1_ : Value, e = .returned (.tuple #[v0_, v1_]) ∧ Kd.R (Kd.int .i64) 3 w' w.heap.size (fun _ => True) v0_ r1 ∧ Kd.S (Kd.slice 3 (Kd.int .i64)) 23 w' w.heap.size (fun k_ => some k_ ≠ (v0_ : Value).ownBlock) v1_ r2 ∧ zx w0 w' g s0_0 r3 ∧ Below w0.heap.size w0 w' ∧ zbc w w' g none := by
 have HI0 := za.mk hI
 have HK := za.mk (zbc.refl w g none)
 have HL := za.mk hB.size
 clear hI
 have HW0 := za.mk hB.size
 have HB := za.mk hB
 clear hB
 have H : ((zg.f k s0_0 s0_1 9).bind fun bt115 => (zo.l0 k a1 (([] : List Int)) (([] : List (List Int))) bt115.1 s0_0 bt115.2)) = some (r1, r2, r3) := h
 clear h
 obtain ⟨y109, hy109⟩ : ∃ y_ : List Int, y_ = (([] : List Int)) := ⟨_, rfl⟩
 replace H : ((zg.f k s0_0 s0_1 9).bind fun bt115 => (zo.l0 k a1 y109 (([] : List (List Int))) bt115.1 s0_0 bt115.2)) = some (r1, r2, r3) := by first | (rw [hy109]; with_reducible exact H) | (have H2_ := (Option.bind_some _ _).symm.trans H; rw [hy109]; with_reducible exact H2_) | (have H2_ := (Option.bind_some _ _).symm.trans H; with_reducible exact H2_) | with_reducible exact H | (rw [hy109]; exact H) | exact H
 have Ny109 := za.mk hy109
 clear hy109
 obtain ⟨y112, hy112⟩ : ∃ y_ : List (List Int), y_ = (([] : List (List Int))) := ⟨_, rfl⟩
 replace H : ((zg.f k s0_0 s0_1 9).bind fun bt115 => (zo.l0 k a1 y109 y112 bt115.1 s0_0 bt115.2)) = some (r1, r2, r3) := by first | (rw [hy112]; with_reducible exact H) | (have H2_ := (Option.bind_some _ _).symm.trans H; rw [hy112]; with_reducible exact H2_) | (have H2_ := (Option.bind_some _ _).symm.trans H; with_reducible exact H2_) | with_reducible exact H | (rw [hy112]; exact H) | exact H
 have Ny112 := za.mk hy112
 clear hy112
 replace H := Option.bind_eq_some_iff.mp H
 obtain ⟨⟨t115, t116⟩, A30, H⟩ := H
 replace H : (zo.l0 k a1 y109 y112 t115 s0_0 t116) = some (r1, r2, r3) := H
 have A3 := za.mk A30
 clear A30
 have H' := za.mk H
 clear H
 go_enter Try.func44, Try.ntmps44
 go_wp2_with (first | ((with_reducible refine zb8 (N := 11) rfl ?_); (try (refine zca (by rfl) ?_; dsimp only)); refine Kd.zft (Kd.int .i64) _ 3 ?hg (N := 11) ?hd (xs := ([] : List Int)) (inner := []) (ok := fun _ => True) (okp := fun _ => True) ?hr ?hp (fun _ hk => hk) trivial (Below.refl _ _) (Nat.le_refl _) (by simp) ?_; (case hd => rfl); (case hg => rfl); (case hr => first | (go_simp; done) | (go_simp; rfl)); (case hp => exact (Reps.none _ _)); intro v110 w4 ho5 hb hg_ hnew_; clear hg_ hnew_; (first | rw [← Ny109.out] at ho5 | (simp only [Int.reduceToNat] at ho5; rw [← Ny109.out] at ho5)); have n0_ := za.mk (Kd.zcg ho5 (zck (w := w) (g := g) (row := none) (Zq6 HK))); have n1_ := za.mk (zx.below (Zq5 HI0) hb); have n2_ := za.mk (zbc.trans (Zq6 HK) (zbc.of_below hb g none) (.inl rfl)); have n3_ := za.mk (zbi (Zq7 HB (zx.ge HI0.out)) hb); clear HI0; clear HK; clear HB; have HO111 := n0_; have HI0 := n1_; have HK := n2_; have HB := n3_; clear n0_ n1_ n2_ n3_; clear hb ho5) | ((with_reducible refine zb8 (N := 12) rfl ?_); (try (refine zca (by rfl) ?_; dsimp only)); refine Kd.S_lit (Kd.slice 3 (Kd.int .i64)) _ 23 ?hg (N := 12) ?hd (xs := ([] : List (List Int))) (inner := []) (ok := fun _ => True) (okp := fun _ => True) ?hr ?hp (fun _ hk => hk) trivial (Below.refl _ _) (Nat.le_refl _) (by simp) ?_; (case hd => rfl); (case hg => rfl); (case hr => first | (go_simp; done) | (go_simp; rfl)); (case hp => exact (Reps.none _ _)); intro v113 w6 ho7 hb hg_ hnew_; clear hg_ hnew_; (first | rw [← Ny112.out] at ho7 | (simp only [Int.reduceToNat] at ho7; rw [← Ny112.out] at ho7)); have n0_ := za.mk (Kd.zc3 (Zq9 HO111) hb); have n1_ := za.mk (Kd.zii (Kd.S_new' ho7 (Kd.R_lt (Zq9 HO111))) (zck (w := w) (g := g) (row := none) (Zq6 HK))); have n2_ := za.mk (zx.below (Zq5 HI0) hb); have n3_ := za.mk (zbc.trans (Zq6 HK) (zbc.of_below hb g none) (.inl rfl)); have n4_ := za.mk (zbi (Zq7 HB (zx.ge HI0.out)) hb); clear HO111; clear HI0; clear HK; clear HB; have HO111 := n0_; have HO114 := n1_; have HI0 := n2_; have HK := n3_; have HB := n4_; clear n0_ n1_ n2_ n3_ n4_; clear hb ho7) | ((with_reducible refine zbd (f := 59) rfl ?_); refine zb7 (some 14) rfl rfl Try.func59 (by kernel_rfl) rfl #[.pointer (some ⟨g, 0, none⟩), .int .i64 9] rfl Zmt ?_; (with_reducible refine (zg.calls k g s0_0 s0_1 9 t115 t116 w0 _ ?side1 ?side2 A3.out).mono ?_); (case side1 => exact Zq5 HI0); (case side2 => exact Zq7 HB (zx.ge HI0.out)); rintro e w8 ⟨rfl, hi, hb, hk⟩; refine ⟨_, rfl, ?_⟩; have n0_ := za.mk (Kd.zbz (Kd.zdp (zx.apart (show zx w0 _ g s0_0 s0_1 from Zq5 HI0) (Zq9 HO111) (by decide)) hk (fun _ h => h.2)) (fun _ h => h.1)); have n1_ := za.mk (Kd.zcx (Kd.zd1 (zx.zd2 (show zx w0 _ g s0_0 s0_1 from Zq5 HI0) (Zq10 HO114) (by decide)) hk (fun _ h => h.2)) (fun _ h => h.1)); have n2_ := za.mk (zbc.trans (Zq6 HK) hk (.inl rfl)); have n3_ := za.mk (hb); have n4_ := za.mk (hi); clear HO111; clear HO114; clear HK; clear HB; clear HI0; have HO111 := n0_; have HO114 := n1_; have HK := n2_; have HB := n3_; have HI0 := n4_; clear n0_ n1_ n2_ n3_ n4_; (try clear hb); (try clear hb2); (try clear hk); (try clear hi)))
 go_loopg [6, 8] k (fun kq v6 v8 w' => ∃ (x6_1 : List Int) (x8_1 : Int) (x1001_1 : Int), v8 = .int .i64 x8_1 ∧ za (zo.l0 kq a1 x6_1 y112 x8_1 s0_0 x1001_1 = some (r1, r2, r3)) ∧ za (kq ≤ k) ∧ za (Kd.R (Kd.int .i64) 3 w' w.heap.size (fun _ => True) v6 x6_1) ∧ za (Kd.S (Kd.slice 3 (Kd.int .i64)) 23 w' w.heap.size (fun k_ => some k_ ≠ (v6 : Value).ownBlock) v113 y112) ∧ za (zx w0 w' g s0_0 x1001_1) ∧ za (zbc w w' g none) ∧ za (Below w0.heap.size w0 w'))
 case atStart => exact ⟨(y109), (t115), (t116), Zrs, H', ⟨Nat.le_refl _⟩, ⟨Zq9 HO111⟩, ⟨by (with_reducible repeat (first | apply Kd.zec | apply Kd.zed | apply Kd.ze1)); exact Kd.zcx HO114.out (fun _ hk => hk.2)⟩, ⟨Zq5 HI0⟩, ⟨Zq6 HK⟩, ⟨Zq7 HB (zx.ge HI0.out)⟩⟩
 case round =>
  clear H'
  (try clear p2);(try clear c4);(try clear c5)
  obtain ⟨x6_1, x8_1, x1001_1, rfl, HA, HK1, HO_6, HO_7, HI0, HK, HB⟩ := hrel
  cases gk with
  | zero => exact absurd HA.out (by simp [zo.l0])
  | succ k1 =>
   have H := HA.out;clear HA;simp only [zo.l0] at H;by_cases c9 : x8_1 > 0
   ·rw [if_pos c9] at H
    have c9b0 : decide (0 < x8_1) = true := decide_eq_true c9;clear c9;replace H := Option.bind_eq_some_iff.mp H;obtain ⟨⟨t117, t118⟩, A100, H⟩ := H;replace H : (if x6_1.length < 17592186044416 then (zo.l0 k1 a1 (x6_1 ++ [wrap64 (1 + t117)]) y112 (wrap64 (x8_1 - 1)) s0_0 t118) else (none)) = some (r1, r2, r3) := H;have A10 := za.mk A100;clear A100;by_cases c11 : x6_1.length < 17592186044416
    ·rw [if_pos c11] at H
     have LMc11 := za.mk c11;clear c11;obtain ⟨y119, hy119⟩ : ∃ y_ : List Int, y_ = (x6_1 ++ [wrap64 (1 + t117)]) := ⟨_, rfl⟩;replace H : (zo.l0 k1 a1 y119 y112 (wrap64 (x8_1 - 1)) s0_0 t118) = some (r1, r2, r3) := by first | (rw [hy119]; with_reducible exact H) | (have H2_ := (Option.bind_some _ _).symm.trans H; rw [hy119]; with_reducible exact H2_) | (have H2_ := (Option.bind_some _ _).symm.trans H; with_reducible exact H2_) | with_reducible exact H | (rw [hy119]; exact H) | exact H
     have Ny119 := za.mk hy119;clear hy119;have H' := za.mk H;clear H;go_wp2_with (first | ((with_reducible refine zbd (f := 59) rfl ?_); refine zb7 (some 21) rfl rfl Try.func59 (by kernel_rfl) rfl #[.pointer (some ⟨g, 0, none⟩), .int .i64 8] rfl Zmt ?_; (with_reducible refine (zg.calls k1 g s0_0 x1001_1 8 t117 t118 w0 _ ?side1 ?side2 A10.out).mono ?_); (case side1 => exact Zq5 HI0); (case side2 => exact Zq7 HB (zx.ge HI0.out)); rintro e w12 ⟨rfl, hi, hb, hk⟩; refine ⟨_, rfl, ?_⟩; have n0_ := za.mk (Kd.zbz (Kd.zdp (zx.apart (show zx w0 _ g s0_0 x1001_1 from Zq5 HI0) (Zq9 HO_6) (by decide)) hk (fun _ h => h.2)) (fun _ h => h.1)); have n1_ := za.mk (Kd.zcx (Kd.zd1 (zx.zd2 (show zx w0 _ g s0_0 x1001_1 from Zq5 HI0) (Zq10 HO_7) (by decide)) hk (fun _ h => h.2)) (fun _ h => h.1)); have n2_ := za.mk (zbc.trans (Zq6 HK) hk (.inl rfl)); have n3_ := za.mk (hb); have n4_ := za.mk (hi); clear HO_6; clear HO_7; clear HK; clear HB; clear HI0; have HO_6 := n0_; have HO_7 := n1_; have HK := n2_; have HB := n3_; have HI0 := n4_; clear n0_ n1_ n2_ n3_ n4_; (try clear hb); (try clear hb2); (try clear hk); (try clear hi)) | ((with_reducible refine zb4 (b := .append) (xs := #[.tmp 19, .tmp 23]) rfl ?_); (try (refine zca (by rfl) ?_; dsimp only)); at_builtin; refine Kd.zds (Kd.int .i64) w.heap.size rfl (.tmp 19) (.tmp 23) 23 3 (.int .i64 0) 8 rfl Try.underlying23 info3 rfl (by decide) (by omega) u6 x6_1 (wrap64 (1 + t117)) [.int .i64 (wrap64 (1 + t117))] (fun _ => True) (fun _ => False) rfl rfl ?aP (fun _ hk => hk.elim) ?aF ?aO (Below.refl _ _) ?aS ?aL ?_; (case aP => exact rfl); (case aF => exact (fun _ _ => trivial)); (case aO => exact (Zq9 HO_6)); (case aS => exact (zck (w := w) (g := g) (row := none) (Zq6 HK))); (case aL => have := LMc11.out; omega); intro v120 w13 ho hb hg hat; rw [← Ny119.out] at ho; have n0_ := za.mk (Kd.S_after (ok := (fun _ => True)) (by (with_reducible repeat (first | apply Kd.zec | apply Kd.zed | apply Kd.ze1)); exact Kd.zcx HO_7.out (fun _ hk => ⟨trivial, hk⟩)) hg hat); have n1_ := za.mk (zx.grown (Zq5 HI0) hg (zx.own_ne HI0.out HO_6.out (by decide))); have n2_ := za.mk (zc4 (Zq7 HB (zx.ge HI0.out)) HL.out hb); have n3_ := za.mk (zbc.trans (Zq6 HK) (zbc.zd7 hg g) (Kd.zif HO_6.out)); have n4_ := za.mk (ho); clear HO_7; clear HI0; clear HB; clear HK; clear HO_6; have HO_7 := n0_; have HI0 := n1_; have HB := n2_; have HK := n3_; have HO121 := n4_; clear n0_ n1_ n2_ n3_ n4_; clear ho hb hg hat));go_roundg k1
     case measure => have := HK1.out; omega
     case rel => exact ⟨(y119), (wrap64 (x8_1 - 1)), (t118), Zrs, H', ⟨by have := HK1.out; omega⟩, ⟨Zq9 HO121⟩, ⟨by (with_reducible repeat (first | apply Kd.zec | apply Kd.zed | apply Kd.ze1)); exact Kd.zcx HO_7.out (fun _ hk => hk.2)⟩, ⟨Zq5 HI0⟩, ⟨Zq6 HK⟩, ⟨Zq7 HB (zx.ge HI0.out)⟩⟩
    ·rw [if_neg c11] at H
     exact absurd H (by simp)
   ·rw [if_neg c9] at H
    have c9b0 : decide (0 < x8_1) = false := decide_eq_false c9;clear c9;replace H := Option.bind_eq_some_iff.mp H;obtain ⟨⟨t122, t123⟩, A140, H⟩ := H;replace H : (zo.l1 k1 a1 x6_1 y112 t122 s0_0 t123) = some (r1, r2, r3) := H;have A14 := za.mk A140;clear A140;have H' := za.mk H;clear H;go_wp2_with (first | ((with_reducible refine zbd (f := 59) rfl ?_); refine zb7 (some 26) rfl rfl Try.func59 (by kernel_rfl) rfl #[.pointer (some ⟨g, 0, none⟩), .int .i64 10] rfl Zmt ?_; (with_reducible refine (zg.calls k1 g s0_0 x1001_1 10 t122 t123 w0 _ ?side1 ?side2 A14.out).mono ?_); (case side1 => exact Zq5 HI0); (case side2 => exact Zq7 HB (zx.ge HI0.out)); rintro e w15 ⟨rfl, hi, hb, hk⟩; refine ⟨_, rfl, ?_⟩; have n0_ := za.mk (Kd.zbz (Kd.zdp (zx.apart (show zx w0 _ g s0_0 x1001_1 from Zq5 HI0) (Zq9 HO_6) (by decide)) hk (fun _ h => h.2)) (fun _ h => h.1)); have n1_ := za.mk (Kd.zcx (Kd.zd1 (zx.zd2 (show zx w0 _ g s0_0 x1001_1 from Zq5 HI0) (Zq10 HO_7) (by decide)) hk (fun _ h => h.2)) (fun _ h => h.1)); have n2_ := za.mk (zbc.trans (Zq6 HK) hk (.inl rfl)); have n3_ := za.mk (hb); have n4_ := za.mk (hi); clear HO_6; clear HO_7; clear HK; clear HB; clear HI0; have HO_6 := n0_; have HO_7 := n1_; have HK := n2_; have HB := n3_; have HI0 := n4_; clear n0_ n1_ n2_ n3_ n4_; (try clear hb); (try clear hb2); (try clear hk); (try clear hi)))
    go_loopg [7, 9] k1 (fun kq v7 v9 w' => ∃ (x7_2 : List (List Int)) (x9_2 : Int) (x1001_2 : Int), v9 = .int .i64 x9_2 ∧ za (zo.l1 kq a1 x6_1 x7_2 x9_2 s0_0 x1001_2 = some (r1, r2, r3)) ∧ za (kq ≤ k1) ∧ za (Kd.R (Kd.int .i64) 3 w' w.heap.size (fun _ => True) u6 x6_1) ∧ za (Kd.S (Kd.slice 3 (Kd.int .i64)) 23 w' w.heap.size (fun k_ => some k_ ≠ (u6 : Value).ownBlock) v7 x7_2) ∧ za (zx w0 w' g s0_0 x1001_2) ∧ za (zbc w w' g none) ∧ za (Below w0.heap.size w0 w'))
    case atStart => exact ⟨(y112), (t122), (t123), Zrs, H', ⟨Nat.le_refl _⟩, ⟨Zq9 HO_6⟩, ⟨Zq10 HO_7⟩, ⟨Zq5 HI0⟩, ⟨Zq6 HK⟩, ⟨Zq7 HB (zx.ge HI0.out)⟩⟩
    case round =>
     clear H'
     (try clear c1);(try clear p2);(try clear c4);(try clear c5);(try clear p6);(try clear c9);(try clear c9b0);(try clear c11);(try clear p2)
     obtain ⟨x7_2, x9_2, x1001_2, rfl, HA, HK2, HO_6, HO_7, HI0, HK, HB⟩ := hrel
     cases gk with
     | zero => exact absurd HA.out (by simp [zo.l1])
     | succ k2 =>
      have H := HA.out;clear HA;simp only [zo.l1] at H;have HC16 := za.mk H;clear H
      go_upto_region 8 with (fail)
      go_cut [33] (fun v33 wc => ∃ (kq : Nat) (x33_15 : Bool), v33 = .bool x33_15 ∧ za (zo.j2 kq a1 x6_1 x7_2 x9_2 x33_15 s0_0 x1001_2 = some (r1, r2, r3)) ∧ za (kq ≤ k2) ∧ za (Kd.R (Kd.int .i64) 3 wc w.heap.size (fun _ => True) u6 x6_1) ∧ za (Kd.S (Kd.slice 3 (Kd.int .i64)) 23 wc w.heap.size (fun k_ => some k_ ≠ (u6 : Value).ownBlock) u7 x7_2) ∧ za (zx w0 wc g s0_0 x1001_2) ∧ za (zbc w wc g none) ∧ za (Below w0.heap.size w0 wc))
      case first =>
       have H := HC16.out;clear HC16;by_cases c17 : x9_2 > 0
       ·rw [if_pos c17] at H
        have c17b0 : decide (0 < x9_2) = true := decide_eq_true c17;clear c17;(first | rw [c17b0] | (simp only [ze, zf]; rw [c17b0]) | skip);have H' := za.mk H;clear H;obtain ⟨Ao18, co18, eo18⟩ := Kd.zce HO_6.out;subst eo18;go_wp2;go_meet
        case rel => exact ⟨_, (decide ((x6_1.length : Int) > 1)), Zrs, H', ⟨by have := HK1.out; have := HK2.out; first | omega | exact Nat.le_refl _⟩, ⟨Zq9 HO_6⟩, ⟨Zq10 HO_7⟩, ⟨Zq5 HI0⟩, ⟨Zq6 HK⟩, ⟨Zq7 HB (zx.ge HI0.out)⟩⟩
       ·rw [if_neg c17] at H
        have c17b0 : decide (0 < x9_2) = false := decide_eq_false c17;clear c17;(first | rw [c17b0] | (simp only [ze, zf]; rw [c17b0]) | skip);have H' := za.mk H;clear H;go_wp2;go_meet
        case rel => exact ⟨_, (false), Zrs, H', ⟨by have := HK1.out; have := HK2.out; first | omega | exact Nat.le_refl _⟩, ⟨Zq9 HO_6⟩, ⟨Zq10 HO_7⟩, ⟨Zq5 HI0⟩, ⟨Zq6 HK⟩, ⟨Zq7 HB (zx.ge HI0.out)⟩⟩
      case rest =>
       clear HC16
       (try clear c1);(try clear p2);(try clear c4);(try clear c5);(try clear p6);(try clear c9);(try clear c9b0);(try clear c11);(try clear c17);(try clear c17b0);(try clear p2);(try clear p6)
       obtain ⟨kq, x33_15, rfl, HA, HJ15, HO_6, HO_7, HI0, HK, HB⟩ := hcut
       cases kq with
       | zero => exact absurd HA.out (by simp [zo.j2])
       | succ kj15 =>
        have H := HA.out;clear HA;simp only [zo.j2] at H;by_cases c19 : x33_15 = true
        ·subst c19
         have H1 : ((zg.f kj15 s0_0 x1001_2 (wrap64 ((x6_1.length : Int) - 1))).bind fun bt124 => ((zg.f kj15 s0_0 bt124.2 (wrap64 (1 + bt124.1))).bind fun bt126 => (if x7_2.length < 5864062014805 then (zo.l1 kj15 a1 x6_1 (x7_2 ++ [(([bt126.1, wrap64 (1 + bt124.1)] : List Int))]) (wrap64 (x9_2 - 1)) s0_0 bt126.2) else (none)))) = some (r1, r2, r3) := by rw [if_pos rfl] at H; exact H
         clear H;have H := H1;clear H1;replace H := Option.bind_eq_some_iff.mp H;obtain ⟨⟨t124, t125⟩, A200, H⟩ := H;replace H : ((zg.f kj15 s0_0 t125 (wrap64 (1 + t124))).bind fun bt126 => (if x7_2.length < 5864062014805 then (zo.l1 kj15 a1 x6_1 (x7_2 ++ [(([bt126.1, wrap64 (1 + t124)] : List Int))]) (wrap64 (x9_2 - 1)) s0_0 bt126.2) else (none))) = some (r1, r2, r3) := H;have A20 := za.mk A200;clear A200;replace H := Option.bind_eq_some_iff.mp H;obtain ⟨⟨t126, t127⟩, A210, H⟩ := H;replace H : (if x7_2.length < 5864062014805 then (zo.l1 kj15 a1 x6_1 (x7_2 ++ [(([t126, wrap64 (1 + t124)] : List Int))]) (wrap64 (x9_2 - 1)) s0_0 t127) else (none)) = some (r1, r2, r3) := H;have A21 := za.mk A210;clear A210;obtain ⟨y128, hy128⟩ : ∃ y_ : List Int, y_ = (([t126, wrap64 (1 + t124)] : List Int)) := ⟨_, rfl⟩;replace H : (if x7_2.length < 5864062014805 then (zo.l1 kj15 a1 x6_1 (x7_2 ++ [y128]) (wrap64 (x9_2 - 1)) s0_0 t127) else (none)) = some (r1, r2, r3) := by first | (rw [hy128]; with_reducible exact H) | (have H2_ := (Option.bind_some _ _).symm.trans H; rw [hy128]; with_reducible exact H2_) | (have H2_ := (Option.bind_some _ _).symm.trans H; with_reducible exact H2_) | with_reducible exact H | (rw [hy128]; exact H) | exact H
         have Ny128 := za.mk hy128;clear hy128;by_cases c22 : x7_2.length < 5864062014805
         ·rw [if_pos c22] at H
          have LMc22 := za.mk c22;clear c22;obtain ⟨y131, hy131⟩ : ∃ y_ : List (List Int), y_ = (x7_2 ++ [y128]) := ⟨_, rfl⟩;replace H : (zo.l1 kj15 a1 x6_1 y131 (wrap64 (x9_2 - 1)) s0_0 t127) = some (r1, r2, r3) := by first | (rw [hy131]; with_reducible exact H) | (have H2_ := (Option.bind_some _ _).symm.trans H; rw [hy131]; with_reducible exact H2_) | (have H2_ := (Option.bind_some _ _).symm.trans H; with_reducible exact H2_) | with_reducible exact H | (rw [hy131]; exact H) | exact H
          have Ny131 := za.mk hy131;clear hy131;have H' := za.mk H;clear H;obtain ⟨Ao23, co23, eo23⟩ := Kd.zce HO_6.out;subst eo23
          go_wp2_with (first | ((with_reducible refine zbd (f := 59) rfl ?_); refine zb7 (some 40) rfl rfl Try.func59 (by kernel_rfl) rfl #[.pointer (some ⟨g, 0, none⟩), .int .i64 (wrap64 ((x6_1.length : Int) - 1))] rfl Zmt ?_; (with_reducible refine (zg.calls kj15 g s0_0 x1001_2 (wrap64 ((x6_1.length : Int) - 1)) t124 t125 w0 _ ?side1 ?side2 A20.out).mono ?_); (case side1 => exact Zq5 HI0); (case side2 => exact Zq7 HB (zx.ge HI0.out)); rintro e w24 ⟨rfl, hi, hb, hk⟩; refine ⟨_, rfl, ?_⟩; have n0_ := za.mk (Kd.zbz (Kd.zdp (zx.apart (show zx w0 _ g s0_0 x1001_2 from Zq5 HI0) (Zq9 HO_6) (by decide)) hk (fun _ h => h.2)) (fun _ h => h.1)); have n1_ := za.mk (Kd.zcx (Kd.zd1 (zx.zd2 (show zx w0 _ g s0_0 x1001_2 from Zq5 HI0) (Zq10 HO_7) (by decide)) hk (fun _ h => h.2)) (fun _ h => h.1)); have n2_ := za.mk (zbc.trans (Zq6 HK) hk (.inl rfl)); have n3_ := za.mk (hb); have n4_ := za.mk (hi); clear HO_6; clear HO_7; clear HK; clear HB; clear HI0; have HO_6 := n0_; have HO_7 := n1_; have HK := n2_; have HB := n3_; have HI0 := n4_; clear n0_ n1_ n2_ n3_ n4_; (try clear hb); (try clear hb2); (try clear hk); (try clear hi)) | ((with_reducible refine zbd (f := 59) rfl ?_); refine zb7 (some 45) rfl rfl Try.func59 (by kernel_rfl) rfl #[.pointer (some ⟨g, 0, none⟩), .int .i64 (wrap64 (1 + t124))] rfl Zmt ?_; (with_reducible refine (zg.calls kj15 g s0_0 t125 (wrap64 (1 + t124)) t126 t127 w0 _ ?side1 ?side2 A21.out).mono ?_); (case side1 => exact Zq5 HI0); (case side2 => exact Zq7 HB (zx.ge HI0.out)); rintro e w25 ⟨rfl, hi, hb, hk⟩; refine ⟨_, rfl, ?_⟩; have n0_ := za.mk (Kd.zbz (Kd.zdp (zx.apart (show zx w0 _ g s0_0 t125 from Zq5 HI0) (Zq9 HO_6) (by decide)) hk (fun _ h => h.2)) (fun _ h => h.1)); have n1_ := za.mk (Kd.zcx (Kd.zd1 (zx.zd2 (show zx w0 _ g s0_0 t125 from Zq5 HI0) (Zq10 HO_7) (by decide)) hk (fun _ h => h.2)) (fun _ h => h.1)); have n2_ := za.mk (zbc.trans (Zq6 HK) hk (.inl rfl)); have n3_ := za.mk (hb); have n4_ := za.mk (hi); clear HO_6; clear HO_7; clear HK; clear HB; clear HI0; have HO_6 := n0_; have HO_7 := n1_; have HK := n2_; have HB := n3_; have HI0 := n4_; clear n0_ n1_ n2_ n3_ n4_; (try clear hb); (try clear hb2); (try clear hk); (try clear hi)) | ((with_reducible refine zb8 (N := 47) rfl ?_); (try (refine zca (by rfl) ?_; dsimp only)); refine Kd.zft (Kd.int .i64) _ 3 ?hg (N := 47) ?hd (xs := ([t126, wrap64 (1 + t124)] : List Int)) (inner := [.int .i64 t126, .int .i64 (wrap64 (1 + t124))]) (ok := fun _ => True) (okp := fun _ => True) ?hr ?hp (fun _ hk => hk) trivial (Below.refl _ _) (Nat.le_refl _) (by simp) ?_; (case hd => rfl); (case hg => rfl); (case hr => first | (go_simp; done) | (go_simp; rfl)); (case hp => exact (Reps.one (show Kd.M (Kd.int .i64) _ _ _ t126 [.int .i64 t126] from rfl) (Reps.one (show Kd.M (Kd.int .i64) _ _ _ (wrap64 (1 + t124)) [.int .i64 (wrap64 (1 + t124))] from rfl) (Reps.none _ _)))); intro v129 w26 ho27 hb hg_ hnew_; clear hg_ hnew_; (first | rw [← Ny128.out] at ho27 | (simp only [Int.reduceToNat] at ho27; rw [← Ny128.out] at ho27)); have n0_ := za.mk (Kd.zen (Zq9 HO_6) (Kd.zd5 ho27) hb); have n1_ := za.mk (Kd.zfd (Zq10 HO_7) (Kd.zd5 ho27) hb); have n2_ := za.mk (Kd.zcg (Kd.zf5 ho27 (Kd.R_lt (Zq9 HO_6))) (zck (w := w) (g := g) (row := none) (Zq6 HK))); have n3_ := za.mk (zx.below (Zq5 HI0) hb); have n4_ := za.mk (zbc.trans (Zq6 HK) (zbc.of_below hb g none) (.inl rfl)); have n5_ := za.mk (zbi (Zq7 HB (zx.ge HI0.out)) hb); clear HO_6; clear HO_7; clear HI0; clear HK; clear HB; have HO_6 := n0_; have HO_7 := n1_; have HO130 := n2_; have HI0 := n3_; have HK := n4_; have HB := n5_; clear n0_ n1_ n2_ n3_ n4_ n5_; clear hb ho27; obtain ⟨Ao29, co29, eo29⟩ := Kd.zce HO130.out; subst eo29) | ((with_reducible refine zb4 (b := .append) (xs := #[.tmp 42, .tmp 48]) rfl ?_); (try (refine zca (by rfl) ?_; dsimp only)); at_builtin; refine Kd.zfv (Kd.slice 3 (Kd.int .i64)) w.heap.size rfl (.tmp 42) (.tmp 48) 24 23 (.slice none 0 0) 24 rfl Try.underlying24 zgb rfl (by decide) (by omega) u7 x7_2 y128 [.slice Ao29 y128.length co29] (fun k_ => some k_ ≠ (.slice Ao23 x6_1.length co23 : Value).ownBlock) (fun k_ => some k_ = (.slice Ao29 y128.length co29 : Value).ownBlock) rfl rfl ?aP (fun k_ hk_ => ((Kd.zbz (ok' := fun k_ => ((fun k_ => some k_ ≠ (.slice Ao23 x6_1.length co23 : Value).ownBlock)) k_ ∧ some k_ ≠ (u7 : Value).ownBlock) (Kd.zd9 (HO130.out) (Kd.zdx HO_7.out) (by decide)) (fun k_ hk => ⟨hk.1.2, hk.2⟩))).1 k_ hk_.symm) ?aF ?aO (Below.refl _ _) ?aS ?aL ?_; (case aP => exact Kd.M_row (Kd.zbz (Kd.zew rfl (Kd.zbz (ok' := fun k_ => ((fun k_ => some k_ ≠ (.slice Ao23 x6_1.length co23 : Value).ownBlock)) k_ ∧ some k_ ≠ (u7 : Value).ownBlock) (Kd.zd9 (HO130.out) (Kd.zdx HO_7.out) (by decide)) (fun k_ hk => ⟨hk.1.2, hk.2⟩))) (fun _ h_ => h_))); (case aF => exact (fun k_ hk => Kd.fresh' (Kd.R_lt (Zq9 HO_6)) k_ hk)); (case aO => exact (by (with_reducible repeat (first | apply Kd.zec | apply Kd.zed | apply Kd.ze1)); exact Kd.zcx HO_7.out (fun k_ hk => ⟨hk.1, fun e_ => hk.2 e_⟩))); (case aS => exact (zck (w := w) (g := g) (row := none) (Zq6 HK))); (case aL => have := LMc22.out; omega); intro v132 w28 ho hb hg hat; rw [← Ny131.out] at ho; have n0_ := za.mk (Kd.zg7 (Zq9 HO_6) (Kd.zdx (Zq10 HO_7)) (by decide) hg); have n1_ := za.mk (zx.grown (Zq5 HI0) hg (zx.zhe HI0.out HO_7.out (by decide))); have n2_ := za.mk (zc4 (Zq7 HB (zx.ge HI0.out)) HL.out hb); have n3_ := za.mk (zbc.trans (Zq6 HK) (zbc.zd7 hg g) (Kd.zhb HO_7.out)); have n4_ := za.mk (ho); clear HO_6; clear HI0; clear HB; clear HK; clear HO_7; clear HO130; have HO_6 := n0_; have HI0 := n1_; have HB := n2_; have HK := n3_; have HO133 := n4_; clear n0_ n1_ n2_ n3_ n4_; clear ho hb hg hat))
          go_roundg kj15
          case measure => have := HK1.out; have := HK2.out; have := HJ15.out; omega
          case rel => exact ⟨(y131), (wrap64 (x9_2 - 1)), (t127), Zrs, H', ⟨by have := HK1.out; have := HK2.out; have := HJ15.out; omega⟩, ⟨by (with_reducible repeat (first | apply Kd.zdm | apply Kd.zdv | apply Kd.zd8)); exact Kd.zbz HO_6.out (fun _ hk => trivial)⟩, ⟨Zq10 HO133⟩, ⟨Zq5 HI0⟩, ⟨Zq6 HK⟩, ⟨Zq7 HB (zx.ge HI0.out)⟩⟩
         ·rw [if_neg c22] at H
          exact absurd H (by simp)
        ·replace c19 := Bool.eq_false_iff.mpr c19
         subst c19;have H1 : ((zby.f kj15 s0_0 x1001_2 a1).bind fun bt134 => (if bt134.1 = true then ((zg.f kj15 s0_0 bt134.2 4).bind fun bt136 => (if bt136.1 = 0 then ((some (([0, 9] : List Int) : List Int)).bind fun y138 => ((zg.f kj15 s0_0 bt136.2 2).bind fun bt141 => (if 0 ≤ bt141.1 then (if bt141.1 < (y138.length : Int) then (if x6_1.length < 17592186044416 then (some ((x6_1 ++ [rd y138 bt141.1]), x7_2, bt141.2)) else (none)) else (none)) else (none)))) else (if bt136.1 = 1 then (if x7_2.length < 5864062014805 then (some (x6_1, (x7_2 ++ [(([1, 1] : List Int))]), bt136.2)) else (none)) else (if bt136.1 = 2 then (if x7_2.length < 5864062014805 then (some (x6_1, (x7_2 ++ [(([0, (x6_1.length : Int)] : List Int))]), bt136.2)) else (none)) else (if x7_2.length < 5864062014805 then (some (x6_1, (x7_2 ++ [(([0] : List Int))]), bt136.2)) else (none)))))) else (some (x6_1, x7_2, bt134.2)))) = some (r1, r2, r3) := by rw [if_neg (show ¬ (false = true) by decide)] at H; exact H
         clear H;have H := H1;clear H1;replace H := Option.bind_eq_some_iff.mp H;obtain ⟨⟨t134, t135⟩, A300, H⟩ := H;replace H : (if t134 = true then ((zg.f kj15 s0_0 t135 4).bind fun bt136 => (if bt136.1 = 0 then ((some (([0, 9] : List Int) : List Int)).bind fun y138 => ((zg.f kj15 s0_0 bt136.2 2).bind fun bt141 => (if 0 ≤ bt141.1 then (if bt141.1 < (y138.length : Int) then (if x6_1.length < 17592186044416 then (some ((x6_1 ++ [rd y138 bt141.1]), x7_2, bt141.2)) else (none)) else (none)) else (none)))) else (if bt136.1 = 1 then (if x7_2.length < 5864062014805 then (some (x6_1, (x7_2 ++ [(([1, 1] : List Int))]), bt136.2)) else (none)) else (if bt136.1 = 2 then (if x7_2.length < 5864062014805 then (some (x6_1, (x7_2 ++ [(([0, (x6_1.length : Int)] : List Int))]), bt136.2)) else (none)) else (if x7_2.length < 5864062014805 then (some (x6_1, (x7_2 ++ [(([0] : List Int))]), bt136.2)) else (none)))))) else (some (x6_1, x7_2, t135))) = some (r1, r2, r3) := H;have A30 := za.mk A300;clear A300;by_cases c31 : t134 = true
         ·subst c31
          have H1 : ((zg.f kj15 s0_0 t135 4).bind fun bt136 => (if bt136.1 = 0 then ((some (([0, 9] : List Int) : List Int)).bind fun y138 => ((zg.f kj15 s0_0 bt136.2 2).bind fun bt141 => (if 0 ≤ bt141.1 then (if bt141.1 < (y138.length : Int) then (if x6_1.length < 17592186044416 then (some ((x6_1 ++ [rd y138 bt141.1]), x7_2, bt141.2)) else (none)) else (none)) else (none)))) else (if bt136.1 = 1 then (if x7_2.length < 5864062014805 then (some (x6_1, (x7_2 ++ [(([1, 1] : List Int))]), bt136.2)) else (none)) else (if bt136.1 = 2 then (if x7_2.length < 5864062014805 then (some (x6_1, (x7_2 ++ [(([0, (x6_1.length : Int)] : List Int))]), bt136.2)) else (none)) else (if x7_2.length < 5864062014805 then (some (x6_1, (x7_2 ++ [(([0] : List Int))]), bt136.2)) else (none)))))) = some (r1, r2, r3) := by rw [if_pos rfl] at H; exact H
          clear H;have H := H1;clear H1;replace H := Option.bind_eq_some_iff.mp H;obtain ⟨⟨t136, t137⟩, A320, H⟩ := H;replace H : (if t136 = 0 then ((some (([0, 9] : List Int) : List Int)).bind fun y138 => ((zg.f kj15 s0_0 t137 2).bind fun bt141 => (if 0 ≤ bt141.1 then (if bt141.1 < (y138.length : Int) then (if x6_1.length < 17592186044416 then (some ((x6_1 ++ [rd y138 bt141.1]), x7_2, bt141.2)) else (none)) else (none)) else (none)))) else (if t136 = 1 then (if x7_2.length < 5864062014805 then (some (x6_1, (x7_2 ++ [(([1, 1] : List Int))]), t137)) else (none)) else (if t136 = 2 then (if x7_2.length < 5864062014805 then (some (x6_1, (x7_2 ++ [(([0, (x6_1.length : Int)] : List Int))]), t137)) else (none)) else (if x7_2.length < 5864062014805 then (some (x6_1, (x7_2 ++ [(([0] : List Int))]), t137)) else (none))))) = some (r1, r2, r3) := H;have A32 := za.mk A320;clear A320;by_cases c33 : t136 = 0
          ·rw [if_pos c33] at H
           have c33b0 : (t136 == 0) = true := beq_iff_eq.mpr c33;have c33b1 : (t136 != 0) = false := bne_eq_false_iff_eq.mpr c33;clear c33;obtain ⟨y138, hy138⟩ : ∃ y_ : List Int, y_ = (([0, 9] : List Int)) := ⟨_, rfl⟩;replace H : ((zg.f kj15 s0_0 t137 2).bind fun bt141 => (if 0 ≤ bt141.1 then (if bt141.1 < (y138.length : Int) then (if x6_1.length < 17592186044416 then (some ((x6_1 ++ [rd y138 bt141.1]), x7_2, bt141.2)) else (none)) else (none)) else (none))) = some (r1, r2, r3) := by first | (rw [hy138]; with_reducible exact H) | (have H2_ := (Option.bind_some _ _).symm.trans H; rw [hy138]; with_reducible exact H2_) | (have H2_ := (Option.bind_some _ _).symm.trans H; with_reducible exact H2_) | with_reducible exact H | (rw [hy138]; exact H) | exact H
           have Ny138 := za.mk hy138;clear hy138;replace H := Option.bind_eq_some_iff.mp H;obtain ⟨⟨t141, t142⟩, A340, H⟩ := H;replace H : (if 0 ≤ t141 then (if t141 < (y138.length : Int) then (if x6_1.length < 17592186044416 then (some ((x6_1 ++ [rd y138 t141]), x7_2, t142)) else (none)) else (none)) else (none)) = some (r1, r2, r3) := H;have A34 := za.mk A340;clear A340;by_cases c35 : 0 ≤ t141
           ·rw [if_pos c35] at H
            have c35b0 : decide (0 ≤ t141) = true := decide_eq_true c35;clear c35;by_cases c36 : t141 < (y138.length : Int)
            ·rw [if_pos c36] at H
             have c36b0 : decide (t141 < (y138.length : Int)) = true := decide_eq_true c36;clear c36;by_cases c37 : x6_1.length < 17592186044416
             ·rw [if_pos c37] at H
              have LMc37 := za.mk c37;clear c37;obtain ⟨y144, hy144⟩ : ∃ y_ : List Int, y_ = (x6_1 ++ [rd y138 t141]) := ⟨_, rfl⟩;replace H : (some (y144, x7_2, t142)) = some (r1, r2, r3) := by first | (rw [hy144]; with_reducible exact H) | (have H2_ := (Option.bind_some _ _).symm.trans H; rw [hy144]; with_reducible exact H2_) | (have H2_ := (Option.bind_some _ _).symm.trans H; with_reducible exact H2_) | with_reducible exact H | (rw [hy144]; exact H) | exact H
              have Ny144 := za.mk hy144;clear hy144;simp only [Option.some.injEq, Prod.mk.injEq] at H;obtain ⟨rfl, rfl, rfl⟩ := H
              go_wp2_with (first | ((with_reducible refine zbd (f := 60) rfl ?_); refine zb7 (some 52) rfl rfl Try.func60 (by kernel_rfl) rfl #[.pointer (some ⟨g, 0, none⟩), .int .i64 a1] rfl Zmt ?_; (with_reducible refine (zby.calls kj15 g s0_0 x1001_2 a1 true t135 w0 _ ?side1 ?side2 A30.out).mono ?_); (case side1 => exact Zq5 HI0); (case side2 => exact Zq7 HB (zx.ge HI0.out)); rintro e w38 ⟨rfl, hi, hb, hk⟩; refine ⟨_, rfl, ?_⟩; have n0_ := za.mk (Kd.zbz (Kd.zdp (zx.apart (show zx w0 _ g s0_0 x1001_2 from Zq5 HI0) (Zq9 HO_6) (by decide)) hk (fun _ h => h.2)) (fun _ h => h.1)); have n1_ := za.mk (Kd.zcx (Kd.zd1 (zx.zd2 (show zx w0 _ g s0_0 x1001_2 from Zq5 HI0) (Zq10 HO_7) (by decide)) hk (fun _ h => h.2)) (fun _ h => h.1)); have n2_ := za.mk (zbc.trans (Zq6 HK) hk (.inl rfl)); have n3_ := za.mk (hb); have n4_ := za.mk (hi); clear HO_6; clear HO_7; clear HK; clear HB; clear HI0; have HO_6 := n0_; have HO_7 := n1_; have HK := n2_; have HB := n3_; have HI0 := n4_; clear n0_ n1_ n2_ n3_ n4_; (try clear hb); (try clear hb2); (try clear hk); (try clear hi)) | ((with_reducible refine zbd (f := 59) rfl ?_); refine zb7 (some 54) rfl rfl Try.func59 (by kernel_rfl) rfl #[.pointer (some ⟨g, 0, none⟩), .int .i64 4] rfl Zmt ?_; (with_reducible refine (zg.calls kj15 g s0_0 t135 4 t136 t137 w0 _ ?side1 ?side2 A32.out).mono ?_); (case side1 => exact Zq5 HI0); (case side2 => exact Zq7 HB (zx.ge HI0.out)); rintro e w39 ⟨rfl, hi, hb, hk⟩; refine ⟨_, rfl, ?_⟩; have n0_ := za.mk (Kd.zbz (Kd.zdp (zx.apart (show zx w0 _ g s0_0 t135 from Zq5 HI0) (Zq9 HO_6) (by decide)) hk (fun _ h => h.2)) (fun _ h => h.1)); have n1_ := za.mk (Kd.zcx (Kd.zd1 (zx.zd2 (show zx w0 _ g s0_0 t135 from Zq5 HI0) (Zq10 HO_7) (by decide)) hk (fun _ h => h.2)) (fun _ h => h.1)); have n2_ := za.mk (zbc.trans (Zq6 HK) hk (.inl rfl)); have n3_ := za.mk (hb); have n4_ := za.mk (hi); clear HO_6; clear HO_7; clear HK; clear HB; clear HI0; have HO_6 := n0_; have HO_7 := n1_; have HK := n2_; have HB := n3_; have HI0 := n4_; clear n0_ n1_ n2_ n3_ n4_; (try clear hb); (try clear hb2); (try clear hk); (try clear hi)) | ((with_reducible refine zb8 (N := 62) rfl ?_); (try (refine zca (by rfl) ?_; dsimp only)); refine Kd.zft (Kd.int .i64) _ 3 ?hg (N := 62) ?hd (xs := ([0, 9] : List Int)) (inner := [.int .i64 0, .int .i64 9]) (ok := fun _ => True) (okp := fun _ => True) ?hr ?hp (fun _ hk => hk) trivial (Below.refl _ _) (Nat.le_refl _) (by simp) ?_; (case hd => rfl); (case hg => rfl); (case hr => first | (go_simp; done) | (go_simp; rfl)); (case hp => exact (Reps.one (show Kd.M (Kd.int .i64) _ _ _ 0 [.int .i64 0] from rfl) (Reps.one (show Kd.M (Kd.int .i64) _ _ _ 9 [.int .i64 9] from rfl) (Reps.none _ _)))); intro v139 w40 ho41 hb hg_ hnew_; clear hg_ hnew_; (first | rw [← Ny138.out] at ho41 | (simp only [Int.reduceToNat] at ho41; rw [← Ny138.out] at ho41)); have n0_ := za.mk (Kd.zen (Zq9 HO_6) (Kd.zd5 ho41) hb); have n1_ := za.mk (Kd.zfd (Zq10 HO_7) (Kd.zd5 ho41) hb); have n2_ := za.mk (Kd.zcg (Kd.zf5 ho41 (Kd.R_lt (Zq9 HO_6))) (zck (w := w) (g := g) (row := none) (Zq6 HK))); have n3_ := za.mk (zx.below (Zq5 HI0) hb); have n4_ := za.mk (zbc.trans (Zq6 HK) (zbc.of_below hb g none) (.inl rfl)); have n5_ := za.mk (zbi (Zq7 HB (zx.ge HI0.out)) hb); clear HO_6; clear HO_7; clear HI0; clear HK; clear HB; have HO_6 := n0_; have HO_7 := n1_; have HO140 := n2_; have HI0 := n3_; have HK := n4_; have HB := n5_; clear n0_ n1_ n2_ n3_ n4_ n5_; clear hb ho41) | ((with_reducible refine zbd (f := 59) rfl ?_); refine zb7 (some 64) rfl rfl Try.func59 (by kernel_rfl) rfl #[.pointer (some ⟨g, 0, none⟩), .int .i64 2] rfl Zmt ?_; (with_reducible refine (zg.calls kj15 g s0_0 t137 2 t141 t142 w0 _ ?side1 ?side2 A34.out).mono ?_); (case side1 => exact Zq5 HI0); (case side2 => exact Zq7 HB (zx.ge HI0.out)); rintro e w42 ⟨rfl, hi, hb, hk⟩; refine ⟨_, rfl, ?_⟩; have n0_ := za.mk (Kd.zbz (Kd.zdp (zx.apart (show zx w0 _ g s0_0 t137 from Zq5 HI0) (Zq9 HO_6) (by decide)) hk (fun _ h => h.2)) (fun _ h => h.1)); have n1_ := za.mk (Kd.zcx (Kd.zd1 (zx.zd2 (show zx w0 _ g s0_0 t137 from Zq5 HI0) (Zq10 HO_7) (by decide)) hk (fun _ h => h.2)) (fun _ h => h.1)); have n2_ := za.mk (Kd.zbz (Kd.zdp (zx.apart (show zx w0 _ g s0_0 t137 from Zq5 HI0) (Zq9 HO140) (by decide)) hk (fun _ h => h.2)) (fun _ h => h.1)); have n3_ := za.mk (zbc.trans (Zq6 HK) hk (.inl rfl)); have n4_ := za.mk (hb); have n5_ := za.mk (hi); clear HO_6; clear HO_7; clear HO140; clear HK; clear HB; clear HI0; have HO_6 := n0_; have HO_7 := n1_; have HO140 := n2_; have HK := n3_; have HB := n4_; have HI0 := n5_; clear n0_ n1_ n2_ n3_ n4_ n5_; (try clear hb); (try clear hb2); (try clear hk); (try clear hi); obtain ⟨Ao43, co43, eo43⟩ := Kd.zce HO140.out; subst eo43; have p143 : 0 ≤ (t141 : Int) := of_decide_eq_true Zas; have q143 : t141 < (y138.length : Int) := of_decide_eq_true Zas; obtain ⟨ad143, e143, hx143_0⟩ := Kd.zbq (Kd.zcj HO140.out).2.2 t141 p143 q143; cases e143; replace p143 := eq_true p143; replace q143 := eq_true q143) | ((with_reducible refine zb4 (b := .append) (xs := #[.tmp 61, .tmp 67]) rfl ?_); (try (refine zca (by rfl) ?_; dsimp only)); at_builtin; refine Kd.zds (Kd.int .i64) w.heap.size rfl (.tmp 61) (.tmp 67) 23 3 (.int .i64 0) 8 rfl Try.underlying23 info3 rfl (by decide) (by omega) u6 x6_1 (rd y138 t141) [.int .i64 (rd y138 t141)] (fun k_ => some k_ ≠ (.slice (some ad143) y138.length co43 : Value).ownBlock) (fun _ => False) rfl rfl ?aP (fun _ hk => hk.elim) ?aF ?aO (Below.refl _ _) ?aS ?aL ?_; (case aP => exact rfl); (case aF => exact (fun k_ hk => Kd.fresh' (Kd.R_lt (Zq9 HO140)) k_ hk)); (case aO => exact (by (with_reducible repeat (first | apply Kd.zdm | apply Kd.zdv | apply Kd.zd8)); exact Kd.zbz HO_6.out (fun _ hk => hk.2))); (case aS => exact (zck (w := w) (g := g) (row := none) (Zq6 HK))); (case aL => have := LMc37.out; omega); intro v145 w44 ho hb hg hat; rw [← Ny144.out] at ho; have n0_ := za.mk (Kd.S_after (ok := (fun k_ => some k_ ≠ (.slice (some ad143) y138.length co43 : Value).ownBlock)) (by (with_reducible repeat (first | apply Kd.zec | apply Kd.zed | apply Kd.ze1)); exact Kd.zcx HO_7.out (fun _ hk => ⟨hk.2, hk.1⟩)) hg hat); have n1_ := za.mk (zx.grown (Zq5 HI0) hg (zx.own_ne HI0.out HO_6.out (by decide))); have n2_ := za.mk (Kd.zid (ok := (fun _ => True)) (Zq9 HO140) hg hat); have n3_ := za.mk (zc4 (Zq7 HB (zx.ge HI0.out)) HL.out hb); have n4_ := za.mk (zbc.trans (Zq6 HK) (zbc.zd7 hg g) (Kd.zif HO_6.out)); have n5_ := za.mk (ho); clear HO_7; clear HI0; clear HO140; clear HB; clear HK; clear HO_6; have HO_7 := n0_; have HI0 := n1_; have HO140 := n2_; have HB := n3_; have HK := n4_; have HO146 := n5_; clear n0_ n1_ n2_ n3_ n4_ n5_; clear ho hb hg hat))
              go_ret2;exact ⟨_, _, by first | rfl | (simp [zq, zt] <;> rfl) | (simp [*, zq, zt] <;> rfl), by (with_reducible repeat (first | apply Kd.zdm | apply Kd.zdv | apply Kd.zd8)); exact Kd.zbz HO146.out (fun _ hk => trivial), by (with_reducible repeat (first | apply Kd.zec | apply Kd.zed | apply Kd.ze1)); exact Kd.zcx HO_7.out (fun _ hk => hk.2), Zq5 HI0, Zq7 HB (zx.ge HI0.out), Zq6 HK⟩
             ·rw [if_neg c37] at H
              exact absurd H (by simp)
            ·rw [if_neg c36] at H
             exact absurd H (by simp)
           ·rw [if_neg c35] at H
            exact absurd H (by simp)
          ·rw [if_neg c33] at H
           have c33b0 : (t136 == 0) = false := beq_eq_false_iff_ne.mpr c33;have c33b1 : (t136 != 0) = true := bne_iff_ne.mpr c33;by_cases c45 : t136 = 1
           ·rw [if_pos c45] at H
            have c45b0 : (t136 == 1) = true := beq_iff_eq.mpr c45;have c45b1 : (t136 != 1) = false := bne_eq_false_iff_eq.mpr c45;clear c45;obtain ⟨y147, hy147⟩ : ∃ y_ : List Int, y_ = (([1, 1] : List Int)) := ⟨_, rfl⟩;replace H : (if x7_2.length < 5864062014805 then (some (x6_1, (x7_2 ++ [y147]), t137)) else (none)) = some (r1, r2, r3) := by first | (rw [hy147]; with_reducible exact H) | (have H2_ := (Option.bind_some _ _).symm.trans H; rw [hy147]; with_reducible exact H2_) | (have H2_ := (Option.bind_some _ _).symm.trans H; with_reducible exact H2_) | with_reducible exact H | (rw [hy147]; exact H) | exact H
            have Ny147 := za.mk hy147;clear hy147;by_cases c46 : x7_2.length < 5864062014805
            ·rw [if_pos c46] at H
             have LMc46 := za.mk c46;clear c46;obtain ⟨y150, hy150⟩ : ∃ y_ : List (List Int), y_ = (x7_2 ++ [y147]) := ⟨_, rfl⟩;replace H : (some (x6_1, y150, t137)) = some (r1, r2, r3) := by first | (rw [hy150]; with_reducible exact H) | (have H2_ := (Option.bind_some _ _).symm.trans H; rw [hy150]; with_reducible exact H2_) | (have H2_ := (Option.bind_some _ _).symm.trans H; with_reducible exact H2_) | with_reducible exact H | (rw [hy150]; exact H) | exact H
             have Ny150 := za.mk hy150;clear hy150;simp only [Option.some.injEq, Prod.mk.injEq] at H;obtain ⟨rfl, rfl, rfl⟩ := H;go_wp2_with (first | ((with_reducible refine zbd (f := 60) rfl ?_); refine zb7 (some 52) rfl rfl Try.func60 (by kernel_rfl) rfl #[.pointer (some ⟨g, 0, none⟩), .int .i64 a1] rfl Zmt ?_; (with_reducible refine (zby.calls kj15 g s0_0 x1001_2 a1 true t135 w0 _ ?side1 ?side2 A30.out).mono ?_); (case side1 => exact Zq5 HI0); (case side2 => exact Zq7 HB (zx.ge HI0.out)); rintro e w47 ⟨rfl, hi, hb, hk⟩; refine ⟨_, rfl, ?_⟩; have n0_ := za.mk (Kd.zbz (Kd.zdp (zx.apart (show zx w0 _ g s0_0 x1001_2 from Zq5 HI0) (Zq9 HO_6) (by decide)) hk (fun _ h => h.2)) (fun _ h => h.1)); have n1_ := za.mk (Kd.zcx (Kd.zd1 (zx.zd2 (show zx w0 _ g s0_0 x1001_2 from Zq5 HI0) (Zq10 HO_7) (by decide)) hk (fun _ h => h.2)) (fun _ h => h.1)); have n2_ := za.mk (zbc.trans (Zq6 HK) hk (.inl rfl)); have n3_ := za.mk (hb); have n4_ := za.mk (hi); clear HO_6; clear HO_7; clear HK; clear HB; clear HI0; have HO_6 := n0_; have HO_7 := n1_; have HK := n2_; have HB := n3_; have HI0 := n4_; clear n0_ n1_ n2_ n3_ n4_; (try clear hb); (try clear hb2); (try clear hk); (try clear hi)) | ((with_reducible refine zbd (f := 59) rfl ?_); refine zb7 (some 54) rfl rfl Try.func59 (by kernel_rfl) rfl #[.pointer (some ⟨g, 0, none⟩), .int .i64 4] rfl Zmt ?_; (with_reducible refine (zg.calls kj15 g s0_0 t135 4 t136 t137 w0 _ ?side1 ?side2 A32.out).mono ?_); (case side1 => exact Zq5 HI0); (case side2 => exact Zq7 HB (zx.ge HI0.out)); rintro e w48 ⟨rfl, hi, hb, hk⟩; refine ⟨_, rfl, ?_⟩; have n0_ := za.mk (Kd.zbz (Kd.zdp (zx.apart (show zx w0 _ g s0_0 t135 from Zq5 HI0) (Zq9 HO_6) (by decide)) hk (fun _ h => h.2)) (fun _ h => h.1)); have n1_ := za.mk (Kd.zcx (Kd.zd1 (zx.zd2 (show zx w0 _ g s0_0 t135 from Zq5 HI0) (Zq10 HO_7) (by decide)) hk (fun _ h => h.2)) (fun _ h => h.1)); have n2_ := za.mk (zbc.trans (Zq6 HK) hk (.inl rfl)); have n3_ := za.mk (hb); have n4_ := za.mk (hi); clear HO_6; clear HO_7; clear HK; clear HB; clear HI0; have HO_6 := n0_; have HO_7 := n1_; have HK := n2_; have HB := n3_; have HI0 := n4_; clear n0_ n1_ n2_ n3_ n4_; (try clear hb); (try clear hb2); (try clear hk); (try clear hi)) | ((with_reducible refine zb8 (N := 72) rfl ?_); (try (refine zca (by rfl) ?_; dsimp only)); refine Kd.zft (Kd.int .i64) _ 3 ?hg (N := 72) ?hd (xs := ([1, 1] : List Int)) (inner := [.int .i64 1, .int .i64 1]) (ok := fun _ => True) (okp := fun _ => True) ?hr ?hp (fun _ hk => hk) trivial (Below.refl _ _) (Nat.le_refl _) (by simp) ?_; (case hd => rfl); (case hg => rfl); (case hr => first | (go_simp; done) | (go_simp; rfl)); (case hp => exact (Reps.one (show Kd.M (Kd.int .i64) _ _ _ 1 [.int .i64 1] from rfl) (Reps.one (show Kd.M (Kd.int .i64) _ _ _ 1 [.int .i64 1] from rfl) (Reps.none _ _)))); intro v148 w49 ho50 hb hg_ hnew_; clear hg_ hnew_; (first | rw [← Ny147.out] at ho50 | (simp only [Int.reduceToNat] at ho50; rw [← Ny147.out] at ho50)); have n0_ := za.mk (Kd.zen (Zq9 HO_6) (Kd.zd5 ho50) hb); have n1_ := za.mk (Kd.zfd (Zq10 HO_7) (Kd.zd5 ho50) hb); have n2_ := za.mk (Kd.zcg (Kd.zf5 ho50 (Kd.R_lt (Zq9 HO_6))) (zck (w := w) (g := g) (row := none) (Zq6 HK))); have n3_ := za.mk (zx.below (Zq5 HI0) hb); have n4_ := za.mk (zbc.trans (Zq6 HK) (zbc.of_below hb g none) (.inl rfl)); have n5_ := za.mk (zbi (Zq7 HB (zx.ge HI0.out)) hb); clear HO_6; clear HO_7; clear HI0; clear HK; clear HB; have HO_6 := n0_; have HO_7 := n1_; have HO149 := n2_; have HI0 := n3_; have HK := n4_; have HB := n5_; clear n0_ n1_ n2_ n3_ n4_ n5_; clear hb ho50; obtain ⟨Ao52, co52, eo52⟩ := Kd.zce HO149.out; subst eo52) | ((with_reducible refine zb4 (b := .append) (xs := #[.tmp 71, .tmp 73]) rfl ?_); (try (refine zca (by rfl) ?_; dsimp only)); at_builtin; refine Kd.zfv (Kd.slice 3 (Kd.int .i64)) w.heap.size rfl (.tmp 71) (.tmp 73) 24 23 (.slice none 0 0) 24 rfl Try.underlying24 zgb rfl (by decide) (by omega) u7 x7_2 y147 [.slice Ao52 y147.length co52] (fun k_ => some k_ ≠ (u6 : Value).ownBlock) (fun k_ => some k_ = (.slice Ao52 y147.length co52 : Value).ownBlock) rfl rfl ?aP (fun k_ hk_ => ((Kd.zbz (ok' := fun k_ => ((fun k_ => some k_ ≠ (u6 : Value).ownBlock)) k_ ∧ some k_ ≠ (u7 : Value).ownBlock) (Kd.zd9 (HO149.out) (Kd.zdx HO_7.out) (by decide)) (fun k_ hk => ⟨hk.1.2, hk.2⟩))).1 k_ hk_.symm) ?aF ?aO (Below.refl _ _) ?aS ?aL ?_; (case aP => exact Kd.M_row (Kd.zbz (Kd.zew rfl (Kd.zbz (ok' := fun k_ => ((fun k_ => some k_ ≠ (u6 : Value).ownBlock)) k_ ∧ some k_ ≠ (u7 : Value).ownBlock) (Kd.zd9 (HO149.out) (Kd.zdx HO_7.out) (by decide)) (fun k_ hk => ⟨hk.1.2, hk.2⟩))) (fun _ h_ => h_))); (case aF => exact (fun k_ hk => Kd.fresh' (Kd.R_lt (Zq9 HO_6)) k_ hk)); (case aO => exact (by (with_reducible repeat (first | apply Kd.zec | apply Kd.zed | apply Kd.ze1)); exact Kd.zcx HO_7.out (fun k_ hk => ⟨hk.1, fun e_ => hk.2 e_⟩))); (case aS => exact (zck (w := w) (g := g) (row := none) (Zq6 HK))); (case aL => have := LMc46.out; omega); intro v151 w51 ho hb hg hat; rw [← Ny150.out] at ho; have n0_ := za.mk (Kd.zg7 (Zq9 HO_6) (Kd.zdx (Zq10 HO_7)) (by decide) hg); have n1_ := za.mk (zx.grown (Zq5 HI0) hg (zx.zhe HI0.out HO_7.out (by decide))); have n2_ := za.mk (zc4 (Zq7 HB (zx.ge HI0.out)) HL.out hb); have n3_ := za.mk (zbc.trans (Zq6 HK) (zbc.zd7 hg g) (Kd.zhb HO_7.out)); have n4_ := za.mk (ho); clear HO_6; clear HI0; clear HB; clear HK; clear HO_7; clear HO149; have HO_6 := n0_; have HI0 := n1_; have HB := n2_; have HK := n3_; have HO152 := n4_; clear n0_ n1_ n2_ n3_ n4_; clear ho hb hg hat));go_ret2
             exact ⟨_, _, by first | rfl | (simp [zq, zt] <;> rfl) | (simp [*, zq, zt] <;> rfl), by (with_reducible repeat (first | apply Kd.zdm | apply Kd.zdv | apply Kd.zd8)); exact Kd.zbz HO_6.out (fun _ hk => trivial), Zq10 HO152, Zq5 HI0, Zq7 HB (zx.ge HI0.out), Zq6 HK⟩
            ·rw [if_neg c46] at H
             exact absurd H (by simp)
           ·rw [if_neg c45] at H
            have c45b0 : (t136 == 1) = false := beq_eq_false_iff_ne.mpr c45;have c45b1 : (t136 != 1) = true := bne_iff_ne.mpr c45;by_cases c53 : t136 = 2
            ·rw [if_pos c53] at H
             have c53b0 : (t136 == 2) = true := beq_iff_eq.mpr c53;have c53b1 : (t136 != 2) = false := bne_eq_false_iff_eq.mpr c53;clear c53;obtain ⟨y153, hy153⟩ : ∃ y_ : List Int, y_ = (([0, (x6_1.length : Int)] : List Int)) := ⟨_, rfl⟩;replace H : (if x7_2.length < 5864062014805 then (some (x6_1, (x7_2 ++ [y153]), t137)) else (none)) = some (r1, r2, r3) := by first | (rw [hy153]; with_reducible exact H) | (have H2_ := (Option.bind_some _ _).symm.trans H; rw [hy153]; with_reducible exact H2_) | (have H2_ := (Option.bind_some _ _).symm.trans H; with_reducible exact H2_) | with_reducible exact H | (rw [hy153]; exact H) | exact H
             have Ny153 := za.mk hy153;clear hy153;by_cases c54 : x7_2.length < 5864062014805
             ·rw [if_pos c54] at H
              have LMc54 := za.mk c54;clear c54;obtain ⟨y156, hy156⟩ : ∃ y_ : List (List Int), y_ = (x7_2 ++ [y153]) := ⟨_, rfl⟩;replace H : (some (x6_1, y156, t137)) = some (r1, r2, r3) := by first | (rw [hy156]; with_reducible exact H) | (have H2_ := (Option.bind_some _ _).symm.trans H; rw [hy156]; with_reducible exact H2_) | (have H2_ := (Option.bind_some _ _).symm.trans H; with_reducible exact H2_) | with_reducible exact H | (rw [hy156]; exact H) | exact H
              have Ny156 := za.mk hy156;clear hy156;simp only [Option.some.injEq, Prod.mk.injEq] at H;obtain ⟨rfl, rfl, rfl⟩ := H
              go_wp2_with (first | ((with_reducible refine zbd (f := 60) rfl ?_); refine zb7 (some 52) rfl rfl Try.func60 (by kernel_rfl) rfl #[.pointer (some ⟨g, 0, none⟩), .int .i64 a1] rfl Zmt ?_; (with_reducible refine (zby.calls kj15 g s0_0 x1001_2 a1 true t135 w0 _ ?side1 ?side2 A30.out).mono ?_); (case side1 => exact Zq5 HI0); (case side2 => exact Zq7 HB (zx.ge HI0.out)); rintro e w55 ⟨rfl, hi, hb, hk⟩; refine ⟨_, rfl, ?_⟩; have n0_ := za.mk (Kd.zbz (Kd.zdp (zx.apart (show zx w0 _ g s0_0 x1001_2 from Zq5 HI0) (Zq9 HO_6) (by decide)) hk (fun _ h => h.2)) (fun _ h => h.1)); have n1_ := za.mk (Kd.zcx (Kd.zd1 (zx.zd2 (show zx w0 _ g s0_0 x1001_2 from Zq5 HI0) (Zq10 HO_7) (by decide)) hk (fun _ h => h.2)) (fun _ h => h.1)); have n2_ := za.mk (zbc.trans (Zq6 HK) hk (.inl rfl)); have n3_ := za.mk (hb); have n4_ := za.mk (hi); clear HO_6; clear HO_7; clear HK; clear HB; clear HI0; have HO_6 := n0_; have HO_7 := n1_; have HK := n2_; have HB := n3_; have HI0 := n4_; clear n0_ n1_ n2_ n3_ n4_; (try clear hb); (try clear hb2); (try clear hk); (try clear hi)) | ((with_reducible refine zbd (f := 59) rfl ?_); refine zb7 (some 54) rfl rfl Try.func59 (by kernel_rfl) rfl #[.pointer (some ⟨g, 0, none⟩), .int .i64 4] rfl Zmt ?_; (with_reducible refine (zg.calls kj15 g s0_0 t135 4 t136 t137 w0 _ ?side1 ?side2 A32.out).mono ?_); (case side1 => exact Zq5 HI0); (case side2 => exact Zq7 HB (zx.ge HI0.out)); rintro e w56 ⟨rfl, hi, hb, hk⟩; refine ⟨_, rfl, ?_⟩; have n0_ := za.mk (Kd.zbz (Kd.zdp (zx.apart (show zx w0 _ g s0_0 t135 from Zq5 HI0) (Zq9 HO_6) (by decide)) hk (fun _ h => h.2)) (fun _ h => h.1)); have n1_ := za.mk (Kd.zcx (Kd.zd1 (zx.zd2 (show zx w0 _ g s0_0 t135 from Zq5 HI0) (Zq10 HO_7) (by decide)) hk (fun _ h => h.2)) (fun _ h => h.1)); have n2_ := za.mk (zbc.trans (Zq6 HK) hk (.inl rfl)); have n3_ := za.mk (hb); have n4_ := za.mk (hi); clear HO_6; clear HO_7; clear HK; clear HB; clear HI0; have HO_6 := n0_; have HO_7 := n1_; have HK := n2_; have HB := n3_; have HI0 := n4_; clear n0_ n1_ n2_ n3_ n4_; (try clear hb); (try clear hb2); (try clear hk); (try clear hi); obtain ⟨Ao57, co57, eo57⟩ := Kd.zce HO_6.out; subst eo57) | ((with_reducible refine zb8 (N := 80) rfl ?_); (try (refine zca (by rfl) ?_; dsimp only)); refine Kd.zft (Kd.int .i64) _ 3 ?hg (N := 80) ?hd (xs := ([0, (x6_1.length : Int)] : List Int)) (inner := [.int .i64 0, .int .i64 (x6_1.length : Int)]) (ok := fun _ => True) (okp := fun _ => True) ?hr ?hp (fun _ hk => hk) trivial (Below.refl _ _) (Nat.le_refl _) (by simp) ?_; (case hd => rfl); (case hg => rfl); (case hr => first | (go_simp; done) | (go_simp; rfl)); (case hp => exact (Reps.one (show Kd.M (Kd.int .i64) _ _ _ 0 [.int .i64 0] from rfl) (Reps.one (show Kd.M (Kd.int .i64) _ _ _ (x6_1.length : Int) [.int .i64 (x6_1.length : Int)] from rfl) (Reps.none _ _)))); intro v154 w58 ho59 hb hg_ hnew_; clear hg_ hnew_; (first | rw [← Ny153.out] at ho59 | (simp only [Int.reduceToNat] at ho59; rw [← Ny153.out] at ho59)); have n0_ := za.mk (Kd.zen (Zq9 HO_6) (Kd.zd5 ho59) hb); have n1_ := za.mk (Kd.zfd (Zq10 HO_7) (Kd.zd5 ho59) hb); have n2_ := za.mk (Kd.zcg (Kd.zf5 ho59 (Kd.R_lt (Zq9 HO_6))) (zck (w := w) (g := g) (row := none) (Zq6 HK))); have n3_ := za.mk (zx.below (Zq5 HI0) hb); have n4_ := za.mk (zbc.trans (Zq6 HK) (zbc.of_below hb g none) (.inl rfl)); have n5_ := za.mk (zbi (Zq7 HB (zx.ge HI0.out)) hb); clear HO_6; clear HO_7; clear HI0; clear HK; clear HB; have HO_6 := n0_; have HO_7 := n1_; have HO155 := n2_; have HI0 := n3_; have HK := n4_; have HB := n5_; clear n0_ n1_ n2_ n3_ n4_ n5_; clear hb ho59; obtain ⟨Ao61, co61, eo61⟩ := Kd.zce HO155.out; subst eo61) | ((with_reducible refine zb4 (b := .append) (xs := #[.tmp 77, .tmp 81]) rfl ?_); (try (refine zca (by rfl) ?_; dsimp only)); at_builtin; refine Kd.zfv (Kd.slice 3 (Kd.int .i64)) w.heap.size rfl (.tmp 77) (.tmp 81) 24 23 (.slice none 0 0) 24 rfl Try.underlying24 zgb rfl (by decide) (by omega) u7 x7_2 y153 [.slice Ao61 y153.length co61] (fun k_ => some k_ ≠ (.slice Ao57 x6_1.length co57 : Value).ownBlock) (fun k_ => some k_ = (.slice Ao61 y153.length co61 : Value).ownBlock) rfl rfl ?aP (fun k_ hk_ => ((Kd.zbz (ok' := fun k_ => ((fun k_ => some k_ ≠ (.slice Ao57 x6_1.length co57 : Value).ownBlock)) k_ ∧ some k_ ≠ (u7 : Value).ownBlock) (Kd.zd9 (HO155.out) (Kd.zdx HO_7.out) (by decide)) (fun k_ hk => ⟨hk.1.2, hk.2⟩))).1 k_ hk_.symm) ?aF ?aO (Below.refl _ _) ?aS ?aL ?_; (case aP => exact Kd.M_row (Kd.zbz (Kd.zew rfl (Kd.zbz (ok' := fun k_ => ((fun k_ => some k_ ≠ (.slice Ao57 x6_1.length co57 : Value).ownBlock)) k_ ∧ some k_ ≠ (u7 : Value).ownBlock) (Kd.zd9 (HO155.out) (Kd.zdx HO_7.out) (by decide)) (fun k_ hk => ⟨hk.1.2, hk.2⟩))) (fun _ h_ => h_))); (case aF => exact (fun k_ hk => Kd.fresh' (Kd.R_lt (Zq9 HO_6)) k_ hk)); (case aO => exact (by (with_reducible repeat (first | apply Kd.zec | apply Kd.zed | apply Kd.ze1)); exact Kd.zcx HO_7.out (fun k_ hk => ⟨hk.1, fun e_ => hk.2 e_⟩))); (case aS => exact (zck (w := w) (g := g) (row := none) (Zq6 HK))); (case aL => have := LMc54.out; omega); intro v157 w60 ho hb hg hat; rw [← Ny156.out] at ho; have n0_ := za.mk (Kd.zg7 (Zq9 HO_6) (Kd.zdx (Zq10 HO_7)) (by decide) hg); have n1_ := za.mk (zx.grown (Zq5 HI0) hg (zx.zhe HI0.out HO_7.out (by decide))); have n2_ := za.mk (zc4 (Zq7 HB (zx.ge HI0.out)) HL.out hb); have n3_ := za.mk (zbc.trans (Zq6 HK) (zbc.zd7 hg g) (Kd.zhb HO_7.out)); have n4_ := za.mk (ho); clear HO_6; clear HI0; clear HB; clear HK; clear HO_7; clear HO155; have HO_6 := n0_; have HI0 := n1_; have HB := n2_; have HK := n3_; have HO158 := n4_; clear n0_ n1_ n2_ n3_ n4_; clear ho hb hg hat))
              go_ret2;exact ⟨_, _, by first | rfl | (simp [zq, zt] <;> rfl) | (simp [*, zq, zt] <;> rfl), by (with_reducible repeat (first | apply Kd.zdm | apply Kd.zdv | apply Kd.zd8)); exact Kd.zbz HO_6.out (fun _ hk => trivial), Zq10 HO158, Zq5 HI0, Zq7 HB (zx.ge HI0.out), Zq6 HK⟩
             ·rw [if_neg c54] at H
              exact absurd H (by simp)
            ·rw [if_neg c53] at H
             have c53b0 : (t136 == 2) = false := beq_eq_false_iff_ne.mpr c53;have c53b1 : (t136 != 2) = true := bne_iff_ne.mpr c53;obtain ⟨y159, hy159⟩ : ∃ y_ : List Int, y_ = (([0] : List Int)) := ⟨_, rfl⟩;replace H : (if x7_2.length < 5864062014805 then (some (x6_1, (x7_2 ++ [y159]), t137)) else (none)) = some (r1, r2, r3) := by first | (rw [hy159]; with_reducible exact H) | (have H2_ := (Option.bind_some _ _).symm.trans H; rw [hy159]; with_reducible exact H2_) | (have H2_ := (Option.bind_some _ _).symm.trans H; with_reducible exact H2_) | with_reducible exact H | (rw [hy159]; exact H) | exact H
             have Ny159 := za.mk hy159;clear hy159;by_cases c62 : x7_2.length < 5864062014805
             ·rw [if_pos c62] at H
              have LMc62 := za.mk c62;clear c62;obtain ⟨y162, hy162⟩ : ∃ y_ : List (List Int), y_ = (x7_2 ++ [y159]) := ⟨_, rfl⟩;replace H : (some (x6_1, y162, t137)) = some (r1, r2, r3) := by first | (rw [hy162]; with_reducible exact H) | (have H2_ := (Option.bind_some _ _).symm.trans H; rw [hy162]; with_reducible exact H2_) | (have H2_ := (Option.bind_some _ _).symm.trans H; with_reducible exact H2_) | with_reducible exact H | (rw [hy162]; exact H) | exact H
              have Ny162 := za.mk hy162;clear hy162;simp only [Option.some.injEq, Prod.mk.injEq] at H;obtain ⟨rfl, rfl, rfl⟩ := H;go_wp2_with (first | ((with_reducible refine zbd (f := 60) rfl ?_); refine zb7 (some 52) rfl rfl Try.func60 (by kernel_rfl) rfl #[.pointer (some ⟨g, 0, none⟩), .int .i64 a1] rfl Zmt ?_; (with_reducible refine (zby.calls kj15 g s0_0 x1001_2 a1 true t135 w0 _ ?side1 ?side2 A30.out).mono ?_); (case side1 => exact Zq5 HI0); (case side2 => exact Zq7 HB (zx.ge HI0.out)); rintro e w63 ⟨rfl, hi, hb, hk⟩; refine ⟨_, rfl, ?_⟩; have n0_ := za.mk (Kd.zbz (Kd.zdp (zx.apart (show zx w0 _ g s0_0 x1001_2 from Zq5 HI0) (Zq9 HO_6) (by decide)) hk (fun _ h => h.2)) (fun _ h => h.1)); have n1_ := za.mk (Kd.zcx (Kd.zd1 (zx.zd2 (show zx w0 _ g s0_0 x1001_2 from Zq5 HI0) (Zq10 HO_7) (by decide)) hk (fun _ h => h.2)) (fun _ h => h.1)); have n2_ := za.mk (zbc.trans (Zq6 HK) hk (.inl rfl)); have n3_ := za.mk (hb); have n4_ := za.mk (hi); clear HO_6; clear HO_7; clear HK; clear HB; clear HI0; have HO_6 := n0_; have HO_7 := n1_; have HK := n2_; have HB := n3_; have HI0 := n4_; clear n0_ n1_ n2_ n3_ n4_; (try clear hb); (try clear hb2); (try clear hk); (try clear hi)) | ((with_reducible refine zbd (f := 59) rfl ?_); refine zb7 (some 54) rfl rfl Try.func59 (by kernel_rfl) rfl #[.pointer (some ⟨g, 0, none⟩), .int .i64 4] rfl Zmt ?_; (with_reducible refine (zg.calls kj15 g s0_0 t135 4 t136 t137 w0 _ ?side1 ?side2 A32.out).mono ?_); (case side1 => exact Zq5 HI0); (case side2 => exact Zq7 HB (zx.ge HI0.out)); rintro e w64 ⟨rfl, hi, hb, hk⟩; refine ⟨_, rfl, ?_⟩; have n0_ := za.mk (Kd.zbz (Kd.zdp (zx.apart (show zx w0 _ g s0_0 t135 from Zq5 HI0) (Zq9 HO_6) (by decide)) hk (fun _ h => h.2)) (fun _ h => h.1)); have n1_ := za.mk (Kd.zcx (Kd.zd1 (zx.zd2 (show zx w0 _ g s0_0 t135 from Zq5 HI0) (Zq10 HO_7) (by decide)) hk (fun _ h => h.2)) (fun _ h => h.1)); have n2_ := za.mk (zbc.trans (Zq6 HK) hk (.inl rfl)); have n3_ := za.mk (hb); have n4_ := za.mk (hi); clear HO_6; clear HO_7; clear HK; clear HB; clear HI0; have HO_6 := n0_; have HO_7 := n1_; have HK := n2_; have HB := n3_; have HI0 := n4_; clear n0_ n1_ n2_ n3_ n4_; (try clear hb); (try clear hb2); (try clear hk); (try clear hi)) | ((with_reducible refine zb8 (N := 56) rfl ?_); (try (refine zca (by rfl) ?_; dsimp only)); refine Kd.zft (Kd.int .i64) _ 3 ?hg (N := 56) ?hd (xs := ([0] : List Int)) (inner := [.int .i64 0]) (ok := fun _ => True) (okp := fun _ => True) ?hr ?hp (fun _ hk => hk) trivial (Below.refl _ _) (Nat.le_refl _) (by simp) ?_; (case hd => rfl); (case hg => rfl); (case hr => first | (go_simp; done) | (go_simp; rfl)); (case hp => exact (Reps.one (show Kd.M (Kd.int .i64) _ _ _ 0 [.int .i64 0] from rfl) (Reps.none _ _))); intro v160 w65 ho66 hb hg_ hnew_; clear hg_ hnew_; (first | rw [← Ny159.out] at ho66 | (simp only [Int.reduceToNat] at ho66; rw [← Ny159.out] at ho66)); have n0_ := za.mk (Kd.zen (Zq9 HO_6) (Kd.zd5 ho66) hb); have n1_ := za.mk (Kd.zfd (Zq10 HO_7) (Kd.zd5 ho66) hb); have n2_ := za.mk (Kd.zcg (Kd.zf5 ho66 (Kd.R_lt (Zq9 HO_6))) (zck (w := w) (g := g) (row := none) (Zq6 HK))); have n3_ := za.mk (zx.below (Zq5 HI0) hb); have n4_ := za.mk (zbc.trans (Zq6 HK) (zbc.of_below hb g none) (.inl rfl)); have n5_ := za.mk (zbi (Zq7 HB (zx.ge HI0.out)) hb); clear HO_6; clear HO_7; clear HI0; clear HK; clear HB; have HO_6 := n0_; have HO_7 := n1_; have HO161 := n2_; have HI0 := n3_; have HK := n4_; have HB := n5_; clear n0_ n1_ n2_ n3_ n4_ n5_; clear hb ho66; obtain ⟨Ao68, co68, eo68⟩ := Kd.zce HO161.out; subst eo68) | ((with_reducible refine zb4 (b := .append) (xs := #[.tmp 55, .tmp 57]) rfl ?_); (try (refine zca (by rfl) ?_; dsimp only)); at_builtin; refine Kd.zfv (Kd.slice 3 (Kd.int .i64)) w.heap.size rfl (.tmp 55) (.tmp 57) 24 23 (.slice none 0 0) 24 rfl Try.underlying24 zgb rfl (by decide) (by omega) u7 x7_2 y159 [.slice Ao68 y159.length co68] (fun k_ => some k_ ≠ (u6 : Value).ownBlock) (fun k_ => some k_ = (.slice Ao68 y159.length co68 : Value).ownBlock) rfl rfl ?aP (fun k_ hk_ => ((Kd.zbz (ok' := fun k_ => ((fun k_ => some k_ ≠ (u6 : Value).ownBlock)) k_ ∧ some k_ ≠ (u7 : Value).ownBlock) (Kd.zd9 (HO161.out) (Kd.zdx HO_7.out) (by decide)) (fun k_ hk => ⟨hk.1.2, hk.2⟩))).1 k_ hk_.symm) ?aF ?aO (Below.refl _ _) ?aS ?aL ?_; (case aP => exact Kd.M_row (Kd.zbz (Kd.zew rfl (Kd.zbz (ok' := fun k_ => ((fun k_ => some k_ ≠ (u6 : Value).ownBlock)) k_ ∧ some k_ ≠ (u7 : Value).ownBlock) (Kd.zd9 (HO161.out) (Kd.zdx HO_7.out) (by decide)) (fun k_ hk => ⟨hk.1.2, hk.2⟩))) (fun _ h_ => h_))); (case aF => exact (fun k_ hk => Kd.fresh' (Kd.R_lt (Zq9 HO_6)) k_ hk)); (case aO => exact (by (with_reducible repeat (first | apply Kd.zec | apply Kd.zed | apply Kd.ze1)); exact Kd.zcx HO_7.out (fun k_ hk => ⟨hk.1, fun e_ => hk.2 e_⟩))); (case aS => exact (zck (w := w) (g := g) (row := none) (Zq6 HK))); (case aL => have := LMc62.out; omega); intro v163 w67 ho hb hg hat; rw [← Ny162.out] at ho; have n0_ := za.mk (Kd.zg7 (Zq9 HO_6) (Kd.zdx (Zq10 HO_7)) (by decide) hg); have n1_ := za.mk (zx.grown (Zq5 HI0) hg (zx.zhe HI0.out HO_7.out (by decide))); have n2_ := za.mk (zc4 (Zq7 HB (zx.ge HI0.out)) HL.out hb); have n3_ := za.mk (zbc.trans (Zq6 HK) (zbc.zd7 hg g) (Kd.zhb HO_7.out)); have n4_ := za.mk (ho); clear HO_6; clear HI0; clear HB; clear HK; clear HO_7; clear HO161; have HO_6 := n0_; have HI0 := n1_; have HB := n2_; have HK := n3_; have HO164 := n4_; clear n0_ n1_ n2_ n3_ n4_; clear ho hb hg hat));go_ret2
              exact ⟨_, _, by first | rfl | (simp [zq, zt] <;> rfl) | (simp [*, zq, zt] <;> rfl), by (with_reducible repeat (first | apply Kd.zdm | apply Kd.zdv | apply Kd.zd8)); exact Kd.zbz HO_6.out (fun _ hk => trivial), Zq10 HO164, Zq5 HI0, Zq7 HB (zx.ge HI0.out), Zq6 HK⟩
             ·rw [if_neg c62] at H
              exact absurd H (by simp)
         ·replace c31 := Bool.eq_false_iff.mpr c31
          subst c31;have H1 : (some (x6_1, x7_2, t135)) = some (r1, r2, r3) := by rw [if_neg (show ¬ (false = true) by decide)] at H; exact H
          clear H;have H := H1;clear H1;simp only [Option.some.injEq, Prod.mk.injEq] at H;obtain ⟨rfl, rfl, rfl⟩ := H;go_wp2_with (first | ((with_reducible refine zbd (f := 60) rfl ?_); refine zb7 (some 52) rfl rfl Try.func60 (by kernel_rfl) rfl #[.pointer (some ⟨g, 0, none⟩), .int .i64 a1] rfl Zmt ?_; (with_reducible refine (zby.calls kj15 g s0_0 x1001_2 a1 false t135 w0 _ ?side1 ?side2 A30.out).mono ?_); (case side1 => exact Zq5 HI0); (case side2 => exact Zq7 HB (zx.ge HI0.out)); rintro e w69 ⟨rfl, hi, hb, hk⟩; refine ⟨_, rfl, ?_⟩; have n0_ := za.mk (Kd.zbz (Kd.zdp (zx.apart (show zx w0 _ g s0_0 x1001_2 from Zq5 HI0) (Zq9 HO_6) (by decide)) hk (fun _ h => h.2)) (fun _ h => h.1)); have n1_ := za.mk (Kd.zcx (Kd.zd1 (zx.zd2 (show zx w0 _ g s0_0 x1001_2 from Zq5 HI0) (Zq10 HO_7) (by decide)) hk (fun _ h => h.2)) (fun _ h => h.1)); have n2_ := za.mk (zbc.trans (Zq6 HK) hk (.inl rfl)); have n3_ := za.mk (hb); have n4_ := za.mk (hi); clear HO_6; clear HO_7; clear HK; clear HB; clear HI0; have HO_6 := n0_; have HO_7 := n1_; have HK := n2_; have HB := n3_; have HI0 := n4_; clear n0_ n1_ n2_ n3_ n4_; (try clear hb); (try clear hb2); (try clear hk); (try clear hi)));go_ret2;exact ⟨_, _, by first | rfl | (simp [zq, zt] <;> rfl) | (simp [*, zq, zt] <;> rfl), Zq9 HO_6, Zq10 HO_7, Zq5 HI0, Zq7 HB (zx.ge HI0.out), Zq6 HK⟩
def zcf.f (k : Nat) (s0_0 : List Int) (s0_1 : Int) (a1 : Int) : Option (Int × Int) := (zby.f k s0_0 s0_1 a1).bind fun bt165 => (if bt165.1 = true then ((some (([0, (-1), 6] : List Int) : List Int)).bind fun y167 => ((zg.f k s0_0 bt165.2 3).bind fun bt170 => (if 0 ≤ bt170.1 then (if bt170.1 < (y167.length : Int) then (some (rd y167 bt170.1, bt170.2)) else (none)) else (none)))) else ((zg.f k s0_0 bt165.2 4).bind fun bt173 => (some (wrap64 (1 + bt173.1), bt173.2))))
set_option maxHeartbeats 8000000 in
theorem zcf.calls (k : Nat) (g : Nat) (s0_0 : List Int) (s0_1 : Int) (a1 : Int) (r1 : Int) (r2 : Int) (w0 w : World) (hI : zx w0 w g s0_0 s0_1) (hB : Below w0.heap.size w0 w) (h : zcf.f k s0_0 s0_1 a1 = some (r1, r2)) :
  Calls Try.prog 45 #[.pointer (some ⟨g, 0, none⟩), .int .i64 a1] w fun e w' => e = .returned (.int .i64 r1) ∧ zx w0 w' g s0_0 r2 ∧ Below w0.heap.size w0 w' ∧ zbc w w' g none := by
 have HI0 := za.mk hI
 have HK := za.mk (zbc.refl w g none)
 have HL := za.mk hB.size
 clear hI
 have HW0 := za.mk hB.size
 have HB := za.mk hB
 clear hB
 have H : ((zby.f k s0_0 s0_1 a1).bind fun bt165 => (if bt165.1 = true then ((some (([0, (-1), 6] : List Int) : List Int)).bind fun y167 => ((zg.f k s0_0 bt165.2 3).bind fun bt170 => (if 0 ≤ bt170.1 then (if bt170.1 < (y167.length : Int) then (some (rd y167 bt170.1, bt170.2)) else (none)) else (none)))) else ((zg.f k s0_0 bt165.2 4).bind fun bt173 => (some (wrap64 (1 + bt173.1), bt173.2))))) = some (r1, r2) := h
 clear h
 replace H := Option.bind_eq_some_iff.mp H
 obtain ⟨⟨t165, t166⟩, A30, H⟩ := H
 replace H : (if t165 = true then ((some (([0, (-1), 6] : List Int) : List Int)).bind fun y167 => ((zg.f k s0_0 t166 3).bind fun bt170 => (if 0 ≤ bt170.1 then (if bt170.1 < (y167.length : Int) then (some (rd y167 bt170.1, bt170.2)) else (none)) else (none)))) else ((zg.f k s0_0 t166 4).bind fun bt173 => (some (wrap64 (1 + bt173.1), bt173.2)))) = some (r1, r2) := H
 have A3 := za.mk A30
 clear A30
 by_cases c4 : t165 = true
 ·subst c4
  have H1 : ((some (([0, (-1), 6] : List Int) : List Int)).bind fun y167 => ((zg.f k s0_0 t166 3).bind fun bt170 => (if 0 ≤ bt170.1 then (if bt170.1 < (y167.length : Int) then (some (rd y167 bt170.1, bt170.2)) else (none)) else (none)))) = some (r1, r2) := by rw [if_pos rfl] at H; exact H
  clear H;have H := H1;clear H1;obtain ⟨y167, hy167⟩ : ∃ y_ : List Int, y_ = (([0, (-1), 6] : List Int)) := ⟨_, rfl⟩;replace H : ((zg.f k s0_0 t166 3).bind fun bt170 => (if 0 ≤ bt170.1 then (if bt170.1 < (y167.length : Int) then (some (rd y167 bt170.1, bt170.2)) else (none)) else (none))) = some (r1, r2) := by first | (rw [hy167]; with_reducible exact H) | (have H2_ := (Option.bind_some _ _).symm.trans H; rw [hy167]; with_reducible exact H2_) | (have H2_ := (Option.bind_some _ _).symm.trans H; with_reducible exact H2_) | with_reducible exact H | (rw [hy167]; exact H) | exact H
  have Ny167 := za.mk hy167;clear hy167;replace H := Option.bind_eq_some_iff.mp H;obtain ⟨⟨t170, t171⟩, A50, H⟩ := H;replace H : (if 0 ≤ t170 then (if t170 < (y167.length : Int) then (some (rd y167 t170, t171)) else (none)) else (none)) = some (r1, r2) := H;have A5 := za.mk A50;clear A50;by_cases c6 : 0 ≤ t170
  ·rw [if_pos c6] at H
   have c6b0 : decide (0 ≤ t170) = true := decide_eq_true c6;clear c6;by_cases c7 : t170 < (y167.length : Int)
   ·rw [if_pos c7] at H
    have c7b0 : decide (t170 < (y167.length : Int)) = true := decide_eq_true c7;clear c7;simp only [Option.some.injEq, Prod.mk.injEq] at H;obtain ⟨rfl, rfl⟩ := H;go_enter Try.func45, Try.ntmps45;go_wp2_with (first | ((with_reducible refine zbd (f := 60) rfl ?_); refine zb7 (some 7) rfl rfl Try.func60 (by kernel_rfl) rfl #[.pointer (some ⟨g, 0, none⟩), .int .i64 a1] rfl Zmt ?_; (with_reducible refine (zby.calls k g s0_0 s0_1 a1 true t166 w0 _ ?side1 ?side2 A3.out).mono ?_); (case side1 => exact Zq5 HI0); (case side2 => exact Zq7 HB (zx.ge HI0.out)); rintro e w8 ⟨rfl, hi, hb, hk⟩; refine ⟨_, rfl, ?_⟩; have n0_ := za.mk (zbc.trans (Zq6 HK) hk (.inl rfl)); have n1_ := za.mk (hb); have n2_ := za.mk (hi); clear HK; clear HB; clear HI0; have HK := n0_; have HB := n1_; have HI0 := n2_; clear n0_ n1_ n2_; (try clear hb); (try clear hb2); (try clear hk); (try clear hi)) | ((with_reducible refine zb8 (N := 8) rfl ?_); refine Kd.zft (Kd.int .i64) _ 3 ?hg (N := 8) ?hd (xs := ([0, (-1), 6] : List Int)) (inner := [.int .i64 0, .int .i64 (-1), .int .i64 6]) (ok := fun _ => True) (okp := fun _ => True) ?hr ?hp (fun _ hk => hk) trivial (Below.refl _ _) (Nat.le_refl _) (by simp) ?_; (case hd => rfl); (case hg => rfl); (case hr => first | (go_simp; done) | (go_simp; rfl)); (case hp => exact (Reps.one (show Kd.M (Kd.int .i64) _ _ _ 0 [.int .i64 0] from rfl) (Reps.one (show Kd.M (Kd.int .i64) _ _ _ (-1) [.int .i64 (-1)] from rfl) (Reps.one (show Kd.M (Kd.int .i64) _ _ _ 6 [.int .i64 6] from rfl) (Reps.none _ _))))); intro v168 w9 ho10 hb hg_ hnew_; clear hg_ hnew_; (first | rw [← Ny167.out] at ho10 | (simp only [Int.reduceToNat] at ho10; rw [← Ny167.out] at ho10)); have n0_ := za.mk (Kd.zcg ho10 (zck (w := w) (g := g) (row := none) (Zq6 HK))); have n1_ := za.mk (zx.below (Zq5 HI0) hb); have n2_ := za.mk (zbc.trans (Zq6 HK) (zbc.of_below hb g none) (.inl rfl)); have n3_ := za.mk (zbi (Zq7 HB (zx.ge HI0.out)) hb); clear HI0; clear HK; clear HB; have HO169 := n0_; have HI0 := n1_; have HK := n2_; have HB := n3_; clear n0_ n1_ n2_ n3_; clear hb ho10) | ((with_reducible refine zbd (f := 59) rfl ?_); refine zb7 (some 10) rfl rfl Try.func59 (by kernel_rfl) rfl #[.pointer (some ⟨g, 0, none⟩), .int .i64 3] rfl Zmt ?_; (with_reducible refine (zg.calls k g s0_0 t166 3 t170 t171 w0 _ ?side1 ?side2 A5.out).mono ?_); (case side1 => exact Zq5 HI0); (case side2 => exact Zq7 HB (zx.ge HI0.out)); rintro e w11 ⟨rfl, hi, hb, hk⟩; refine ⟨_, rfl, ?_⟩; have n0_ := za.mk (Kd.zbz (Kd.zdp (zx.apart (show zx w0 _ g s0_0 t166 from Zq5 HI0) (Zq9 HO169) (by decide)) hk (fun _ h => h.2)) (fun _ h => h.1)); have n1_ := za.mk (zbc.trans (Zq6 HK) hk (.inl rfl)); have n2_ := za.mk (hb); have n3_ := za.mk (hi); clear HO169; clear HK; clear HB; clear HI0; have HO169 := n0_; have HK := n1_; have HB := n2_; have HI0 := n3_; clear n0_ n1_ n2_ n3_; (try clear hb); (try clear hb2); (try clear hk); (try clear hi); obtain ⟨Ao12, co12, eo12⟩ := Kd.zce HO169.out; subst eo12; have p172 : 0 ≤ (t170 : Int) := of_decide_eq_true Zas; have q172 : t170 < (y167.length : Int) := of_decide_eq_true Zas; obtain ⟨ad172, e172, hx172_0⟩ := Kd.zbq (Kd.zcj HO169.out).2.2 t170 p172 q172; cases e172; replace p172 := eq_true p172; replace q172 := eq_true q172));go_ret;exact ⟨by first | rfl | (simp [zq, zt] <;> rfl) | (simp [*, zq, zt] <;> rfl), Zq5 HI0, Zq7 HB (zx.ge HI0.out), Zq6 HK⟩
   ·rw [if_neg c7] at H
    exact absurd H (by simp)
  ·rw [if_neg c6] at H
   exact absurd H (by simp)
 ·replace c4 := Bool.eq_false_iff.mpr c4
  subst c4;have H1 : ((zg.f k s0_0 t166 4).bind fun bt173 => (some (wrap64 (1 + bt173.1), bt173.2))) = some (r1, r2) := by rw [if_neg (show ¬ (false = true) by decide)] at H; exact H
  clear H;have H := H1;clear H1;replace H := Option.bind_eq_some_iff.mp H;obtain ⟨⟨t173, t174⟩, A130, H⟩ := H;replace H : (some (wrap64 (1 + t173), t174)) = some (r1, r2) := H;have A13 := za.mk A130;clear A130;simp only [Option.some.injEq, Prod.mk.injEq] at H;obtain ⟨rfl, rfl⟩ := H;go_enter Try.func45, Try.ntmps45;go_wp2_with (first | ((with_reducible refine zbd (f := 60) rfl ?_); refine zb7 (some 7) rfl rfl Try.func60 (by kernel_rfl) rfl #[.pointer (some ⟨g, 0, none⟩), .int .i64 a1] rfl Zmt ?_; (with_reducible refine (zby.calls k g s0_0 s0_1 a1 false t166 w0 _ ?side1 ?side2 A3.out).mono ?_); (case side1 => exact Zq5 HI0); (case side2 => exact Zq7 HB (zx.ge HI0.out)); rintro e w14 ⟨rfl, hi, hb, hk⟩; refine ⟨_, rfl, ?_⟩; have n0_ := za.mk (zbc.trans (Zq6 HK) hk (.inl rfl)); have n1_ := za.mk (hb); have n2_ := za.mk (hi); clear HK; clear HB; clear HI0; have HK := n0_; have HB := n1_; have HI0 := n2_; clear n0_ n1_ n2_; (try clear hb); (try clear hb2); (try clear hk); (try clear hi)) | ((with_reducible refine zbd (f := 59) rfl ?_); refine zb7 (some 14) rfl rfl Try.func59 (by kernel_rfl) rfl #[.pointer (some ⟨g, 0, none⟩), .int .i64 4] rfl Zmt ?_; (with_reducible refine (zg.calls k g s0_0 t166 4 t173 t174 w0 _ ?side1 ?side2 A13.out).mono ?_); (case side1 => exact Zq5 HI0); (case side2 => exact Zq7 HB (zx.ge HI0.out)); rintro e w15 ⟨rfl, hi, hb, hk⟩; refine ⟨_, rfl, ?_⟩; have n0_ := za.mk (zbc.trans (Zq6 HK) hk (.inl rfl)); have n1_ := za.mk (hb); have n2_ := za.mk (hi); clear HK; clear HB; clear HI0; have HK := n0_; have HB := n1_; have HI0 := n2_; clear n0_ n1_ n2_; (try clear hb); (try clear hb2); (try clear hk); (try clear hi)));go_ret;exact ⟨by first | rfl | (simp [zq, zt] <;> rfl) | (simp [*, zq, zt] <;> rfl), Zq5 HI0, Zq7 HB (zx.ge HI0.out), Zq6 HK⟩
def zb6.f (k : Nat) (l0 : List Int) : Option (List Int × (List (List Int)) × Int) := (zcy.f l0).bind fun bt175 => ((zo.f k bt175.1 bt175.2 12).bind fun bt178 => ((zcf.f k bt175.1 bt178.2.2 12).bind fun bt185 => (some (bt178.1, bt178.2.1, bt185.1))))
set_option maxHeartbeats 8000000 in
theorem zb6.calls (k : Nat) (A0 : Option Addr) (c0 : Nat) (l0 : List Int) (r1 : List Int) (r2 : List (List Int)) (r3 : Int) (w : World) (hr0 : Kd.C (Kd.int .u8) w A0 l0.length l0) (hc0 : l0.length ≤ c0) (h : zb6.f k l0 = some (r1, r2, r3)) :
  Calls Try.prog 16 #[.slice A0 l0.length c0] w fun e w' => ∃ v0_ v1_ : Value, e = .returned (.tuple #[v0_, v1_, .int .i64 r3]) ∧ Kd.R (Kd.int .i64) 3 w' w.heap.size (fun _ => True) v0_ r1 ∧ Kd.S (Kd.slice 3 (Kd.int .i64)) 23 w' w.heap.size (fun k_ => some k_ ≠ (v0_ : Value).ownBlock) v1_ r2 ∧ Below w.heap.size w w' := by
 have HR0 := za.mk hr0
 have HC0 := za.mk hc0
 clear hr0 hc0
 have HB := za.mk (Below.refl w.heap.size w)
 have H : ((zcy.f l0).bind fun bt175 => ((zo.f k bt175.1 bt175.2 12).bind fun bt178 => ((zcf.f k bt175.1 bt178.2.2 12).bind fun bt185 => (some (bt178.1, bt178.2.1, bt185.1))))) = some (r1, r2, r3) := h
 clear h
 replace H := Option.bind_eq_some_iff.mp H
 obtain ⟨⟨t175, t176⟩, A20, H⟩ := H
 replace H : ((zo.f k t175 t176 12).bind fun bt178 => ((zcf.f k t175 bt178.2.2 12).bind fun bt185 => (some (bt178.1, bt178.2.1, bt185.1)))) = some (r1, r2, r3) := H
 have A2 := za.mk A20
 clear A20
 replace H := Option.bind_eq_some_iff.mp H
 obtain ⟨⟨t178, t181, t184⟩, A30, H⟩ := H
 replace H : ((zcf.f k t175 t184 12).bind fun bt185 => (some (t178, t181, bt185.1))) = some (r1, r2, r3) := H
 have A3 := za.mk A30
 clear A30
 replace H := Option.bind_eq_some_iff.mp H
 obtain ⟨⟨t185, t186⟩, A40, H⟩ := H
 replace H : (some (t178, t181, t185)) = some (r1, r2, r3) := H
 have A4 := za.mk A40
 clear A40
 simp only [Option.some.injEq, Prod.mk.injEq] at H
 obtain ⟨rfl, rfl, rfl⟩ := H
 go_enter Try.func16, Try.ntmps16
 go_wp2_with (first | ((with_reducible refine zbd (f := 43) rfl ?_); refine zb7 (some 9) rfl rfl Try.func43 (by kernel_rfl) rfl #[.slice A0 l0.length c0] rfl Zmt ?_; (with_reducible refine (zcy.calls _ _ l0 t175 t176 w _ ?side1 ?side2 ?side3 A2.out).mono ?_); (case side1 => exact Zq1 HB); (case side2 => exact HR0.out); (case side3 => exact HC0.out); rintro e w5 ⟨g177, rfl, hi, hb, hb2⟩; refine ⟨_, rfl, ?_⟩; have n0_ := za.mk (hb); have n1_ := za.mk (hi); clear HB; have HB := n0_; have HI177 := n1_; clear n0_ n1_; (try clear hb); (try clear hb2); (try clear hk); (try clear hi)) | ((with_reducible refine zbd (f := 44) rfl ?_); refine zb7 (some 12) rfl rfl Try.func44 (by kernel_rfl) rfl #[.pointer (some ⟨g177, 0, none⟩), .int .i64 12] rfl Zmt ?_; (with_reducible refine (zo.calls k g177 t175 t176 12 t178 t181 t184 w _ ?side1 ?side2 A3.out).mono ?_); (case side1 => exact Zq5 HI177); (case side2 => exact Zq7 HB (zx.ge HI177.out)); rintro e w6 ⟨v179, v182, rfl, ho0, ho1, hi, hb, hk⟩; refine ⟨_, rfl, ?_⟩; have n0_ := za.mk (Kd.zcg ho0 (zbs (Zq7 HB (zx.ge HI177.out)))); have n1_ := za.mk (Kd.zii ho1 (zbs (Zq7 HB (zx.ge HI177.out)))); have n2_ := za.mk (hb); have n3_ := za.mk (hi); clear HB; clear HI177; have HO180 := n0_; have HO183 := n1_; have HB := n2_; have HI177 := n3_; clear n0_ n1_ n2_ n3_; (try clear hb); (try clear hb2); (try clear hk); (try clear hi); (try clear ho0); (try clear ho1)) | ((with_reducible refine zbd (f := 45) rfl ?_); refine zb7 (some 18) rfl rfl Try.func45 (by kernel_rfl) rfl #[.pointer (some ⟨g177, 0, none⟩), .int .i64 12] rfl Zmt ?_; (with_reducible refine (zcf.calls k g177 t175 t184 12 t185 t186 w _ ?side1 ?side2 A4.out).mono ?_); (case side1 => exact Zq5 HI177); (case side2 => exact Zq7 HB (zx.ge HI177.out)); rintro e w7 ⟨rfl, hi, hb, hk⟩; refine ⟨_, rfl, ?_⟩; have n0_ := za.mk (Kd.zbz (Kd.zdp (zx.apart (show zx w _ g177 t175 t184 from Zq5 HI177) (Zq9 HO180) (by decide)) hk (fun _ h => h.2)) (fun _ h => h.1)); have n1_ := za.mk (Kd.zcx (Kd.zd1 (zx.zd2 (show zx w _ g177 t175 t184 from Zq5 HI177) (Zq10 HO183) (by decide)) hk (fun _ h => h.2)) (fun _ h => h.1)); have n2_ := za.mk (hb); have n3_ := za.mk (hi); clear HO180; clear HO183; clear HB; clear HI177; have HO180 := n0_; have HO183 := n1_; have HB := n2_; have HI177 := n3_; clear n0_ n1_ n2_ n3_; (try clear hb); (try clear hb2); (try clear hk); (try clear hi)))
 go_ret3
 exact ⟨_, _, by first | rfl | (simp [zq, zt] <;> rfl) | (simp [*, zq, zt] <;> rfl), Zq9 HO180, Zq10 HO183, Zq7 HB (zx.ge HI177.out)⟩
theorem Zq11 {X0 P : Prop} (x0 : za X0) (h : X0 → P := by intro x0; repeat (first | exact x0 | (with_reducible refine Kd.zdj ?_ _) | (with_reducible refine Kd.zdc ?_ _) | (with_reducible refine Kd.zdk ?_))) : P := h x0.out
def zcc.f (k : Nat) (l0 : List Int) : Option (List Int × (List (List Int)) × Int) := (zb6.f k l0).bind fun bt187 => (some (bt187.1, bt187.2.1, bt187.2.2))
set_option maxHeartbeats 8000000 in
theorem zcc.calls (k : Nat) (A0 : Option Addr) (c0 : Nat) (l0 : List Int) (r1 : List Int) (r2 : List (List Int)) (r3 : Int) (w : World) (hr0 : Kd.C (Kd.int .u8) w A0 l0.length l0) (hc0 : l0.length ≤ c0) (h : zcc.f k l0 = some (r1, r2, r3)) :
  Calls Try.prog 8 #[.slice A0 l0.length c0] w fun e w' => ∃ v0_ v1_ : Value, e = .returned (.tuple #[v0_, v1_, .int .i64 r3]) ∧ Kd.R (Kd.int .i64) 3 w' w.heap.size (fun _ => True) v0_ r1 ∧ Kd.S (Kd.slice 3 (Kd.int .i64)) 23 w' w.heap.size (fun k_ => some k_ ≠ (v0_ : Value).ownBlock) v1_ r2 ∧ Below w.heap.size w w' := by
 have HR0 := za.mk hr0
 have HC0 := za.mk hc0
 clear hr0 hc0
 have HB := za.mk (Below.refl w.heap.size w)
 have H : ((zb6.f k l0).bind fun bt187 => (some (bt187.1, bt187.2.1, bt187.2.2))) = some (r1, r2, r3) := h
 clear h
 replace H := Option.bind_eq_some_iff.mp H
 obtain ⟨⟨t187, t188, t189⟩, A20, H⟩ := H
 replace H : (some (t187, t188, t189)) = some (r1, r2, r3) := H
 have A2 := za.mk A20
 clear A20
 simp only [Option.some.injEq, Prod.mk.injEq] at H
 obtain ⟨rfl, rfl, rfl⟩ := H
 go_enter Try.func8, Try.ntmps8
 go_wp2_with (first | ((with_reducible refine zbd (f := 16) rfl ?_); refine zb7 (some 6) rfl rfl Try.func16 (by kernel_rfl) rfl #[.slice A0 l0.length c0] rfl Zmt ?_; (with_reducible refine (zb6.calls k _ _ l0 t187 t188 t189 _ ?side1 ?side2 A2.out).mono ?_); (case side1 => exact Zq11 HR0); (case side2 => exact HC0.out); rintro e w3 ⟨v190, v192, rfl, ho0, ho1, hb⟩; refine ⟨_, rfl, ?_⟩; have n0_ := za.mk (Kd.zcg ho0 (zbs (Zq1 HB))); have n1_ := za.mk (Kd.zii ho1 (zbs (Zq1 HB))); have n2_ := za.mk (zbi (Zq1 HB) hb); clear HB; have HO191 := n0_; have HO193 := n1_; have HB := n2_; clear n0_ n1_ n2_; (try clear hb); (try clear hb2); (try clear hk); (try clear hi); (try clear ho0); (try clear ho1)))
 go_ret3
 exact ⟨_, _, by first | rfl | (simp [zq, zt] <;> rfl) | (simp [*, zq, zt] <;> rfl), Zq9 HO191, Zq10 HO193, Zq1 HB⟩
def ClipOf (v v' : Value) : Prop := v = v' ∨ ∃ ad n c c', v = .slice (some ad) n c ∧ v' = .slice (some ad) n c' ∧ n ≤ c ∧ c ≤ c'
theorem ClipOf.own {v v' : Value} (h : ClipOf v v') : v'.ownBlock = v.ownBlock := by
  rcases h with rfl | ⟨ad, n, c, c', rfl, rfl, _, _⟩
  · rfl
  · rfl
def Kd.Qc {α : Type} (d : Kd α) (e : Nat) (w : World) (base : Nat) (ok : Nat → Prop) (v : Value) (xs : List α) : Prop := ∃ v', ClipOf v v' ∧ Kd.R d e w base ok v' xs
section
variable {α : Type} {d : Kd α} {e base N : Nat} {w w1 W W2 : World} {ok ok' ok1 S : Nat → Prop} {u v : Value} {xs : List α}
theorem Kd.zgc (h : Kd.R d e w base ok v xs) : Kd.Qc d e w base ok v xs := ⟨v, .inl rfl, h⟩
theorem Kd.zik {ad : Addr} {n c c' : Nat} (h : Kd.R d e w base ok (.slice (some ad) n c') xs) (h1 : n ≤ c) (h2 : c ≤ c') : Kd.Qc d e w base ok (.slice (some ad) n c) xs := ⟨_, .inr ⟨ad, n, c, c', rfl, rfl, h1, h2⟩, h⟩
theorem Kd.ze2 (d : Kd α) (e : Nat) (w : World) (base : Nat) (ok : Nat → Prop) : Kd.Qc d e w base ok (.slice none 0 0) [] := Kd.zgc (Kd.R_nil d e w base ok)
theorem Kd.Qc_1 (h : Kd.Qc d e w base ok v xs) : ∀ k, v.ownBlock = some k → ok k := by
  obtain ⟨v', hc, h⟩ := h
  rw [← hc.own]
  exact h.1
theorem Kd.zu (h : Kd.Qc d e w base ok v xs) : Kd.Qc d e w.drew base ok v xs := let ⟨v', hc, h⟩ := h; ⟨v', hc, Kd.zd8 h⟩
theorem Kd.zba (h : Kd.Qc d e w base ok v xs) (m : Nat) : Kd.Qc d e (w.drewN m) base ok v xs := let ⟨v', hc, h⟩ := h; ⟨v', hc, Kd.zdv h m⟩
theorem Kd.zbb (h : Kd.Qc d e w base ok v xs) (o : Obj) : Kd.Qc d e (w.alloc o) base ok v xs := let ⟨v', hc, h⟩ := h; ⟨v', hc, Kd.zdm h o⟩
theorem Kd.zbt (h : Kd.Qc d e w base ok v xs) (hb : Below w.heap.size w w1) : Kd.Qc d e w1 base ok v xs := let ⟨v', hc, h⟩ := h; ⟨v', hc, Kd.zc3 h hb⟩
theorem Kd.zbh (h : Kd.Qc d e w base ok v xs) (hok : ∀ k, ok k → ok' k) : Kd.Qc d e w base ok' v xs := let ⟨v', hc, h⟩ := h; ⟨v', hc, Kd.zbz h hok⟩
theorem Kd.zc9 {base' : Nat} (h : Kd.Qc d e w base ok v xs) (hb : base' ≤ base) : Kd.Qc d e w base' ok v xs := let ⟨v', hc, h⟩ := h; ⟨v', hc, Kd.zcg h hb⟩
theorem Kd.zbm (h : Kd.Qc d e w base ok v xs) {p : Addr} (hok : ∀ k, ok k → k ≠ p.block) (u : Value) : Kd.Qc d e (w.setCell p u) base ok v xs := let ⟨v', hc, h⟩ := h; ⟨v', hc, Kd.zdo h hok u⟩
theorem Kd.zbu (h : Kd.Qc d e w base ok v xs) {g t : Nat} {cells : Array Value} (hb : w.heap[g]? = some (.cells cells t (0, 0))) (ht : ∀ q, q ∈ e :: d.E → q ≠ t) : Kd.Qc d e w base (fun k => ok k ∧ k ≠ g) v xs := let ⟨v', hc, h⟩ := h; ⟨v', hc, Kd.zib h hb ht⟩
theorem Kd.zdy (h : Kd.Qc d e w1 base (fun k => ok k ∧ k < N) u xs) (hbase : ∀ k, v.ownBlock = some k → N ≤ k) : Kd.Qc d e w1 base (fun k => (ok k ∧ some k ≠ v.ownBlock) ∧ k < N) u xs := let ⟨v', hc, h⟩ := h; ⟨v', hc, Kd.R_told h hbase⟩
theorem Kd.zch (h : Kd.Qc d e w1 W.heap.size ok v xs) (hlt : ∀ k, u.ownBlock = some k → k < W.heap.size) : Kd.Qc d e w1 W.heap.size (fun k => ok k ∧ some k ≠ u.ownBlock) v xs := let ⟨v', hc, h⟩ := h; ⟨v', hc, Kd.zf5 h hlt⟩
theorem Kd.zgw (hu : Kd.Qc d e W base ok u xs) (hb : Below W.heap.size W w1) : Kd.Qc d e w1 base (fun k => ok k ∧ k < W.heap.size) u xs := let ⟨v', hc, h⟩ := hu; ⟨v', hc, Kd.R_old h hb⟩
theorem Kd.zcu (hu : Kd.Qc d e W base ok u xs) (hbase : ∀ k, v.ownBlock = some k → W.heap.size ≤ k) (hb : Below W.heap.size W w1) : Kd.Qc d e w1 base (fun k => ok k ∧ some k ≠ v.ownBlock) u xs := let ⟨v', hc, h⟩ := hu; ⟨v', hc, Kd.zen h hbase hb⟩
theorem Kd.zdz (h : Kd.Qc d e w base ok v xs) : ∀ k, v.ownBlock = some k → k < w.heap.size := by
  obtain ⟨v', hc, h⟩ := h
  rw [← hc.own]
  exact Kd.R_lt h
theorem Kd.zcd (h : Kd.Qc d e w base ok v xs) : ∀ k, v.ownBlock = some k → base ≤ k := by
  obtain ⟨v', hc, h⟩ := h
  rw [← hc.own]
  exact Kd.zd5 h
theorem Kd.Qc_ne (h : Kd.Qc d e w base ok v xs) {g t : Nat} {cells : Array Value} (hb : w.heap[g]? = some (.cells cells t (0, 0))) (ht : e ≠ t) : some g ≠ v.ownBlock := by
  obtain ⟨v', hc, h⟩ := h
  rw [← hc.own]
  exact Kd.R_ne h hb ht
theorem Kd.Qc_tight (hE : d.E = []) (h : Kd.Qc d e w base ok v xs) : Kd.Qc d e w base (fun k => some k = v.ownBlock) v xs := by
  obtain ⟨v', hc, h⟩ := h
  refine ⟨v', hc, ?_⟩
  rw [← hc.own]
  exact Kd.zew hE h
theorem Kd.zhf (h : Kd.Qc d e w base ok v xs) : ∃ A c, v = .slice A xs.length c ∧ xs.length ≤ c ∧ Kd.C d w A xs.length xs := by
  obtain ⟨v', hc, h⟩ := h
  obtain ⟨A, c, rfl, h1, h2⟩ := Kd.zg4 h
  rcases hc with rfl | ⟨ad, n, c1, c', rfl, he, h3, h4⟩
  · exact ⟨A, c, rfl, h1, h2⟩
  · injection he with e1 e2 e3
    subst e1 e2 e3
    exact ⟨_, c1, rfl, h3, h2⟩
theorem Kd.Qc_bnd (h : Kd.Qc d e w base ok v xs) : Kd.Qc d e w base (fun k => ok k ∧ base ≤ k ∧ k < w.heap.size) v xs := let ⟨v', hc, h⟩ := h; ⟨v', hc, Kd.zbz (Kd.zc2 h) (fun _ hk => ⟨hk.1, hk.2.1, hk.2.2.1⟩)⟩
theorem Kd.zde (h : Kd.Qc d e w base ok v xs) : ∃ A c, v = .slice A xs.length c := by
  obtain ⟨A, c, he, _⟩ := Kd.zhf h
  exact ⟨A, c, he⟩
theorem Kd.zw {A : Option Addr} {n c : Nat} (h : Kd.Qc d e w base ok (.slice A n c) xs) : n = xs.length ∧ n ≤ c ∧ Kd.C d w A xs.length xs := by
  obtain ⟨A', c', he, h1, h2⟩ := Kd.zhf h
  injection he with e1 e2 e3
  subst e1 e2 e3
  exact ⟨rfl, h1, h2⟩
end
section
variable {α : Type} {enc : α → Value} {h1 : ∀ x, (enc x).oneCell' = true} {e base g n cap : Nat} {W : World} {ok : Nat → Prop} {xs : List α}
theorem Kd.zil (h : Kd.Qc (Kd.scalar enc h1) e W base ok (.slice (some ⟨g, 0, none⟩) n cap) xs) (i : Int) (x : α) : Kd.Qc (Kd.scalar enc h1) e (W.setCell ⟨g, i.toNat, none⟩ (enc x)) base ok (.slice (some ⟨g, 0, none⟩) n cap) (xs.set i.toNat x) ∧ W.grownBy (W.setCell ⟨g, i.toNat, none⟩ (enc x)) (some g) := by
  obtain ⟨v', hc, h⟩ := h
  rcases hc with rfl | ⟨ad, n1, c1, c', he, rfl, h3, h4⟩
  · exact ⟨Kd.zgc (Kd.zfr h i x).1, (Kd.zfr h i x).2⟩
  · injection he with e1 e2 e3
    injection e1 with e1
    subst e1 e2 e3
    exact ⟨⟨_, .inr ⟨_, _, _, _, rfl, rfl, h3, h4⟩, (Kd.zfr h i x).1⟩, (Kd.zfr h i x).2⟩
end
def Kd.cut {α : Type} (e : Nat) (d : Kd α) : Kd (List α) where
  sz := 1
  E := e :: d.E
  K := fun w xs cs => ∃ A c, cs = [.slice A xs.length c] ∧ xs.length ≤ c ∧ Kd.C d w A xs.length xs
  M := fun w base ok xs cs => ∃ v, cs = [v] ∧ Kd.Qc d e w base ok v xs
  K_len := by
    rintro w x cs ⟨A, c, rfl, _⟩
    rfl
  K_one := by
    rintro w x cs ⟨A, c, rfl, _⟩ u hu
    rw [List.mem_singleton.1 hu]
    rfl
  K_below := by
    rintro w w1 x cs hb ⟨A, c, rfl, hl, hr⟩
    exact ⟨A, c, rfl, hl, Kd.zci hr hb⟩
  K_of_M := by
    rintro w base ok x cs ⟨v, rfl, h⟩
    obtain ⟨A, c, rfl, hl, hr⟩ := Kd.zhf h
    exact ⟨A, c, rfl, hl, hr⟩
  M_mono := by
    rintro w base ok ok' x cs hok ⟨v, rfl, h⟩
    exact ⟨v, rfl, Kd.zbh h hok⟩
  M_bound := by
    rintro w base ok x cs ⟨v, rfl, v', hc, h⟩
    exact ⟨v, rfl, v', hc, Kd.zc2 h⟩
  M_move := by
    rintro w w1 base ok x cs hm ⟨v, rfl, v', hc, h⟩
    exact ⟨v, rfl, v', hc, Kd.zf3 h hm⟩
  M_lower := by
    rintro w base base' ok x cs hb ⟨v, rfl, h⟩
    exact ⟨v, rfl, Kd.zc9 h hb⟩
theorem Kd.cut_of {α : Type} {d : Kd α} {e e1 base : Nat} {w : World} {ok : Nat → Prop} {v : Value} {xs : List (List α)} (h : Kd.R (Kd.slice e d) e1 w base ok v xs) : Kd.R (Kd.cut e d) e1 w base ok v xs := by
  obtain ⟨h0, inner, ho, hr⟩ := h
  exact ⟨h0, inner, ho, hr.imp_ (fun _ _ hp => let ⟨v, he, h⟩ := hp; ⟨v, he, Kd.zgc h⟩)⟩
theorem Kd.cut_C {α : Type} {d : Kd α} {e n : Nat} {w : World} {A : Option Addr} {xs : List (List α)} (h : Kd.C (Kd.cut e d) w A n xs) : Kd.C (Kd.slice e d) w A n xs := h
set_option maxHeartbeats 4000000 in
theorem zee (w : World) : Calls Try.prog 37 #[.slice none 0 0] w fun e w' => e = .returned (.slice none 0 0) ∧ zbj w w' := by
  go_enter Try.func37, Try.ntmps37
  go_wp2
  go_ret
  exact ⟨rfl, zbj.refl _⟩
set_option maxHeartbeats 4000000 in
theorem zex (ad : Addr) (n c : Nat) (hn : n ≤ c) (w : World) : Calls Try.prog 37 #[.slice (some ad) n c] w fun e w' => e = .returned (.slice (some ad) n n) ∧ zbj w w' := by
  have hnz : (n : Int) ≤ (c : Int) := by omega
  go_enter Try.func37, Try.ntmps37
  go_wp2
  go_ret
  exact ⟨rfl, zbj.refl _⟩
set_option maxHeartbeats 4000000 in
theorem zim (ad : Addr) (c : Nat) (l : List Int) (hn : l.length ≤ 1000000) (w : World) (hr : Kd.C (Kd.int .i64) w (some ad) l.length l) :
    Calls Try.prog 56 #[.slice (some ad) l.length c] w fun e w' => ∃ v : Value, e = .returned v ∧ Kd.R (Kd.int .i64) 3 w' w.heap.size (fun _ => True) v l ∧ Below w.heap.size w w' := by
  have HR := za.mk hr
  have HN := za.mk hn
  clear hr hn
  have qn : ∀ (w : World) (a : Option Addr) (n c n' c' : Nat), (binOp .eql 23 (.slice a n c) (.slice none n' c')).run Try.prog w = .ok (.bool a.isNone) w := fun w a n c n' c' => Lib.run_eql_slice_nil w _ 3 a n c n' c' Try.underlying23
  go_enter Try.func56, Try.ntmps56
  go_wp2_with (first
    | ((with_reducible refine zb8 (N := 5) rfl ?_); refine Kd.zft (Kd.int .i64) _ 3 ?hg (N := 5) ?hd (xs := ([] : List Int)) (inner := []) (ok := fun _ => True) (okp := fun _ => True) ?hr ?hp (fun _ hk => hk) trivial (Below.refl _ _) (Nat.le_refl _) (by simp) ?_; (case hd => rfl); (case hg => rfl); (case hr => first | (go_simp; done) | (go_simp; rfl)); (case hp => exact (Reps.none _ _)); intro v4 w4 ho4 hb4 hg_ hnew_; have R4 := za.mk ho4; have B4 := za.mk hb4; clear hg_ hnew_ ho4 hb4)
    | ((with_reducible refine zb4 (b := .append) (xs := #[.tmp 5, .tmp 6]) rfl ?_); at_builtin; refine Kd.ze9 (Kd.int .i64) (w0 := w) w.heap.size rfl (.tmp 5) (.tmp 6) 23 3 (.int .i64 0) 8 rfl Try.underlying23 info3 rfl (by decide) (by omega) v4 ([] : List Int) l _ _ _ (fun _ => True) (fun _ => False) rfl rfl ?aO ?aR (fun _ _ h => h) (fun _ h => h.elim) ?aF ?aB ?aS ?aL ?_; (case aR => exact Kd.zci HR.out B4.out); (case aB => exact B4.out); (case aF => exact (fun _ _ => trivial)); (case aO => exact R4.out); (case aS => exact B4.out.size); (case aL => have := HN.out; simp; omega); intro v5 w5 ho5 hb5 hg5 hat5; rw [List.nil_append] at ho5; have R5 := za.mk ho5; have B5 := za.mk hb5; clear ho5 hb5 hg5 hat5))
  go_ret
  exact ⟨_, rfl, R5.out, B5.out⟩
set_option maxHeartbeats 4000000 in
theorem zgd (n c : Nat) (w : World) :
    Calls Try.prog 56 #[.slice none n c] w fun e w' => e = .returned (.slice none 0 0) ∧ zbj w w' := by
  have qn : ∀ (w : World) (a : Option Addr) (n c n' c' : Nat), (binOp .eql 23 (.slice a n c) (.slice none n' c')).run Try.prog w = .ok (.bool a.isNone) w := fun w a n c n' c' => Lib.run_eql_slice_nil w _ 3 a n c n' c' Try.underlying23
  go_enter Try.func56, Try.ntmps56
  go_wp2
  go_ret
  exact ⟨rfl, zbj.refl _⟩
theorem C_none {d : Kd Int} {w : World} {l : List Int} (h : Kd.C d w none l.length l) : l = [] := by
  rcases Nat.eq_zero_or_pos l.length with h0 | h0
  · exact List.eq_nil_of_length_eq_zero h0
  · obtain ⟨ad, h1, _⟩ := h.2.2 h0
    cases h1
set_option maxHeartbeats 4000000 in
theorem zin (A : Option Addr) (c : Nat) (l : List Int) (hn : l.length ≤ 1000000) (w : World) (hr : Kd.C (Kd.int .i64) w A l.length l) :
    Calls Try.prog 33 #[.slice A l.length c] w fun e w' => ∃ v : Value, e = .returned v ∧ Kd.Qc (Kd.int .i64) 3 w' w.heap.size (fun _ => True) v l ∧ Below w.heap.size w w' := by
  cases A with
  | none =>
    obtain rfl := C_none hr
    clear hr hn
    go_enter Try.func33, Try.ntmps33
    go_wp2_with (first | (go_at_call 56; refine (zgd _ _ _).mono ?_; rintro e w1 ⟨rfl, ⟨q1, rfl⟩⟩) | (go_at_call 37; refine (zee _).mono ?_; rintro e w2 ⟨rfl, ⟨q2, rfl⟩⟩))
    go_ret
    exact ⟨_, rfl, Kd.ze2 _ _ _ _ _, zbk (Below.refl _ _) _⟩
  | some ad =>
    have HR := za.mk hr
    have HN := za.mk hn
    clear hr hn
    go_enter Try.func33, Try.ntmps33
    go_wp2_with (go_at_call 56; refine (zim ad c l HN.out _ HR.out).mono ?_; rintro e w1 ⟨v1, rfl, h1, hb1⟩; have R1 := za.mk h1; have B1 := za.mk hb1; clear h1 hb1)
    obtain ⟨X, c3, ev⟩ := Kd.zce R1.out
    subst ev
    cases X with
    | none =>
      obtain ⟨h5, inner, h6, h7⟩ := R1.out
      have h8 : (Value.slice none l.length c3) = .slice none 0 0 := by
        rcases h6.2 with ⟨hv, _⟩ | ⟨g, cap, cur, hv, _⟩
        · exact hv
        · injection hv with h1; cases h1
      injection h8 with _ h9 h10
      obtain rfl := List.eq_nil_of_length_eq_zero h9
      subst h10
      clear h9 h5 h6 h7
      go_wp2_with (go_at_call 37; refine (zee _).mono ?_; rintro e w2 ⟨rfl, ⟨q2, rfl⟩⟩)
      go_ret
      exact ⟨_, rfl, Kd.ze2 _ _ _ _ _, zbk B1.out _⟩
    | some ad2 =>
      have hle := (Kd.zcj R1.out).2.1
      go_wp2_with (go_at_call 37; refine (zex ad2 _ c3 hle _).mono ?_; rintro e w2 ⟨rfl, ⟨q2, rfl⟩⟩)
      go_ret
      exact ⟨_, rfl, Kd.zik (Kd.zdv R1.out _) (Nat.le_refl _) hle, zbk B1.out _⟩
def idxOf {α : Type} (p : α → Bool) (l : List α) : Int := match l.findIdx? p with
  | some i => (i : Int)
  | none => -1
theorem idxOf_hit {α : Type} (p : α → Bool) (l : List α) (k : Nat) (hk : k < l.length) (hp : p l[k] = true) (hn : ∀ j (h : j < k), p (l[j]'(by omega)) = false) : idxOf p l = (k : Int) := by
  have : l.findIdx? p = some k := by
    rw [List.findIdx?_eq_some_iff_getElem]
    exact ⟨hk, hp, fun j hj => by simp [hn j hj]⟩
  unfold idxOf
  rw [this]
theorem idxOf_miss {α : Type} (p : α → Bool) (l : List α) (hn : ∀ j (h : j < l.length), p l[j] = false) : idxOf p l = -1 := by
  have : l.findIdx? p = none := by
    rw [List.findIdx?_eq_none_iff]
    intro x hx
    obtain ⟨j, hj, rfl⟩ := List.getElem_of_mem hx
    exact hn j hj
  unfold idxOf
  rw [this]
theorem zhy {α : Type} (p : α → Bool) (l : List α) : decide (0 ≤ idxOf p l) = l.any p := by
  unfold idxOf
  cases h : l.findIdx? p with
  | none =>
    rw [List.findIdx?_eq_none_iff] at h
    have : l.any p = false := by
      rw [List.any_eq_false]
      intro x hx
      simp [h x hx]
    rw [this]
    rfl
  | some i =>
    rw [List.findIdx?_eq_some_iff_getElem] at h
    obtain ⟨hi, hp, _⟩ := h
    have : l.any p = true := List.any_eq_true.2 ⟨_, List.getElem_mem hi, hp⟩
    rw [this]
    exact decide_eq_true (show (0 : Int) ≤ (i : Int) by omega)
end Go.Proofs.Ytebgfobjhlcopaa.P
