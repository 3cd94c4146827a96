/- The law FnExactRunSupply for every input, part 5 of its proof: what the program's functions answer, and the plain law. No condition. -/
import Derived.Test.YtkdfjomhichkoaaMFnExactRunSupply1
import Derived.Test.YtkdfjomhichkoaaMFnExactRunSupply2
import Derived.Test.YtkdfjomhichkoaaMFnExactRunSupply3
import Derived.Test.YtkdfjomhichkoaaMFnExactRunSupply4
import Derived.SizedLaws
import Derived.ChangeSlices
import Derived.ChangeArms
import Derived.WideShapes
import Derived.Deep.Slices
import Derived.OpenShut
import Derived.Test.YtkdfjomhichkoaaRows
import Derived.JoinedOf
import Derived.KernelRfl
import Derived.WalkKit
import Derived.ProofKit
import Derived.ShutString
import Derived.ChangeOld
import Derived.Below
set_option maxRecDepth 100000
namespace Go.Proofs.Ytkdfjomhichkoaa.Base
open Go.RowKit Go.Proofs.Ytkdfjomhichkoaa.P Go.Proofs.YtkdfjomhichkoaaW.PrintWords Go.Proofs.YtkdfjomhichkoaaW.PrintLast Go.Proofs.YtkdfjomhichkoaaW.PrintMore
theorem w64 {x : Int} (h0 : -9223372036854775808 ≤ x) (h1 : x < 9223372036854775808) : wrap64 x = x := by unfold wrap64; omega
theorem mul_bd {a b A B : Int} (ha : 0 ≤ a) (hA : a ≤ A) (hb : 0 ≤ b) (hB : b ≤ B) : 0 ≤ a * b ∧ a * b ≤ A * B :=
  ⟨Int.mul_nonneg ha hb, Int.mul_le_mul hA hB hb (by omega)⟩
theorem in_f (a b c : Int) : zco.f a b c = some (decide (b ≤ a ∧ a ≤ c)) := by
  unfold zco.f
  by_cases h : a ≥ b
  · rw [if_pos h]; simp [show b ≤ a from h]
  · rw [if_neg h]; simp [show ¬ b ≤ a from h]
theorem zet (a b c : Int) : zbx.f a b c = some (decide (b ≤ a ∧ a ≤ c)) := by
  unfold zbx.f
  by_cases h : a ≥ b
  · rw [if_pos h]; simp [show b ≤ a from h]
  · rw [if_neg h]; simp [show ¬ b ≤ a from h]
theorem and_two (p q : Prop) [Decidable p] [Decidable q] : (if decide p = true then some (decide q) else some false) = some (decide (p ∧ q)) := by
  by_cases hp : p <;> by_cases hq : q <;> simp [hp, hq]
theorem and_bind {α : Type} (p : Prop) [Decidable p] (x y : Option α) : (some (decide p)).bind (fun t => if t = true then x else y) = if p then x else y := by
  by_cases hp : p <;> simp [hp]
end Go.Proofs.Ytkdfjomhichkoaa.Base
namespace Go.Proofs.Ytkdfjomhichkoaa.Gen
open Go.RowKit Go.Proofs.YtkdfjomhichkoaaW.PrintWords Go.Proofs.YtkdfjomhichkoaaW.PrintLast
def Tot {α : Type} (g : Nat → Option α) (P : α → Prop) : Prop := ∃ r, Ev g r ∧ P r
theorem Tot.ret {α : Type} {P : α → Prop} (a : α) (h : P a) : Tot (fun _ => some a) P := ⟨a, Ev.now a, h⟩
theorem Tot.mono {α : Type} {P Q : α → Prop} {g : Nat → Option α} (h : Tot g P) (hpq : ∀ a, P a → Q a) : Tot g Q := by
  obtain ⟨r, h1, h2⟩ := h
  exact ⟨r, h1, hpq r h2⟩
theorem Tot.congr {α : Type} {P : α → Prop} {g f : Nat → Option α} (e : ∀ k, g k = f k) (h : Tot f P) : Tot g P := by
  have : g = f := funext e
  rw [this]; exact h
theorem Tot.step {α : Type} {P : α → Prop} {g f : Nat → Option α} (e : ∀ k, g (k + 1) = f k) (h : Tot f P) : Tot g P := by
  obtain ⟨r, h1, h2⟩ := h
  exact ⟨r, Ev.step e h1, h2⟩
theorem Tot.bind {α β : Type} {P : α → Prop} {Q : β → Prop} {g : Nat → Option α} {f : Nat → α → Option β} (h : Tot g P) (hf : ∀ a, P a → Tot (fun k => f k a) Q) : Tot (fun k => (g k).bind (f k)) Q := by
  obtain ⟨r, h1, h2⟩ := h
  obtain ⟨q, h3, h4⟩ := hf r h2
  exact ⟨q, Ev.bind h1 h3, h4⟩
theorem Tot.bind0 {α β : Type} {Q : β → Prop} {g : Option α} {f : Nat → α → Option β} {a : α} (h : g = some a) (hf : Tot (fun k => f k a) Q) : Tot (fun k => g.bind (f k)) Q := by
  subst h; exact hf
theorem Tot.yes {α : Type} {P : α → Prop} {c : Prop} [Decidable c] {g f : Nat → Option α} (hc : c) (h : Tot g P) : Tot (fun k => if c then g k else f k) P := by
  simp only [if_pos hc]; exact h
theorem Tot.no {α : Type} {P : α → Prop} {c : Prop} [Decidable c] {g f : Nat → Option α} (hc : ¬ c) (h : Tot f P) : Tot (fun k => if c then g k else f k) P := by
  simp only [if_neg hc]; exact h
theorem Tot.ite {α : Type} {P : α → Prop} {c : Prop} [Decidable c] {g f : Nat → Option α} (h1 : c → Tot g P) (h2 : ¬ c → Tot f P) : Tot (fun k => if c then g k else f k) P := by
  by_cases hc : c
  · exact Tot.yes hc (h1 hc)
  · exact Tot.no hc (h2 hc)
theorem Tot.rounds {g : Nat → Option Bool} (h : Tot g (fun r => r = true)) : ∃ k, g k = some true := by
  obtain ⟨r, h1, rfl⟩ := h
  exact h1.rounds
theorem Tot.val {α : Type} {g : Nat → Option α} {a : α} (h : Ev g a) : Tot g (fun r => r = a) := ⟨a, h, rfl⟩
theorem Tot.ev {α : Type} {g : Nat → Option α} {a : α} (h : Tot g (fun r => r = a)) : Ev g a := by
  obtain ⟨r, h1, rfl⟩ := h
  exact h1
theorem Tot.loop {σ ρ : Type} {P : ρ → Prop} (F : Nat → Nat → σ → Option ρ) (n : Nat) (Inv : Nat → σ → Prop)
    (hstep : ∀ i s, i < n → Inv i s → (∀ s', Inv (i + 1) s' → Tot (fun k => F k (i + 1) s') P) → Tot (fun k => F k i s) P)
    (hend : ∀ s, Inv n s → Tot (fun k => F k n s) P) : ∀ i s, i ≤ n → Inv i s → Tot (fun k => F k i s) P := by
  have key : ∀ d i s, i + d = n → Inv i s → Tot (fun k => F k i s) P := by
    intro d
    induction d with
    | zero => intro i s hi h; obtain rfl : i = n := by omega
              exact hend s h
    | succ d ih => intro i s hi h; exact hstep i s (by omega) h (fun s' hs' => ih (i + 1) s' (by omega) hs')
  intro i s hi h
  exact key (n - i) i s (by omega) h
theorem zin {α : Type} (d : α) (xs : List α) (i : Nat) (h : i < xs.length) : rdOf d xs (i : Int) = xs[i] := by
  unfold rdOf
  rw [List.getD_eq_getElem?_getD, Int.toNat_natCast, List.getElem?_eq_getElem h]
  rfl
theorem rd_at (xs : List Int) (i : Nat) (h : i < xs.length) : rd xs (i : Int) = xs[i] := by
  unfold rd
  rw [List.getD_eq_getElem?_getD, Int.toNat_natCast, List.getElem?_eq_getElem h]
  rfl
theorem zia {β : Type} (acc tgt : List β) (i : Nat) (hl : acc.length = tgt.length) (h : acc.take i = tgt.take i) (hi : i < tgt.length) : (acc.set i tgt[i]).take (i + 1) = tgt.take (i + 1) := by
  rw [List.take_succ_eq_append_getElem (by simpa [hl] using hi), List.take_succ_eq_append_getElem hi]
  rw [List.take_set_of_le (Nat.le_refl i), h]
  simp
theorem Tot.copy {β : Type} (F : Nat → List β → Int → Option (List β)) (tgt : List β) (z : β)
    (hstep : ∀ k acc (i : Nat) (h : i < tgt.length), acc.length = tgt.length → F (k + 1) acc (i : Int) = F k (acc.set i tgt[i]) ((i : Int) + 1))
    (hend : ∀ k acc, acc.length = tgt.length → F (k + 1) acc (tgt.length : Int) = some acc) : Tot (fun k => F k (List.replicate tgt.length z) 0) (fun r => r = tgt) := by
  have key : ∀ d (i : Nat) acc, i + d = tgt.length → acc.length = tgt.length → acc.take i = tgt.take i → Tot (fun k => F k acc (i : Int)) (fun r => r = tgt) := by
    intro d
    induction d with
    | zero =>
      intro i acc hi hl ht
      obtain rfl : i = tgt.length := by omega
      refine Tot.step (f := fun _ => some acc) (fun k => hend k acc hl) (Tot.ret _ ?_)
      rw [List.take_length, ← hl, List.take_length] at ht
      exact ht
    | succ d ih =>
      intro i acc hi hl ht
      have hlt : i < tgt.length := by omega
      refine Tot.step (fun k => hstep k acc i hlt hl) ?_
      have := ih (i + 1) (acc.set i tgt[i]) (by omega) (by simpa using hl) (zia acc tgt i hl ht hlt)
      simpa using this
  simpa using key tgt.length 0 (List.replicate tgt.length z) (by omega) (by simp) (by simp)
theorem Tot.look {ρ : Type} {r : ρ} (F : Nat → Int → Option ρ) (n : Nat) (hstep : ∀ k (i : Nat), i < n → F (k + 1) (i : Int) = F k ((i : Int) + 1)) (hend : ∀ k, F (k + 1) (n : Int) = some r) : Tot (fun k => F k 0) (fun q => q = r) := by
  have key : ∀ d (i : Nat), i + d = n → Tot (fun k => F k (i : Int)) (fun q => q = r) := by
    intro d
    induction d with
    | zero => intro i hi; obtain rfl : i = n := by omega
              exact Tot.step (f := fun _ => some r) (fun k => hend k) (Tot.ret _ rfl)
    | succ d ih => intro i hi; exact Tot.step (fun k => hstep k i (by omega)) (by simpa using ih (i + 1) (by omega))
  simpa using key n 0 (by omega)
end Go.Proofs.Ytkdfjomhichkoaa.Gen
namespace Go.Proofs.Ytkdfjomhichkoaa.P
open Go.RowKit Go.Proofs.YtkdfjomhichkoaaW.PrintWords Go.Proofs.YtkdfjomhichkoaaW.PrintLast Go.Proofs.YtkdfjomhichkoaaW.PrintMore
attribute [local go_sem] zfi zfj zgk zgl zez ze0 zfk zfl
set_option linter.unusedVariables false
set_option linter.unusedSimpArgs false
def zdh.f (a0_0 : Int) (a0_1 : Int) (a0_2 : Int) : Option (Bool) := some (a0_1 != a0_2)
set_option maxHeartbeats 8000000 in
theorem zdh.calls (a0_0 : Int) (a0_1 : Int) (a0_2 : Int) (r : Bool) (w : World) (h : zdh.f a0_0 a0_1 a0_2 = some r) :
  Calls Try.prog 105 #[.agg #[.int .i64 a0_0, .int .i64 a0_1, .int .i64 a0_2]] w fun e w' => e = .returned (.bool r) ∧ Below w.heap.size w w' := by
 have hu88 := Try.underlying88
 have HB := za.mk (Below.refl w.heap.size w)
 have H : (some (a0_1 != a0_2)) = some r := h
 clear h
 obtain rfl := Option.some.inj H
 go_enter Try.func105, Try.ntmps105
 go_wp2_with (first | ((with_reducible refine zbn (N := 1) rfl ?_); refine zbm ?hg (N := 1) ?hd (cs := #[.int .i64 a0_0, .int .i64 a0_1, .int .i64 a0_2]) (t := 88) ?hr ?_; (case hd => rfl); (case hg => rfl); (case hr => first | (go_simp; done) | (go_simp; rfl)); intro gb732 hg w2 hbox hb; have n0_ := za.mk (zh (Zq0 HB) hb); have n1_ := za.mk (hbox); have n2_ := za.mk ((by rw [hg]; exact (zg (Zq0 HB)) : w.heap.size ≤ gb732)); have n3_ := za.mk ((by rw [hg]; exact (zg (Zq0 HB)) : w.heap.size ≤ gb732)); clear HB; have HB := n0_; have BK732 := n1_; have GW732 := n2_; have GE732 := n3_; clear n0_ n1_ n2_ n3_; clear hb hbox hg; have hcz3_0 : w2.cell? ⟨gb732, 0, none⟩ = some (.int .i64 a0_0) := (zf BK732.out 0).trans rfl; have hcz3_1 : w2.cell? ⟨gb732, 1, none⟩ = some (.int .i64 a0_1) := (zf BK732.out 1).trans rfl; have hcz3_2 : w2.cell? ⟨gb732, 2, none⟩ = some (.int .i64 a0_2) := (zf BK732.out 2).trans rfl; have hfz3_0 := zb BK732.out 0; have hfz3_1 := zb BK732.out 1; have hfz3_2 := zb BK732.out 2))
 go_ret
 exact ⟨by first | rfl | (simp [zq, zt] <;> rfl) | (simp [*, zq, zt] <;> rfl), Zq2 HB GE732⟩
def zd6.bad (x : S88) : Bool := x.f1 != x.f2
theorem zd6.is (x : S88) : zdh.f x.f0 x.f1 x.f2 = some (zd6.bad x) := by
  unfold zdh.f zd6.bad
  rfl
def zd6.f (l0 : List S88) : Option Bool := some (l0.any zd6.bad)
theorem zd6.calls (A0 : Option Addr) (c0 : Nat) (l0 : List S88) (r : Bool) (w : World) (hr0 : Kd.C k88 w A0 l0.length l0) (hc0 : l0.length ≤ c0) (h : zd6.f l0 = some r) :
    Calls Try.prog 104 #[.slice A0 l0.length c0, .func (.func 105) #[] #[]] w fun e w' => e = .returned (.bool r) ∧ Below w.heap.size w w' := by
  obtain rfl := Option.some.inj h
  exact zfp zd6.bad 105 #[] (enters_of Try.func105 (by kernel_rfl) rfl) A0 c0 l0 w (fun W' x _ => (zdh.calls x.f0 x.f1 x.f2 _ W' (zd6.is x)).mono fun e w' hh => ⟨hh.1, hh.2⟩) hr0
end Go.Proofs.Ytkdfjomhichkoaa.P
namespace Go.Proofs.Ytkdfjomhichkoaa.Alive
open Go.RowKit Go.Proofs.Ytkdfjomhichkoaa.P Go.Proofs.Ytkdfjomhichkoaa.Base Go.Proofs.YtkdfjomhichkoaaW.PrintWords Go.Proofs.YtkdfjomhichkoaaW.PrintLast
def TV (c d p : Int) : Prop := 1 ≤ c ∧ c ≤ 8 ∧ c ≤ d ∧ d ≤ p ∧ p ≤ 12
instance (c d p : Int) : Decidable (TV c d p) := by unfold TV; infer_instance
end Go.Proofs.Ytkdfjomhichkoaa.Alive
namespace Go.Proofs.Ytkdfjomhichkoaa.Set
open Go.RowKit Go.Proofs.Ytkdfjomhichkoaa.P Go.Proofs.Ytkdfjomhichkoaa.Base Go.Proofs.Ytkdfjomhichkoaa.Alive Go.Proofs.YtkdfjomhichkoaaW.PrintWords Go.Proofs.YtkdfjomhichkoaaW.PrintLast
abbrev Task := S88
def TVt (t : Task) : Prop := TV t.f0 t.f1 t.f2
instance (t : Task) : Decidable (TVt t) := by unfold TVt; infer_instance
def zep (l : List Task) : Prop := l.length ≤ 5 ∧ ∀ t ∈ l, TVt t
instance (l : List Task) : Decidable (zep l) := by unfold zep; infer_instance
def Impl (l : List Task) : Prop := zep l ∧ ∀ t ∈ l, t.f1 = t.f2
instance (l : List Task) : Decidable (Impl l) := by unfold Impl; infer_instance
theorem taskOk_iff (t : Task) : taskOk t = decide (TVt t) := by
  unfold taskOk
  rw [decide_eq_decide]; unfold TVt TV; omega
theorem zio (l : List Task) : zcx.f l = some (decide (¬ ∀ t ∈ l, TVt t)) := by
  unfold zcx.f
  congr 1
  rw [Bool.eq_iff_iff, List.any_eq_true]
  simp [zcx.bad, taskOk_iff]
theorem set_f (l : List Task) : zcu.f l = some (decide (zep l)) := by
  unfold zcu.f
  by_cases h : (l.length : Int) ≤ 5
  · rw [if_pos h, zio]
    simp only [Option.bind_some]
    congr 1
    rw [Bool.eq_iff_iff]
    unfold zep
    have : l.length ≤ 5 := by omega
    simp [this]
  · rw [if_neg h]
    congr 1; symm; rw [decide_eq_false_iff_not]
    unfold zep; omega
end Go.Proofs.Ytkdfjomhichkoaa.Set
namespace Go.Proofs.Ytkdfjomhichkoaa.Edf
def su (f : Nat → Int) : Nat → Int
  | 0 => 0
  | n + 1 => su f n + f n
theorem zga {f g : Nat → Int} {n : Nat} (h : ∀ i, i < n → f i = g i) : su f n = su g n := by
  induction n with
  | zero => rfl
  | succ n ih => rw [su, su, ih (fun i hi => h i (by omega)), h n (by omega)]
theorem su_le {f g : Nat → Int} {n : Nat} (h : ∀ i, i < n → f i ≤ g i) : su f n ≤ su g n := by
  induction n with
  | zero => exact Int.le_refl _
  | succ n ih =>
    have h1 := ih (fun i hi => h i (by omega))
    have h2 := h n (by omega)
    rw [su, su]; omega
theorem su_zero (n : Nat) : su (fun _ => 0) n = 0 := by
  induction n with
  | zero => rfl
  | succ n ih => rw [su, ih]; rfl
theorem su_add (f g : Nat → Int) (n : Nat) : su (fun i => f i + g i) n = su f n + su g n := by
  induction n with
  | zero => rfl
  | succ n ih => rw [su, su, su, ih]; omega
theorem su_one {n j : Nat} (hj : j < n) (c : Int) : su (fun i => if i = j then c else 0) n = c := by
  induction n with
  | zero => omega
  | succ n ih =>
    rw [su]
    by_cases e : j = n
    · subst e
      have : su (fun i => if i = j then c else 0) j = su (fun _ => 0) j := zga fun i hi => if_neg (by omega)
      rw [this, su_zero, if_pos rfl]; omega
    · rw [ih (by omega), if_neg (by omega)]; omega
theorem su_kinds (f : Nat → Int) (tk : Nat → Nat) (m : Nat) : ∀ n, (∀ i, i < n → tk i < m) → su f n = su (fun k => su (fun i => if tk i = k then f i else 0) n) m := by
  intro n
  induction n with
  | zero => intro _; rw [show su f 0 = 0 from rfl]; symm; exact su_zero m
  | succ n ih =>
    intro h
    rw [su, ih (fun i hi => h i (by omega))]
    have : su (fun k => su (fun i => if tk i = k then f i else 0) (n + 1)) m = su (fun k => su (fun i => if tk i = k then f i else 0) n + (if k = tk n then f n else 0)) m := zga fun k _ => by
      rw [su]
      by_cases e : tk n = k
      · rw [if_pos e, if_pos e.symm]
      · rw [if_neg e, if_neg (fun h => e h.symm)]
    rw [this, su_add, su_one (h n (by omega))]
structure Sch (n : Nat) (rel ex : Nat → Int) (L : Nat → Nat → Int) (r : Nat → Int) : Prop where
  start : ∀ i, i < n → L 0 i = ex i
  step : ∀ t i, i < n → L (t + 1) i = L t i - (if r t = (i : Int) then 1 else 0)
  rng : ∀ t, r t = -1 ∨ ∃ i, i < n ∧ r t = (i : Int) ∧ rel i ≤ (t : Int) ∧ 0 < L t i
  pos : ∀ i, i < n → 1 ≤ ex i
section
variable {n : Nat} {rel ex : Nat → Int} {L : Nat → Nat → Int} {r : Nat → Int}
theorem Sch.mono (h : Sch n rel ex L r) (i : Nat) (hi : i < n) : ∀ s t, s ≤ t → L t i ≤ L s i := by
  intro s t hst
  induction t with
  | zero => obtain rfl : s = 0 := by omega
            exact Int.le_refl _
  | succ t ih =>
    by_cases e : s = t + 1
    · subst e; exact Int.le_refl _
    · have := ih (by omega)
      rw [h.step t i hi]
      split <;> omega
theorem Sch.le_ex (h : Sch n rel ex L r) (t i : Nat) (hi : i < n) : L t i ≤ ex i := by
  rw [← h.start i hi]
  exact h.mono i hi 0 t (by omega)
theorem Sch.whole (h : Sch n rel ex L r) (i : Nat) (hi : i < n) : ∀ t : Nat, (t : Int) ≤ rel i → L t i = ex i := by
  intro t
  induction t with
  | zero => intro _; exact h.start i hi
  | succ t ih =>
    intro ht
    rw [h.step t i hi, ih (by omega), if_neg]
    · omega
    · intro e
      rcases h.rng t with h2 | ⟨j, hj, h2, h3, _⟩
      · omega
      · have : i = j := by omega
        subst this; omega
end
theorem few (rel dl ex : Nat → Int) (K : Nat → Prop) [DecidablePred K] (P C a b : Int)
    (hsp : ∀ i j, i < j → K i → K j → rel i + P ≤ rel j) (hex : ∀ i, K i → ex i ≤ C) :
    ∀ n, su (fun i => if K i ∧ a ≤ rel i ∧ dl i ≤ b then ex i else 0) n = 0 ∨
      ∃ c : Int, ∃ j, j < n ∧ K j ∧ a ≤ rel j ∧ dl j ≤ b ∧ 1 ≤ c ∧ a + (c - 1) * P ≤ rel j ∧ su (fun i => if K i ∧ a ≤ rel i ∧ dl i ≤ b then ex i else 0) n ≤ c * C := by
  intro n
  induction n with
  | zero => exact Or.inl rfl
  | succ n ih =>
    rw [su]
    by_cases hk : K n ∧ a ≤ rel n ∧ dl n ≤ b
    · rw [if_pos hk]
      have hx := hex n hk.1
      right
      rcases ih with h0 | ⟨c, j, hj, kj, aj, bj, c1, hc, hs⟩
      · refine ⟨1, n, by omega, hk.1, hk.2.1, hk.2.2, by omega, ?_, ?_⟩
        · rw [Int.sub_self, Int.zero_mul]; omega
        · rw [h0, Int.one_mul]; omega
      · have hsp' := hsp j n (by omega) kj hk.1
        refine ⟨c + 1, n, by omega, hk.1, hk.2.1, hk.2.2, by omega, ?_, ?_⟩
        · rw [show c + 1 - 1 = (c - 1) + 1 by omega, Int.add_mul, Int.one_mul]; omega
        · rw [Int.add_mul, Int.one_mul]; omega
    · rw [if_neg hk, Int.add_zero]
      rcases ih with h0 | ⟨c, j, hj, h⟩
      · exact Or.inl h0
      · exact Or.inr ⟨c, j, by omega, h⟩
theorem few_le (rel dl ex : Nat → Int) (K : Nat → Prop) [DecidablePred K] (P D C a b : Int) (hP : 1 ≤ P) (hC : 0 ≤ C)
    (hsp : ∀ i j, i < j → K i → K j → rel i + P ≤ rel j) (hdl : ∀ i, K i → dl i = rel i + D) (hex : ∀ i, K i → ex i ≤ C) (n : Nat) :
    su (fun i => if K i ∧ a ≤ rel i ∧ dl i ≤ b then ex i else 0) n ≤ if b - a ≥ D then ((b - a - D) / P + 1) * C else 0 := by
  rcases few rel dl ex K P C a b hsp hex n with h0 | ⟨c, j, _, kj, aj, bj, c1, hc, hs⟩
  · rw [h0]
    split
    · rename_i h
      have := Int.ediv_nonneg (show 0 ≤ b - a - D by omega) (show 0 ≤ P by omega)
      exact Int.mul_nonneg (by omega) hC
    · exact Int.le_refl _
  · have hj := hdl j kj
    have hcp : 0 ≤ (c - 1) * P := Int.mul_nonneg (by omega) (by omega)
    rw [if_pos (by omega)]
    have hq : c - 1 ≤ (b - a - D) / P := by
      apply (Int.le_ediv_iff_mul_le (by omega)).2
      omega
    exact Int.le_trans hs (Int.mul_le_mul_of_nonneg_right (by omega) hC)
theorem demand_le {n m : Nat} {rel dl ex : Nat → Int} {tk : Nat → Nat} {P C : Nat → Int} (htk : ∀ i, i < n → tk i < m) (hP : ∀ k, k < m → 1 ≤ P k) (hC : ∀ k, k < m → 0 ≤ C k)
    (D : Nat → Int) (hdl : ∀ i, i < n → dl i = rel i + D (tk i)) (hex : ∀ i, i < n → ex i ≤ C (tk i)) (hsp : ∀ i j, i < j → j < n → tk i = tk j → rel i + P (tk i) ≤ rel j) (a b : Int) :
    su (fun i => if a ≤ rel i ∧ dl i ≤ b then ex i else 0) n ≤ su (fun k => if b - a ≥ D k then ((b - a - D k) / P k + 1) * C k else 0) m := by
  rw [su_kinds _ tk m n htk]
  refine su_le fun k hk => ?_
  have h := few_le rel dl ex (fun i => i < n ∧ tk i = k) (P k) (D k) (C k) a b (hP k hk) (hC k hk) (fun i j hij hi hj => by
    have := hsp i j hij hj.1 (by rw [hi.2, hj.2])
    rwa [hi.2] at this) (fun i hi => by rw [hdl i hi.1, hi.2]) (fun i hi => by have := hex i hi.1; rwa [hi.2] at this) n
  refine Int.le_trans (Int.le_of_eq (zga fun i hi => ?_)) h
  by_cases e : tk i = k
  · by_cases e2 : a ≤ rel i ∧ dl i ≤ b
    · rw [if_pos e, if_pos e2, if_pos ⟨⟨hi, e⟩, e2⟩]
    · rw [if_pos e, if_neg e2, if_neg (fun h => e2 h.2)]
  · rw [if_neg e, if_neg (fun h => e h.1.2)]
section
variable {n m : Nat} {rel dl ex : Nat → Int} {L : Nat → Nat → Int} {r : Nat → Int} {tk : Nat → Nat} {P C : Nat → Int}
theorem started (h : Sch n rel ex L r) (hnp : ∀ t i, i < n → r t = (i : Int) → 0 < L (t + 1) i → r (t + 1) = (i : Int)) (i : Nat) (hi : i < n) :
    ∀ t, 0 < L t i → L t i < ex i → r t = (i : Int) ∧ 1 ≤ t ∧ r (t - 1) = (i : Int) := by
  intro t
  induction t with
  | zero => intro _ h2; rw [h.start i hi] at h2; omega
  | succ t ih =>
    intro h1 h2
    by_cases e : r t = (i : Int)
    · exact ⟨hnp t i hi e h1, by omega, by simpa using e⟩
    · have := h.step t i hi
      rw [if_neg e] at this
      have := (ih (by omega) (by omega)).1
      exact absurd this e
end
end Go.Proofs.Ytkdfjomhichkoaa.Edf
namespace Go.Proofs.Ytkdfjomhichkoaa.Sim
open Go.RowKit Go.Proofs.Ytkdfjomhichkoaa.Gen Go.Proofs.Ytkdfjomhichkoaa.Edf Go.Proofs.YtkdfjomhichkoaaW.PrintWords Go.Proofs.YtkdfjomhichkoaaW.PrintLast
def bst (ok : Nat → Bool) (key : Nat → Int) : Nat → Int
  | 0 => -1
  | n + 1 => if ok n = true ∧ (bst ok key n < 0 ∨ key n < key (bst ok key n).toNat) then (n : Int) else bst ok key n
theorem bst_sp (ok : Nat → Bool) (key : Nat → Int) : ∀ n, (bst ok key n = -1 ∧ ∀ i, i < n → ok i = false) ∨
    ∃ i : Nat, i < n ∧ bst ok key n = (i : Int) ∧ ok i = true ∧ (∀ j, j < n → ok j = true → key i ≤ key j) ∧ ∀ j, j < i → ok j = true → key i < key j := by
  intro n
  induction n with
  | zero => exact Or.inl ⟨rfl, fun i h => by omega⟩
  | succ n ih =>
    rw [bst]
    by_cases h : ok n = true ∧ (bst ok key n < 0 ∨ key n < key (bst ok key n).toNat)
    · rw [if_pos h]
      right
      refine ⟨n, by omega, rfl, h.1, ?_⟩
      rcases ih with ⟨h1, h2⟩ | ⟨i, hi, h1, h2, h3, _⟩
      · refine ⟨fun j hj ho => ?_, fun j hj ho => ?_⟩
        · by_cases e : j = n
          · subst e; exact Int.le_refl _
          · rw [h2 j (by omega)] at ho; cases ho
        · rw [h2 j hj] at ho; cases ho
      · have hlt : key n < key i := by
          rcases h.2 with h4 | h4
          · omega
          · rw [h1] at h4; simpa using h4
        refine ⟨fun j hj ho => ?_, fun j hj ho => ?_⟩
        · by_cases e : j = n
          · subst e; exact Int.le_refl _
          · have := h3 j (by omega) ho; omega
        · have := h3 j hj ho; omega
    · rw [if_neg h]
      rcases ih with ⟨h1, h2⟩ | ⟨i, hi, h1, h2, h3, h4⟩
      · left
        refine ⟨h1, fun j hj => ?_⟩
        by_cases e : j = n
        · subst e
          cases ho : ok j with
          | false => rfl
          | true => exact absurd ⟨ho, Or.inl (by omega)⟩ h
        · exact h2 j (by omega)
      · right
        refine ⟨i, by omega, h1, h2, fun j hj ho => ?_, h4⟩
        by_cases e : j = n
        · subst e
          apply Classical.byContradiction
          intro hc
          exact h ⟨ho, Or.inr (by rw [h1]; simpa using (by omega : key j < key i))⟩
        · exact h3 j (by omega) ho
theorem bst_congr {ok ok' : Nat → Bool} {key key' : Nat → Int} {n : Nat} (h1 : ∀ i, i < n → ok i = ok' i) (h2 : ∀ i, i < n → key i = key' i) : bst ok key n = bst ok' key' n := by
  induction n with
  | zero => rfl
  | succ n ih =>
    have e := ih (fun i hi => h1 i (by omega)) (fun i hi => h2 i (by omega))
    rw [bst, bst, e, h1 n (by omega), h2 n (by omega)]
    have hb := bst_sp ok' key' n
    by_cases hneg : bst ok' key' n < 0
    · simp only [hneg, true_or]
    · rcases hb with ⟨h3, _⟩ | ⟨i, hi, h3, _⟩
      · omega
      · have : key (bst ok' key' n).toNat = key' (bst ok' key' n).toNat := by rw [h3]; exact h2 _ (by simpa using (by omega : i < n + 1))
        rw [this]
def ziq (left : List Int) (i : Int) : List Int := if i < 0 then left else left.set i.toNat (rd left i - 1)
section
variable (pick : List Int → Nat → Int) (ex : List Int)
def stL : Nat → List Int
  | 0 => ex
  | t + 1 => ziq (stL t) (pick (stL t) t)
def runL (t : Nat) : Int := pick (stL pick ex t) t
def finL : Nat → List Int
  | 0 => List.replicate ex.length (-1)
  | t + 1 => if 0 ≤ runL pick ex t ∧ rd (stL pick ex (t + 1)) (runL pick ex t) = 0 then (finL t).set (runL pick ex t).toNat ((t : Int) + 1) else finL t
end
theorem zec (l : List Int) (i : Nat) (x : Int) (h : i < l.length) : rd (l.set i x) (i : Int) = x := by
  rw [rd_at _ i (by simpa using h)]
  simp
theorem zfq (l : List Int) (i a : Nat) (x : Int) (h : a ≠ i) : rd (l.set i x) (a : Int) = rd l (a : Int) := by
  unfold rd
  rw [List.getD_eq_getElem?_getD, List.getD_eq_getElem?_getD, Int.toNat_natCast, List.getElem?_set_ne (by omega)]
def Picks (rel : Nat → Int) (n : Nat) (pick : List Int → Nat → Int) : Prop := ∀ left t, left.length = n → pick left t = -1 ∨ ∃ i, i < n ∧ pick left t = ((i : Nat) : Int) ∧ rel i ≤ (t : Int) ∧ 0 < rd left (i : Int)
section
variable {pick : List Int → Nat → Int} {ex : List Int} {rel : Nat → Int}
theorem stepL_len (left : List Int) (i : Int) : (ziq left i).length = left.length := by
  unfold ziq; split
  · rfl
  · rw [List.length_set]
theorem ze4 : ∀ t, (stL pick ex t).length = ex.length
  | 0 => rfl
  | t + 1 => by rw [stL, stepL_len, ze4 t]
theorem zgb : ∀ t, (finL pick ex t).length = ex.length
  | 0 => by rw [finL, List.length_replicate]
  | t + 1 => by
    rw [finL]; split
    · rw [List.length_set, zgb t]
    · exact zgb t
theorem sch_of (hp : Picks rel ex.length pick) (hpos : ∀ i, i < ex.length → 1 ≤ rd ex ((i : Nat) : Int)) : Sch ex.length rel (fun i => rd ex (i : Int)) (fun t i => rd (stL pick ex t) (i : Int)) (runL pick ex) := by
  refine ⟨fun i _ => rfl, fun t i hi => ?_, fun t => hp _ t (ze4 t), hpos⟩
  have hl : (stL pick ex t).length = ex.length := ze4 t
  show rd (stL pick ex (t + 1)) (i : Int) = rd (stL pick ex t) (i : Int) - (if runL pick ex t = (i : Int) then 1 else 0)
  rw [stL]
  show rd (ziq (stL pick ex t) (runL pick ex t)) (i : Int) = _
  rcases hp _ t hl with h | ⟨j, hj, h, _, _⟩
  · have h : runL pick ex t = -1 := h
    unfold ziq
    rw [h, if_pos (by omega), if_neg (by omega)]; omega
  · have h : runL pick ex t = (j : Int) := h
    unfold ziq
    rw [h, if_neg (by omega), Int.toNat_natCast]
    by_cases e : j = i
    · subst e
      rw [zec _ _ _ (by omega), if_pos rfl]
    · rw [zfq _ _ _ _ (by omega), if_neg (by omega)]; omega
end
end Go.Proofs.Ytkdfjomhichkoaa.Sim
namespace Go.Proofs.Ytkdfjomhichkoaa.Tm
open Go.RowKit Go.Proofs.Ytkdfjomhichkoaa.P Go.Proofs.Ytkdfjomhichkoaa.Base Go.Proofs.Ytkdfjomhichkoaa.Gen Go.Proofs.Ytkdfjomhichkoaa.Alive Go.Proofs.Ytkdfjomhichkoaa.Set Go.Proofs.YtkdfjomhichkoaaW.PrintWords Go.Proofs.YtkdfjomhichkoaaW.PrintLast
def sm {α : Type} (f : α → Int) : List α → Int
  | [] => 0
  | a :: l => f a + sm f l
theorem sm_append {α : Type} (f : α → Int) (l m : List α) : sm f (l ++ m) = sm f l + sm f m := by
  induction l with
  | nil => simp [sm]
  | cons a l ih => rw [List.cons_append, sm, sm, ih]; omega
theorem sm_take {α : Type} (f : α → Int) (l : List α) (i : Nat) (h : i < l.length) : sm f (l.take (i + 1)) = sm f (l.take i) + f l[i] := by
  rw [List.take_succ_eq_append_getElem h, sm_append]
  simp [sm]
def hy (l : List Task) : Nat := l.foldl (fun h t => Nat.lcm h t.f2.toNat) 1
def AllV (l : List Task) : Prop := ∀ t ∈ l, TVt t
theorem _root_.Go.Proofs.Ytkdfjomhichkoaa.Set.zep.all {l : List Task} (h : zep l) : AllV l := h.2
theorem AllV.take {l : List Task} (h : AllV l) (i : Nat) : AllV (l.take i) := fun t ht => h t (List.mem_of_mem_take ht)
def d1 (t : Int) (x : Task) : Int := if t ≥ x.f1 then ((t - x.f1) / x.f2 + 1) * x.f0 else 0
def dm (l : List Task) (t : Int) : Int := sm (d1 t) l
end Go.Proofs.Ytkdfjomhichkoaa.Tm
namespace Go.Proofs.Ytkdfjomhichkoaa.Jobs
open Go.RowKit Go.Proofs.Ytkdfjomhichkoaa.P Go.Proofs.Ytkdfjomhichkoaa.Base Go.Proofs.Ytkdfjomhichkoaa.Gen Go.Proofs.Ytkdfjomhichkoaa.Alive Go.Proofs.Ytkdfjomhichkoaa.Set Go.Proofs.Ytkdfjomhichkoaa.Tm Go.Proofs.Ytkdfjomhichkoaa.Edf Go.Proofs.Ytkdfjomhichkoaa.Sim Go.Proofs.YtkdfjomhichkoaaW.PrintWords Go.Proofs.YtkdfjomhichkoaaW.PrintLast
abbrev Job := S34
def rj (l : List Job) (i : Nat) : Job := ze l (i : Int)
def tk (l : List Task) (i : Int) : Task := zu l i
theorem rj_at (l : List Job) (i : Nat) (h : i < l.length) : rj l i = l[i] := by
  unfold rj ze
  rw [List.getD_eq_getElem?_getD, Int.toNat_natCast, List.getElem?_eq_getElem h]
  rfl
theorem tk_at (l : List Task) (i : Nat) (h : i < l.length) : tk l (i : Int) = l[i] := by
  unfold tk zu
  rw [List.getD_eq_getElem?_getD, Int.toNat_natCast, List.getElem?_eq_getElem h]
  rfl
def One (l : List Task) (js : List Job) (i : Nat) : Prop :=
  (0 ≤ (rj js i).f0 ∧ (rj js i).f0 < (l.length : Int)) ∧ (0 ≤ (rj js i).f1 ∧ (rj js i).f1 ≤ 119) ∧ (1 ≤ (rj js i).f3 ∧ (rj js i).f3 ≤ (tk l (rj js i).f0).f0) ∧
    (rj js i).f2 = (rj js i).f1 + (tk l (rj js i).f0).f1 ∧
    (0 < i → (rj js (i - 1)).f1 < (rj js i).f1 ∨ ((rj js (i - 1)).f1 = (rj js i).f1 ∧ (rj js (i - 1)).f0 < (rj js i).f0)) ∧
    ∀ p, p < i → (rj js p).f0 = (rj js i).f0 → (rj js p).f1 + (tk l (rj js i).f0).f2 ≤ (rj js i).f1
def JL (l : List Task) (js : List Job) : Prop := zep l ∧ js.length ≤ 60 ∧ ∀ i, i < js.length → One l js i
noncomputable instance (l : List Task) (js : List Job) : Decidable (JL l js) := Classical.propDecidable _
section
variable {l : List Task} {js : List Job}
def rel (js : List Job) (i : Nat) : Int := (rj js i).f1
def dl (js : List Job) (i : Nat) : Int := (rj js i).f2
def exs (js : List Job) : List Int := js.map (fun j => j.f3)
def tki (js : List Job) (i : Nat) : Nat := (rj js i).f0.toNat
theorem zdr (js : List Job) : (exs js).length = js.length := by unfold exs; rw [List.length_map]
theorem exs_rd (js : List Job) (i : Nat) (h : i < js.length) : rd (exs js) (i : Int) = (rj js i).f3 := by
  rw [rd_at _ i (by rw [zdr]; exact h), rj_at js i h]
  unfold exs
  rw [List.getElem_map]
theorem JL.pos (h : JL l js) : ∀ i, i < (exs js).length → 1 ≤ rd (exs js) ((i : Nat) : Int) := fun i hi => by
  rw [zdr] at hi
  rw [exs_rd js i hi]
  exact (h.2.2 i hi).2.2.1.1
theorem JL.tkm (h : JL l js) (i : Nat) (hi : i < js.length) : tki js i < l.length ∧ ((tki js i : Nat) : Int) = (rj js i).f0 := by
  have := (h.2.2 i hi).1
  unfold tki
  omega
def P (l : List Task) (k : Nat) : Int := (tk l (k : Int)).f2
def C (l : List Task) (k : Nat) : Int := (tk l (k : Int)).f0
def D (l : List Task) (k : Nat) : Int := (tk l (k : Int)).f1
theorem zir (hs : zep l) (k : Nat) (hk : k < l.length) : 1 ≤ C l k ∧ C l k ≤ 8 ∧ C l k ≤ D l k ∧ D l k ≤ P l k ∧ P l k ≤ 12 := by
  have := hs.2 _ (List.getElem_mem hk)
  unfold C D P
  rw [tk_at l k hk]
  exact this
theorem su_sm (f : Task → Int) (l : List Task) : su (fun k => f (tk l (k : Int))) l.length = sm f l := by
  have key : ∀ i, i ≤ l.length → su (fun k => f (tk l (k : Int))) i = sm f (l.take i) := by
    intro i
    induction i with
    | zero => intro _; rfl
    | succ i ih =>
      intro hi
      rw [su, ih (by omega), sm_take f l i (by omega), tk_at l i (by omega)]
  have := key l.length (Nat.le_refl _)
  rwa [List.take_length] at this
theorem JL.dl_eq (h : JL l js) (i : Nat) (hi : i < js.length) : dl js i = rel js i + D l (tki js i) := by
  have h1 := (h.2.2 i hi).2.2.2.1
  have h2 := (h.tkm i hi).2
  unfold dl rel D
  rw [h2]; exact h1
theorem JL.ex_le (h : JL l js) (i : Nat) (hi : i < js.length) : rd (exs js) (i : Int) ≤ C l (tki js i) := by
  have h1 := (h.2.2 i hi).2.2.1.2
  have h2 := (h.tkm i hi).2
  rw [exs_rd js i hi]
  unfold C
  rw [h2]; exact h1
theorem JL.sep (h : JL l js) : ∀ i j, i < j → j < js.length → tki js i = tki js j → rel js i + P l (tki js i) ≤ rel js j := by
  intro i j hij hj he
  have h1 := (h.2.2 j hj).2.2.2.2.2 i hij
  have h2 := (h.tkm i (by omega)).2
  have h3 := (h.tkm j hj).2
  unfold rel P
  rw [he, h3]
  exact h1 (by omega)
theorem JL.demand (h : JL l js) (a b : Int) : su (fun i => if a ≤ rel js i ∧ dl js i ≤ b then rd (exs js) (i : Int) else 0) js.length ≤ dm l (b - a) := by
  have h1 := demand_le (n := js.length) (m := l.length) (rel := rel js) (dl := dl js) (ex := fun i => rd (exs js) (i : Int)) (tk := tki js) (P := P l) (C := C l)
    (fun i hi => (h.tkm i hi).1) (fun k hk => by have := zir h.1 k hk; omega) (fun k hk => by have := zir h.1 k hk; omega) (D l) (fun i hi => h.dl_eq i hi) (fun i hi => h.ex_le i hi) h.sep a b
  refine Int.le_trans h1 (Int.le_of_eq ?_)
  unfold dm
  rw [← su_sm (d1 (b - a)) l]
  refine zga fun k hk => ?_
  unfold d1 C D P
  rfl
end
def rdyb (js : List Job) (left : List Int) (t : Nat) (i : Nat) : Bool := decide ((rj js i).f1 ≤ (t : Int) ∧ 0 < rd left (i : Int))
def edfp (js : List Job) (left : List Int) (t : Nat) : Int := bst (rdyb js left t) (dl js) js.length
def supp (js : List Job) (on : Nat → Bool) (left : List Int) (t : Nat) : Int := if on t = true then edfp js left t else -1
theorem edfp_sp (js : List Job) (left : List Int) (t : Nat) : (edfp js left t = -1 ∧ ∀ i, i < js.length → rel js i ≤ (t : Int) → rd left (i : Int) ≤ 0) ∨
    ∃ i : Nat, i < js.length ∧ edfp js left t = (i : Int) ∧ rel js i ≤ (t : Int) ∧ 0 < rd left (i : Int) ∧ ∀ j, j < js.length → rel js j ≤ (t : Int) → 0 < rd left (j : Int) → dl js i ≤ dl js j := by
  rcases bst_sp (rdyb js left t) (dl js) js.length with ⟨h1, h2⟩ | ⟨i, hi, h1, h2, h3, _⟩
  · left
    refine ⟨h1, fun i hi hr => ?_⟩
    have := h2 i hi
    unfold rdyb at this
    rw [decide_eq_false_iff_not] at this
    unfold rel at hr
    omega
  · right
    unfold rdyb at h2
    have h2 := of_decide_eq_true h2
    refine ⟨i, hi, h1, h2.1, h2.2, fun j hj hr hl => h3 j hj ?_⟩
    unfold rdyb
    exact decide_eq_true ⟨hr, hl⟩
theorem edfp_picks (js : List Job) : Picks (rel js) (exs js).length (edfp js) := fun left t _ => by
  rw [zdr]
  rcases edfp_sp js left t with ⟨h, _⟩ | ⟨i, hi, h1, h2, h3, _⟩
  · exact Or.inl h
  · exact Or.inr ⟨i, hi, h1, h2, h3⟩
theorem zf3 (js : List Job) (on : Nat → Bool) : Picks (rel js) (exs js).length (supp js on) := fun left t hl => by
  unfold supp
  split
  · exact edfp_picks js left t hl
  · exact Or.inl rfl
end Go.Proofs.Ytkdfjomhichkoaa.Jobs
namespace Go.Proofs.Ytkdfjomhichkoaa.Leg
open Go.RowKit Go.Proofs.Ytkdfjomhichkoaa.P Go.Proofs.Ytkdfjomhichkoaa.Base Go.Proofs.Ytkdfjomhichkoaa.Gen Go.Proofs.Ytkdfjomhichkoaa.Alive Go.Proofs.Ytkdfjomhichkoaa.Set Go.Proofs.Ytkdfjomhichkoaa.Tm Go.Proofs.Ytkdfjomhichkoaa.Edf Go.Proofs.Ytkdfjomhichkoaa.Sim Go.Proofs.Ytkdfjomhichkoaa.Jobs Go.Proofs.YtkdfjomhichkoaaW.PrintWords Go.Proofs.YtkdfjomhichkoaaW.PrintLast
theorem zfr (js : List Job) (k : Int) : ∀ i, (lastOf js i k = none ∧ ∀ p, p < i → (rj js p).f0 ≠ k) ∨ ∃ p, p < i ∧ (rj js p).f0 = k ∧ lastOf js i k = some (rj js p).f1 ∧ ∀ q, p < q → q < i → (rj js q).f0 ≠ k := by
  intro i
  induction i with
  | zero => exact Or.inl ⟨rfl, fun p h => by omega⟩
  | succ i ih =>
    rw [lastOf]
    by_cases h : (jrd js i).f0 = k
    · rw [if_pos h]
      exact Or.inr ⟨i, by omega, h, rfl, fun q h1 h2 => by omega⟩
    · rw [if_neg h]
      have h' : (rj js i).f0 ≠ k := h
      rcases ih with ⟨h1, h2⟩ | ⟨p, h1, h2, h3, h4⟩
      · refine Or.inl ⟨h1, fun p hp => ?_⟩
        by_cases e : p = i
        · subst e; exact h'
        · exact h2 p (by omega)
      · refine Or.inr ⟨p, by omega, h2, h3, fun q h5 h6 => ?_⟩
        by_cases e : q = i
        · subst e; exact h'
        · exact h4 q h5 (by omega)
def Loc (l : List Task) (js : List Job) (i : Nat) : Prop :=
  (0 ≤ (rj js i).f0 ∧ (rj js i).f0 < (l.length : Int)) ∧ (0 ≤ (rj js i).f1 ∧ (rj js i).f1 ≤ 119) ∧ (1 ≤ (rj js i).f3 ∧ (rj js i).f3 ≤ (tk l (rj js i).f0).f0) ∧
    (0 < i → (rj js (i - 1)).f1 < (rj js i).f1 ∨ ((rj js (i - 1)).f1 = (rj js i).f1 ∧ (rj js (i - 1)).f0 < (rj js i).f0))
theorem one_loc {l : List Task} {js : List Job} {i : Nat} (h : One l js i) : Loc l js i := ⟨h.1, h.2.1, h.2.2.1, h.2.2.2.2.1⟩
theorem mono_rel {l : List Task} {js : List Job} {n : Nat} (h : ∀ i, i < n → Loc l js i) : ∀ q p, p ≤ q → q < n → (rj js p).f1 ≤ (rj js q).f1 := by
  intro q
  induction q with
  | zero => intro p hp _; obtain rfl : p = 0 := by omega
            exact Int.le_refl _
  | succ q ih =>
    intro p hp hq
    by_cases e : p = q + 1
    · subst e; exact Int.le_refl _
    · have h1 := ih p (by omega) (by omega)
      have h2 := (h (q + 1) hq).2.2.2 (by omega)
      rw [Nat.add_sub_cancel] at h2
      omega
theorem dist_iff {l : List Task} {js : List Job} {i n : Nat} (hi : i < n) (h : ∀ p, p < n → Loc l js p) :
    (∀ p, p < i → (rj js p).f0 = (rj js i).f0 → (rj js p).f1 + (tk l (rj js i).f0).f2 ≤ (rj js i).f1) ↔ ∀ b, lastOf js i (rj js i).f0 = some b → b + (tk l (rj js i).f0).f2 ≤ (rj js i).f1 := by
  constructor
  · intro hh b hb
    rcases zfr js (rj js i).f0 i with ⟨h1, _⟩ | ⟨p, h1, h2, h3, _⟩
    · rw [h1] at hb; cases hb
    · rw [h3] at hb
      obtain rfl := Option.some.inj hb
      exact hh p h1 h2
  · intro hh p hp he
    rcases zfr js (rj js i).f0 i with ⟨_, h2⟩ | ⟨q, h1, h2, h3, h4⟩
    · exact absurd he (h2 p hp)
    · have h5 := hh _ h3
      have h6 : p ≤ q := by
        apply Classical.byContradiction
        intro hc
        exact h4 p (by omega) hp he
      have := mono_rel h q p h6 (by omega)
      omega
theorem tk_ok {l : List Task} (hs : zep l) (k : Int) (h0 : 0 ≤ k) (h1 : k < (l.length : Int)) : 1 ≤ (tk l k).f0 ∧ (tk l k).f0 ≤ 8 ∧ (tk l k).f0 ≤ (tk l k).f1 ∧ (tk l k).f1 ≤ (tk l k).f2 ∧ (tk l k).f2 ≤ 12 := by
  obtain ⟨n, rfl⟩ := Int.eq_ofNat_of_zero_le h0
  have hn : n < l.length := by omega
  rw [tk_at l n hn]
  exact hs.2 _ (List.getElem_mem hn)
theorem zgc {p : Nat → Bool} : ∀ {n : Nat}, allB p n = true ↔ ∀ i, i < n → p i = true := by
  intro n
  constructor
  · exact fun h => zgp h
  · intro h
    cases e : allB p n with
    | true => rfl
    | false =>
      have key : ∀ m, m ≤ n → allB p m = true := by
        intro m
        induction m with
        | zero => intro _; rfl
        | succ m ih => intro hm; rw [allB, ih (by omega), h m (by omega)]; rfl
      rw [key n (Nat.le_refl _)] at e
      cases e
theorem zib (l : List Task) (js : List Job) (i : Nat) : zf1 l js i = true ↔ Loc l js i := by
  unfold zf1 Loc
  have e : jrd js i = rj js i := rfl
  have e2 : jrd js (i - 1) = rj js (i - 1) := rfl
  rw [Bool.and_eq_true, Bool.and_eq_true, Bool.and_eq_true, Bool.or_eq_true]
  unfold inRng relOk exOk bhd
  simp only [decide_eq_true_eq, Bool.not_eq_true', Bool.or_eq_false_iff, Bool.and_eq_false_iff, decide_eq_false_iff_not, e, e2]
  have e3 : trd l (rj js i).f0 = tk l (rj js i).f0 := rfl
  rw [e3]
  constructor
  · rintro ⟨⟨⟨h1, h2⟩, h3⟩, h4⟩
    refine ⟨by omega, h2, h3, fun h0 => ?_⟩
    rcases h4 with h4 | ⟨h4, h5⟩
    · omega
    · rcases h5 with h5 | h5 <;> omega
  · rintro ⟨h1, h2, h3, h4⟩
    refine ⟨⟨⟨by omega, h2⟩, h3⟩, ?_⟩
    by_cases h0 : i = 0
    · exact Or.inl h0
    · right
      have := h4 (by omega)
      constructor
      · omega
      · by_cases e4 : (rj js (i - 1)).f1 = (rj js i).f1
        · right; omega
        · left; exact e4
theorem zic {l : List Task} {js : List Job} {i n : Nat} (hs : zep l) (hi : i < n) (h : ∀ p, p < n → Loc l js p) : zg3 l js i = true ↔ ∀ b, lastOf js i (rj js i).f0 = some b → b + (tk l (rj js i).f0).f2 ≤ (rj js i).f1 := by
  unfold zg3
  have e : jrd js i = rj js i := rfl
  have e3 : trd l (rj js i).f0 = tk l (rj js i).f0 := rfl
  rw [e, e3]
  have hb := (h i hi).2.1
  have ht := tk_ok hs _ (h i hi).1.1 (h i hi).1.2
  rcases zfr js (rj js i).f0 i with ⟨h1, _⟩ | ⟨p, h1, _, h3, _⟩
  · rw [h1]
    exact ⟨fun _ b hb => (by cases hb), fun _ => rfl⟩
  · rw [h3]
    have hp := (h p (by omega)).2.1
    simp only [Bool.not_eq_true', decide_eq_false_iff_not]
    rw [w64 (by omega) (by omega)]
    constructor
    · intro h5 b hb
      obtain rfl := Option.some.inj hb
      omega
    · intro h5
      have := h5 _ rfl
      omega
theorem leg_iff {l : List Task} {js : List Job} (hs : zep l) : legB l js = true ↔ JL l js := by
  unfold legB
  by_cases ho : ordB l js = true
  · rw [if_pos ho]
    unfold ordB at ho
    rw [Bool.and_eq_true, decide_eq_true_eq, zgc] at ho
    have hloc : ∀ p, p < js.length → Loc l js p := fun p hp => (zib l js p).1 (ho.1 p hp)
    have hlate : (!(js.any (zh5 l))) = true ↔ ∀ i, i < js.length → (rj js i).f2 = (rj js i).f1 + (tk l (rj js i).f0).f1 := by
      rw [Bool.not_eq_true', List.any_eq_false]
      have one : ∀ i, i < js.length → (¬ zh5 l (rj js i) = true ↔ (rj js i).f2 = (rj js i).f1 + (tk l (rj js i).f0).f1) := fun i hi => by
        have hb := (hloc i hi).2.1
        have ht := tk_ok hs _ (hloc i hi).1.1 (hloc i hi).1.2
        unfold zh5
        have e3 : trd l (rj js i).f0 = tk l (rj js i).f0 := rfl
        rw [e3, w64 (by omega) (by omega), bne_iff_ne, Ne, Classical.not_not]
      constructor
      · intro hh i hi
        rw [← one i hi, rj_at js i hi]
        exact hh _ (List.getElem_mem hi)
      · intro hh x hx
        obtain ⟨i, hi, rfl⟩ := List.getElem_of_mem hx
        rw [← rj_at js i hi]
        exact (one i hi).2 (hh i hi)
    by_cases hp : spcB l js = true
    · rw [if_pos hp, hlate]
      unfold spcB at hp
      rw [zgc] at hp
      constructor
      · intro hh
        refine ⟨hs, by omega, fun i hi => ⟨(hloc i hi).1, (hloc i hi).2.1, (hloc i hi).2.2.1, hh i hi, (hloc i hi).2.2.2, ?_⟩⟩
        exact (dist_iff hi hloc).2 ((zic hs hi hloc).1 (hp i hi))
      · intro hh i hi
        exact (hh.2.2 i hi).2.2.2.1
    · rw [if_neg hp]
      constructor
      · intro h; cases h
      · intro hh
        refine absurd ?_ hp
        unfold spcB
        rw [zgc]
        intro i hi
        exact (zic hs hi hloc).2 ((dist_iff hi hloc).1 (hh.2.2 i hi).2.2.2.2.2)
  · rw [if_neg ho]
    constructor
    · intro h; cases h
    · intro hh
      refine absurd ?_ ho
      unfold ordB
      rw [Bool.and_eq_true, decide_eq_true_eq, zgc]
      exact ⟨fun i hi => (zib l js i).2 (one_loc (hh.2.2 i hi)), by have := hh.2.1; omega⟩
theorem impl_jl (l : List Task) (js : List Job) (hl : l.length ≤ 1000000000) (hj : js.length ≤ 1000000000) : zcv.f l js = some (decide (JL l js)) := by
  unfold zcv.f
  rw [set_f l]
  simp only [Option.bind_some]
  by_cases hs : zep l
  · rw [decide_eq_true hs, if_pos rfl, if_pos ⟨hl, hj⟩]
    congr 1
    rw [Bool.eq_iff_iff, leg_iff hs, decide_eq_true_eq]
  · rw [decide_eq_false hs, if_neg (by simp), decide_eq_false (fun h => hs h.1)]
end Go.Proofs.Ytkdfjomhichkoaa.Leg
namespace Go.Proofs.Ytkdfjomhichkoaa.Nps
open Go.RowKit Go.Proofs.Ytkdfjomhichkoaa.P Go.Proofs.Ytkdfjomhichkoaa.Base Go.Proofs.Ytkdfjomhichkoaa.Gen Go.Proofs.Ytkdfjomhichkoaa.Set Go.Proofs.Ytkdfjomhichkoaa.Edf Go.Proofs.Ytkdfjomhichkoaa.Sim Go.Proofs.Ytkdfjomhichkoaa.Jobs Go.Proofs.YtkdfjomhichkoaaW.PrintWords Go.Proofs.YtkdfjomhichkoaaW.PrintLast
theorem best_bst (ok : Nat → Bool) (key : Nat → Int) : ∀ n, zfm ok key n = bst ok key n
  | 0 => rfl
  | n + 1 => by rw [zfm, bst, best_bst ok key n]
def sch (js : List Job) (pick : List Int → Nat → Int) : List Int × List Int := ((List.range 120).map (runL pick (exs js)), finL pick (exs js) 120)
section
variable {pick : List Int → Nat → Int} {ex : List Int}
theorem st_idle {t : Nat} (h : runL pick ex t = -1) : stL pick ex (t + 1) = stL pick ex t ∧ finL pick ex (t + 1) = finL pick ex t := by
  have h' : pick (stL pick ex t) t = -1 := h
  constructor
  · rw [stL, h']; rfl
  · rw [finL, h]; rfl
theorem st_run {t i : Nat} (h : runL pick ex t = (i : Int)) (hi : i < ex.length) : stL pick ex (t + 1) = (stL pick ex t).set i (rd (stL pick ex t) (i : Int) - 1) ∧
    finL pick ex (t + 1) = if rd (stL pick ex t) (i : Int) - 1 = 0 then (finL pick ex t).set i ((t : Int) + 1) else finL pick ex t := by
  have h' : pick (stL pick ex t) t = (i : Int) := h
  have e : stL pick ex (t + 1) = (stL pick ex t).set i (rd (stL pick ex t) (i : Int) - 1) := by
    rw [stL, h']
    unfold ziq
    rw [if_neg (by omega), Int.toNat_natCast]
  refine ⟨e, ?_⟩
  rw [finL, h, e, zec _ _ _ (by rw [ze4]; exact hi), Int.toNat_natCast]
  by_cases hz : rd (stL pick ex t) (i : Int) - 1 = 0
  · rw [if_pos ⟨by omega, hz⟩, if_pos hz]
  · rw [if_neg (fun h => hz h.2), if_neg hz]
end
def Agree (js : List Job) (pk : List Int → Int → Int) (pick : List Int → Nat → Int) : Prop :=
  ∀ (dn left : List Int) (t : Nat), dn.length = js.length → left.length = js.length → (∀ i, i < js.length → rd left (i : Int) = rd (exs js) (i : Int) - rd dn (i : Int)) → pk dn (t : Int) = pick left t
theorem sim_rel {js : List Job} {pk : List Int → Int → Int} {pick : List Int → Nat → Int} {rel : Nat → Int} (ha : Agree js pk pick) (hp : Picks rel js.length pick) (hex : ∀ i, i < js.length → 1 ≤ rd (exs js) (i : Int) ∧ rd (exs js) (i : Int) ≤ 8) : ∀ t,
    (∀ i, i < js.length → rd (stL pick (exs js) t) (i : Int) = rd (exs js) (i : Int) - rd (simT pk js t).1 (i : Int)) ∧ (simT pk js t).2 = finL pick (exs js) t := by
  have hel : (exs js).length = js.length := zdr js
  have hS := sch_of (pick := pick) (ex := exs js) (rel := rel) (by rw [hel]; exact hp) (fun i hi => (hex i (by omega)).1)
  intro t
  induction t with
  | zero =>
    refine ⟨fun i hi => ?_, ?_⟩
    · rw [stL, simT, rd_at (List.replicate js.length 0) i (by simpa using hi), List.getElem_replicate]; omega
    · rw [finL, simT, hel]
  | succ t ih =>
    have hsl := zfn pk js t
    have hstl : (stL pick (exs js) t).length = js.length := by rw [ze4, hel]
    have hrun : pk (simT pk js t).1 (t : Int) = runL pick (exs js) t := ha _ _ t hsl.1 hstl ih.1
    rcases hp _ t hstl with h | ⟨j, hj, h, _, hpos⟩
    · have h : runL pick (exs js) t = -1 := h
      have e := st_idle h
      rw [e.1, e.2, zh2 (by rw [hrun, h])]
      exact ih
    · have h : runL pick (exs js) t = (j : Int) := h
      have e := st_run h (by rw [hel]; exact hj)
      have hd := ih.1 j hj
      have hx := hex j hj
      have hle := hS.le_ex t j (by rw [hel]; exact hj)
      have hf3 : (jrd js j).f3 = rd (exs js) (j : Int) := (exs_rd js j hj).symm
      have es := zh3 (pk := pk) (js := js) (t := t) (b := j) (by rw [hrun, h]) rfl hf3
      rw [w64 (x := rd (simT pk js t).1 (j : Int) + 1) (by omega) (by omega)] at es
      rw [es, e.1, e.2]
      refine ⟨fun i hi => ?_, ?_⟩
      · by_cases eij : i = j
        · subst eij
          simp only
          rw [zec _ _ _ (by omega), zec _ _ _ (by omega)]; omega
        · simp only
          rw [zfq _ _ _ _ eij, zfq _ _ _ _ eij]
          exact ih.1 i hi
      · simp only
        rw [ih.2]
        by_cases hz : rd (stL pick (exs js) t) (j : Int) - 1 = 0
        · rw [if_pos hz, if_pos (by omega)]
        · rw [if_neg hz, if_neg (by omega)]
theorem sim_sch {js : List Job} {pk : List Int → Int → Int} {pick : List Int → Nat → Int} {rel : Nat → Int} (ha : Agree js pk pick) (hp : Picks rel js.length pick) (hex : ∀ i, i < js.length → 1 ≤ rd (exs js) (i : Int) ∧ rd (exs js) (i : Int) ≤ 8) : simR pk js = sch js pick := by
  have hr := sim_rel ha hp hex
  unfold simR sch
  rw [(hr 120).2]
  congr 1
  apply List.map_congr_left
  intro t _
  have hsl := zfn pk js t
  exact ha _ _ t hsl.1 (by rw [ze4, zdr]) (hr t).1
theorem rdy_eq {js : List Job} {dn left : List Int} {t : Nat} {i : Nat} (hi : i < js.length) (h : rd left (i : Int) = rd (exs js) (i : Int) - rd dn (i : Int)) : rdyD js dn (t : Int) i = rdyb js left t i := by
  unfold rdyD rdyb
  rw [exs_rd js i hi] at h
  have e : jrd js i = rj js i := rfl
  rw [e, Bool.eq_iff_iff, Bool.and_eq_true, decide_eq_true_eq, decide_eq_true_eq, decide_eq_true_eq]
  omega
theorem edf_agree (js : List Job) : Agree js (edfD js) (edfp js) := by
  intro dn left t h1 h2 h3
  unfold edfD edfp
  rw [best_bst]
  exact bst_congr (fun i hi => rdy_eq hi (h3 i hi)) (fun i _ => rfl)
theorem exs_bd {l : List Task} {js : List Job} (h : JL l js) : ∀ i, i < js.length → 1 ≤ rd (exs js) (i : Int) ∧ rd (exs js) (i : Int) ≤ 8 := fun i hi => by
  have h1 := h.pos i (by rw [zdr]; exact hi)
  have h2 := h.ex_le i hi
  have h3 := zir h.1 (tki js i) (h.tkm i hi).1
  omega
def keys (js : List Job) : List Int := js.map (fun j => j.f2)
theorem keys_len (js : List Job) : (keys js).length = js.length := by unfold keys; rw [List.length_map]
theorem keys_rd (js : List Job) (i : Nat) (h : i < js.length) : rd (keys js) (i : Int) = dl js i := by
  unfold dl
  rw [rd_at _ i (by rw [keys_len]; exact h), rj_at js i h]
  unfold keys
  rw [List.getElem_map]
theorem rjT (js : List Job) (i : Nat) : ze js (i : Int) = rj js i := rfl
theorem map_take {α β : Type} (f : α → β) (l : List α) (i : Nat) (h : i < l.length) : (l.take (i + 1)).map f = (l.take i).map f ++ [f l[i]] := by
  rw [List.take_succ_eq_append_getElem h, List.map_append]
  rfl
theorem keys_ev (js : List Job) (hn : js.length ≤ 1000) : Ev (fun k => zb0.f k js) (keys js) := by
  have loop : ∀ d i, i + d = js.length → Ev (fun k => zb0.l0 k js ((js.take i).map (fun j => j.f2)) (i : Int)) (keys js) := by
    intro d
    induction d with
    | zero =>
      intro i hi
      refine Ev.step (f := fun _ => some (keys js)) (fun k => ?_) (Ev.now _)
      simp only [zb0.l0]
      rw [if_neg (by omega), List.take_of_length_le (by omega)]
      rfl
    | succ d ih =>
      intro i hi
      have hil : i < js.length := by omega
      refine Ev.step (fun k => ?_) (ih (i + 1) (by omega))
      simp only [zb0.l0]
      rw [if_pos (by omega), if_pos (by omega), if_pos (by rw [List.length_map, List.length_take]; omega), rjT, rj_at js i hil, map_take _ _ _ hil, w64 (by omega) (by omega)]
      rfl
  have := loop js.length 0 (by omega)
  exact this
theorem best_ev (js : List Job) (left : List Int) (t : Nat) (hn : js.length ≤ 1000) (hl : left.length = js.length) : Ev (fun k => zcg.f k js left (keys js) (t : Int)) (edfp js left t) := by
  have hk := keys_len js
  have loop : ∀ d i, i + d = js.length → Ev (fun k => zcg.l0 k js left (keys js) (t : Int) (bst (rdyb js left t) (dl js) i) (i : Int)) (edfp js left t) := by
    intro d
    induction d with
    | zero =>
      intro i hi
      obtain rfl : i = js.length := by omega
      refine Ev.step (f := fun _ => some (edfp js left t)) (fun k => ?_) (Ev.now _)
      simp only [zcg.l0]
      rw [if_neg (by omega)]
      rfl
    | succ d ih =>
      intro i hi
      have hil : i < js.length := by omega
      have hb := bst_sp (rdyb js left t) (dl js) i
      refine Ev.step (fun k => ?_) (ih (i + 1) (by omega))
      simp only [zcg.l0]
      rw [if_pos (by omega), if_pos (by omega), rjT, w64 (by omega) (by omega)]
      have e1 : ((i : Int) + 1) = ((i + 1 : Nat) : Int) := by omega
      rw [e1, bst]
      by_cases h1 : (rj js i).f1 ≤ (t : Int)
      · rw [if_pos h1, if_pos (by omega)]
        by_cases h2 : 0 < rd left (i : Int)
        · have hok : rdyb js left t i = true := by unfold rdyb; exact decide_eq_true ⟨h1, h2⟩
          rw [if_pos (show rd left (i : Int) > 0 from h2)]
          rcases hb with ⟨h3, _⟩ | ⟨b, h3, h4, _⟩
          · rw [h3, if_pos (by omega), if_pos ⟨hok, Or.inl (by omega)⟩]
          · rw [h4, if_neg (by omega), if_pos (by omega), if_pos (by omega), if_pos (by omega), keys_rd js i hil, keys_rd js b (by omega), Int.toNat_natCast]
            by_cases h5 : dl js i < dl js b
            · rw [if_pos h5, if_pos ⟨hok, Or.inr h5⟩]
            · rw [if_neg h5, if_neg (fun h => h.2.elim (fun h6 => by omega) h5)]
        · have hok : rdyb js left t i = false := by unfold rdyb; exact decide_eq_false (fun h => h2 h.2)
          rw [if_neg (show ¬ rd left (i : Int) > 0 from h2), if_neg (fun h => by rw [hok] at h; cases h.1)]
      · have hok : rdyb js left t i = false := by unfold rdyb; exact decide_eq_false (fun h => h1 h.1)
        rw [if_neg h1, if_neg (fun h => by rw [hok] at h; cases h.1)]
  have := loop js.length 0 (by omega)
  exact this
end Go.Proofs.Ytkdfjomhichkoaa.Nps
namespace Go.Proofs.Ytkdfjomhichkoaa.Tm
open Go.RowKit Go.Proofs.Ytkdfjomhichkoaa.P Go.Proofs.Ytkdfjomhichkoaa.Base Go.Proofs.Ytkdfjomhichkoaa.Gen Go.Proofs.Ytkdfjomhichkoaa.Alive Go.Proofs.Ytkdfjomhichkoaa.Set Go.Proofs.YtkdfjomhichkoaaW.PrintWords Go.Proofs.YtkdfjomhichkoaaW.PrintLast
theorem rdT_at (l : List Task) (i : Nat) (h : i < l.length) : zu l (i : Int) = l[i] := by
  unfold zu
  rw [List.getD_eq_getElem?_getD, Int.toNat_natCast, List.getElem?_eq_getElem h]
  rfl
theorem stv_f (c d p : Int) : zc2.f c d p = some (decide (TV c d p)) := by
  unfold zc2.f
  rw [zet, zet, zet, and_bind, and_bind]
  by_cases h1 : 1 ≤ c ∧ c ≤ 8
  · by_cases h2 : c ≤ d ∧ d ≤ p
    · rw [if_pos h1, if_pos h2]; simp only [Option.bind_some]; congr 1; rw [decide_eq_decide]; unfold TV; omega
    · rw [if_pos h1, if_neg h2]; congr 1; symm; rw [decide_eq_false_iff_not]; unfold TV; omega
  · rw [if_neg h1]; congr 1; symm; rw [decide_eq_false_iff_not]; unfold TV; omega
theorem sset_ev (l : List Task) (hl : l.length ≤ 2097152) : Ev (fun k => zb3.f k l) (decide (zep l)) := by
  have loop : ∀ d i, i + d = l.length → (∀ j (h : j < l.length), j < i → TVt l[j]) → Ev (fun k => zb3.l0 k l (i : Int)) (decide (zep l)) := by
    intro d
    induction d with
    | zero =>
      intro i hi hm
      have ha : ∀ t ∈ l, TVt t := by
        intro t ht
        obtain ⟨j, hj, rfl⟩ := List.mem_iff_getElem.1 ht
        exact hm j hj (by omega)
      refine Ev.step (f := fun _ => some (decide (zep l))) (fun k => ?_) (Ev.now _)
      simp only [zb3.l0]
      rw [if_neg (by omega)]
      congr 1
      rw [decide_eq_decide]
      unfold zep
      exact ⟨fun h => ⟨by omega, ha⟩, fun h => by omega⟩
    | succ d ih =>
      intro i hi hm
      have hil : i < l.length := by omega
      by_cases hv : TVt l[i]
      · refine Ev.step (fun k => ?_) (ih (i + 1) (by omega) (fun j hj hji => ?_))
        · have hv' : TV l[i].f0 l[i].f1 l[i].f2 := hv
          simp only [zb3.l0]
          rw [if_pos (by omega), if_pos (by omega), rdT_at l i hil, stv_f, decide_eq_true hv', w64 (by omega) (by omega)]
          rfl
        · by_cases e : j = i
          · subst e; exact hv
          · exact hm j hj (by omega)
      · rw [decide_eq_false (fun h => hv (h.2 _ (List.getElem_mem hil)))]
        have hv' : ¬ TV l[i].f0 l[i].f1 l[i].f2 := hv
        refine Ev.step (f := fun _ => some false) (fun k => ?_) (Ev.now _)
        simp only [zb3.l0]
        rw [if_pos (by omega), if_pos (by omega), rdT_at l i hil, stv_f, decide_eq_false hv']
        rfl
  exact loop l.length 0 (by omega) (fun j _ h => by omega)
end Go.Proofs.Ytkdfjomhichkoaa.Tm
namespace Go.Proofs.Ytkdfjomhichkoaa.Leg
open Go.RowKit Go.Proofs.Ytkdfjomhichkoaa.P Go.Proofs.Ytkdfjomhichkoaa.Base Go.Proofs.Ytkdfjomhichkoaa.Gen Go.Proofs.Ytkdfjomhichkoaa.Alive Go.Proofs.Ytkdfjomhichkoaa.Set Go.Proofs.Ytkdfjomhichkoaa.Tm Go.Proofs.Ytkdfjomhichkoaa.Edf Go.Proofs.Ytkdfjomhichkoaa.Sim Go.Proofs.Ytkdfjomhichkoaa.Jobs Go.Proofs.YtkdfjomhichkoaaW.PrintWords Go.Proofs.YtkdfjomhichkoaaW.PrintLast
def nx (l : List Task) (js : List Job) (i : Nat) (k : Nat) : Int := match lastOf js i (k : Int) with
  | none => 0
  | some b => b + (tk l (k : Int)).f2
theorem rjI (js : List Job) (i : Nat) : ze js (i : Int) = rj js i := rfl
theorem tkI (l : List Task) (i : Int) : zu l i = tk l i := rfl
theorem spec_jl (l : List Task) (js : List Job) (hl : l.length ≤ 2097152) (hj : js.length ≤ 2097152) : Ev (fun k => zl.f k l js) (decide (JL l js)) := by
  unfold zl.f
  refine Ev.bind (sset_ev l hl) ?_
  have bad : ¬ JL l js → Ev (fun k => zl.j0 k l js true) (decide (JL l js)) := fun h => by
    rw [decide_eq_false h]
    exact Ev.step (f := fun _ => some false) (fun k => by simp [zl.j0]) (Ev.now _)
  by_cases hs : zep l
  · simp only [decide_eq_true hs, if_true]
    by_cases h60 : js.length ≤ 60
    · have hno : ¬ (js.length : Int) > 60 := by omega
      rw [decide_eq_false hno]
      have hl5 := hs.1
      have loop : ∀ d i (y : List Int), i + d = js.length → (∀ p, p < i → One l js p) → y.length = l.length → (∀ k : Nat, k < l.length → rd y (k : Int) = nx l js i k) → Ev (fun k => zl.l0 k l js y (i : Int)) (decide (JL l js)) := by
        intro d
        induction d with
        | zero =>
          intro i y hi hp _ _
          rw [decide_eq_true (show JL l js from ⟨hs, h60, fun p hpl => hp p (by omega)⟩)]
          refine Ev.step (f := fun _ => some true) (fun k => ?_) (Ev.now _)
          simp only [zl.l0]
          rw [if_neg (by omega)]
        | succ d ih =>
          intro i y hi hp hy hr
          have hil : i < js.length := by omega
          have out : ¬ One l js i → decide (JL l js) = false := fun h => decide_eq_false (fun hh => h (hh.2.2 i hil))
          have no2 : ¬ One l js i → ∀ a b c e, Ev (fun k => zl.j2 k l js y (i : Int) true a b c e) (decide (JL l js)) := fun h a b c e => by
            rw [out h]
            exact Ev.step (f := fun _ => some false) (fun k => by simp [zl.j2]) (Ev.now _)
          have no3 : ¬ One l js i → ∀ a b c e u v z, Ev (fun k => zl.j3 k l js y (i : Int) true a b c e u v z) (decide (JL l js)) := fun h a b c e u v z => by
            rw [out h]
            exact Ev.step (f := fun _ => some false) (fun k => by simp [zl.j3]) (Ev.now _)
          have w1 : wrap64 ((l.length : Int) - 1) = (l.length : Int) - 1 := w64 (by omega) (by omega)
          by_cases h1 : 0 ≤ (rj js i).f0 ∧ (rj js i).f0 ≤ (l.length : Int) - 1
          · by_cases h2 : 0 ≤ (rj js i).f1 ∧ (rj js i).f1 ≤ 119
            · have ht := tk_ok hs (rj js i).f0 h1.1 (by omega)
              obtain ⟨q, hq⟩ : ∃ q : Nat, (rj js i).f0 = (q : Int) := ⟨(rj js i).f0.toNat, by omega⟩
              have hql : q < l.length := by omega
              have hnx := hr q hql
              have hlast := zfr js (q : Int) i
              have dist : (rj js i).f1 < rd y (q : Int) ↔ ¬ ∀ p, p < i → (rj js p).f0 = (rj js i).f0 → (rj js p).f1 + (tk l (rj js i).f0).f2 ≤ (rj js i).f1 := by
                rw [hnx, hq]
                unfold nx
                rcases hlast with ⟨h3, h4⟩ | ⟨p, h3, h4, h5, h6⟩
                · rw [h3]
                  simp only
                  constructor
                  · intro h7; omega
                  · intro h7
                    exact absurd (fun p hp2 he => absurd he (h4 p hp2)) h7
                · rw [h5]
                  simp only
                  constructor
                  · intro h7 h8
                    have := h8 p h3 h4; omega
                  · intro h7
                    apply Classical.byContradiction
                    intro h8
                    refine h7 (fun p2 hp2 he => ?_)
                    have h9 : p2 ≤ p := by
                      apply Classical.byContradiction
                      intro hc
                      exact h6 p2 (by omega) hp2 he
                    have := mono_rel (l := l) (n := i) (fun a ha => one_loc (hp a ha)) p p2 h9 h3
                    omega
              have step2 : Ev (fun k => zl.j2 k l js y (i : Int) false (rj js i).f0 (rj js i).f1 (rj js i).f2 (rj js i).f3) (decide (JL l js)) := by
                have go : ∀ b : Bool, (b = true → ¬ One l js i) → (b = false → (1 ≤ (rj js i).f3 ∧ (rj js i).f3 ≤ (tk l (rj js i).f0).f0) ∧ (rj js i).f2 = (rj js i).f1 + (tk l (rj js i).f0).f1 ∧ ∀ p, p < i → (rj js p).f0 = (rj js i).f0 → (rj js p).f1 + (tk l (rj js i).f0).f2 ≤ (rj js i).f1) →
                    Ev (fun k => zl.j3 k l js y (i : Int) b (rj js i).f0 (rj js i).f1 (rj js i).f2 (rj js i).f3 (tk l (rj js i).f0).f0 (tk l (rj js i).f0).f1 (tk l (rj js i).f0).f2) (decide (JL l js)) := by
                  intro b hb1 hb2
                  cases b with
                  | true => exact no3 (hb1 rfl) _ _ _ _ _ _ _
                  | false =>
                    obtain ⟨h3, h4, h5⟩ := hb2 rfl
                    have fin : One l js i → Ev (fun k => zl.l0 k l js (y.set q ((rj js i).f1 + (tk l (rj js i).f0).f2)) (wrap64 ((i : Int) + 1))) (decide (JL l js)) := by
                      intro hone
                      rw [show wrap64 ((i : Int) + 1) = ((i + 1 : Nat) : Int) by rw [w64 (by omega) (by omega)]; omega]
                      refine ih (i + 1) _ (by omega) (fun p hp2 => ?_) (by rw [List.length_set]; exact hy) (fun k hk => ?_)
                      · by_cases e : p = i
                        · subst e; exact hone
                        · exact hp p (by omega)
                      · unfold nx
                        rw [lastOf]
                        have ej : jrd js i = rj js i := rfl
                        rw [ej]
                        by_cases e : k = q
                        · subst e
                          rw [zec _ _ _ (by omega), if_pos hq, hq]
                        · rw [zfq _ _ _ _ e, if_neg (by omega), hr k hk]
                          rfl
                    have hset : wrap64 ((rj js i).f1 + (tk l (rj js i).f0).f2) = (rj js i).f1 + (tk l (rj js i).f0).f2 := w64 (by omega) (by omega)
                    have htn : (rj js i).f0.toNat = q := by omega
                    by_cases h0 : i = 0
                    · refine Ev.step (fun k => ?_) (fin ⟨by omega, h2, h3, h4, fun h => by omega, h5⟩)
                      simp only [zl.j3]
                      rw [if_neg (by simp), if_neg (by omega), if_pos (by omega), if_pos (by omega), hset, htn]
                    · have e1 : wrap64 ((i : Int) - 1) = ((i - 1 : Nat) : Int) := by rw [w64 (by omega) (by omega)]; omega
                      by_cases h6 : (rj js (i - 1)).f1 > (rj js i).f1
                      · have hn : ¬ One l js i := fun h => by have := h.2.2.2.2.1 (by omega); omega
                        rw [out hn]
                        refine Ev.step (f := fun _ => some false) (fun k => ?_) (Ev.now _)
                        simp only [zl.j3]
                        rw [if_neg (by simp), if_pos (by omega), e1, if_pos (by omega), if_pos (by omega), rjI, if_pos h6]
                      · by_cases h7 : (rj js (i - 1)).f1 = (rj js i).f1
                        · by_cases h8 : (rj js (i - 1)).f0 ≥ (rj js i).f0
                          · have hn : ¬ One l js i := fun h => by have := h.2.2.2.2.1 (by omega); omega
                            rw [out hn]
                            refine Ev.step (f := fun _ => some false) (fun k => ?_) (Ev.now _)
                            simp only [zl.j3]
                            rw [if_neg (by simp), if_pos (by omega), e1, if_pos (by omega), if_pos (by omega), rjI, if_neg h6, if_pos h7, if_pos h8]
                          · refine Ev.step (fun k => ?_) (fin ⟨by omega, h2, h3, h4, fun _ => Or.inr ⟨h7, by omega⟩, h5⟩)
                            simp only [zl.j3]
                            rw [if_neg (by simp), if_pos (by omega), e1, if_pos (by omega), if_pos (by omega), rjI, if_neg h6, if_pos h7, if_neg h8, if_pos (by omega), if_pos (by omega), hset, htn]
                        · refine Ev.step (fun k => ?_) (fin ⟨by omega, h2, h3, h4, fun _ => Or.inl (by omega), h5⟩)
                          simp only [zl.j3]
                          rw [if_neg (by simp), if_pos (by omega), e1, if_pos (by omega), if_pos (by omega), rjI, if_neg h6, if_neg h7, if_pos (by omega), if_pos (by omega), hset, htn]
                have hwd : wrap64 ((rj js i).f1 + (tk l (rj js i).f0).f1) = (rj js i).f1 + (tk l (rj js i).f0).f1 := w64 (by omega) (by omega)
                by_cases h3 : (rj js i).f1 < rd y (rj js i).f0
                · refine Ev.step (fun k => ?_) (go true (fun _ h => ?_) (fun h => by cases h))
                  · simp only [zl.j2]
                    rw [if_neg (by simp), if_pos (by omega), if_pos (by omega), if_pos (by omega), if_pos h3]
                    rfl
                  · rw [hq] at h3
                    exact dist.1 h3 h.2.2.2.2.2
                · have h3' : ∀ p, p < i → (rj js p).f0 = (rj js i).f0 → (rj js p).f1 + (tk l (rj js i).f0).f2 ≤ (rj js i).f1 := by
                    apply Classical.byContradiction
                    intro hc
                    exact h3 (by rw [hq]; exact dist.2 hc)
                  by_cases h4 : (rj js i).f2 = (rj js i).f1 + (tk l (rj js i).f0).f1
                  · by_cases h5 : 1 ≤ (rj js i).f3 ∧ (rj js i).f3 ≤ (tk l (rj js i).f0).f0
                    · refine Ev.step (fun k => ?_) (go false (fun h => by cases h) (fun _ => ⟨h5, h4, h3'⟩))
                      simp only [zl.j2]
                      rw [if_neg (by simp), if_pos (by omega), if_pos (by omega), if_pos (by omega), if_neg h3, tkI, hwd, if_pos h4, zet, decide_eq_true h5]
                      rfl
                    · refine Ev.step (fun k => ?_) (go true (fun _ h => h5 h.2.2.1) (fun h => by cases h))
                      simp only [zl.j2]
                      rw [if_neg (by simp), if_pos (by omega), if_pos (by omega), if_pos (by omega), if_neg h3, tkI, hwd, if_pos h4, zet, decide_eq_false h5]
                      rfl
                  · refine Ev.step (fun k => ?_) (go true (fun _ h => h4 h.2.2.2.1) (fun h => by cases h))
                    simp only [zl.j2]
                    rw [if_neg (by simp), if_pos (by omega), if_pos (by omega), if_pos (by omega), if_neg h3, tkI, hwd, if_neg h4]
              refine Ev.step (fun k => ?_) step2
              simp only [zl.l0]
              rw [if_pos (by omega), if_pos (by omega), rjI, w1, zet, decide_eq_true h1]
              simp only [Option.bind_some, if_true]
              rw [zet, decide_eq_true h2]
              rfl
            · refine Ev.step (fun k => ?_) (no2 (fun h => h2 h.2.1) (rj js i).f0 (rj js i).f1 (rj js i).f2 (rj js i).f3)
              simp only [zl.l0]
              rw [if_pos (by omega), if_pos (by omega), rjI, w1, zet, decide_eq_true h1]
              simp only [Option.bind_some, if_true]
              rw [zet, decide_eq_false h2]
              rfl
          · refine Ev.step (fun k => ?_) (no2 (fun h => h1 (by have := h.1; omega)) (rj js i).f0 (rj js i).f1 (rj js i).f2 (rj js i).f3)
            simp only [zl.l0]
            rw [if_pos (by omega), if_pos (by omega), rjI, w1, zet, decide_eq_false h1]
            rfl
      refine Ev.step (fun k => ?_) (loop js.length 0 (List.replicate l.length 0) (by omega) (fun p h => by omega) (by simp) (fun k hk => ?_))
      · simp only [zl.j0]
        rw [if_neg (by simp), if_pos (by omega), if_pos (by rw [Int.toNat_natCast]; omega), Int.toNat_natCast]
        rfl
      · rw [rd_at _ k (by simpa using hk), List.getElem_replicate]
        rfl
    · rw [decide_eq_true (show (js.length : Int) > 60 by omega)]
      exact bad (fun h => h60 h.2.1)
  · simp only [decide_eq_false hs]
    exact bad (fun h => hs h.1)
end Go.Proofs.Ytkdfjomhichkoaa.Leg
namespace Go.Proofs.Ytkdfjomhichkoaa.Npr
open Go.RowKit Go.Proofs.Ytkdfjomhichkoaa.P Go.Proofs.Ytkdfjomhichkoaa.Base Go.Proofs.Ytkdfjomhichkoaa.Gen Go.Proofs.Ytkdfjomhichkoaa.Alive Go.Proofs.Ytkdfjomhichkoaa.Set Go.Proofs.Ytkdfjomhichkoaa.Tm Go.Proofs.Ytkdfjomhichkoaa.Edf Go.Proofs.Ytkdfjomhichkoaa.Sim Go.Proofs.Ytkdfjomhichkoaa.Jobs Go.Proofs.Ytkdfjomhichkoaa.Leg Go.Proofs.Ytkdfjomhichkoaa.Nps Go.Proofs.YtkdfjomhichkoaaW.PrintWords Go.Proofs.YtkdfjomhichkoaaW.PrintLast
theorem sch_len (js : List Job) (pick : List Int → Nat → Int) : (sch js pick).1.length = 120 ∧ (sch js pick).2.length = js.length := by
  unfold sch
  refine ⟨by simp, ?_⟩
  simp only
  rw [zgb, zdr]
end Go.Proofs.Ytkdfjomhichkoaa.Npr
namespace Go.Proofs.Ytkdfjomhichkoaa.CopyTask
open Go.RowKit Go.Proofs.Ytkdfjomhichkoaa.P Go.Proofs.Ytkdfjomhichkoaa.Base Go.Proofs.Ytkdfjomhichkoaa.Gen Go.Proofs.Ytkdfjomhichkoaa.Set Go.Proofs.YtkdfjomhichkoaaW.PrintWords Go.Proofs.YtkdfjomhichkoaaW.PrintLast
abbrev LTask := S90
def cv (x : LTask) : Task := ⟨x.f0, x.f1, x.f2⟩
theorem rdB_at (l : List LTask) (i : Nat) (h : i < l.length) : zef l (i : Int) = l[i] := by
  unfold zef
  rw [List.getD_eq_getElem?_getD, Int.toNat_natCast, List.getElem?_eq_getElem h]
  rfl
theorem zeq (l : List LTask) (hl : l.length ≤ 1048576) : Tot (fun k => zbc.f k l) (fun r => r = l.map cv) := by
  have h := Tot.copy (fun k acc i => zbc.l0 k l acc i) (l.map cv) z88 (fun k acc i h ha => by
    have hi : i < l.length := by simpa using h
    have ha' : acc.length = l.length := by simpa using ha
    simp only [zbc.l0, zea.f, Option.bind_some]
    rw [if_pos (by omega), if_pos (by omega), if_pos (by omega), rdB_at _ _ hi, w64 (by omega) (by omega), Int.toNat_natCast, List.getElem_map]
    rfl) (fun k acc ha => by
    simp only [zbc.l0]
    rw [if_neg (by simp)])
  refine Tot.congr (fun k => ?_) h
  unfold zbc.f
  rw [if_pos (by omega), if_pos (by omega), Int.toNat_natCast, List.length_map]
theorem zis (l : List Task) (hl : l.length ≤ 1048576) : Tot (fun k => zbl.f k l l) (fun r => r = true) := by
  have h := Tot.look (r := true) (fun k i => zbl.l0 k l l i) l.length (fun k i h => by
    simp only [zbl.l0, zdw.f, if_true, Option.bind_some]
    rw [if_pos (by omega), if_pos (by omega), if_pos (by omega), w64 (by omega) (by omega)]) (fun k => by
    simp only [zbl.l0]
    rw [if_neg (by omega)])
  refine Tot.congr (fun k => ?_) h
  unfold zbl.f
  rw [if_pos rfl]
end Go.Proofs.Ytkdfjomhichkoaa.CopyTask
namespace Go.Proofs.Ytkdfjomhichkoaa.Mark
open Go.RowKit Go.Proofs.Ytkdfjomhichkoaa.P Go.Proofs.Ytkdfjomhichkoaa.Base Go.Proofs.Ytkdfjomhichkoaa.Gen Go.Proofs.YtkdfjomhichkoaaW.PrintWords Go.Proofs.YtkdfjomhichkoaaW.PrintLast
def marks (a : Int) (n : Nat) : List Int := (List.range n).map (fun i : Nat => a + (i : Int))
theorem zfs (a : Int) (n : Nat) : (marks a n).length = n := by unfold marks; simp
theorem zid (a : Int) (n i : Nat) (h : i < (marks a n).length) : (marks a n)[i] = a + (i : Int) := by simp only [marks, List.getElem_map, List.getElem_range]
theorem zf5 (l : List Int) (a : Int) (hl : l.length ≤ 2097152) (h0 : 0 ≤ a) (h1 : a ≤ 4294967296) : Tot (fun k => zb6.f k l a) (fun r => r = (a + l.length, marks a l.length)) := by
  have key : ∀ d (i : Nat) (acc : List Int), i + d = l.length → acc.length = l.length → acc.take i = (marks a l.length).take i → Tot (fun k => zb6.l0 k acc (a + i) (i : Int)) (fun r => r = (a + l.length, marks a l.length)) := by
    intro d
    induction d with
    | zero =>
      intro i acc hi hac ht
      obtain rfl : i = l.length := by omega
      refine Tot.step (f := fun _ => some (a + (l.length : Int), acc)) (fun k => ?_) (Tot.ret _ ?_)
      · simp only [zb6.l0]
        rw [if_neg (by omega)]
      · rw [List.take_of_length_le (by omega), List.take_of_length_le (by rw [zfs]; omega)] at ht
        rw [ht]
    | succ d ih =>
      intro i acc hi hac ht
      have hm : i < (marks a l.length).length := by rw [zfs]; omega
      have hf := zia acc (marks a l.length) i (by rw [zfs]; exact hac) ht hm
      rw [zid] at hf
      refine Tot.step (fun k => ?_) (ih (i + 1) (acc.set i (a + (i : Int))) (by omega) (by simpa using hac) hf)
      simp only [zb6.l0]
      rw [if_pos (by omega), if_pos (by omega), w64 (x := a + i + 1) (by omega) (by omega), w64 (x := (i : Int) + 1) (by omega) (by omega), Int.toNat_natCast]
      rw [show a + (i : Int) + 1 = a + ((i + 1 : Nat) : Int) by omega]
      rfl
  have h := key l.length 0 l (by omega) rfl rfl
  refine Tot.congr (fun k => ?_) h
  unfold zb6.f
  simp
theorem zf6 (a : Int) (n : Nat) (hl : n ≤ 2097152) (h0 : 0 ≤ a) (h1 : a ≤ 4294967296) : Tot (fun k => zb2.f k (marks a n) a) (fun r => r = a + n) := by
  have key : ∀ d (i : Nat), i + d = n → Tot (fun k => zb2.l0 k (marks a n) (a + i) (i : Int)) (fun r => r = a + n) := by
    have hlen := zfs a n
    intro d
    induction d with
    | zero =>
      intro i hi
      refine Tot.step (f := fun _ => some (a + (i : Int))) (fun k => ?_) (Tot.ret _ (by omega))
      simp only [zb2.l0]
      rw [if_neg (by omega)]
    | succ d ih =>
      intro i hi
      refine Tot.step (fun k => ?_) (ih (i + 1) (by omega))
      simp only [zb2.l0]
      rw [if_pos (by omega), if_pos (by omega), rd_at _ _ (by omega), zid, if_pos rfl, w64 (x := a + i + 1) (by omega) (by omega), w64 (x := (i : Int) + 1) (by omega) (by omega)]
      rw [show a + (i : Int) + 1 = a + ((i + 1 : Nat) : Int) by omega]
      rfl
  have h := key n 0 (by omega)
  refine Tot.congr (fun k => ?_) h
  unfold zb2.f
  simp
end Go.Proofs.Ytkdfjomhichkoaa.Mark
namespace Go.Proofs.Ytkdfjomhichkoaa.CopyJob
open Go.RowKit Go.Proofs.Ytkdfjomhichkoaa.P Go.Proofs.Ytkdfjomhichkoaa.Base Go.Proofs.Ytkdfjomhichkoaa.Gen Go.Proofs.Ytkdfjomhichkoaa.Set Go.Proofs.Ytkdfjomhichkoaa.CopyTask Go.Proofs.Ytkdfjomhichkoaa.Mark Go.Proofs.YtkdfjomhichkoaaW.PrintWords Go.Proofs.YtkdfjomhichkoaaW.PrintLast
abbrev LJob := S92
abbrev Job := S34
def cj (x : LJob) : Job := ⟨x.f0, x.f1, x.f2, x.f3⟩
theorem rdK_at (l : List LJob) (i : Nat) (h : i < l.length) : zdv l (i : Int) = l[i] := by
  unfold zdv
  rw [List.getD_eq_getElem?_getD, Int.toNat_natCast, List.getElem?_eq_getElem h]
  rfl
theorem ze7 (l : List LJob) (hl : l.length ≤ 1048576) : Tot (fun k => zbd.f k l) (fun r => r = l.map cj) := by
  have h := Tot.copy (fun k acc i => zbd.l0 k l acc i) (l.map cj) z34 (fun k acc i h ha => by
    have hi : i < l.length := by simpa using h
    have ha' : acc.length = l.length := by simpa using ha
    simp only [zbd.l0, zek.f, Option.bind_some]
    rw [if_pos (by omega), if_pos (by omega), if_pos (by omega), rdK_at _ _ hi, w64 (by omega) (by omega), Int.toNat_natCast, List.getElem_map]
    rfl) (fun k acc ha => by
    simp only [zbd.l0]
    rw [if_neg (by simp)])
  refine Tot.congr (fun k => ?_) h
  unfold zbd.f
  rw [if_pos (by omega), if_pos (by omega), Int.toNat_natCast, List.length_map]
theorem eqJobS_tot (l : List Job) (hl : l.length ≤ 1048576) : Tot (fun k => zbp.f k l l) (fun r => r = true) := by
  have h := Tot.look (r := true) (fun k i => zbp.l0 k l l i) l.length (fun k i h => by
    simp only [zbp.l0, zd7.f, if_true, Option.bind_some]
    rw [if_pos (by omega), if_pos (by omega), if_pos (by omega), w64 (by omega) (by omega)]) (fun k => by
    simp only [zbp.l0]
    rw [if_neg (by omega)])
  refine Tot.congr (fun k => ?_) h
  unfold zbp.f
  rw [if_pos rfl]
theorem szJobS_f (l : List LJob) (hl : l.length ≤ maxLen) (t : Int) (ht : t ≤ 1048576) (ht0 : 0 ≤ t) : ∃ r, zc9.f l t = some r ∧ (r < 0 ∨ l.length ≤ 1048576) := by
  have hm : maxLen ≤ 9223372036854775807 := by decide
  unfold zc9.f
  rw [w64 (by omega) (by omega)]
  by_cases h : t - (l.length : Int) < 0
  · rw [if_pos h]; exact ⟨_, rfl, Or.inl (by decide)⟩
  · rw [if_neg h]; exact ⟨_, rfl, Or.inr (by omega)⟩
theorem szTaskS_g (l : List LTask) (hl : l.length ≤ maxLen) : ∃ r, zc1.f l 1048576 = some r ∧ (r < 0 ∨ (l.length ≤ 1048576 ∧ 0 ≤ r ∧ r ≤ 1048576)) := by
  have hm : maxLen ≤ 9223372036854775807 := by decide
  unfold zc1.f
  rw [w64 (by omega) (by omega)]
  by_cases h : (1048576 : Int) - (l.length : Int) < 0
  · rw [if_pos h]; exact ⟨_, rfl, Or.inl (by decide)⟩
  · rw [if_neg h]; exact ⟨_, rfl, Or.inr (by omega)⟩
theorem zhm (l : List Task) (a : Int) (hl : l.length ≤ 1048576) (h0 : 0 ≤ a) (h1 : a ≤ 1000000000) : Tot (fun k => zbf.f k l a) (fun r => r.1 = a + 3 * l.length) := by
  have key : ∀ d (i : Nat) (acc : List Task) (b : Int), i + d = l.length → acc.length = l.length → b = a + 3 * i → Tot (fun k => zbf.l0 k acc b (i : Int)) (fun r => r.1 = a + 3 * l.length) := by
    intro d
    induction d with
    | zero =>
      intro i acc b hi hac hb
      exact Tot.step (fun k => by rw [zbf.l0]) (Tot.no (by omega) (Tot.ret _ (by simp only; omega)))
    | succ d ih =>
      intro i acc b hi hac hb
      refine Tot.step (fun k => by rw [zbf.l0]) (Tot.yes (by omega) (Tot.yes (by omega) ?_))
      simp only [Option.bind_some]
      rw [w64 (x := b + 1) (by omega) (by omega), w64 (x := b + 1 + 1) (by omega) (by omega), w64 (x := b + 1 + 1 + 1) (by omega) (by omega), w64 (x := (i : Int) + 1) (by omega) (by omega)]
      exact ih (i + 1) _ _ (by omega) (by simp only [List.length_set]; exact hac) (by omega)
  exact key l.length 0 l a (by omega) rfl (by omega)
theorem zie (l : List Job) (a : Int) (hl : l.length ≤ 1048576) (h0 : 0 ≤ a) (h1 : a ≤ 1000000000) : Tot (fun k => zbh.f k l a) (fun r => r.1 = a + 4 * l.length) := by
  have key : ∀ d (i : Nat) (acc : List Job) (b : Int), i + d = l.length → acc.length = l.length → b = a + 4 * i → Tot (fun k => zbh.l0 k acc b (i : Int)) (fun r => r.1 = a + 4 * l.length) := by
    intro d
    induction d with
    | zero =>
      intro i acc b hi hac hb
      exact Tot.step (fun k => by rw [zbh.l0]) (Tot.no (by omega) (Tot.ret _ (by simp only; omega)))
    | succ d ih =>
      intro i acc b hi hac hb
      refine Tot.step (fun k => by rw [zbh.l0]) (Tot.yes (by omega) (Tot.yes (by omega) ?_))
      simp only [Option.bind_some]
      rw [w64 (x := b + 1) (by omega) (by omega), w64 (x := b + 1 + 1) (by omega) (by omega), w64 (x := b + 1 + 1 + 1) (by omega) (by omega), w64 (x := b + 1 + 1 + 1 + 1) (by omega) (by omega), w64 (x := (i : Int) + 1) (by omega) (by omega)]
      exact ih (i + 1) _ _ (by omega) (by simp only [List.length_set]; exact hac) (by omega)
  exact key l.length 0 l a (by omega) rfl (by omega)
theorem zg9 (l : List Int) (hl : l.length ≤ 1048576) : Tot (fun k => zcd.f k l l) (fun r => r = true) := by
  have h := Tot.look (r := true) (fun k i => zcd.l0 k l l i) l.length (fun k i h => by
    simp only [zcd.l0, if_true]
    rw [if_pos (by omega), if_pos (by omega), if_pos (by omega), w64 (by omega) (by omega)]) (fun k => by
    simp only [zcd.l0]
    rw [if_neg (by omega)])
  refine Tot.congr (fun k => ?_) h
  unfold zcd.f
  rw [if_pos rfl]
theorem zfb (a b : List Int) (ha : a.length ≤ 1048576) (hb : b.length ≤ 1048576) : Tot (fun k => zy.f k a b a b) (fun r => r = true) := by
  unfold zy.f
  refine Tot.bind (zg9 a ha) ?_
  rintro _ rfl
  refine Tot.yes rfl (Tot.bind (zg9 b hb) ?_)
  rintro _ rfl
  exact Tot.yes rfl (Tot.ret _ rfl)
theorem zhn (a b : List Int) (ha : a.length ≤ 1048576) (hb : b.length ≤ 1048576) : Tot (fun k => zct.f k a b 1) (fun r => r = (1 + (a.length : Int) + (b.length : Int), marks 1 a.length, marks (1 + (a.length : Int)) b.length)) := by
  unfold zct.f
  refine Tot.bind (zf5 a 1 (by omega) (by omega) (by omega)) ?_
  rintro _ rfl
  refine Tot.bind (zf5 b (1 + (a.length : Int)) (by omega) (by omega) (by omega)) ?_
  rintro _ rfl
  exact Tot.ret _ rfl
theorem zft (n m : Nat) (hn : n ≤ 1048576) (hm : m ≤ 1048576) : Tot (fun k => zby.f k (marks 1 n) (marks (1 + (n : Int)) m) 1) (fun r => r = 1 + (n : Int) + (m : Int)) := by
  unfold zby.f
  refine Tot.bind (zf6 1 n (by omega) (by omega) (by omega)) ?_
  rintro _ rfl
  refine Tot.no (by omega) (Tot.bind (zf6 (1 + (n : Int)) m (by omega) (by omega) (by omega)) ?_)
  rintro _ rfl
  exact Tot.no (by omega) (Tot.ret _ rfl)
end Go.Proofs.Ytkdfjomhichkoaa.CopyJob
namespace Go.Proofs.Ytkdfjomhichkoaa.CopyBool
open Go.RowKit Go.Proofs.Ytkdfjomhichkoaa.P Go.Proofs.Ytkdfjomhichkoaa.Base Go.Proofs.Ytkdfjomhichkoaa.Gen Go.Proofs.YtkdfjomhichkoaaW.PrintWords Go.Proofs.YtkdfjomhichkoaaW.PrintLast
theorem zer (l : List Bool) (hl : l.length ≤ 1048576) : Tot (fun k => z8.f k l) (fun r => r = l) := by
  have h := Tot.copy (fun k acc i => z8.l0 k l acc i) l false (fun k acc i h ha => by
    simp only [z8.l0]
    rw [if_pos (by omega), if_pos (by omega), if_pos (by omega), zin _ _ _ h, w64 (by omega) (by omega), Int.toNat_natCast]) (fun k acc ha => by
    simp only [z8.l0]
    rw [if_neg (by omega)])
  refine Tot.congr (fun k => ?_) h
  unfold z8.f
  rw [if_pos (by omega), if_pos (by omega), Int.toNat_natCast]
theorem zit (l : List Bool) (hl : l.length ≤ 1048576) : Tot (fun k => zbq.f k l l) (fun r => r = true) := by
  have h := Tot.look (r := true) (fun k i => zbq.l0 k l l i) l.length (fun k i h => by
    simp only [zbq.l0]
    rw [if_pos (by omega), if_pos (by omega), if_pos (by omega), if_neg (by simp), w64 (by omega) (by omega)]) (fun k => by
    simp only [zbq.l0]
    rw [if_neg (by omega)])
  refine Tot.congr (fun k => ?_) h
  unfold zbq.f
  rw [if_pos rfl]
theorem zho (l : List Bool) (a : Int) (hl : l.length ≤ 1048576) (h0 : 0 ≤ a) (h1 : a ≤ 1000000000) : Tot (fun k => zbg.f k l a) (fun r => r.1 = a + l.length) := by
  have key : ∀ d (i : Nat) (acc : List Bool) (b : Int), i + d = l.length → acc.length = l.length → b = a + i → Tot (fun k => zbg.l0 k acc b (i : Int)) (fun r => r.1 = a + l.length) := by
    intro d
    induction d with
    | zero =>
      intro i acc b hi hac hb
      exact Tot.step (fun k => by rw [zbg.l0]) (Tot.no (by omega) (Tot.ret _ (by simp only; omega)))
    | succ d ih =>
      intro i acc b hi hac hb
      refine Tot.step (fun k => by rw [zbg.l0]) (Tot.yes (by omega) (Tot.yes (by omega) ?_))
      rw [w64 (x := b + 1) (by omega) (by omega), w64 (x := (i : Int) + 1) (by omega) (by omega)]
      exact ih (i + 1) _ _ (by omega) (by simp only [List.length_set]; exact hac) (by omega)
  exact key l.length 0 l a (by omega) rfl (by omega)
end Go.Proofs.Ytkdfjomhichkoaa.CopyBool
namespace Go.Proofs.Ytkdfjomhichkoaa.Sup
open Go.RowKit Go.Proofs.Ytkdfjomhichkoaa.P Go.Proofs.Ytkdfjomhichkoaa.Base Go.Proofs.YtkdfjomhichkoaaW.PrintWords Go.Proofs.YtkdfjomhichkoaaW.PrintLast
def SV (b p : Int) : Prop := 1 ≤ b ∧ b ≤ p ∧ p ≤ 12
instance (b p : Int) : Decidable (SV b p) := by unfold SV; infer_instance
theorem sv_f (b p : Int) : zcr.f b p = some (decide (SV b p)) := by
  unfold zcr.f
  rw [in_f]; simp only [Option.bind_some]
  rw [and_two]
  congr 1; rw [decide_eq_decide]; unfold SV; omega
theorem ssv_f (b p : Int) : zcs.f b p = some (decide (SV b p)) := by
  unfold zcs.f
  rw [zet, zet]; simp only [Option.bind_some]
  rw [and_two]
  congr 1; rw [decide_eq_decide]; unfold SV; omega
end Go.Proofs.Ytkdfjomhichkoaa.Sup
namespace Go.Proofs.Ytkdfjomhichkoaa.Pat
open Go.RowKit Go.Proofs.Ytkdfjomhichkoaa.P Go.Proofs.Ytkdfjomhichkoaa.Base Go.Proofs.Ytkdfjomhichkoaa.Sup Go.Proofs.Ytkdfjomhichkoaa.Gen Go.Proofs.YtkdfjomhichkoaaW.PrintWords Go.Proofs.YtkdfjomhichkoaaW.PrintLast
def cnt (l : List Bool) (a n : Nat) : Nat := ((l.drop a).take n).countP (fun b => b)
theorem cnt_zero (l : List Bool) (a : Nat) : cnt l a 0 = 0 := by simp [cnt]
theorem cnt_succ (l : List Bool) (a n : Nat) (h : a + n < l.length) : cnt l a (n + 1) = cnt l a n + if l[a + n] = true then 1 else 0 := by
  unfold cnt
  rw [List.take_succ_eq_append_getElem (by simp; omega), List.countP_append, List.getElem_drop]
  by_cases hb : l[a + n] = true <;> simp [hb]
theorem cnt_le (l : List Bool) (a n : Nat) : cnt l a n ≤ n := by
  unfold cnt
  exact Nat.le_trans (List.countP_le_length) (List.length_take_le _ _)
def rest (b p : Nat) (l : List Bool) (q : Nat) : Prop := ∀ j : Nat, q ≤ j → j < 121 → (j + 1) * p ≤ 120 → cnt l (j * p) p = b
instance (b p : Nat) (l : List Bool) (q : Nat) : Decidable (rest b p l q) := by
  unfold rest
  exact decidable_of_iff (∀ j : Nat, j < 121 → q ≤ j → (j + 1) * p ≤ 120 → cnt l (j * p) p = b) ⟨fun h j h1 h2 h3 => h j h2 h1 h3, fun h j h1 h2 h3 => h j h2 h1 h3⟩
theorem rest_no {b p : Nat} {l : List Bool} {q : Nat} (h : 120 < (q + 1) * p) : rest b p l q := by
  intro j h1 _ h3
  have : (q + 1) * p ≤ (j + 1) * p := Nat.mul_le_mul_right _ (by omega)
  omega
theorem zfu {b p : Nat} {l : List Bool} {q : Nat} (hp : 1 ≤ p) (h : (q + 1) * p ≤ 120) : rest b p l q ↔ cnt l (q * p) p = b ∧ rest b p l (q + 1) := by
  have hq : q < 121 := by
    have : (q + 1) * 1 ≤ (q + 1) * p := Nat.mul_le_mul_left _ hp
    omega
  constructor
  · intro hr
    exact ⟨hr q (Nat.le_refl q) hq h, fun j h1 h2 h3 => hr j (by omega) h2 h3⟩
  · rintro ⟨h1, h2⟩ j h3 h4 h5
    rcases Nat.lt_or_ge q j with hj | hj
    · exact h2 j (by omega) h4 h5
    · obtain rfl : j = q := by omega
      exact h1
section
variable (b p : Nat) (l : List Bool) (hl : l.length = 120) (hp : 1 ≤ p) (hp2 : p ≤ 12)
include hl hp hp2
theorem spec_l1 (q : Nat) (hq : (q + 1) * p ≤ 120) (R : Bool) (hR : cnt l (q * p) p = b → Ev (fun k => zn.l0 k l ((q : Int) * p + p) b p) R) (hN : cnt l (q * p) p ≠ b → R = false) :
    ∀ d (j : Nat), j + d = p → Ev (fun k => zn.l1 k l ((q : Int) * p) (cnt l (q * p) j : Int) (j : Int) b p) R := by
  have hqq : q * p + p ≤ 120 := by rw [← Nat.succ_mul]; exact hq
  have ec : ((q * p : Nat) : Int) = (q : Int) * p := by push_cast; rfl
  have hb0 : (0 : Int) ≤ (q : Int) * p := by omega
  intro d
  induction d with
  | zero =>
    intro j hj
    obtain rfl : j = p := by omega
    by_cases hc : cnt l (q * j) j = b
    · refine Ev.step (f := fun k => zn.l0 k l ((q : Int) * j + j) b j) (fun k => ?_) (hR hc)
      simp only [zn.l1]
      rw [if_neg (by omega), if_pos (by omega), w64 (by omega) (by omega)]
    · refine Ev.step (f := fun _ => some false) (fun k => ?_) (by rw [hN hc]; exact Ev.now _)
      simp only [zn.l1]
      rw [if_neg (by omega), if_neg (by omega)]
  | succ d ih =>
    intro j hj
    have hcl := cnt_le l (q * p) j
    have hs := cnt_succ l (q * p) j (by omega)
    refine Ev.step (f := fun k => zn.l1 k l ((q : Int) * p) (cnt l (q * p) (j + 1) : Int) ((j + 1 : Nat) : Int) b p) (fun k => ?_) (ih (j + 1) (by omega))
    simp only [zn.l1]
    rw [if_pos (by omega), w64 (x := (q : Int) * p + j) (by omega) (by omega), if_pos (by omega), if_pos (by omega)]
    rw [show (q : Int) * p + j = ((q * p + j : Nat) : Int) by push_cast; rfl, zin _ _ _ (by omega), w64 (x := (j : Int) + 1) (by omega) (by omega), w64 (x := (cnt l (q * p) j : Int) + 1) (by omega) (by omega)]
    by_cases hb : l[q * p + j] = true
    · rw [if_pos hb] at hs ⊢
      rw [hs]; push_cast; rfl
    · rw [if_neg hb] at hs ⊢
      rw [hs]; push_cast; rfl
theorem impl_l1 (q : Nat) (hq : (q + 1) * p ≤ 120) (R : Bool) (hR : cnt l (q * p) p = b → Ev (fun k => zo.l0 k l ((q : Int) * p + p) b p) R) (hN : cnt l (q * p) p ≠ b → R = false) :
    ∀ d (j : Nat), j + d = p → Ev (fun k => zo.l1 k l ((q : Int) * p) (cnt l (q * p) j : Int) ((l.take (q * p + p)).drop (q * p)) (p : Int) (j : Int) b p) R := by
  have hqq : q * p + p ≤ 120 := by rw [← Nat.succ_mul]; exact hq
  have hb0 : (0 : Int) ≤ (q : Int) * p := by omega
  have ec : ((q * p : Nat) : Int) = (q : Int) * p := by push_cast; rfl
  intro d
  induction d with
  | zero =>
    intro j hj
    obtain rfl : j = p := by omega
    by_cases hc : cnt l (q * j) j = b
    · refine Ev.step (f := fun k => zo.l0 k l ((q : Int) * j + j) b j) (fun k => ?_) (hR hc)
      simp only [zo.l1]
      rw [if_neg (by omega), if_pos (by omega), w64 (by omega) (by omega)]
    · refine Ev.step (f := fun _ => some false) (fun k => ?_) (by rw [hN hc]; exact Ev.now _)
      simp only [zo.l1]
      rw [if_neg (by omega), if_neg (by omega)]
  | succ d ih =>
    intro j hj
    have hcl := cnt_le l (q * p) j
    have hs := cnt_succ l (q * p) j (by omega)
    have hll : ((l.take (q * p + p)).drop (q * p)).length = p := by simp; omega
    refine Ev.step (f := fun k => zo.l1 k l ((q : Int) * p) (cnt l (q * p) (j + 1) : Int) ((l.take (q * p + p)).drop (q * p)) (p : Int) ((j + 1 : Nat) : Int) b p) (fun k => ?_) (ih (j + 1) (by omega))
    simp only [zo.l1]
    rw [if_pos (by omega), if_pos (by omega), if_pos (by omega)]
    rw [zin _ _ _ (by omega), w64 (x := (j : Int) + 1) (by omega) (by omega), w64 (x := (cnt l (q * p) j : Int) + 1) (by omega) (by omega)]
    rw [List.getElem_drop, List.getElem_take]
    by_cases hb : l[q * p + j] = true
    · rw [if_pos hb] at hs ⊢
      rw [hs]; push_cast; rfl
    · rw [if_neg hb] at hs ⊢
      rw [hs]; push_cast; rfl
theorem spec_l0 : ∀ d (q : Nat), q + d = 121 → Ev (fun k => zn.l0 k l ((q : Int) * p) b p) (decide (rest b p l q)) := by
  intro d
  induction d with
  | zero =>
    intro q hq
    obtain rfl : q = 121 := by omega
    have hr : rest b p l 121 := fun j h1 h2 h3 => absurd h2 (by omega)
    refine Ev.step (f := fun _ => some true) (fun k => ?_) (by simp only [hr, decide_true]; exact Ev.now _)
    simp only [zn.l0]
    rw [w64 (by omega) (by omega), if_neg (by omega)]
  | succ d ih =>
    intro q hq
    have hb1 : (q : Int) * p ≤ 121 * 12 := (mul_bd (by omega) (by omega) (by omega) (by omega)).2
    have hb0 : (0 : Int) ≤ (q : Int) * p := (mul_bd (A := 121) (B := 12) (by omega) (by omega) (by omega) (by omega)).1
    have e1 : (((q + 1) * p : Nat) : Int) = (q : Int) * p + p := by push_cast; rw [Int.add_mul, Int.one_mul]
    by_cases h : (q + 1) * p ≤ 120
    · have hi := ih (q + 1) (by omega)
      rw [show (((q + 1 : Nat) : Int) * p) = (q : Int) * p + p by rw [← e1]; push_cast; rfl] at hi
      have h0 := spec_l1 b p l hl hp hp2 q h (decide (rest b p l q)) (fun hc => by
        have : decide (rest b p l q) = decide (rest b p l (q + 1)) := by rw [decide_eq_decide, zfu hp h]; exact ⟨fun h => h.2, fun h => ⟨hc, h⟩⟩
        rw [this]; exact hi) (fun hc => by simp only [decide_eq_false_iff_not, zfu hp h]; exact fun h => hc h.1) p 0 (by omega)
      rw [cnt_zero] at h0
      refine Ev.step (fun k => ?_) h0
      simp only [zn.l0]
      rw [w64 (by omega) (by omega), if_pos (by omega)]
      rfl
    · have hr : rest b p l q := rest_no (by omega)
      refine Ev.step (f := fun _ => some true) (fun k => ?_) (by simp only [hr, decide_true]; exact Ev.now _)
      simp only [zn.l0]
      rw [w64 (by omega) (by omega), if_neg (by omega)]
theorem impl_l0 : ∀ d (q : Nat), q + d = 121 → Ev (fun k => zo.l0 k l ((q : Int) * p) b p) (decide (rest b p l q)) := by
  intro d
  induction d with
  | zero =>
    intro q hq
    obtain rfl : q = 121 := by omega
    have hr : rest b p l 121 := fun j h1 h2 h3 => absurd h2 (by omega)
    refine Ev.step (f := fun _ => some true) (fun k => ?_) (by simp only [hr, decide_true]; exact Ev.now _)
    simp only [zo.l0]
    rw [w64 (by omega) (by omega), if_neg (by omega)]
  | succ d ih =>
    intro q hq
    have hb1 : (q : Int) * p ≤ 121 * 12 := (mul_bd (by omega) (by omega) (by omega) (by omega)).2
    have hb0 : (0 : Int) ≤ (q : Int) * p := (mul_bd (A := 121) (B := 12) (by omega) (by omega) (by omega) (by omega)).1
    have e1 : (((q + 1) * p : Nat) : Int) = (q : Int) * p + p := by push_cast; rw [Int.add_mul, Int.one_mul]
    by_cases h : (q + 1) * p ≤ 120
    · have hi := ih (q + 1) (by omega)
      rw [show (((q + 1 : Nat) : Int) * p) = (q : Int) * p + p by rw [← e1]; push_cast; rfl] at hi
      have h0 := impl_l1 b p l hl hp hp2 q h (decide (rest b p l q)) (fun hc => by
        have : decide (rest b p l q) = decide (rest b p l (q + 1)) := by rw [decide_eq_decide, zfu hp h]; exact ⟨fun h => h.2, fun h => ⟨hc, h⟩⟩
        rw [this]; exact hi) (fun hc => by simp only [decide_eq_false_iff_not, zfu hp h]; exact fun h => hc h.1) p 0 (by omega)
      rw [cnt_zero] at h0
      refine Ev.step (fun k => ?_) h0
      have hqq : q * p + p ≤ 120 := by rw [← Nat.succ_mul]; exact h
      have ec : ((q * p : Nat) : Int) = (q : Int) * p := by push_cast; rfl
      have et : ((q : Int) * p + p).toNat = q * p + p := by omega
      have et2 : ((q : Int) * p).toNat = q * p := by omega
      simp only [zo.l0]
      rw [w64 (by omega) (by omega), if_pos (by omega), if_pos (by omega), if_pos (by omega), if_pos (by omega), et, et2]
      have hll : ((l.take (q * p + p)).drop (q * p)).length = p := by simp; omega
      rw [hll]
      rfl
    · have hr : rest b p l q := rest_no (by omega)
      refine Ev.step (f := fun _ => some true) (fun k => ?_) (by simp only [hr, decide_true]; exact Ev.now _)
      simp only [zo.l0]
      rw [w64 (by omega) (by omega), if_neg (by omega)]
end
def PV (b p : Int) (l : List Bool) : Prop := SV b p ∧ l.length = 120 ∧ rest b.toNat p.toNat l 0
instance (b p : Int) (l : List Bool) : Decidable (PV b p l) := by unfold PV; infer_instance
theorem spec_pat (b p : Int) (l : List Bool) : Ev (fun k => zn.f k b p l) (decide (PV b p l)) := by
  by_cases h1 : SV b p
  · have h1' := h1
    unfold SV at h1'
    by_cases h2 : l.length = 120
    · have h := spec_l0 b.toNat p.toNat l h2 (by omega) (by omega) 121 0 (by omega)
      have e : decide (PV b p l) = decide (rest b.toNat p.toNat l 0) := by rw [decide_eq_decide]; exact ⟨fun h => h.2.2, fun h => ⟨h1, h2, h⟩⟩
      rw [e]
      have eb : ((b.toNat : Nat) : Int) = b := by omega
      have ep : ((p.toNat : Nat) : Int) = p := by omega
      rw [eb, ep] at h
      have hs : Ev (fun k => zn.j0 k l ((l.length : Int) != 120) b p) (decide (rest b.toNat p.toNat l 0)) := by
        refine Ev.step (f := fun k => zn.l0 k l (((0 : Nat) : Int) * p) b p) (fun k => ?_) h
        simp only [zn.j0]
        rw [if_neg (by simp [h2])]
        simp
      refine Ev.congr (fun k => ?_) hs
      unfold zn.f
      rw [ssv_f]
      simp only [Option.bind_some, h1, decide_true, if_true]
    · have e : decide (PV b p l) = false := by rw [decide_eq_false_iff_not]; exact fun h => h2 h.2.1
      rw [e]
      have hs : Ev (fun k => zn.j0 k l ((l.length : Int) != 120) b p) false := by
        refine Ev.step (f := fun _ => some false) (fun k => ?_) (Ev.now _)
        simp only [zn.j0]
        rw [if_pos (by simp; omega)]
      refine Ev.congr (fun k => ?_) hs
      unfold zn.f
      rw [ssv_f]
      simp only [Option.bind_some, h1, decide_true, if_true]
  · have e : decide (PV b p l) = false := by rw [decide_eq_false_iff_not]; exact fun h => h1 h.1
    rw [e]
    have hs : Ev (fun k => zn.j0 k l true b p) false := Ev.step (f := fun _ => some false) (fun k => by simp [zn.j0]) (Ev.now _)
    refine Ev.congr (fun k => ?_) hs
    unfold zn.f
    rw [ssv_f]
    simp [h1]
theorem impl_pat (b p : Int) (l : List Bool) : Ev (fun k => zo.f k b p l) (decide (PV b p l)) := by
  by_cases h1 : SV b p
  · have h1' := h1
    unfold SV at h1'
    by_cases h2 : l.length = 120
    · have h := impl_l0 b.toNat p.toNat l h2 (by omega) (by omega) 121 0 (by omega)
      have e : decide (PV b p l) = decide (rest b.toNat p.toNat l 0) := by rw [decide_eq_decide]; exact ⟨fun h => h.2.2, fun h => ⟨h1, h2, h⟩⟩
      rw [e]
      have eb : ((b.toNat : Nat) : Int) = b := by omega
      have ep : ((p.toNat : Nat) : Int) = p := by omega
      rw [eb, ep] at h
      have hs : Ev (fun k => zo.j0 k l ((l.length : Int) != 120) b p) (decide (rest b.toNat p.toNat l 0)) := by
        refine Ev.step (f := fun k => zo.l0 k l (((0 : Nat) : Int) * p) b p) (fun k => ?_) h
        simp only [zo.j0]
        rw [if_neg (by simp [h2])]
        simp
      refine Ev.congr (fun k => ?_) hs
      unfold zo.f
      rw [sv_f]
      simp only [Option.bind_some, h1, decide_true, if_true]
    · have e : decide (PV b p l) = false := by rw [decide_eq_false_iff_not]; exact fun h => h2 h.2.1
      rw [e]
      have hs : Ev (fun k => zo.j0 k l ((l.length : Int) != 120) b p) false := by
        refine Ev.step (f := fun _ => some false) (fun k => ?_) (Ev.now _)
        simp only [zo.j0]
        rw [if_pos (by simp; omega)]
      refine Ev.congr (fun k => ?_) hs
      unfold zo.f
      rw [sv_f]
      simp only [Option.bind_some, h1, decide_true, if_true]
  · have e : decide (PV b p l) = false := by rw [decide_eq_false_iff_not]; exact fun h => h1 h.1
    rw [e]
    have hs : Ev (fun k => zo.j0 k l true b p) false := Ev.step (f := fun _ => some false) (fun k => by simp [zo.j0]) (Ev.now _)
    refine Ev.congr (fun k => ?_) hs
    unfold zo.f
    rw [sv_f]
    simp [h1]
end Go.Proofs.Ytkdfjomhichkoaa.Pat
namespace Go.Proofs.Ytkdfjomhichkoaa.Rs
open Go.RowKit Go.Proofs.Ytkdfjomhichkoaa.P Go.Proofs.Ytkdfjomhichkoaa.Base Go.Proofs.Ytkdfjomhichkoaa.Gen Go.Proofs.Ytkdfjomhichkoaa.Alive Go.Proofs.Ytkdfjomhichkoaa.Set Go.Proofs.Ytkdfjomhichkoaa.Tm Go.Proofs.Ytkdfjomhichkoaa.Sup Go.Proofs.Ytkdfjomhichkoaa.Pat Go.Proofs.Ytkdfjomhichkoaa.Edf Go.Proofs.Ytkdfjomhichkoaa.Sim Go.Proofs.Ytkdfjomhichkoaa.Jobs Go.Proofs.Ytkdfjomhichkoaa.Leg Go.Proofs.Ytkdfjomhichkoaa.Nps Go.Proofs.Ytkdfjomhichkoaa.Npr Go.Proofs.YtkdfjomhichkoaaW.PrintWords Go.Proofs.YtkdfjomhichkoaaW.PrintLast
def onb (pat : List Bool) (t : Nat) : Bool := rdOf false pat (t : Int)
noncomputable def RS (l : List Task) (js : List Job) (b p : Int) (pat : List Bool) : List Int × List Int := if PV b p pat ∧ JL l js then sch js (supp js (onb pat)) else ([], [])
theorem pau_agree (js : List Job) (tk : Int → Bool) (on : Nat → Bool) (h : ∀ t : Nat, tk (t : Int) = !(on t)) : Agree js (pauD js tk) (supp js on) := by
  intro dn left t h1 h2 h3
  unfold pauD supp
  rw [h t, edf_agree js dn left t h1 h2 h3]
  cases on t <;> simp
theorem impl_rs (l : List Task) (js : List Job) (b p : Int) (pat : List Bool) (hl : l.length ≤ 2097152) (hj : js.length ≤ 2097152) : Ev (fun k => zbu.f k l js b p pat) (RS l js b p pat) := by
  unfold zbu.f RS
  refine Ev.bind (impl_pat b p pat) ?_
  by_cases hp : PV b p pat
  · simp only [decide_eq_true hp, if_true]
    rw [impl_jl l js (by omega) (by omega)]
    simp only [Option.bind_some]
    by_cases h : JL l js
    · have hpl := hp.2.1
      have e := sim_sch (pau_agree js (fun t => !(rdOf false pat t)) (onb pat) (fun t => rfl)) (by have := zf3 js (onb pat); rwa [zdr] at this) (exs_bd h)
      rw [if_pos (⟨hp, h⟩ : PV b p pat ∧ JL l js)]
      refine Ev.congr (fun k => ?_) (Ev.now _)
      rw [decide_eq_true h, if_pos rfl, if_pos (by have := h.2.1; omega), e]
    · rw [if_neg (show ¬ (PV b p pat ∧ JL l js) from fun hh => h hh.2)]
      refine Ev.congr (fun k => ?_) (Ev.now _)
      rw [decide_eq_false h, if_neg (by simp)]
  · simp only [decide_eq_false hp]
    rw [if_neg (show ¬ (PV b p pat ∧ JL l js) from fun hh => hp hh.1)]
    exact Ev.step (fun k => by rw [if_neg (by simp)]) (Ev.now _)
theorem zif {l : List Task} {js : List Job} {pat : List Bool} (hl : JL l js) (hpl : pat.length = 120) : Ev (fun k => zm.l0 k js pat [] (keys js) 0 []) (sch js (supp js (onb pat))) := by
  have h60 := hl.2.1
  have hS := sch_of (zf3 js (onb pat)) hl.pos
  have ticks : ∀ d t : Nat, t + d = 120 → Ev (fun k => zm.l1 k js pat (stL (supp js (onb pat)) (exs js) t) (keys js) (t : Int) ((List.range t).map (runL (supp js (onb pat)) (exs js))) (finL (supp js (onb pat)) (exs js) t)) (sch js (supp js (onb pat))) := by
    intro d
    induction d with
    | zero =>
      intro t ht
      obtain rfl : t = 120 := by omega
      refine Ev.step (f := fun _ => some (sch js (supp js (onb pat)))) (fun k => ?_) (Ev.now _)
      simp only [zm.l1]
      rw [if_neg (by omega)]
      rfl
    | succ d ih =>
      intro t ht
      have hst : (stL (supp js (onb pat)) (exs js) t).length = js.length := by rw [ze4, zdr]
      have hfl : (finL (supp js (onb pat)) (exs js) t).length = js.length := by rw [zgb, zdr]
      have hw : wrap64 ((t : Int) + 1) = ((t + 1 : Nat) : Int) := by rw [w64 (by omega) (by omega)]; omega
      have hrange : (List.range (t + 1)).map (runL (supp js (onb pat)) (exs js)) = (List.range t).map (runL (supp js (onb pat)) (exs js)) ++ [runL (supp js (onb pat)) (exs js) t] := by rw [List.range_succ, List.map_append]; rfl
      have body : Ev (fun k => zm.j3 k js pat (stL (supp js (onb pat)) (exs js) t) (keys js) (t : Int) (runL (supp js (onb pat)) (exs js) t) ((List.range t).map (runL (supp js (onb pat)) (exs js))) (finL (supp js (onb pat)) (exs js) t)) (sch js (supp js (onb pat))) := by
        have hp := zf3 js (onb pat) (stL (supp js (onb pat)) (exs js) t) t (ze4 t)
        rw [zdr] at hp
        rcases hp with hr | ⟨i, hi, hr, hrel, hliv⟩
        · have hr : runL (supp js (onb pat)) (exs js) t = -1 := hr
          have e := st_idle hr
          refine Ev.step (fun k => ?_) (ih (t + 1) (by omega))
          simp only [zm.j3]
          rw [if_pos (by rw [List.length_map, List.length_range]; omega), Option.bind_some, hr, if_neg (by omega), hw, e.1, e.2, hrange, hr]
        · have hr : runL (supp js (onb pat)) (exs js) t = (i : Int) := hr
          have e := st_run hr (by rw [zdr]; exact hi)
          have hle := hS.le_ex t i (by rw [zdr]; exact hi)
          have hxb := exs_bd hl i hi
          have hw2 : wrap64 (rd (stL (supp js (onb pat)) (exs js) t) (i : Int) - 1) = rd (stL (supp js (onb pat)) (exs js) t) (i : Int) - 1 := w64 (by omega) (by omega)
          by_cases hz : rd (stL (supp js (onb pat)) (exs js) t) (i : Int) - 1 = 0
          · refine Ev.step (fun k => ?_) (ih (t + 1) (by omega))
            simp only [zm.j3]
            rw [if_pos (by rw [List.length_map, List.length_range]; omega), Option.bind_some, hr, if_pos (by omega), if_pos (by omega), if_pos (by omega), Option.bind_some, hw2, Int.toNat_natCast, zec _ _ _ (by omega), if_pos hz, if_pos (by omega), hw, e.1, e.2, if_pos hz, hrange, hr]
            rfl
          · refine Ev.step (fun k => ?_) (ih (t + 1) (by omega))
            simp only [zm.j3]
            rw [if_pos (by rw [List.length_map, List.length_range]; omega), Option.bind_some, hr, if_pos (by omega), if_pos (by omega), if_pos (by omega), Option.bind_some, hw2, Int.toNat_natCast, zec _ _ _ (by omega), if_neg hz, hw, e.1, e.2, if_neg hz, hrange, hr]
      by_cases hon : onb pat t = true
      · have hb := best_ev js (stL (supp js (onb pat)) (exs js) t) t (by omega) hst
        have hpk : runL (supp js (onb pat)) (exs js) t = edfp js (stL (supp js (onb pat)) (exs js) t) t := by
          show supp js (onb pat) (stL (supp js (onb pat)) (exs js) t) t = _
          conv => lhs; unfold supp
          rw [if_pos hon]
          rfl
        rw [← hpk] at hb
        refine Ev.step (f := fun k => (zcg.f k js (stL (supp js (onb pat)) (exs js) t) (keys js) (t : Int)).bind fun t608 => (zm.j3 k js pat (stL (supp js (onb pat)) (exs js) t) (keys js) (t : Int) t608 ((List.range t).map (runL (supp js (onb pat)) (exs js))) (finL (supp js (onb pat)) (exs js) t))) (fun k => ?_) (Ev.bind hb body)
        simp only [zm.l1]
        rw [if_pos (by omega), if_pos (by omega), if_pos (by omega), if_pos (show rdOf false pat (t : Int) = true from hon)]
      · have hpk : runL (supp js (onb pat)) (exs js) t = -1 := by
          show supp js (onb pat) (stL (supp js (onb pat)) (exs js) t) t = _
          conv => lhs; unfold supp
          rw [if_neg hon]
        have body2 := body
        rw [hpk] at body2
        refine Ev.step (fun k => ?_) body2
        simp only [zm.l1]
        rw [if_pos (by omega), if_pos (by omega), if_pos (by omega), if_neg (show ¬ rdOf false pat (t : Int) = true from hon)]
  have build : ∀ d i : Nat, i + d = js.length → Ev (fun k => zm.l0 k js pat ((js.take i).map (fun j => j.f3)) (keys js) (i : Int) (List.replicate i (-1))) (sch js (supp js (onb pat))) := by
    intro d
    induction d with
    | zero =>
      intro i hi
      obtain rfl : i = js.length := by omega
      refine Ev.step (fun k => ?_) (ticks 120 0 (by omega))
      simp only [zm.l0]
      rw [if_neg (by omega), List.take_of_length_le (Nat.le_refl _)]
      have e : finL (supp js (onb pat)) (exs js) 0 = List.replicate js.length (-1) := by rw [finL, zdr]
      rw [e]
      rfl
    | succ d ih =>
      intro i hi
      have hil : i < js.length := by omega
      refine Ev.step (fun k => ?_) (ih (i + 1) (by omega))
      simp only [zm.l0]
      rw [if_pos (by omega), if_pos (by omega), if_pos (by rw [List.length_map, List.length_take]; omega), if_pos (by rw [List.length_replicate]; omega), rjT, rj_at js i hil, map_take _ _ _ hil, w64 (by omega) (by omega), List.replicate_succ']
      rfl
  exact build js.length 0 (by omega)
theorem spec_rs (l : List Task) (js : List Job) (b p : Int) (pat : List Bool) (hl : l.length ≤ 2097152) (hj : js.length ≤ 2097152) : Ev (fun k => zm.f k l js b p pat) (RS l js b p pat) := by
  unfold zm.f
  refine Ev.bind (spec_jl l js (by omega) (by omega)) ?_
  have bad : ¬ (PV b p pat ∧ JL l js) → Ev (fun k => zm.j0 k js pat true) (RS l js b p pat) := fun h => by
    unfold RS
    rw [if_neg h]
    exact Ev.step (f := fun _ => some ([], [])) (fun k => by simp [zm.j0]) (Ev.now _)
  by_cases h : JL l js
  · simp only [decide_eq_true h, if_true]
    refine Ev.bind (spec_pat b p pat) ?_
    by_cases hp : PV b p pat
    · rw [decide_eq_true hp]
      unfold RS
      rw [if_pos (⟨hp, h⟩ : PV b p pat ∧ JL l js)]
      refine Ev.step (f := fun k => (zb0.f k js).bind fun t597 => (zm.l0 k js pat (([] : List Int)) t597 0 ([] : List Int))) (fun k => by simp [zm.j0]) ?_
      exact Ev.bind (keys_ev js (by have := h.2.1; omega)) (zif h hp.2.1)
    · rw [decide_eq_false hp]
      exact bad (fun hh => hp hh.1)
  · simp only [decide_eq_false h]
    exact bad (fun hh => h hh.2)
theorem RS_len (l : List Task) (js : List Job) (b p : Int) (pat : List Bool) : (RS l js b p pat).1.length ≤ 120 ∧ (RS l js b p pat).2.length ≤ 60 := by
  unfold RS
  split
  · rename_i h
    have h1 := sch_len js (supp js (onb pat))
    have h2 := h.2.2.1
    omega
  · simp
end Go.Proofs.Ytkdfjomhichkoaa.Rs
namespace Go.Proofs.Ytkdfjomhichkoaa.Pure
open Go.RowKit Go.Proofs.Ytkdfjomhichkoaa.P Go.Proofs.Ytkdfjomhichkoaa.Base Go.Proofs.Ytkdfjomhichkoaa.Gen Go.Proofs.YtkdfjomhichkoaaW.PrintWords Go.Proofs.YtkdfjomhichkoaaW.PrintLast
open Go.Proofs.Ytkdfjomhichkoaa.Set Go.Proofs.Ytkdfjomhichkoaa.Edf Go.Proofs.Ytkdfjomhichkoaa.Sim Go.Proofs.Ytkdfjomhichkoaa.Jobs Go.Proofs.Ytkdfjomhichkoaa.Leg Go.Proofs.Ytkdfjomhichkoaa.Nps Go.Proofs.Ytkdfjomhichkoaa.Npr Go.Proofs.Ytkdfjomhichkoaa.CopyTask Go.Proofs.Ytkdfjomhichkoaa.Mark Go.Proofs.Ytkdfjomhichkoaa.CopyJob Go.Proofs.Ytkdfjomhichkoaa.CopyBool Go.Proofs.Ytkdfjomhichkoaa.Rs
theorem FnExactRunSupply : laws_FnExactRunSupply.Pure := by
  intro A B b p D _ hA _ hB _ _ _ hD
  apply Tot.rounds
  unfold laws_FnExactRunSupply.f
  refine Tot.ite (fun _ => Tot.ret _ rfl) (fun hD0 => ?_)
  have hD2 : D.length ≤ 1048576 := by omega
  obtain ⟨t, ht, hr⟩ := szTaskS_g A hA.1
  refine Tot.bind0 ht (Tot.ite (fun _ => Tot.ret _ rfl) (fun h0 => ?_))
  obtain ⟨hA2, ht0, ht1⟩ := hr.resolve_left h0
  obtain ⟨t2, ht2, hr2⟩ := szJobS_f B hB.1 t ht1 ht0
  refine Tot.bind0 ht2 (Tot.ite (fun _ => Tot.ret _ rfl) (fun h1 => ?_))
  have hB2 := hr2.resolve_left h1
  clear hr hr2 hA hB hD hD0
  have hAm : (A.map cv).length = A.length := List.length_map _
  have hBm : (B.map cj).length = B.length := List.length_map _
  have es : zbv.f b p = some (b, p) := rfl
  refine Tot.bind (zeq A hA2) ?_
  rintro _ rfl
  refine Tot.bind (ze7 B hB2) ?_
  rintro _ rfl
  refine Tot.bind0 es (Tot.bind (zer D hD2) ?_)
  intro D1 e1
  subst e1
  have hlen := RS_len (A.map cv) (B.map cj) b p D1
  simp only
  refine Tot.bind (Tot.val (spec_rs (A.map cv) (B.map cj) b p D1 (by omega) (by omega))) ?_
  intro R1 e2
  have hlen2 : R1.1.length ≤ 120 ∧ R1.2.length ≤ 60 := by rw [e2]; exact hlen
  clear hlen
  refine Tot.bind (zeq A hA2) ?_
  rintro _ rfl
  refine Tot.bind (ze7 B hB2) ?_
  rintro _ rfl
  refine Tot.bind (zer D1 hD2) ?_
  intro D2 e3
  subst e3
  have hv := impl_rs (A.map cv) (B.map cj) b p D2 (by omega) (by omega)
  rw [← e2] at hv
  clear e2
  refine Tot.bind0 es ?_
  simp only
  refine Tot.bind (Tot.val hv) ?_
  intro R2 e4
  subst e4
  refine Tot.bind (zfb _ _ (by omega) (by omega)) ?_
  rintro _ rfl
  refine Tot.yes rfl (Tot.bind (zeq A hA2) ?_)
  rintro _ rfl
  refine Tot.bind (zis _ (by omega)) ?_
  rintro _ rfl
  refine Tot.yes rfl (Tot.bind (ze7 B hB2) ?_)
  rintro _ rfl
  refine Tot.bind (eqJobS_tot _ (by omega)) ?_
  rintro _ rfl
  refine Tot.yes rfl (Tot.bind (zer D2 hD2) ?_)
  intro D3 e5
  subst e5
  refine Tot.bind (zit _ (by omega)) ?_
  rintro _ rfl
  refine Tot.yes rfl (Tot.bind (zhm _ 1 (by omega) (by omega) (by omega)) ?_)
  rintro ⟨k1, _⟩ hk1
  simp only at hk1 ⊢
  refine Tot.bind (zie _ k1 (by omega) (by omega) (by omega)) ?_
  rintro ⟨k2, _⟩ hk2
  simp only at hk2 ⊢
  refine Tot.bind (zho _ k2 (by omega) (by omega) (by omega)) ?_
  rintro ⟨k3, _⟩ hk3
  simp only at hk3 ⊢
  refine Tot.no (by omega) (Tot.bind (zfb _ _ (by omega) (by omega)) ?_)
  rintro _ rfl
  refine Tot.step (fun k => by rw [laws_FnExactRunSupply.j0]) (Tot.no (by simp) ?_)
  refine Tot.bind (zhn _ _ (by omega) (by omega)) ?_
  rintro _ rfl
  simp only
  refine Tot.bind (zft _ _ (by omega) (by omega)) ?_
  rintro _ rfl
  refine Tot.no (by omega) (Tot.yes rfl ?_)
  refine Tot.bind (zeq A hA2) ?_
  rintro _ rfl
  refine Tot.bind (ze7 B hB2) ?_
  rintro _ rfl
  refine Tot.bind0 es (Tot.bind (zer D3 hD2) ?_)
  intro D4 e6
  subst e6
  simp only
  refine Tot.bind (Tot.val hv) ?_
  intro R3 e7
  subst e7
  refine Tot.bind (zfb _ _ (by omega) (by omega)) ?_
  rintro _ rfl
  refine Tot.yes rfl (Tot.bind (zft _ _ (by omega) (by omega)) ?_)
  rintro _ rfl
  exact Tot.no (by omega) (Tot.yes rfl (Tot.ret _ rfl))
end Go.Proofs.Ytkdfjomhichkoaa.Pure
namespace Go.Proofs.Ytkdfjomhichkoaa.Opn
open Go.ChangeShapes Go.WideShapes Go.Deep Go.RowKit Go.Proofs.YtkdfjomhichkoaaW.PrintWords
section
variable {H : Type} {enc : TypeId × Value → H} {P : Program} {W : World} {base : Nat} {spare : Nat → Bool} {held : Bool}
def Opens {α : Type} (enc : TypeId × Value → H) (P : Program) (W : World) (base : Nat) (spare : Nat → Bool) (held : Bool) (t : TypeId) (d : Kd α) (G : α → Prop) : Prop :=
  ∀ (fuel : Nat) (cs : List Value) (x : DataW H × List MemPlace), DataW.trod enc P W base spare held fuel t cs = some x → ∃ a, d.K W a cs ∧ G a
theorem opens_bool {t : TypeId} (hu : P.underlying t = some .bool) : Opens enc P W base spare held t Kd.bool (fun _ => True) := by
  intro fuel cs x h
  obtain ⟨n, hc, _⟩ := DataW.trod_bool hu h
  exact ⟨n, hc, trivial⟩
theorem list_of {α : Type} (m : Nat) (R : Nat → α → Prop) (h : ∀ i, i < m → ∃ a, R i a) : ∃ xs : List α, xs.length = m ∧ ∀ i a, xs[i]? = some a → R i a := by
  induction m with
  | zero => exact ⟨[], rfl, fun i a ha => by simp at ha⟩
  | succ m ih =>
    obtain ⟨xs, hl, hx⟩ := ih (fun i hi => h i (by omega))
    obtain ⟨a, ha⟩ := h m (by omega)
    refine ⟨xs ++ [a], by simp [hl], fun i b hb => ?_⟩
    rcases Nat.lt_or_ge i m with hi | hi
    · rw [List.getElem?_append_left (by omega)] at hb
      exact hx i b hb
    · have hi' : i = m := by
        have := (List.getElem?_eq_some_iff.1 hb).1
        simp at this
        omega
      subst hi'
      have : a = b := by simpa [hl] using hb
      subst this
      exact ha
theorem zgr {α : Type} {t e : TypeId} {d : Kd α} {G : α → Prop} (hu : P.underlying t = some (.slice e)) (hC : P.cellsOf e = d.sz) (he : Opens enc P W base spare held e d G)
    {fuel : Nat} {A : Option Addr} {n cap : Nat} {x : DataW H × List MemPlace} (h : DataW.trod enc P W base spare held fuel t [.slice A n cap] = some x) :
    ∃ xs : List α, xs.length = n ∧ n ≤ cap ∧ n ≤ maxLen ∧ d.C W A xs.length xs ∧ ∀ y ∈ xs, G y := by
  rcases open_slice hu h with ⟨h0, _⟩ | ⟨a, len, c, m, k, D, Pl, hcs, _, hl, hm, hmm, _, hel⟩
  · simp only [List.cons.injEq, Value.slice.injEq, and_true] at h0
    obtain ⟨rfl, rfl, rfl⟩ := h0
    exact ⟨[], rfl, Nat.le_refl _, by simp [maxLen], Kd.C_nil d W, fun y hy => by simp at hy⟩
  · simp only [List.cons.injEq, Value.slice.injEq, and_true] at hcs
    obtain ⟨rfl, rfl, rfl⟩ := hcs
    have hle : n ≤ m := by rw [hmm]; split <;> omega
    obtain ⟨xs, hxl, hx⟩ := list_of (α := α) n (fun i y => G y ∧ ∃ cs', d.K W y cs' ∧ cs'.length = d.sz ∧ ∀ j, j < d.sz → W.cell? ((a.add (i * d.sz)).add j) = cs'[j]?) (by
      intro i hi
      obtain ⟨cs', hc, ht⟩ := hel i (by omega)
      obtain ⟨y, hK, hG⟩ := he _ _ _ ht
      rw [hC] at hc
      obtain ⟨_, hcl, hcc⟩ := World.cells?_some hc
      exact ⟨y, hG, cs', hK, hcl, hcc⟩)
    refine ⟨xs, hxl, hl, by omega, ⟨rfl, by simp only [maxLen] at hm; omega, fun hp => ⟨a, rfl, fun j p hj => ?_⟩⟩, fun y hy => ?_⟩
    · obtain ⟨_, cs', hK, hcl, hcc⟩ := hx j p hj
      refine ⟨cs', hcl, hK, fun i u hi => ?_⟩
      have hlt : i < d.sz := by
        have := (List.getElem?_eq_some_iff.1 hi).1
        omega
      rw [← Go.Deep.add_add, hcc i hlt, hi]
    · obtain ⟨i, hi, rfl⟩ := List.getElem_of_mem hy
      exact (hx i _ (List.getElem?_eq_getElem hi)).1
theorem zgs {t : TypeId} {fs : Array Field} (hs : P.underlying t = some (.struct fs)) (hC : P.cellsOf t = fs.size) (hf : ∀ (j : Nat) (f : Field), fs[j]? = some f → f.offset = j ∧ P.cellsOf f.type = 1 ∧ P.underlying f.type = some (.int .i64))
    {fuel : Nat} {cs : List Value} {x : DataW H × List MemPlace} (h : DataW.trod enc P W base spare held fuel t cs = some x) :
    ∃ xs : List Int, xs.length = fs.size ∧ cs = xs.map (Value.int .i64) ∧ ∀ y ∈ xs, (Lit.int .i64 y).wf = true := by
  obtain ⟨ys, n, _, _, hl, hyl, hy⟩ := DataW.trod_struct hs h
  obtain ⟨xs, hxl, hx⟩ := list_of (α := Int) fs.size (fun j y => cs[j]? = some (.int .i64 y) ∧ (Lit.int .i64 y).wf = true) (by
    intro j hj
    have hfj : fs[j]? = some fs[j] := Array.getElem?_eq_getElem hj
    obtain ⟨ho, hk, hi⟩ := hf j _ hfj
    have h1 := hy j _ hfj
    rw [ho, hk] at h1
    have hjl : j < cs.length := by omega
    have e1 : (cs.drop j).take 1 = [cs[j]'hjl] := by
      rw [List.drop_eq_getElem_cons hjl]
      rfl
    rw [e1, List.getElem?_eq_getElem (by omega)] at h1
    obtain ⟨y, hc, _, hw⟩ := DataW.trod_int hi h1
    refine ⟨y, ?_, hw⟩
    rw [List.getElem?_eq_getElem hjl]
    simpa using hc)
  refine ⟨xs, hxl, ?_, fun y hy' => ?_⟩
  · apply List.ext_getElem?
    intro j
    rcases Nat.lt_or_ge j fs.size with hj | hj
    · rw [List.getElem?_map]
      have e := List.getElem?_eq_getElem (l := xs) (i := j) (by omega)
      rw [e, (hx j _ e).1]
      rfl
    · rw [List.getElem?_eq_none (by omega), List.getElem?_eq_none (by simp; omega)]
  · obtain ⟨i, hi, rfl⟩ := List.getElem_of_mem hy'
    exact (hx i _ (List.getElem?_eq_getElem hi)).2
theorem one2 {xs : List Int} (h : xs.length = 2) : ∃ a b, xs = [a, b] := by
  match xs, h with
  | [a, b], _ => exact ⟨a, b, rfl⟩
theorem one3 {xs : List Int} (h : xs.length = 3) : ∃ a b c, xs = [a, b, c] := by
  match xs, h with
  | [a, b, c], _ => exact ⟨a, b, c, rfl⟩
theorem one4 {xs : List Int} (h : xs.length = 4) : ∃ a b c d, xs = [a, b, c, d] := by
  match xs, h with
  | [a, b, c, d], _ => exact ⟨a, b, c, d, rfl⟩
theorem zgt {t e : TypeId} {A : Option Addr} {n cap : Nat} {d : DataW H} {ps : List MemPlace} {ts : List TypeId} {ds : List (DataW H)} {j : Nat}
    (hsz : (DataW.weightsEach P ts ds).all (· ≤ reachBytes) = true) (ht : ts[j]? = some t) (hd : ds[j]? = some d) (hu : P.underlying t = some (.slice e)) {B : Nat} (hB : P.bytesOf e = B)
    (h : DataW.Trod enc P W base spare held t (.slice A n cap) d ps) : n * B ≤ 140737488351232 := by
  obtain ⟨fuel, hf⟩ := h
  have hf' : DataW.trod enc P W base spare held fuel t [.slice A n cap] = some (d, ps) := hf
  rcases open_slice hu hf' with ⟨h0, _⟩ | ⟨a, len, c, m, k, D, Pl, hcs, _, hl, hm, hmm, hx, hel⟩
  · simp only [List.cons.injEq, Value.slice.injEq, and_true] at h0
    obtain ⟨rfl, rfl, rfl⟩ := h0
    simp
  · simp only [List.cons.injEq, Value.slice.injEq, and_true] at hcs
    obtain ⟨rfl, rfl, rfl⟩ := hcs
    obtain ⟨hx, _⟩ := Prod.mk.inj hx
    subst hx
    have z := sized_slice hsz ht hd hu
    rw [hB] at z
    simp only [List.length_map, List.length_range] at z
    exact Nat.le_trans (Nat.mul_le_mul_right _ (by omega)) z
end
end Go.Proofs.Ytkdfjomhichkoaa.Opn
namespace Go.Proofs.Ytkdfjomhichkoaa.Head
open Go
def chars (l : List Nat) : List Char := l.map Char.ofNat
def w1 : List Nat := [104, 97, 114, 110, 101, 115, 115]
def w2 : List Nat := [53, 56, 52, 57, 99, 51, 101, 100, 56, 100, 101, 101, 57, 99, 49, 55, 56, 100, 101, 48, 49, 51, 53, 50, 57, 99, 57, 53, 100, 99, 51, 50, 57, 51, 57, 100, 102, 102, 53, 53, 98, 102, 54, 98, 52, 51, 55, 99, 55, 48, 49, 56, 49, 48, 57, 48, 56, 53, 56, 102, 99, 54, 52, 48]
def w3 : List Nat := [99, 117, 116]
def w4 : List Nat := [97, 116, 32, 108, 111, 111, 112, 46, 101, 120, 97, 109, 112, 108, 101, 47, 100, 101, 97, 100, 108, 105, 110, 101, 115, 99, 104, 101, 100, 117, 108, 101, 114, 47, 108, 97, 119, 115, 46, 70, 110, 82, 117, 110, 78, 111, 110, 80, 114, 101, 101, 109, 112, 116, 105, 118, 101, 32, 108, 111, 111, 112, 46, 101, 120, 97, 109, 112, 108, 101, 47, 100, 101, 97, 100, 108, 105, 110, 101, 115, 99, 104, 101, 100, 117, 108, 101, 114, 47, 108, 97, 119, 115, 46, 70, 110, 85, 110, 105, 116, 67, 111, 115, 116, 115, 32, 108, 111, 111, 112, 46, 101, 120, 97, 109, 112, 108, 101, 47, 100, 101, 97, 100, 108, 105, 110, 101, 115, 99, 104, 101, 100, 117, 108, 101, 114, 47, 108, 97, 119, 115, 46, 70, 110, 69, 120, 97, 99, 116, 82, 117, 110, 78, 111, 110, 80, 114, 101, 101, 109, 112, 116, 105, 118, 101, 32, 108, 111, 111, 112, 46, 101, 120, 97, 109, 112, 108, 101, 47, 100, 101, 97, 100, 108, 105, 110, 101, 115, 99, 104, 101, 100, 117, 108, 101, 114, 47, 108, 97, 119, 115, 46, 70, 110, 78, 111, 110, 80, 114, 101, 101, 109, 112, 116, 105, 118, 101, 83, 97, 102, 101, 32, 108, 111, 111, 112, 46, 101, 120, 97, 109, 112, 108, 101, 47, 100, 101, 97, 100, 108, 105, 110, 101, 115, 99, 104, 101, 100, 117, 108, 101, 114, 47, 108, 97, 119, 115, 46, 70, 110, 82, 117, 110, 83, 117, 112, 112, 108, 121, 32, 108, 111, 111, 112, 46, 101, 120, 97, 109, 112, 108, 101, 47, 100, 101, 97, 100, 108, 105, 110, 101, 115, 99, 104, 101, 100, 117, 108, 101, 114, 47, 108, 97, 119, 115, 46, 70, 110, 69, 120, 97, 99, 116, 82, 117, 110, 83, 117, 112, 112, 108, 121, 32, 108, 111, 111, 112, 46, 101, 120, 97, 109, 112, 108, 101, 47, 100, 101, 97, 100, 108, 105, 110, 101, 115, 99, 104, 101, 100, 117, 108, 101, 114, 47, 108, 97, 119, 115, 46, 70, 110, 83, 117, 112, 112, 108, 121, 83, 97, 102, 101, 32, 108, 111, 111, 112, 46, 101, 120, 97, 109, 112, 108, 101, 47, 100, 101, 97, 100, 108, 105, 110, 101, 115, 99, 104, 101, 100, 117, 108, 101, 114, 47, 108, 97, 119, 115, 46, 70, 110, 69, 120, 97, 99, 116, 83, 116, 101, 97, 108, 83, 108, 97, 99, 107]
theorem io_eq : Try.prog.initOrder = String.ofList (chars (w1 ++ 32 :: (w2 ++ 32 :: (w3 ++ 32 :: w4)))) := by kernel_rfl
theorem io_list : Try.prog.initOrder.toList = chars (w1 ++ 32 :: (w2 ++ 32 :: (w3 ++ 32 :: w4))) := by rw [io_eq, String.toList_ofList]
theorem ws_one (c : Char) (r w : List Char) (ws : List (List Char)) (hc : c ≠ Char.ofNat 32) (h : wordsSigns r = w :: ws) : wordsSigns (c :: r) = (c :: w) :: ws := by
  have e : wordsSigns (c :: r) = match wordsSigns r with
    | w :: ws => (c :: w) :: ws
    | [] => [[c]] := by
    rw [wordsSigns]
    · rfl
    · exact hc
  rw [e, h]
theorem ws_word (w : List Char) (h : ∀ c ∈ w, c ≠ Char.ofNat 32) (r : List Char) : wordsSigns (w ++ Char.ofNat 32 :: r) = w :: wordsSigns r := by
  induction w with
  | nil => rfl
  | cons c w ih => exact ws_one _ _ _ _ (h c (by simp)) (ih (fun x hx => h x (by simp [hx])))
theorem ws_nat (w r : List Nat) (h : w.all (fun n => !(Char.ofNat n == Char.ofNat 32)) = true) : wordsSigns (chars (w ++ 32 :: r)) = chars w :: wordsSigns (chars r) := by
  have e : chars (w ++ 32 :: r) = chars w ++ Char.ofNat 32 :: chars r := by simp [chars]
  rw [e]
  refine ws_word _ (fun c hc => ?_) _
  obtain ⟨n, hn, rfl⟩ := List.mem_map.1 hc
  have := List.all_eq_true.1 h n hn
  simpa using this
theorem zhp : behindMainWord (wordsSigns Try.prog.initOrder.toList) = chars w3 :: wordsSigns (chars w4) := by
  rw [io_list, ws_nat _ _ (by kernel_rfl), ws_nat _ _ (by kernel_rfl), ws_nat _ _ (by kernel_rfl)]
  generalize wordsSigns (chars w4) = R
  kernel_rfl
theorem make_gen (P : Program) (c : List Char) (R : List (List Char)) (h : behindMainWord (wordsSigns P.initOrder.toList) = c :: R) (h1 : (c == "gc".toList || c == "spec".toList) = false) (h2 : (c == "cut".toList) = true) : P.make = some .cut := by
  unfold Program.make
  rw [h]
  simp only [h1, h2, Bool.true_or, if_true, Bool.false_eq_true, if_false]
theorem make : Try.prog.make = some .cut := make_gen _ _ _ zhp (by kernel_rfl) (by kernel_rfl)
theorem enter_gen (P : Program) (c : List Char) (R : List (List Char)) (h : behindMainWord (wordsSigns P.initOrder.toList) = c :: R) (h1 : ∀ R, stripLifts liftWords (c :: R) = ([], c :: R)) (h2 : (some c == some "cut".toList) = true)
    (h3 : P.laysLater = false) (h4 : P.bearsReflect = false) (h5 : P.doorFits [] = true) : P.mayEnter = true := by
  unfold Program.mayEnter
  rw [h]
  simp only [h1, h2, h3, h4, h5, List.head?_cons, Bool.not_false, Bool.or_true, Bool.and_true, List.contains_nil]
theorem enter : Try.prog.mayEnter = true := enter_gen _ _ _ zhp (fun R => by kernel_rfl) (by kernel_rfl) (by kernel_rfl) (by kernel_rfl) (by kernel_rfl)
theorem lifts : Try.prog.liftsFinal = false := by
  unfold Program.liftsFinal Program.headLifts
  simp only [zhp]
  generalize wordsSigns (chars w4) = R
  kernel_rfl
end Go.Proofs.Ytkdfjomhichkoaa.Head
namespace Go.Proofs.Ytkdfjomhichkoaa.fnExactRunSupply
open Go.ChangeShapes Go.WideShapes Go.ChangeAt Go.RowKit Go.Proofs.YtkdfjomhichkoaaW.PrintWords Go.Proofs.Ytkdfjomhichkoaa.P
open Go.ChangeMaps (open_string shut_string)
theorem own : ownKnob Try.prog.godebug = none := by kernel_rfl
theorem laidOut : laidOutB Try.prog = true := by kernel_rfl
theorem fieldsT90 : ∃ fs, Try.prog.underlying 90 = some (.struct fs) ∧ fs.size = 3 ∧ Try.prog.cellsOf 90 = fs.size ∧ ∀ (j : Nat) (f : Field), fs[j]? = some f → f.offset = j ∧ Try.prog.cellsOf f.type = 1 ∧ Try.prog.underlying f.type = some (.int .i64) := by
  refine ⟨_, Try.underlying90, rfl, by kernel_rfl, fun j f hj => ?_⟩
  match j, hj with
  | 0, hj => obtain rfl := Option.some.inj hj; exact ⟨rfl, by kernel_rfl, Try.underlying3⟩
  | 1, hj => obtain rfl := Option.some.inj hj; exact ⟨rfl, by kernel_rfl, Try.underlying3⟩
  | 2, hj => obtain rfl := Option.some.inj hj; exact ⟨rfl, by kernel_rfl, Try.underlying3⟩
  | n + 3, hj => exact absurd hj (by simp)
theorem opensT90 {H : Type} {enc : TypeId × Value → H} {W : World} {base : Nat} {spare : Nat → Bool} {held : Bool} : Opn.Opens enc Try.prog W base spare held 90 k90 (fun x => ((Lit.int .i64 x.f0).wf = true) ∧ ((Lit.int .i64 x.f1).wf = true) ∧ ((Lit.int .i64 x.f2).wf = true)) := by
  intro fuel cs x h
  obtain ⟨fs, hu, hm, hc, hf⟩ := fieldsT90
  obtain ⟨xs, hl, rfl, hw⟩ := Opn.zgs hu hc hf h
  obtain ⟨a, b, c, rfl⟩ := Opn.one3 (hl.trans hm)
  exact ⟨⟨a, b, c⟩, k90_mk _ _, by simpa using hw⟩
theorem fieldsT92 : ∃ fs, Try.prog.underlying 92 = some (.struct fs) ∧ fs.size = 4 ∧ Try.prog.cellsOf 92 = fs.size ∧ ∀ (j : Nat) (f : Field), fs[j]? = some f → f.offset = j ∧ Try.prog.cellsOf f.type = 1 ∧ Try.prog.underlying f.type = some (.int .i64) := by
  refine ⟨_, Try.underlying92, rfl, by kernel_rfl, fun j f hj => ?_⟩
  match j, hj with
  | 0, hj => obtain rfl := Option.some.inj hj; exact ⟨rfl, by kernel_rfl, Try.underlying3⟩
  | 1, hj => obtain rfl := Option.some.inj hj; exact ⟨rfl, by kernel_rfl, Try.underlying3⟩
  | 2, hj => obtain rfl := Option.some.inj hj; exact ⟨rfl, by kernel_rfl, Try.underlying3⟩
  | 3, hj => obtain rfl := Option.some.inj hj; exact ⟨rfl, by kernel_rfl, Try.underlying3⟩
  | n + 4, hj => exact absurd hj (by simp)
theorem opensT92 {H : Type} {enc : TypeId × Value → H} {W : World} {base : Nat} {spare : Nat → Bool} {held : Bool} : Opn.Opens enc Try.prog W base spare held 92 k92 (fun x => ((Lit.int .i64 x.f0).wf = true) ∧ ((Lit.int .i64 x.f1).wf = true) ∧ ((Lit.int .i64 x.f2).wf = true) ∧ ((Lit.int .i64 x.f3).wf = true)) := by
  intro fuel cs x h
  obtain ⟨fs, hu, hm, hc, hf⟩ := fieldsT92
  obtain ⟨xs, hl, rfl, hw⟩ := Opn.zgs hu hc hf h
  obtain ⟨a, b, c, d, rfl⟩ := Opn.one4 (hl.trans hm)
  exact ⟨⟨a, b, c, d⟩, k92_mk _ _, by simpa using hw⟩
theorem fieldsT56 : ∃ fs, Try.prog.underlying 56 = some (.struct fs) ∧ fs.size = 2 ∧ Try.prog.cellsOf 56 = fs.size ∧ ∀ (j : Nat) (f : Field), fs[j]? = some f → f.offset = j ∧ Try.prog.cellsOf f.type = 1 ∧ Try.prog.underlying f.type = some (.int .i64) := by
  refine ⟨_, Try.underlying56, rfl, by kernel_rfl, fun j f hj => ?_⟩
  match j, hj with
  | 0, hj => obtain rfl := Option.some.inj hj; exact ⟨rfl, by kernel_rfl, Try.underlying3⟩
  | 1, hj => obtain rfl := Option.some.inj hj; exact ⟨rfl, by kernel_rfl, Try.underlying3⟩
  | n + 2, hj => exact absurd hj (by simp)
theorem lifted (os : Os) (started : os.Started) (H : Type) (enc : TypeId × Value → H) :
    ReturnsInHanded {} Try.checked os 8 .any (Rows.fnExactRunSupplySpec.pre6 enc Try.prog Try.f8 Rows.fnExactRunSupplyRow.domain false) (Rows.fnExactRunSupplySpec.post enc Try.prog Try.f8 false true false false) := by
  refine returnsInHanded_of_change_sized (C := Try.checked) own started (by kernel_rfl) Try.func8
    (ChangeSpec.witness6 (enc := enc) (C := Try.checked) false ⟨#[], #[.slice none 0 0, .slice none 0 0, .agg #[.int .i64 0, .int .i64 0], .slice none 0 0], []⟩ 8 (by kernel_rfl) (by kernel_rfl) (by kernel_rfl) (by kernel_rfl)) ?_
  intro W base args ds gs before hval0 hW hcnd hsz0 _
  have hsz : (DataW.weightsEach Try.prog (Try.f8.params.toList ++ Rows.fnExactRunSupplySpec.plain.varTypes Try.prog) (ds ++ gs)).all (· ≤ reachBytes) = true := hsz0
  have hval : ∀ (j : Nat) t v, Try.f8.params[j]? = some t → args[j]? = some v → Value.okWide Try.prog W .any base t v := hval0
  have hW' := hW
  obtain ⟨p, q, hA0, hV, rfl, hfz, hnd⟩ := hW
  have hA : DataW.TrodAll enc Try.prog W 0 (fun _ => true) true Try.f8.params.toList args.toList ds p := hA0
  rw [Try.params8] at hA hval hsz
  obtain ⟨v0, vs0, d0, ds0, p0, q0, hargs, rfl, rfl, h0, r0⟩ := trodAll_cons hA
  obtain ⟨v1, vs1, d1, ds1, p1, q1, rfl, rfl, rfl, h1, r1⟩ := trodAll_cons r0
  obtain ⟨v2, vs2, d2, ds2, p2, q2, rfl, rfl, rfl, h2, r2⟩ := trodAll_cons r1
  obtain ⟨v3, vs3, d3, ds3, p3, q3, rfl, rfl, rfl, h3, r3⟩ := trodAll_cons r2
  obtain ⟨rfl, rfl, rfl⟩ := trodAll_nil r3
  obtain rfl : args = #[v0, v1, v2, v3] := by cases args; simp_all
  obtain ⟨rfl, rfl⟩ := trodVars_none hV
  have k0 := h0
  have lt0 : ∀ x ∈ p0, x.block < W.heap.size := by obtain ⟨m, hm⟩ := k0; exact DataW.trod_lt m _ _ _ hm
  obtain ⟨A0, n0, c0, rfl⟩ := okWide_slice Try.underlying36 (hval 0 36 v0 rfl rfl)
  have y0 : n0 * 24 ≤ 140737488351232 := Opn.zgt hsz (j := 0) (t := 36) rfl rfl Try.underlying36 (by kernel_rfl) h0
  obtain ⟨l0, rfl, hc0, hm0, hr0, hg0⟩ : ∃ xs : List (S90), xs.length = n0 ∧ n0 ≤ c0 ∧ n0 ≤ maxLen ∧ Kd.C k90 W A0 xs.length xs ∧ ∀ y0 ∈ xs, ((Lit.int .i64 y0.f0).wf = true) ∧ ((Lit.int .i64 y0.f1).wf = true) ∧ ((Lit.int .i64 y0.f2).wf = true) := by
    obtain ⟨fuel, hf⟩ := h0
    exact Opn.zgr Try.underlying36 (by kernel_rfl) opensT90 hf
  have k1 := h1
  have lt1 : ∀ x ∈ p1, x.block < W.heap.size := by obtain ⟨m, hm⟩ := k1; exact DataW.trod_lt m _ _ _ hm
  obtain ⟨A1, n1, c1, rfl⟩ := okWide_slice Try.underlying37 (hval 1 37 v1 rfl rfl)
  have y1 : n1 * 32 ≤ 140737488351232 := Opn.zgt hsz (j := 1) (t := 37) rfl rfl Try.underlying37 (by kernel_rfl) h1
  obtain ⟨l1, rfl, hc1, hm1, hr1, hg1⟩ : ∃ xs : List (S92), xs.length = n1 ∧ n1 ≤ c1 ∧ n1 ≤ maxLen ∧ Kd.C k92 W A1 xs.length xs ∧ ∀ y0 ∈ xs, ((Lit.int .i64 y0.f0).wf = true) ∧ ((Lit.int .i64 y0.f1).wf = true) ∧ ((Lit.int .i64 y0.f2).wf = true) ∧ ((Lit.int .i64 y0.f3).wf = true) := by
    obtain ⟨fuel, hf⟩ := h1
    exact Opn.zgr Try.underlying37 (by kernel_rfl) opensT92 hf
  have k2 := h2
  have lt2 : ∀ x ∈ p2, x.block < W.heap.size := by obtain ⟨m, hm⟩ := k2; exact DataW.trod_lt m _ _ _ hm
  obtain ⟨cs2, rfl, _⟩ := okWide_struct Try.underlying56 (hval 2 56 v2 rfl rfl)
  obtain ⟨fu2, hf2⟩ := h2
  obtain ⟨fs2, hu2, hm2, hc2, hx2⟩ := fieldsT56
  obtain ⟨xs2, hl2, hcs2, hw2⟩ := Opn.zgs hu2 hc2 hx2 (show DataW.trod _ _ _ _ _ _ _ _ cs2.toList = some _ from hf2)
  obtain ⟨a2_0, a2_1, rfl⟩ := Opn.one2 (hl2.trans hm2)
  obtain rfl : cs2 = #[.int .i64 a2_0, .int .i64 a2_1] := by cases cs2; simpa using hcs2
  have k3 := h3
  have lt3 : ∀ x ∈ p3, x.block < W.heap.size := by obtain ⟨m, hm⟩ := k3; exact DataW.trod_lt m _ _ _ hm
  obtain ⟨A3, n3, c3, rfl⟩ := okWide_slice Try.underlying52 (hval 3 52 v3 rfl rfl)
  have y3 : n3 * 1 ≤ 140737488351232 := Opn.zgt hsz (j := 3) (t := 52) rfl rfl Try.underlying52 (by kernel_rfl) h3
  obtain ⟨l3, rfl, hc3, hm3, hr3, hg3⟩ : ∃ xs : List (Bool), xs.length = n3 ∧ n3 ≤ c3 ∧ n3 ≤ maxLen ∧ Kd.C Kd.bool W A3 xs.length xs ∧ ∀ y0 ∈ xs, True := by
    obtain ⟨fuel, hf⟩ := h3
    exact Opn.zgr Try.underlying52 (by kernel_rfl) (Opn.opens_bool Try.underlying4) hf
  obtain ⟨k, hk⟩ := Pure.FnExactRunSupply l0 l1 a2_0 a2_1 l3 y0 ⟨hm0, hg0⟩ y1 ⟨hm1, hg1⟩ (hw2 a2_0 (by simp)) (hw2 a2_1 (by simp)) y3 ⟨hm3, hg3⟩
  clear hA0 hval0 hsz0 hsz
  refine (laws_FnExactRunSupply.calls k A0 c0 l0 A1 c1 l1 a2_0 a2_1 A3 c3 l3 true W hr0 hc0 hr1 hc1 hr3 hc3 hk rfl).mono fun e W' ⟨he, hd⟩ => ?_
  have bel := hd
  subst he
  exact ⟨_, rfl, _, _, _, [], _, [], hW', trodAll_mk1 (shut_bool Try.underlying4 _), (trodAll_cons_mk (Below.trod laidOut (by kernel_rfl) (of_decide_eq_true (by kernel_rfl)) k0 bel lt0) (trodAll_cons_mk (Below.trod laidOut (by kernel_rfl) (of_decide_eq_true (by kernel_rfl)) k1 bel lt1) (trodAll_cons_mk (Below.trod laidOut (by kernel_rfl) (of_decide_eq_true (by kernel_rfl)) k2 bel lt2) (trodAll_cons_mk (Below.trod laidOut (by kernel_rfl) (of_decide_eq_true (by kernel_rfl)) k3 bel lt3) trodAll_mk0)))), rfl, bel.frame _, fun h => by cases h⟩
theorem closed : joinedFacts Try.prog 8 Try.f8 Rows.fnExactRunSupplySpec Rows.fnExactRunSupplyRow = true := by
  simp only [joinedFacts, Head.enter, Head.lifts, Head.make]
  kernel_rfl
theorem named : Try.prog.funcNamed Rows.fnExactRunSupplyRow.func = some 8 := by kernel_rfl
theorem wrapped : Try.f8.isWrapper Try.prog Rows.fnExactRunSupplyRow.wrapper Rows.fnExactRunSupplyRow.mainSum := by unfold Func.isWrapper; first | (rw [if_pos (by decide +kernel)]; kernel_rfl) | (rw [if_neg (by decide +kernel)]; exact ⟨rfl, rfl⟩)
theorem over : Rows.fnExactRunSupplyRow.holds Try.pinned (OpenSpec.ofChange Rows.fnExactRunSupplySpec) :=
  OpenClaim.holds_of_wide 8 Try.f8 rfl rfl rfl rfl rfl rfl rfl ⟨rfl, rfl, rfl, rfl, rfl⟩ rfl rfl rfl rfl rfl named Try.func8 closed
    (of_decide_eq_true (by kernel_rfl)) wrapped
    (fun os started H enc _ => lifted os started H enc)
theorem proved : Rows.FnExactRunSupplySaid := over
#print axioms proved
end Go.Proofs.Ytkdfjomhichkoaa.fnExactRunSupply
namespace Go.Proofs.Ytkdfjomhichkoaa
theorem fnExactRunSupply_holds : Rows.FnExactRunSupplySaid := fnExactRunSupply.proved
end Go.Proofs.Ytkdfjomhichkoaa
