/- The law FnHyperbolic for every input, part 5 of its proof: what the program's functions answer, and the plain law. No condition. -/
import Derived.Test.YtgcjadhmkhpbnaaMFnHyperbolic1
import Derived.Test.YtgcjadhmkhpbnaaMFnHyperbolic3
import Derived.Test.YtgcjadhmkhpbnaaMFnHyperbolic4
import Derived.Sort.Lot0
import Derived.SizedLaws
import Derived.ChangeSlices
import Derived.ChangeArms
import Derived.WideShapes
import Derived.Deep.Slices
import Derived.OpenShut
import Derived.Test.YtgcjadhmkhpbnaaRows
import Derived.JoinedOf
import Derived.KernelRfl
import Derived.WalkKit
import Derived.ProofKit
import Derived.ShutString
import Derived.ChangeOld
import Derived.Below
/- Fixed priorities: the test of an order, and the deadline-monotonic order. Conditions: a valid set. -/
namespace Go.Proofs.Ytgcjadhmkhpbnaa.Fix
open Go.RowKit Go.Proofs.Ytgcjadhmkhpbnaa.P Go.Proofs.Ytgcjadhmkhpbnaa.Base Go.Proofs.Ytgcjadhmkhpbnaa.Gen Go.Proofs.Ytgcjadhmkhpbnaa.Alive Go.Proofs.Ytgcjadhmkhpbnaa.Set Go.Proofs.Ytgcjadhmkhpbnaa.Tm Go.Proofs.Ytgcjadhmkhpbnaa.Rt Go.Proofs.Ytgcjadhmkhpbnaa.Bt Go.Proofs.YtgcjadhmkhpbnaaW.PrintWords Go.Proofs.YtgcjadhmkhpbnaaW.PrintLast
def tk (l : List Task) (i : Int) : Task := rd_T56 l i
theorem tk_mem {l : List Task} {i : Int} (h0 : 0 ≤ i) (h1 : i < (l.length : Int)) : tk l i ∈ l := by
  obtain ⟨n, rfl⟩ := Int.eq_ofNat_of_zero_le h0
  have hn : n < l.length := by omega
  unfold tk
  rw [rdT_at l n hn]
  exact List.getElem_mem hn
theorem zero_rd (n : Nat) (i : Int) : rd (List.replicate n 0) i = 0 := by
  unfold rd
  rw [List.getD_eq_getElem?_getD, List.getElem?_replicate]
  split <;> rfl
/-- One response time. -/
theorem response_tot {l : List Task} (hs : SetOk l) {a : Int} (h0 : 0 ≤ a) (h1 : a < (l.length : Int)) (o : List Int) (ho : ∀ x ∈ o, 0 ≤ x ∧ x < (l.length : Int)) (hol : o.length ≤ 5) :
    Tot (fun k => impl_response.f k l (List.replicate l.length 0) a o) (IsR (o.map (tk l)) (tk l a).f0 (tk l a).f1) := by
  have hv : AllV (o.map (tk l)) := by
    intro t ht
    obtain ⟨x, hx, rfl⟩ := List.mem_map.1 ht
    exact hs.2 _ (tk_mem (ho x hx).1 (ho x hx).2)
  have hT := hs.2 _ (tk_mem h0 h1)
  unfold TVt TV at hT
  have inner : ∀ (r : Int), 1 ≤ r → r ≤ 12 → ∀ Q : Int → Prop, (W (o.map (tk l)) (tk l a).f0 r = r → Q r) → (W (o.map (tk l)) (tk l a).f0 r ≠ r → Tot (fun k => impl_response.l0 k l (List.replicate l.length 0) a o (W (o.map (tk l)) (tk l a).f0 r)) Q) → ∀ d j, j + d = o.length → Tot (fun k => impl_response.l1 k l (List.replicate l.length 0) a o r ((tk l a).f0 + sm (rw1 r) ((o.map (tk l)).take j)) o (o.length : Int) (j : Int)) Q := by
    intro r hr0 hr1 Q q1 q2 d
    induction d with
    | zero =>
      intro j hj
      refine Tot.step (fun k => by rw [impl_response.l1]) (Tot.no (by omega) ?_)
      rw [List.take_of_length_le (by rw [List.length_map]; omega), zero_rd, Int.add_zero, w64 (x := r) (by omega) (by omega)]
      refine Tot.ite (fun h => Tot.yes h0 (Tot.yes (by rw [List.length_replicate]; exact h1) (Tot.ret _ (q1 h)))) (fun h => q2 h)
    | succ d ih =>
      intro j hj
      have hjl : j < o.length := by omega
      have hjm : j < (o.map (tk l)).length := by rw [List.length_map]; exact hjl
      have hoj := ho _ (List.getElem_mem hjl)
      have hvj := hs.2 _ (tk_mem hoj.1 hoj.2)
      have hb := rw1_bd hvj (r := r) (by omega)
      unfold TVt TV at hvj
      have ht := take_bd (rw1 r) (o.map (tk l)) 100 (fun x hx => by have := rw1_bd (hv x hx) (r := r) (by omega); omega) j (by omega)
      have IH := ih (j + 1) (by omega)
      rw [sm_take _ _ _ hjm, List.getElem_map] at IH
      refine Tot.step (fun k => by rw [impl_response.l1]) (Tot.yes (by omega) (Tot.yes (by omega) (Tot.yes (by omega) ?_)))
      rw [rd_at o j hjl, zero_rd, Int.add_zero, w64 (x := r) (by omega) (by omega), w64 (x := (j : Int) + 1) (by omega) (by omega)]
      refine Tot.yes hoj.1 (Tot.yes (by rw [List.length_replicate]; exact hoj.2) (Tot.yes hoj.2 ?_))
      have hc := cdiv_bd (a := r) (b := (tk l o[j]).f2) (by omega) (by omega)
      have hce : impl_ceil.f r (rd_T56 l o[j]).f2 = some (cdiv r (tk l o[j]).f2) := by
        show impl_ceil.f r (tk l o[j]).f2 = _
        unfold impl_ceil.f
        rw [if_neg (by omega), w64 (x := r + (tk l o[j]).f2) (by omega) (by omega), w64 (x := r + (tk l o[j]).f2 - 1) (by omega) (by omega), tdiv_pos (by omega)]
        show some (wrap64 (cdiv r (tk l o[j]).f2)) = _
        rw [w64 (by omega) (by omega)]
      refine Tot.bind0 hce ?_
      have e1 : wrap64 (cdiv r (tk l o[j]).f2 * (rd_T56 l o[j]).f0) = rw1 r (tk l o[j]) := by
        show wrap64 (rw1 r (tk l o[j])) = _
        rw [w64 (by omega) (by omega)]
      rw [e1, w64 (by omega) (by omega), Int.add_assoc]
      exact IH
  have outer : ∀ (n : Nat) (r : Int), 13 - r ≤ n → Inv (o.map (tk l)) (tk l a).f0 r → r ≤ 1000 → Tot (fun k => impl_response.l0 k l (List.replicate l.length 0) a o r) (IsR (o.map (tk l)) (tk l a).f0 (tk l a).f1) := by
    intro n
    induction n with
    | zero =>
      intro r hn hi hr
      refine Tot.step (fun k => by rw [impl_response.l0]) (Tot.yes h0 (Tot.yes (by rw [List.length_replicate]; exact h1) (Tot.yes h1 ?_)))
      have hr1 := hi.1
      rw [zero_rd, Int.add_zero, w64 (x := r) (by omega) (by omega)]
      exact Tot.no (show ¬ r ≤ (tk l a).f1 by omega) (Tot.ret _ (inv_late hi (by omega)))
    | succ n ih =>
      intro r hn hi hr
      have hr1 := hi.1
      refine Tot.step (fun k => by rw [impl_response.l0]) (Tot.yes h0 (Tot.yes (by rw [List.length_replicate]; exact h1) (Tot.yes h1 ?_)))
      rw [zero_rd, Int.add_zero, w64 (x := r) (by omega) (by omega)]
      refine Tot.ite (fun (h : r ≤ (tk l a).f1) => ?_) (fun (h : ¬ r ≤ (tk l a).f1) => Tot.ret _ (inv_late hi (by omega)))
      have hW : W (o.map (tk l)) (tk l a).f0 r ≤ 1000 := by
        have ht := take_bd (rw1 r) (o.map (tk l)) 100 (fun x hx => by have := rw1_bd (hv x hx) (r := r) (by omega); omega) o.length (by rw [List.length_map]; omega)
        rw [List.take_of_length_le (by rw [List.length_map]; omega)] at ht
        unfold W; omega
      have := inner r hr1 (by omega) (IsR (o.map (tk l)) (tk l a).f0 (tk l a).f1) (fun he => inv_found hi h he) (fun hne => by
        have hst := inv_step hv hi hne
        exact ih _ (by omega) hst.2 hW) o.length 0 (by omega)
      rw [show (tk l a).f0 + sm (rw1 r) ((o.map (tk l)).take 0) = (tk l a).f0 by simp [sm]] at this
      exact this
  unfold impl_response.f
  refine Tot.yes h0 (Tot.yes h1 ?_)
  exact outer 13 _ (show 13 - (tk l a).f0 ≤ 13 by omega) (inv_start hv (by omega)) (show (tk l a).f0 ≤ 1000 by omega)
/-- The task at place p meets its deadline below those at the places above. -/
def Fits (l : List Task) (o : List Int) (p : Nat) : Prop := ∃ r : Int, 1 ≤ r ∧ r ≤ (tk l (rd o p)).f1 ∧ W ((o.take p).map (tk l)) (tk l (rd o p)).f0 r ≤ r
def IsRp (l : List Task) (o : List Int) (p : Nat) (R : Int) : Prop := IsR ((o.take p).map (tk l)) (tk l (rd o p)).f0 (tk l (rd o p)).f1 R
def FF (l : List Task) (o : List Int) : Prop := OV l o ∧ ∀ p, p < o.length → Fits l o p
noncomputable instance (l : List Task) (o : List Int) : Decidable (FF l o) := Classical.propDecidable _
theorem late_iff (l : List Task) (o : List Int) (p : Nat) : IsRp l o p (-1) ↔ ¬ Fits l o p := by
  constructor
  · intro h hf
    have := (isR_fits h).2 hf
    omega
  · intro h
    refine Or.inl ⟨rfl, fun r h1 h2 => ?_⟩
    apply Classical.byContradiction
    intro hc
    exact h ⟨r, h1, h2, by omega⟩
theorem rd_set_eq (l : List Int) (i : Nat) (x : Int) (h : i < l.length) : rd (l.set i x) (i : Int) = x := by
  rw [rd_at _ i (by simpa using h)]
  simp
theorem rd_set_ne (l : List Int) (i a : Nat) (x : Int) (h : a ≠ i) : rd (l.set i x) (a : Int) = rd l (a : Int) := by
  unfold rd
  rw [List.getD_eq_getElem?_getD, List.getD_eq_getElem?_getD, Int.toNat_natCast, List.getElem?_set_ne (by omega)]
theorem responses_tot {l : List Task} {o : List Int} (h : OV l o) : Tot (fun k => impl_responses.f k l (List.replicate l.length 0) o) (fun out => out.length ≤ 5 ∧ ((-1 : Int) ∈ out ↔ ∃ p, p < o.length ∧ IsRp l o p (-1))) := by
  have hs := h.1
  have hlen := hs.1
  have hol := h.2.1
  have loop : ∀ d i (out : List Int), i + d = o.length → out.length = l.length → (∀ p, p < i → IsRp l o p (rd out (rd o p))) → (∀ x ∈ out, x = 0 ∨ ∃ p, p < i ∧ IsRp l o p x) → Tot (fun k => impl_responses.l0 k l (List.replicate l.length 0) o out o (o.length : Int) (i : Int)) (fun out => out.length ≤ 5 ∧ ((-1 : Int) ∈ out ↔ ∃ p, p < o.length ∧ IsRp l o p (-1))) := by
    intro d
    induction d with
    | zero =>
      intro i out hi hl h1 h2
      refine Tot.step (fun k => by rw [impl_responses.l0]) (Tot.no (by omega) (Tot.ret _ ⟨by omega, ?_⟩))
      constructor
      · intro hm
        rcases h2 _ hm with h | ⟨p, hp, h⟩
        · omega
        · exact ⟨p, by omega, h⟩
      · rintro ⟨p, hp, hr⟩
        have he := isR_uniq (h1 p (by omega)) hr
        have hop := (h.2.2 p hp hp).1
        rw [← he, rd_at o p hp]
        obtain ⟨n, hn⟩ : ∃ n : Nat, o[p] = (n : Int) := ⟨o[p].toNat, by omega⟩
        rw [hn] at hop ⊢
        rw [rd_at out n (by omega)]
        exact List.getElem_mem _
    | succ d ih =>
      intro i out hi hl h1 h2
      have hil : i < o.length := by omega
      have hoi := (h.2.2 i hil hil).1
      refine Tot.step (fun k => by rw [impl_responses.l0]) (Tot.yes (by omega) (Tot.yes (by omega) (Tot.yes (by omega) (Tot.yes (by omega) ?_))))
      rw [rd_at o i hil, w64 (x := (i : Int) + 1) (by omega) (by omega), Int.toNat_natCast]
      refine Tot.bind (response_tot hs hoi.1 hoi.2 (o.take i) (fun x hx => ?_) (by rw [List.length_take]; omega)) ?_
      · obtain ⟨q, hq, rfl⟩ := List.mem_iff_getElem.1 (List.mem_of_mem_take hx)
        exact (h.2.2 q hq hq).1
      · intro R hR
        have hR' : IsRp l o i R := by unfold IsRp; rw [rd_at o i hil]; exact hR
        refine Tot.yes hoi.1 (Tot.yes (by omega) (ih (i + 1) _ (by omega) (by rw [List.length_set]; exact hl) (fun p hp => ?_) (fun x hx => ?_)))
        · obtain ⟨n, hn⟩ : ∃ n : Nat, o[i] = (n : Int) := ⟨o[i].toNat, by omega⟩
          rw [hn, Int.toNat_natCast]
          have hnl : n < out.length := by omega
          by_cases e : p = i
          · subst e
            rw [rd_at o p hil, hn, rd_set_eq _ _ _ hnl]
            exact hR'
          · have hpl : p < o.length := by omega
            have hne := (h.2.2 i hil hil).2 p (by omega)
            have hop := (h.2.2 p hpl hpl).1
            have := h1 p (by omega)
            rw [rd_at o p hpl] at this ⊢
            obtain ⟨m, hm⟩ : ∃ m : Nat, o[p] = (m : Int) := ⟨o[p].toNat, by omega⟩
            rw [hm] at this ⊢
            rw [rd_set_ne _ _ _ _ (by omega)]
            exact this
        · rcases List.mem_or_eq_of_mem_set hx with hx | rfl
          · rcases h2 x hx with h' | ⟨p, hp, h'⟩
            · exact Or.inl h'
            · exact Or.inr ⟨p, by omega, h'⟩
          · exact Or.inr ⟨i, by omega, hR'⟩
  unfold impl_responses.f
  refine Tot.yes (by omega) (Tot.yes (by omega) ?_)
  rw [Int.toNat_natCast]
  exact loop o.length 0 _ (by omega) (by simp) (fun p hp => by omega) (fun x hx => Or.inl (List.eq_of_mem_replicate hx))
theorem fixed_tot (l : List Task) (o : List Int) (hl : l.length ≤ 2097152) (ho : o.length ≤ 2097152) : Tot (fun k => impl_FixedFeasible.f k l o) (fun r => r = decide (FF l o)) := by
  unfold impl_FixedFeasible.f
  refine Tot.bind (impl_ov l o hl ho) ?_
  rintro _ rfl
  refine Tot.ite (fun hv => ?_) (fun hv => Tot.ret _ (decide_eq_false (fun h : FF l o => hv (decide_eq_true h.1))).symm)
  have hv := of_decide_eq_true hv
  refine Tot.bind (P := fun out => out.length ≤ 5 ∧ ((-1 : Int) ∈ out ↔ ∃ p, p < o.length ∧ IsRp l o p (-1))) ?_ ?_
  · unfold impl_ResponseTimes.f
    refine Tot.bind (impl_ov l o hl ho) ?_
    rintro _ rfl
    have hlen := hv.1.1
    refine Tot.yes (decide_eq_true hv) (Tot.yes (by omega) (Tot.yes (by omega) ?_))
    rw [Int.toNat_natCast]
    exact Tot.bind (responses_tot hv) (fun _ h => Tot.ret _ h)
  · rintro out ⟨h1, h2⟩
    unfold slices_Contains_int_int.f
    refine Tot.bind (P := fun r => r = decide ((-1 : Int) ∈ out)) (Tot.bind (idx_tot out (-1) (by omega)) ?_) ?_
    · rintro r (⟨rfl, hr⟩ | ⟨a, ha, rfl, hr, _⟩)
      · refine Tot.ret _ ?_
        rw [decide_eq_decide]
        constructor
        · intro h; omega
        · intro h
          obtain ⟨a, ha, e⟩ := List.mem_iff_getElem.1 h
          exact absurd e (hr a ha)
      · refine Tot.ret _ ?_
        rw [decide_eq_decide]
        exact ⟨fun _ => hr ▸ List.getElem_mem ha, fun _ => by omega⟩
    · rintro _ rfl
      refine Tot.ret _ ?_
      rw [Bool.eq_iff_iff]
      simp only [Bool.not_eq_true', decide_eq_false_iff_not, decide_eq_true_eq]
      constructor
      · intro h
        refine ⟨hv, fun p hp => ?_⟩
        apply Classical.byContradiction
        intro hf
        exact h (h2.2 ⟨p, hp, (late_iff l o p).2 hf⟩)
      · rintro ⟨_, hf⟩ hm
        obtain ⟨p, hp, hr⟩ := h2.1 hm
        exact (late_iff l o p).1 hr (hf p hp)
/-! The deadline-monotonic order. -/
def ids (n : Nat) : List Int := (List.range n).map (fun (x : Nat) => (x : Int))
theorem ids_get (n i : Nat) (h : i < (ids n).length) : (ids n)[i] = (i : Int) := by simp [ids]
theorem indices_ev (n : Nat) (hn : n ≤ 1000) : Ev (fun k => impl_indices.f k (n : Int)) (ids n) := by
  have hl : (ids n).length = n := by simp [ids]
  have h := Tot.copy (fun k acc i => impl_indices.l0 k acc (n : Int) i) (ids n) 0 (fun k acc i h ha => by
    simp only [impl_indices.l0]
    rw [if_pos (by omega), if_pos (by omega), if_pos (by omega), w64 (by omega) (by omega), Int.toNat_natCast, ids_get]) (fun k acc ha => by
    simp only [impl_indices.l0]
    rw [if_neg (by omega)])
  apply Tot.ev
  refine Tot.congr (fun k => ?_) h
  unfold impl_indices.f
  rw [if_pos (by omega), if_pos (by omega), Int.toNat_natCast, hl]
  simp only [Option.bind_some, List.length_replicate]
theorem ids_mem {n : Nat} : ∀ x ∈ ids n, 0 ≤ x ∧ x < (n : Int) := by
  intro x hx
  obtain ⟨m, hm, rfl⟩ := List.mem_map.1 hx
  have := List.mem_range.1 hm
  omega
def dmo (l : List Task) : List Int := if SetOk l then isort (dl_cmp l) (ids l.length) else []
theorem dm_ev (l : List Task) : Ev (fun k => impl_DeadlineMonotonic.f k l) (dmo l) := by
  apply Tot.ev
  unfold impl_DeadlineMonotonic.f
  refine Tot.bind0 (set_f l) (Tot.ite (fun hs => ?_) (fun hs => ?_))
  · have hs := of_decide_eq_true hs
    have hlen := hs.1
    refine Tot.bind (Tot.val (indices_ev l.length (by omega))) ?_
    rintro _ rfl
    refine Tot.yes ⟨by simp [ids]; omega, ids_mem⟩ (Tot.ret _ ?_)
    unfold dmo
    rw [if_pos hs]
  · refine Tot.ret _ ?_
    unfold dmo
    rw [if_neg (fun h => hs (decide_eq_true h))]
/-- What the sort keeps: the entries, and their order by key. -/
theorem swl_perm (l : List Int) (j : Nat) (h : j + 1 < l.length) : (swl l j).Perm l := by
  have := Go.Sort.perm_set_set l (j + 1) j h (by omega)
  unfold swl
  have e1 : rd l (j : Int) = l[j] := rd_at l j (by omega)
  have e2 : rd l ((j : Int) + 1) = l[j + 1] := rd_at l (j + 1) h
  rw [e1, e2]
  simpa [List.getElem_set] using this
section
variable (cf : Int → Int → Int) (K : Int → Int)
/-- By key: sorted but for place j, which is no greater than what stands behind it. -/
def But (l : List Int) (j i : Nat) : Prop := (∀ p q : Nat, p < q → q ≤ i → p ≠ j → q ≠ j → K (rd l p) ≤ K (rd l q)) ∧ ∀ q : Nat, j < q → q ≤ i → K (rd l j) ≤ K (rd l q)
def Srt (l : List Int) (i : Nat) : Prop := ∀ p q : Nat, p < q → q < i → K (rd l p) ≤ K (rd l q)
theorem inn_perm : ∀ (j : Nat) (l : List Int), j < l.length → (inn cf j l).Perm l := by
  intro j
  induction j with
  | zero => intro l _; exact List.Perm.refl _
  | succ j ih =>
    intro l hj
    rw [inn]
    split
    · exact (ih _ (by rw [swl_length]; omega)).trans (swl_perm l j hj)
    · exact List.Perm.refl _
theorem swl_rd_lo (l : List Int) (j : Nat) (h : j + 1 < l.length) : rd (swl l j) (j : Int) = rd l ((j + 1 : Nat) : Int) := by
  unfold swl
  rw [rd_set_eq _ _ _ (by rw [List.length_set]; omega)]
  rfl
theorem swl_rd_hi (l : List Int) (j : Nat) (h : j + 1 < l.length) : rd (swl l j) ((j + 1 : Nat) : Int) = rd l (j : Int) := by
  unfold swl
  rw [rd_set_ne _ _ _ _ (by omega), rd_set_eq _ _ _ h]
theorem swl_rd_ne (l : List Int) (j p : Nat) (h1 : p ≠ j) (h2 : p ≠ j + 1) : rd (swl l j) (p : Int) = rd l (p : Int) := by
  unfold swl
  rw [rd_set_ne _ _ _ _ h1, rd_set_ne _ _ _ _ h2]
theorem inn_srt (i : Nat) : ∀ (j : Nat) (l : List Int), (∀ x ∈ l, ∀ y ∈ l, cf x y < 0 ↔ K x < K y) → j ≤ i → i < l.length → But K l j i → Srt K (inn cf j l) (i + 1) := by
  intro j
  induction j with
  | zero =>
    intro l _ _ _ hb p q hpq hq
    rw [inn]
    by_cases e : p = 0
    · subst e; exact hb.2 q hpq (by omega)
    · exact hb.1 p q hpq (by omega) e (by omega)
  | succ j ih =>
    intro l hcf hji hil hb
    have hj1 : j + 1 < l.length := by omega
    have m0 : rd l (j : Int) ∈ l := by rw [rd_at l j (by omega)]; exact List.getElem_mem _
    have m1 : rd l ((j + 1 : Nat) : Int) ∈ l := by rw [rd_at l (j + 1) hj1]; exact List.getElem_mem _
    have hc := hcf _ m1 _ m0
    rw [inn]
    by_cases h : cf (rd l ((j : Int) + 1)) (rd l (j : Int)) < 0
    · rw [if_pos h]
      have hK : K (rd l ((j + 1 : Nat) : Int)) < K (rd l (j : Int)) := hc.1 h
      refine ih _ (fun x hx y hy => hcf x ((swl_perm l j hj1).mem_iff.1 hx) y ((swl_perm l j hj1).mem_iff.1 hy)) (by omega) (by rw [swl_length]; exact hil) ⟨fun p q hpq hq hpj hqj => ?_, fun q hq hqi => ?_⟩
      · by_cases e1 : q = j + 1
        · subst e1
          rw [swl_rd_hi l j hj1, swl_rd_ne l j p hpj (by omega)]
          exact hb.1 p j (by omega) (by omega) (by omega) (by omega)
        · by_cases e2 : p = j + 1
          · subst e2
            rw [swl_rd_hi l j hj1, swl_rd_ne l j q hqj e1]
            exact hb.1 j q (by omega) hq (by omega) e1
          · rw [swl_rd_ne l j p hpj e2, swl_rd_ne l j q hqj e1]
            exact hb.1 p q hpq hq e2 e1
      · rw [swl_rd_lo l j hj1]
        by_cases e1 : q = j + 1
        · subst e1
          rw [swl_rd_hi l j hj1]; omega
        · rw [swl_rd_ne l j q (by omega) e1]
          exact hb.2 q (by omega) hqi
    · rw [if_neg h]
      have hK : K (rd l (j : Int)) ≤ K (rd l ((j + 1 : Nat) : Int)) := by
        apply Classical.byContradiction
        intro hn
        exact h (hc.2 (by omega))
      intro p q hpq hq
      by_cases e1 : q = j + 1
      · subst e1
        by_cases e2 : p = j
        · subst e2; exact hK
        · have := hb.1 p j (by omega) (by omega) (by omega) (by omega)
          omega
      · by_cases e2 : p = j + 1
        · subst e2; exact hb.2 q hpq (by omega)
        · exact hb.1 p q hpq (by omega) e2 e1
theorem outr_ok : ∀ (d i : Nat) (l : List Int), (∀ x ∈ l, ∀ y ∈ l, cf x y < 0 ↔ K x < K y) → i + d ≤ l.length → Srt K l i → (outr cf d i l).Perm l ∧ Srt K (outr cf d i l) (i + d) := by
  intro d
  induction d with
  | zero => intro i l _ _ h; exact ⟨List.Perm.refl _, h⟩
  | succ d ih =>
    intro i l hcf hi h
    have hp := inn_perm cf i l (by omega)
    have hs := inn_srt cf K i i l hcf (Nat.le_refl _) (by omega) ⟨fun p q hpq hq h1 h2 => h p q hpq (by omega), fun q h1 h2 => by omega⟩
    have := ih (i + 1) (inn cf i l) (fun x hx y hy => hcf x (hp.mem_iff.1 hx) y (hp.mem_iff.1 hy)) (by rw [hp.length_eq]; omega) hs
    refine ⟨this.1.trans hp, ?_⟩
    rw [show i + (d + 1) = i + 1 + d by omega]
    exact this.2
theorem isort_ok (l : List Int) (hcf : ∀ x ∈ l, ∀ y ∈ l, cf x y < 0 ↔ K x < K y) : (isort cf l).Perm l ∧ Srt K (isort cf l) l.length := by
  unfold isort
  rcases Nat.eq_zero_or_pos l.length with h0 | h0
  · obtain rfl := List.eq_nil_of_length_eq_zero h0
    exact ⟨List.Perm.refl _, fun p q _ h => by simp at h⟩
  · have := outr_ok cf K (l.length - 1) 1 l hcf (by omega) (fun p q h1 h2 => by omega)
    rw [show 1 + (l.length - 1) = l.length by omega] at this
    exact this
end
theorem dmo_ok {l : List Task} (hs : SetOk l) : (dmo l).Perm (ids l.length) ∧ ∀ p q : Nat, p < q → q < l.length → (tk l (rd (dmo l) p)).f1 ≤ (tk l (rd (dmo l) q)).f1 := by
  have hlen := hs.1
  unfold dmo
  rw [if_pos hs]
  have := isort_ok (dl_cmp l) (fun x => (tk l x).f1) (ids l.length) (fun x hx y hy => by
    have h1 := ids_mem x hx
    have h2 := ids_mem y hy
    have v1 := hs.2 _ (tk_mem h1.1 h1.2)
    have v2 := hs.2 _ (tk_mem h2.1 h2.2)
    unfold TVt TV at v1 v2
    have e : dl_cmp l x y = (tk l x).f1 - (tk l y).f1 := by
      unfold dl_cmp
      rw [IntKind.wrap_i64]
      show ((tk l x).f1 - (tk l y).f1 + _) % _ - _ = _
      omega
    rw [e]; omega)
  rw [show (ids l.length).length = l.length by simp [ids]] at this
  exact this
theorem dmo_ov {l : List Task} (hs : SetOk l) : OV l (dmo l) := by
  have h := (dmo_ok hs).1
  have hn : (dmo l).Nodup := h.symm.nodup (by
    unfold ids
    rw [List.nodup_iff_pairwise_ne, List.pairwise_map]
    exact (List.nodup_iff_pairwise_ne.1 List.nodup_range).imp (fun h => by omega))
  refine ⟨hs, by rw [h.length_eq]; simp [ids], fun a ha _ => ⟨ids_mem _ (h.mem_iff.1 (List.getElem_mem ha)), fun b hb e => ?_⟩⟩
  have := List.pairwise_iff_getElem.1 (List.nodup_iff_pairwise_ne.1 hn) b a (by omega) ha hb
  exact this e
/-- The tasks in the order are the tasks of the set. -/
theorem dmo_tasks {l : List Task} (hs : SetOk l) : ((dmo l).map (tk l)).Perm l := by
  have h := ((dmo_ok hs).1).map (tk l)
  refine h.trans ?_
  have : (ids l.length).map (tk l) = l := by
    apply List.ext_getElem
    · simp [ids]
    · intro i h1 h2
      rw [List.getElem_map, ids_get]
      exact rdT_at l i h2
  rw [this]
end Go.Proofs.Ytgcjadhmkhpbnaa.Fix
/- The hyperbolic bound and harmonic sets under deadline-monotonic priorities. Conditions: a valid set. -/
namespace Go.Proofs.Ytgcjadhmkhpbnaa.Hh
open Go.RowKit Go.Proofs.Ytgcjadhmkhpbnaa.P Go.Proofs.Ytgcjadhmkhpbnaa.Base Go.Proofs.Ytgcjadhmkhpbnaa.Gen Go.Proofs.Ytgcjadhmkhpbnaa.Alive Go.Proofs.Ytgcjadhmkhpbnaa.Set Go.Proofs.Ytgcjadhmkhpbnaa.Tm Go.Proofs.Ytgcjadhmkhpbnaa.Rt Go.Proofs.Ytgcjadhmkhpbnaa.Bt Go.Proofs.Ytgcjadhmkhpbnaa.Fix Go.Proofs.Ytgcjadhmkhpbnaa.Harm Go.Proofs.YtgcjadhmkhpbnaaW.PrintWords Go.Proofs.YtgcjadhmkhpbnaaW.PrintLast
theorem dmo_len {l : List Task} (hs : SetOk l) : (dmo l).length = l.length := by
  rw [(dmo_ok hs).1.length_eq]; simp [ids]
theorem above_ok {l : List Task} (hs : SetOk l) (p : Nat) : AllV (((dmo l).take p).map (tk l)) := by
  intro t ht
  obtain ⟨x, hx, rfl⟩ := List.mem_map.1 ht
  have := ids_mem x ((dmo_ok hs).1.mem_iff.1 (List.mem_of_mem_take hx))
  exact hs.2 _ (tk_mem this.1 this.2)
theorem at_mem {l : List Task} (hs : SetOk l) {p : Nat} (hp : p < l.length) : tk l (rd (dmo l) p) ∈ l := by
  have hl := dmo_len hs
  rw [rd_at _ p (by omega)]
  have := ids_mem _ ((dmo_ok hs).1.mem_iff.1 (List.getElem_mem (show p < (dmo l).length by omega)))
  exact tk_mem this.1 this.2
/-- The set, parted at a place of the order. -/
theorem parted {l : List Task} (hs : SetOk l) {p : Nat} (hp : p < l.length) : ((tk l (rd (dmo l) p) :: ((dmo l).take p).map (tk l)) ++ ((dmo l).drop (p + 1)).map (tk l)).Perm l := by
  have hl := dmo_len hs
  refine List.Perm.trans ?_ (dmo_tasks hs)
  rw [rd_at _ p (by omega)]
  have e : (dmo l).map (tk l) = ((dmo l).take p).map (tk l) ++ (tk l ((dmo l)[p]'(by omega)) :: ((dmo l).drop (p + 1)).map (tk l)) := by
    rw [← List.map_cons, ← List.map_append, ← List.drop_eq_getElem_cons (by omega), List.take_append_drop]
  rw [e, List.cons_append]
  exact List.perm_middle.symm
theorem before {l : List Task} (hs : SetOk l) {p : Nat} (hp : p < l.length) : ∀ g ∈ ((dmo l).take p).map (tk l), g ∈ l ∧ g.f1 ≤ (tk l (rd (dmo l) p)).f1 := by
  have hl := dmo_len hs
  intro g hg
  obtain ⟨x, hx, rfl⟩ := List.mem_map.1 hg
  obtain ⟨q, hq, rfl⟩ := List.mem_iff_getElem.1 hx
  rw [List.length_take] at hq
  rw [List.getElem_take]
  have h1 := ids_mem _ ((dmo_ok hs).1.mem_iff.1 (List.getElem_mem (show q < (dmo l).length by omega)))
  refine ⟨tk_mem h1.1 h1.2, ?_⟩
  have := (dmo_ok hs).2 q p (by omega) hp
  rwa [rd_at _ q (by omega)] at this
theorem pr_mono {l : List Task} (f g : Task → Int) (h : ∀ a ∈ l, 1 ≤ f a ∧ f a ≤ g a) : pr f l ≤ pr g l := by
  induction l with
  | nil => exact Int.le_refl _
  | cons a l ih =>
    have h1 := h a (List.mem_cons_self ..)
    have h2 := ih (fun x hx => h x (List.mem_cons_of_mem _ hx))
    have h3 := pr_pos f l (fun x hx => (h x (List.mem_cons_of_mem _ hx)).1)
    rw [pr, pr]
    exact Int.mul_le_mul h1.2 h2 (by omega) (by omega)
/-- A part of a set within the bound is within it. -/
theorem part_le {a b : List Task} (hv : AllV (a ++ b)) (h : pA (a ++ b) ≤ 2 * pB (a ++ b)) : pA a ≤ 2 * pB a := by
  unfold pA pB at *
  rw [pr_append, pr_append] at h
  have hb : ∀ x ∈ b, 1 ≤ x.f2 ∧ x.f2 ≤ x.f0 + x.f2 := fun x hx => by
    have := hv x (List.mem_append_right _ hx)
    unfold TVt TV at this
    omega
  have ha := pr_pos (fun x : Task => x.f2) a (fun x hx => by
    have := hv x (List.mem_append_left _ hx)
    unfold TVt TV at this
    omega)
  have h1 := pr_mono (fun x => x.f2) (fun x => x.f0 + x.f2) hb
  have h2 := pr_pos (fun x : Task => x.f0 + x.f2) b (fun x hx => by have := hb x hx; omega)
  generalize pr (fun x : Task => x.f0 + x.f2) a = X at *
  generalize pr (fun x : Task => x.f2) a = Y at *
  generalize pr (fun x : Task => x.f0 + x.f2) b = RA at *
  generalize pr (fun x : Task => x.f2) b = RB at *
  have k1 : Y * RB ≤ Y * RA := Int.mul_le_mul_of_nonneg_left h1 (by omega)
  have k2 : X * RA ≤ (2 * Y) * RA := by rw [Int.mul_assoc]; omega
  exact Int.le_of_mul_le_mul_right k2 (by omega)
theorem hb_ff {l : List Task} (h : HB l) : FF l (dmo l) := by
  have hs := h.1.1
  have hl := dmo_len hs
  refine ⟨dmo_ov hs, fun p hp => ?_⟩
  have hp' : p < l.length := by omega
  have hx := at_mem hs hp'
  have hxv := hs.2 _ hx
  have hxi := h.1.2 _ hx
  have hpt := parted hs hp'
  have hbef := before hs hp'
  unfold TVt TV at hxv
  have hv : AllV ((tk l (rd (dmo l) p) :: ((dmo l).take p).map (tk l)) ++ ((dmo l).drop (p + 1)).map (tk l)) := fun t ht => hs.2 _ (hpt.mem_iff.1 ht)
  have hle := part_le hv (by
    unfold pA pB
    rw [pr_perm _ hpt, pr_perm _ hpt]
    exact h.2)
  unfold pA pB at hle
  rw [pr, pr] at hle
  unfold Fits
  rw [hxi]
  exact hyper_fit (above_ok hs p) (by omega) (by omega) (fun g hg => by
    have h1 := hbef g hg
    have h2 := h.1.2 g h1.1
    omega) hle
theorem hb_without {l : List Task} (h : HB l) (i : Nat) (hi : i < l.length) : HB (l.take i ++ l.drop (i + 1)) := by
  have hp : ((l.take i ++ l.drop (i + 1)) ++ [l[i]]).Perm l := by
    have e : l.take i ++ l[i] :: l.drop (i + 1) = l := by rw [← List.drop_eq_getElem_cons hi, List.take_append_drop]
    have h1 : (l.take i ++ l[i] :: l.drop (i + 1)).Perm ((l.take i ++ l.drop (i + 1)) ++ [l[i]]) := List.perm_middle.trans (List.perm_append_singleton _ _).symm
    rw [e] at h1
    exact h1.symm
  have hm : ∀ t ∈ l.take i ++ l.drop (i + 1), t ∈ l := fun t ht => by
    rcases List.mem_append.1 ht with ht | ht
    · exact List.mem_of_mem_take ht
    · exact List.mem_of_mem_drop ht
  refine ⟨⟨⟨?_, fun t ht => h.1.1.2 t (hm t ht)⟩, fun t ht => h.1.2 t (hm t ht)⟩, part_le (b := [l[i]]) (fun t ht => h.1.1.2 t (hp.mem_iff.1 ht)) ?_⟩
  · have := h.1.1.1
    rw [List.length_append, List.length_take, List.length_drop]; omega
  · unfold pA pB
    rw [pr_perm _ hp, pr_perm _ hp]
    exact h.2
end Go.Proofs.Ytgcjadhmkhpbnaa.Hh
/- The hyperbolic bound is sufficient for rate-monotonic priorities. No condition. -/
namespace Go.Proofs.Ytgcjadhmkhpbnaa.Pure
open Go.RowKit Go.Proofs.Ytgcjadhmkhpbnaa.P Go.Proofs.Ytgcjadhmkhpbnaa.Base Go.Proofs.Ytgcjadhmkhpbnaa.Gen Go.Proofs.YtgcjadhmkhpbnaaW.PrintWords Go.Proofs.YtgcjadhmkhpbnaaW.PrintLast
open Go.Proofs.Ytgcjadhmkhpbnaa.Pb Go.Proofs.Ytgcjadhmkhpbnaa.Alive Go.Proofs.Ytgcjadhmkhpbnaa.Set Go.Proofs.Ytgcjadhmkhpbnaa.DrSet Go.Proofs.Ytgcjadhmkhpbnaa.Harm Go.Proofs.Ytgcjadhmkhpbnaa.Fix Go.Proofs.Ytgcjadhmkhpbnaa.Hh 

theorem draw (l0 : List Int) (hl : ∀ x ∈ l0, (Lit.int .u8 x).wf = true) : Tot (fun k => spec_DrawHyperbolicBound.f k l0) (fun r => r.length ≤ 20) := by
  unfold spec_DrawHyperbolicBound.f
  refine open_tot l0 hl (fun s hs => ?_)
  refine Tot.bind (P := fun r => r.1.length ≤ 20) ?_ (fun r h => Tot.ret _ h)
  unfold spec_l20Implicit.f
  refine Tot.bind (set_tot s 0 12 hs (by omega) (by omega)) ?_
  rintro ⟨x, q⟩ ⟨h1, h2, h3⟩
  simp only at h1 h2 h3 ⊢
  refine Tot.bind (odd_tot s q 12 hs (by omega) (by omega)) ?_
  rintro ⟨a, q2⟩ ⟨h4, h5⟩
  simp only at h4 h5 ⊢
  refine Tot.ite (fun _ => Tot.ret _ h1) (fun _ => ?_)
  have loop : ∀ (d i : Nat) (y : List Set.Task), i + d = y.length → y.length ≤ 20 → Tot (fun k => spec_l20Implicit.l0 k y (i : Int) s q2) (fun r => r.1.length ≤ 20) := by
    intro d
    induction d with
    | zero =>
      intro i y hi hy
      exact Tot.step (fun k => by rw [spec_l20Implicit.l0]) (Tot.no (by omega) (Tot.ret _ hy))
    | succ d ih =>
      intro i y hi hy
      refine Tot.step (fun k => by rw [spec_l20Implicit.l0]) (Tot.yes (by omega) (Tot.yes (by omega) ?_))
      rw [w64 (by omega) (by omega)]
      exact ih (i + 1) _ (by rw [List.length_set]; omega) (by rw [List.length_set]; exact hy)
  exact loop x.length 0 x (by omega) h1
theorem without_f (l : List Set.Task) (i : Nat) (hi : i < l.length) (hl : l.length ≤ 1000) : laws_without.f l (i : Int) = some (l.take i ++ l.drop (i + 1)) := by
  have e : wrap64 ((i : Int) + 1) = ((i + 1 : Nat) : Int) := by rw [w64 (by omega) (by omega)]; rfl
  unfold laws_without.f
  rw [Option.bind_some, if_pos (by omega), if_pos (by omega), Int.toNat_natCast, Option.bind_some, if_pos (by rw [List.length_nil, List.length_take]; omega), Option.bind_some, e, if_pos (by omega), if_pos (by omega), Int.toNat_natCast, Option.bind_some, if_pos (by rw [List.nil_append, List.length_take, List.length_drop]; omega), List.nil_append]
theorem FnHyperbolic : laws_FnHyperbolic.Pure := by
  intro l0 _ hl
  apply Tot.rounds
  unfold laws_FnHyperbolic.f
  refine Tot.ite (fun _ => Tot.ret _ rfl) (fun _ => ?_)
  refine Tot.bind (draw l0 hl.2) ?_
  intro l hlen
  refine Tot.bind (Tot.val (impl_hb l)) ?_
  rintro _ rfl
  refine Tot.bind (Tot.val (spec_hb l (by omega))) ?_
  rintro _ rfl
  refine Tot.no (by simp) (Tot.ite (fun h => ?_) (fun _ => Tot.bind0 alive_f (Tot.ret _ rfl)))
  have h := of_decide_eq_true h
  have loop : ∀ d i, i + d = l.length → Tot (fun k => laws_FnHyperbolic.l0 k l (i : Int)) (fun r => r = true) := by
    intro d
    induction d with
    | zero =>
      intro i hi
      refine Tot.step (fun k => by rw [laws_FnHyperbolic.l0]) (Tot.no (by omega) ?_)
      refine Tot.bind (Tot.val (dm_ev l)) ?_
      rintro _ rfl
      have hdl := dmo_len h.1.1
      refine Tot.bind (fixed_tot l (dmo l) (by omega) (by omega)) ?_
      rintro _ rfl
      exact Tot.ret _ (decide_eq_true (hb_ff h))
    | succ d ih =>
      intro i hi
      refine Tot.step (fun k => by rw [laws_FnHyperbolic.l0]) (Tot.yes (by omega) ?_)
      refine Tot.bind0 (without_f l i (by omega) (by omega)) ?_
      refine Tot.bind (Tot.val (impl_hb _)) ?_
      rintro _ rfl
      rw [w64 (by omega) (by omega)]
      exact Tot.yes (decide_eq_true (hb_without h i (by omega))) (ih (i + 1) (by omega))
  exact loop l.length 0 (by omega)
end Go.Proofs.Ytgcjadhmkhpbnaa.Pure
/- Arguments of a law laid open: whatever reads as data of a type reads as a value of its kind.
   No condition. -/
namespace Go.Proofs.Ytgcjadhmkhpbnaa.Opn
open Go.ChangeShapes Go.WideShapes Go.Deep Go.RowKit Go.Proofs.YtgcjadhmkhpbnaaW.PrintWords
section
variable {H : Type} {enc : TypeId × Value → H} {P : Program} {W : World} {base : Nat} {spare : Nat → Bool} {held : Bool}

/-- Whatever reads as data of type t reads as a value of the kind d that is good. -/
def Opens {α : Type} (enc : TypeId × Value → H) (P : Program) (W : World) (base : Nat) (spare : Nat → Bool) (held : Bool) (t : TypeId) (d : Kd α) (G : α → Prop) : Prop :=
  ∀ (fuel : Nat) (cs : List Value) (x : DataW H × List MemPlace), DataW.trod enc P W base spare held fuel t cs = some x → ∃ a, d.K W a cs ∧ G a

theorem opens_int {t : TypeId} {k : IntKind} (hu : P.underlying t = some (.int k)) : Opens enc P W base spare held t (Kd.int k) (fun x => (Lit.int k x).wf = true) := by
  intro fuel cs x h
  obtain ⟨n, hc, _, hw⟩ := DataW.trod_int hu h
  exact ⟨n, hc, hw⟩
theorem list_of {α : Type} (m : Nat) (R : Nat → α → Prop) (h : ∀ i, i < m → ∃ a, R i a) : ∃ xs : List α, xs.length = m ∧ ∀ i a, xs[i]? = some a → R i a := by
  induction m with
  | zero => exact ⟨[], rfl, fun i a ha => by simp at ha⟩
  | succ m ih =>
    obtain ⟨xs, hl, hx⟩ := ih (fun i hi => h i (by omega))
    obtain ⟨a, ha⟩ := h m (by omega)
    refine ⟨xs ++ [a], by simp [hl], fun i b hb => ?_⟩
    rcases Nat.lt_or_ge i m with hi | hi
    · rw [List.getElem?_append_left (by omega)] at hb
      exact hx i b hb
    · have hi' : i = m := by
        have := (List.getElem?_eq_some_iff.1 hb).1
        simp at this
        omega
      subst hi'
      have : a = b := by simpa [hl] using hb
      subst this
      exact ha

/-- A slice of what opens. -/
theorem slice_row {α : Type} {t e : TypeId} {d : Kd α} {G : α → Prop} (hu : P.underlying t = some (.slice e)) (hC : P.cellsOf e = d.sz) (he : Opens enc P W base spare held e d G)
    {fuel : Nat} {A : Option Addr} {n cap : Nat} {x : DataW H × List MemPlace} (h : DataW.trod enc P W base spare held fuel t [.slice A n cap] = some x) :
    ∃ xs : List α, xs.length = n ∧ n ≤ cap ∧ n ≤ maxLen ∧ d.C W A xs.length xs ∧ ∀ y ∈ xs, G y := by
  rcases open_slice hu h with ⟨h0, _⟩ | ⟨a, len, c, m, k, D, Pl, hcs, _, hl, hm, hmm, _, hel⟩
  · simp only [List.cons.injEq, Value.slice.injEq, and_true] at h0
    obtain ⟨rfl, rfl, rfl⟩ := h0
    exact ⟨[], rfl, Nat.le_refl _, by simp [maxLen], Kd.C_nil d W, fun y hy => by simp at hy⟩
  · simp only [List.cons.injEq, Value.slice.injEq, and_true] at hcs
    obtain ⟨rfl, rfl, rfl⟩ := hcs
    have hle : n ≤ m := by rw [hmm]; split <;> omega
    obtain ⟨xs, hxl, hx⟩ := list_of (α := α) n (fun i y => G y ∧ ∃ cs', d.K W y cs' ∧ cs'.length = d.sz ∧ ∀ j, j < d.sz → W.cell? ((a.add (i * d.sz)).add j) = cs'[j]?) (by
      intro i hi
      obtain ⟨cs', hc, ht⟩ := hel i (by omega)
      obtain ⟨y, hK, hG⟩ := he _ _ _ ht
      rw [hC] at hc
      obtain ⟨_, hcl, hcc⟩ := World.cells?_some hc
      exact ⟨y, hG, cs', hK, hcl, hcc⟩)
    refine ⟨xs, hxl, hl, by omega, ⟨rfl, by simp only [maxLen] at hm; omega, fun hp => ⟨a, rfl, fun j p hj => ?_⟩⟩, fun y hy => ?_⟩
    · obtain ⟨_, cs', hK, hcl, hcc⟩ := hx j p hj
      refine ⟨cs', hcl, hK, fun i u hi => ?_⟩
      have hlt : i < d.sz := by
        have := (List.getElem?_eq_some_iff.1 hi).1
        omega
      rw [← Go.Deep.add_add, hcc i hlt, hi]
    · obtain ⟨i, hi, rfl⟩ := List.getElem_of_mem hy
      exact (hx i _ (List.getElem?_eq_getElem hi)).1
/-- The weight of a slice bounds its length. -/
theorem sized_row {t e : TypeId} {A : Option Addr} {n cap : Nat} {d : DataW H} {ps : List MemPlace} {ts : List TypeId} {ds : List (DataW H)} {j : Nat}
    (hsz : (DataW.weightsEach P ts ds).all (· ≤ reachBytes) = true) (ht : ts[j]? = some t) (hd : ds[j]? = some d) (hu : P.underlying t = some (.slice e)) {B : Nat} (hB : P.bytesOf e = B)
    (h : DataW.Trod enc P W base spare held t (.slice A n cap) d ps) : n * B ≤ 140737488351232 := by
  obtain ⟨fuel, hf⟩ := h
  have hf' : DataW.trod enc P W base spare held fuel t [.slice A n cap] = some (d, ps) := hf
  rcases open_slice hu hf' with ⟨h0, _⟩ | ⟨a, len, c, m, k, D, Pl, hcs, _, hl, hm, hmm, hx, hel⟩
  · simp only [List.cons.injEq, Value.slice.injEq, and_true] at h0
    obtain ⟨rfl, rfl, rfl⟩ := h0
    simp
  · simp only [List.cons.injEq, Value.slice.injEq, and_true] at hcs
    obtain ⟨rfl, rfl, rfl⟩ := hcs
    obtain ⟨hx, _⟩ := Prod.mk.inj hx
    subst hx
    have z := sized_slice hsz ht hd hu
    rw [hB] at z
    simp only [List.length_map, List.length_range] at z
    exact Nat.le_trans (Nat.mul_le_mul_right _ (by omega)) z
end
end Go.Proofs.Ytgcjadhmkhpbnaa.Opn
/- The head of the translation: a cut, with nothing lifted. No condition. -/
namespace Go.Proofs.Ytgcjadhmkhpbnaa.Head
open Go
def chars (l : List Nat) : List Char := l.map Char.ofNat
def w1 : List Nat := [104, 97, 114, 110, 101, 115, 115]
def w2 : List Nat := [54, 102, 101, 50, 53, 100, 57, 100, 52, 50, 55, 97, 97, 101, 99, 51, 100, 53, 100, 51, 97, 48, 97, 53, 53, 52, 57, 48, 98, 99, 48, 53, 50, 56, 49, 100, 53, 54, 98, 98, 54, 50, 100, 99, 53, 98, 50, 50, 56, 49, 50, 49, 49, 102, 98, 52, 52, 53, 101, 55, 98, 54, 51, 54]
def w3 : List Nat := [99, 117, 116]
def w4 : List Nat := [97, 116, 32, 108, 111, 111, 112, 46, 101, 120, 97, 109, 112, 108, 101, 47, 100, 101, 97, 100, 108, 105, 110, 101, 115, 99, 104, 101, 100, 117, 108, 101, 114, 47, 108, 97, 119, 115, 46, 70, 110, 69, 120, 97, 99, 116, 72, 97, 114, 109, 111, 110, 105, 99, 32, 108, 111, 111, 112, 46, 101, 120, 97, 109, 112, 108, 101, 47, 100, 101, 97, 100, 108, 105, 110, 101, 115, 99, 104, 101, 100, 117, 108, 101, 114, 47, 108, 97, 119, 115, 46, 70, 110, 69, 120, 97, 99, 116, 72, 121, 112, 101, 114, 98, 111, 108, 105, 99, 66, 111, 117, 110, 100, 32, 108, 111, 111, 112, 46, 101, 120, 97, 109, 112, 108, 101, 47, 100, 101, 97, 100, 108, 105, 110, 101, 115, 99, 104, 101, 100, 117, 108, 101, 114, 47, 108, 97, 119, 115, 46, 70, 110, 69, 120, 97, 99, 116, 66, 108, 111, 99, 107, 105, 110, 103, 84, 105, 109, 101, 32, 108, 111, 111, 112, 46, 101, 120, 97, 109, 112, 108, 101, 47, 100, 101, 97, 100, 108, 105, 110, 101, 115, 99, 104, 101, 100, 117, 108, 101, 114, 47, 108, 97, 119, 115, 46, 70, 110, 66, 108, 111, 99, 107, 105, 110, 103, 84, 105, 109, 101, 32, 108, 111, 111, 112, 46, 101, 120, 97, 109, 112, 108, 101, 47, 100, 101, 97, 100, 108, 105, 110, 101, 115, 99, 104, 101, 100, 117, 108, 101, 114, 47, 108, 97, 119, 115, 46, 70, 110, 69, 120, 97, 99, 116, 78, 111, 110, 80, 114, 101, 101, 109, 112, 116, 105, 118, 101, 70, 101, 97, 115, 105, 98, 108, 101, 32, 108, 111, 111, 112, 46, 101, 120, 97, 109, 112, 108, 101, 47, 100, 101, 97, 100, 108, 105, 110, 101, 115, 99, 104, 101, 100, 117, 108, 101, 114, 47, 108, 97, 119, 115, 46, 70, 110, 69, 120, 97, 99, 116, 83, 117, 112, 112, 108, 121, 70, 101, 97, 115, 105, 98, 108, 101, 32, 108, 111, 111, 112, 46, 101, 120, 97, 109, 112, 108, 101, 47, 100, 101, 97, 100, 108, 105, 110, 101, 115, 99, 104, 101, 100, 117, 108, 101, 114, 47, 108, 97, 119, 115, 46, 70, 110, 69, 120, 97, 99, 116, 77, 105, 110, 66, 117, 100, 103, 101, 116, 32, 108, 111, 111, 112, 46, 101, 120, 97, 109, 112, 108, 101, 47, 100, 101, 97, 100, 108, 105, 110, 101, 115, 99, 104, 101, 100, 117, 108, 101, 114, 47, 108, 97, 119, 115, 46, 70, 110, 83, 117, 112, 112, 108, 121, 70, 101, 97, 115, 105, 98, 108, 101, 32, 108, 111, 111, 112, 46, 101, 120, 97, 109, 112, 108, 101, 47, 100, 101, 97, 100, 108, 105, 110, 101, 115, 99, 104, 101, 100, 117, 108, 101, 114, 47, 108, 97, 119, 115, 46, 70, 110, 77, 105, 110, 66, 117, 100, 103, 101, 116, 32, 108, 111, 111, 112, 46, 101, 120, 97, 109, 112, 108, 101, 47, 100, 101, 97, 100, 108, 105, 110, 101, 115, 99, 104, 101, 100, 117, 108, 101, 114, 47, 108, 97, 119, 115, 46, 70, 110, 72, 121, 112, 101, 114, 98, 111, 108, 105, 99, 32, 108, 111, 111, 112, 46, 101, 120, 97, 109, 112, 108, 101, 47, 100, 101, 97, 100, 108, 105, 110, 101, 115, 99, 104, 101, 100, 117, 108, 101, 114, 47, 108, 97, 119, 115, 46, 70, 110, 72, 97, 114, 109, 111, 110, 105, 99, 32, 108, 111, 111, 112, 46, 101, 120, 97, 109, 112, 108, 101, 47, 100, 101, 97, 100, 108, 105, 110, 101, 115, 99, 104, 101, 100, 117, 108, 101, 114, 47, 108, 97, 119, 115, 46, 70, 110, 82, 97, 116, 101, 76, 111, 115, 101, 115]
theorem io_eq : Try.prog.initOrder = String.ofList (chars (w1 ++ 32 :: (w2 ++ 32 :: (w3 ++ 32 :: w4)))) := by kernel_rfl
theorem io_list : Try.prog.initOrder.toList = chars (w1 ++ 32 :: (w2 ++ 32 :: (w3 ++ 32 :: w4))) := by rw [io_eq, String.toList_ofList]
theorem ws_one (c : Char) (r w : List Char) (ws : List (List Char)) (hc : c ≠ Char.ofNat 32) (h : wordsSigns r = w :: ws) : wordsSigns (c :: r) = (c :: w) :: ws := by
  have e : wordsSigns (c :: r) = match wordsSigns r with
    | w :: ws => (c :: w) :: ws
    | [] => [[c]] := by
    rw [wordsSigns]
    · rfl
    · exact hc
  rw [e, h]
theorem ws_word (w : List Char) (h : ∀ c ∈ w, c ≠ Char.ofNat 32) (r : List Char) : wordsSigns (w ++ Char.ofNat 32 :: r) = w :: wordsSigns r := by
  induction w with
  | nil => rfl
  | cons c w ih => exact ws_one _ _ _ _ (h c (by simp)) (ih (fun x hx => h x (by simp [hx])))
theorem ws_nat (w r : List Nat) (h : w.all (fun n => !(Char.ofNat n == Char.ofNat 32)) = true) : wordsSigns (chars (w ++ 32 :: r)) = chars w :: wordsSigns (chars r) := by
  have e : chars (w ++ 32 :: r) = chars w ++ Char.ofNat 32 :: chars r := by simp [chars]
  rw [e]
  refine ws_word _ (fun c hc => ?_) _
  obtain ⟨n, hn, rfl⟩ := List.mem_map.1 hc
  have := List.all_eq_true.1 h n hn
  simpa using this
theorem io_words : behindMainWord (wordsSigns Try.prog.initOrder.toList) = chars w3 :: wordsSigns (chars w4) := by
  rw [io_list, ws_nat _ _ (by kernel_rfl), ws_nat _ _ (by kernel_rfl), ws_nat _ _ (by kernel_rfl)]
  generalize wordsSigns (chars w4) = R
  kernel_rfl
theorem make_gen (P : Program) (c : List Char) (R : List (List Char)) (h : behindMainWord (wordsSigns P.initOrder.toList) = c :: R) (h1 : (c == "gc".toList || c == "spec".toList) = false) (h2 : (c == "cut".toList) = true) : P.make = some .cut := by
  unfold Program.make
  rw [h]
  simp only [h1, h2, Bool.true_or, if_true, Bool.false_eq_true, if_false]
theorem make : Try.prog.make = some .cut := make_gen _ _ _ io_words (by kernel_rfl) (by kernel_rfl)
theorem enter_gen (P : Program) (c : List Char) (R : List (List Char)) (h : behindMainWord (wordsSigns P.initOrder.toList) = c :: R) (h1 : ∀ R, stripLifts liftWords (c :: R) = ([], c :: R)) (h2 : (some c == some "cut".toList) = true)
    (h3 : P.laysLater = false) (h4 : P.bearsReflect = false) (h5 : P.doorFits [] = true) : P.mayEnter = true := by
  unfold Program.mayEnter
  rw [h]
  simp only [h1, h2, h3, h4, h5, List.head?_cons, Bool.not_false, Bool.or_true, Bool.and_true, List.contains_nil]
theorem enter : Try.prog.mayEnter = true := enter_gen _ _ _ io_words (fun R => by kernel_rfl) (by kernel_rfl) (by kernel_rfl) (by kernel_rfl) (by kernel_rfl)
theorem lifts : Try.prog.liftsFinal = false := by
  unfold Program.liftsFinal Program.headLifts
  simp only [io_words]
  generalize wordsSigns (chars w4) = R
  kernel_rfl
end Go.Proofs.Ytgcjadhmkhpbnaa.Head
/- The law FnHyperbolic, proved: for every input the call returns true and each argument reads as it did. No condition. -/
namespace Go.Proofs.Ytgcjadhmkhpbnaa.fnHyperbolic
open Go.ChangeShapes Go.WideShapes Go.ChangeAt Go.RowKit Go.Proofs.YtgcjadhmkhpbnaaW.PrintWords Go.Proofs.Ytgcjadhmkhpbnaa.P
open Go.ChangeMaps (open_string shut_string)
theorem own : ownKnob Try.prog.godebug = none := by kernel_rfl
theorem laidOut : laidOutB Try.prog = true := by kernel_rfl
set_option maxRecDepth 100000 in
theorem lifted (os : Os) (started : os.Started) (H : Type) (enc : TypeId × Value → H) :
    ReturnsInHanded {} Try.checked os 12 .any (Rows.fnHyperbolicSpec.pre6 enc Try.prog Try.f12 Rows.fnHyperbolicRow.domain false) (Rows.fnHyperbolicSpec.post enc Try.prog Try.f12 false true false false) := by
  refine returnsInHanded_of_change_sized (C := Try.checked) own started (by kernel_rfl) Try.func12
    (ChangeSpec.witness6 (enc := enc) (C := Try.checked) false ⟨#[], #[.slice none 0 0], []⟩ 8 (by kernel_rfl) (by kernel_rfl) (by kernel_rfl) (by kernel_rfl)) ?_
  intro W base args ds gs before hval0 hW hcnd hsz0 _
  have hsz : (DataW.weightsEach Try.prog (Try.f12.params.toList ++ Rows.fnHyperbolicSpec.plain.varTypes Try.prog) (ds ++ gs)).all (· ≤ reachBytes) = true := hsz0
  have hval : ∀ (j : Nat) t v, Try.f12.params[j]? = some t → args[j]? = some v → Value.okWide Try.prog W .any base t v := hval0
  have hW' := hW
  obtain ⟨p, q, hA0, hV, rfl, hfz, hnd⟩ := hW
  have hA : DataW.TrodAll enc Try.prog W 0 (fun _ => true) true Try.f12.params.toList args.toList ds p := hA0
  rw [Try.params12] at hA hval hsz
  obtain ⟨v0, vs0, d0, ds0, p0, q0, hargs, rfl, rfl, h0, r0⟩ := trodAll_cons hA
  obtain ⟨rfl, rfl, rfl⟩ := trodAll_nil r0
  obtain rfl : args = #[v0] := by cases args; simp_all
  obtain ⟨rfl, rfl⟩ := trodVars_none hV
  have k0 := h0
  have lt0 : ∀ x ∈ p0, x.block < W.heap.size := by obtain ⟨m, hm⟩ := k0; exact DataW.trod_lt m _ _ _ hm
  obtain ⟨A0, n0, c0, rfl⟩ := okWide_slice Try.underlying34 (hval 0 34 v0 rfl rfl)
  have y0 : n0 * 1 ≤ 140737488351232 := Opn.sized_row hsz (j := 0) (t := 34) rfl rfl Try.underlying34 (by kernel_rfl) h0
  obtain ⟨l0, rfl, hc0, hm0, hr0, hg0⟩ : ∃ xs : List (Int), xs.length = n0 ∧ n0 ≤ c0 ∧ n0 ≤ maxLen ∧ Kd.C (Kd.int .u8) W A0 xs.length xs ∧ ∀ y0 ∈ xs, (Lit.int .u8 y0).wf = true := by
    obtain ⟨fuel, hf⟩ := h0
    exact Opn.slice_row Try.underlying34 (by kernel_rfl) (Opn.opens_int Try.underlying5) hf
  obtain ⟨k, hk⟩ := Pure.FnHyperbolic l0 y0 ⟨hm0, hg0⟩
  clear hA0 hval0 hsz0 hsz
  refine (laws_FnHyperbolic.calls k A0 c0 l0 true W hr0 hc0 hk).mono fun e W' ⟨he, hd⟩ => ?_
  have bel := hd
  subst he
  exact ⟨_, rfl, _, _, _, [], _, [], hW', trodAll_mk1 (shut_bool Try.underlying4 _), (trodAll_cons_mk (Below.trod laidOut (by kernel_rfl) (of_decide_eq_true (by kernel_rfl)) k0 bel lt0) trodAll_mk0), rfl, bel.frame _, fun h => by cases h⟩
theorem closed : joinedFacts Try.prog 12 Try.f12 Rows.fnHyperbolicSpec Rows.fnHyperbolicRow = true := by
  simp only [joinedFacts, Head.enter, Head.lifts, Head.make]
  kernel_rfl
theorem named : Try.prog.funcNamed Rows.fnHyperbolicRow.func = some 12 := by kernel_rfl
theorem wrapped : Try.f12.isWrapper Try.prog Rows.fnHyperbolicRow.wrapper Rows.fnHyperbolicRow.mainSum := by unfold Func.isWrapper; first | (rw [if_pos (by decide +kernel)]; kernel_rfl) | (rw [if_neg (by decide +kernel)]; exact ⟨rfl, rfl⟩)
theorem over : Rows.fnHyperbolicRow.holds Try.pinned (OpenSpec.ofChange Rows.fnHyperbolicSpec) :=
  OpenClaim.holds_of_wide 12 Try.f12 rfl rfl rfl rfl rfl rfl rfl ⟨rfl, rfl, rfl, rfl, rfl⟩ rfl rfl rfl rfl rfl named Try.func12 closed
    (of_decide_eq_true (by kernel_rfl)) wrapped
    (fun os started H enc _ => lifted os started H enc)
theorem proved : Rows.FnHyperbolicSaid := over
#print axioms proved
end Go.Proofs.Ytgcjadhmkhpbnaa.fnHyperbolic
namespace Go.Proofs.Ytgcjadhmkhpbnaa
/-- The row, under a short name, for the claim. -/
theorem fnHyperbolic_holds : Rows.FnHyperbolicSaid := fnHyperbolic.proved
end Go.Proofs.Ytgcjadhmkhpbnaa
