/- The law FnFairFull for every input, part 7 of its proof: what the program's functions answer, and the plain law. No condition. -/
import Derived.Test.YtnilnaabjpcfjaaMFnFairFull1
import Derived.Test.YtnilnaabjpcfjaaMFnFairFull2
import Derived.Test.YtnilnaabjpcfjaaMFnFairFull3
import Derived.Test.YtnilnaabjpcfjaaMFnFairFull5
import Derived.Test.YtnilnaabjpcfjaaMFnFairFull6
import Derived.Laws.BitsLemmas
import Derived.SizedLaws
import Derived.ChangeSlices
import Derived.ChangeArms
import Derived.WideShapes
import Derived.Deep.Slices
import Derived.OpenShut
import Derived.Test.YtnilnaabjpcfjaaRows
import Derived.JoinedOf
import Derived.KernelRfl
import Derived.WalkKit
import Derived.ProofKit
import Derived.ShutString
import Derived.ChangeOld
import Derived.Below
set_option maxRecDepth 100000
namespace Go.Proofs.Ytnilnaabjpcfjaa.Fair
open Go.RowKit Go.Proofs.Ytnilnaabjpcfjaa.P Go.Proofs.Ytnilnaabjpcfjaa.Base Go.Proofs.Ytnilnaabjpcfjaa.Gen Go.Proofs.Ytnilnaabjpcfjaa.Alive Go.Proofs.Ytnilnaabjpcfjaa.Win Go.Proofs.Ytnilnaabjpcfjaa.Set Go.Proofs.Ytnilnaabjpcfjaa.Isort Go.Proofs.YtnilnaabjpcfjaaW.PrintWords Go.Proofs.YtnilnaabjpcfjaaW.PrintLast
set_option linter.unusedVariables false
theorem zg9 (nx r : List Int) (i : Int) : fadv nx (r ++ [i]) = (fadv nx r).set i.toNat (wrap64 (rd (fadv nx r) i + 1)) := by
  unfold fadv; rw [List.foldl_append]; rfl
theorem zka (nx : List Int) (n : Nat) (hn : nx.length = n) (B : Int) (hB : B ≤ 1000000) (hb : ∀ i : Nat, i < n → 0 ≤ rd nx (i : Int) ∧ rd nx (i : Int) ≤ B) : ∀ d : Nat, ∀ r : List Int, r.length = d → (∀ x ∈ r, 0 ≤ x ∧ x < (n : Int)) → r.Nodup →
    ∀ i : Nat, i < n → rd (fadv nx r) (i : Int) = rd nx (i : Int) + (if (i : Int) ∈ r then 1 else 0) := by
  intro d
  induction d with
  | zero =>
    intro r hr _ _ i _
    obtain rfl := List.eq_nil_of_length_eq_zero hr
    simp [fadv]
  | succ d ih =>
    intro r hr hx hnd i hi
    have hne : r ≠ [] := fun h => by subst h; cases hr
    obtain ⟨r0, a, rfl⟩ : ∃ r0 a, r = r0 ++ [a] := ⟨r.dropLast, r.getLast hne, (List.dropLast_concat_getLast hne).symm⟩
    rw [List.length_append, List.length_singleton] at hr
    have hnd' := List.nodup_append.1 hnd
    have h1 := ih r0 (by omega) (fun x h => hx x (List.mem_append_left _ h)) hnd'.1
    obtain ⟨ha0, ha1⟩ := hx a (by simp)
    obtain ⟨A, rfl⟩ := Int.eq_ofNat_of_zero_le ha0
    have hA : A < n := by omega
    have har : ((A : Nat) : Int) ∉ r0 := fun h => hnd'.2.2 _ h _ (by simp) rfl
    rw [zg9, Int.toNat_natCast]
    have h2 := h1 A hA
    rw [if_neg har] at h2
    have h3 := hb A hA
    by_cases e : i = A
    · subst e
      rw [zg5 _ _ _ (by rw [zfd]; omega), h2, w64 (by omega) (by omega)]
      simp
    · rw [zfx _ _ _ _ e, h1 i hi]
      have : ((i : Nat) : Int) ≠ (A : Int) := by omega
      simp [this]
def nxs (l : List Task) (m : Int) : Nat → List Int
  | 0 => List.replicate l.length 0
  | t + 1 => fadv (nxs l m t) (row l (nxs l m t) (t : Int) m)
def rowt (l : List Task) (m : Int) (t : Nat) : List Int := row l (nxs l m t) (t : Int) m
def rws (l : List Task) (m : Int) (n : Nat) : List (List Int) := (List.range n).map (rowt l m)
def FR (l : List Task) (m : Int) : List (List Int) := if Impl l ∧ 1 ≤ m ∧ m ≤ 5 then rws l m 120 else []
theorem rws_succ (l : List Task) (m : Int) (n : Nat) : rws l m (n + 1) = rws l m n ++ [rowt l m n] := by unfold rws; rw [List.range_succ, List.map_append]; rfl
theorem ze6 (l : List Task) (m : Int) (n : Nat) : (rws l m n).length = n := by unfold rws; simp
theorem zin (n : Nat) (i : Int) : rd (List.replicate n 0) i = 0 := by
  unfold rd
  rw [List.getD_eq_getElem?_getD, List.getElem?_replicate]
  split <;> rfl
section
variable {l : List Task} (hI : Impl l) (m : Int)
include hI in
theorem zha {nx : List Int} {t : Nat} (hS : StOk l nx t) : (row l nx (t : Int) m).Nodup ∧ ∀ x ∈ row l nx (t : Int) m, 0 ≤ x ∧ x < (l.length : Int) ∧ wr (tk l x).f0 (tk l x).f2 (rd nx x) ≤ (t : Int) :=
  ⟨(zg8 hI hS (t : Int)).sublist (List.take_sublist _ _), fun x hx => (zg7 hI hS (t : Int) x).1 (List.mem_of_mem_take hx)⟩
include hI in
theorem zej : ∀ t : Nat, t ≤ 400000 → StOk l (nxs l m t) t
  | 0, _ => ⟨List.length_replicate, fun i _ => by rw [nxs, zin]; omega⟩
  | t + 1, ht => by
    have h := zej t (by omega)
    obtain ⟨h1, h2⟩ := zha hI m h
    refine ⟨by rw [nxs, zfd]; exact h.1, fun i hi => ?_⟩
    have h3 := zka (nxs l m t) l.length h.1 (t : Int) (by omega) h.2 _ _ rfl (fun x hx => ⟨(h2 x hx).1, (h2 x hx).2.1⟩) h1 i hi
    have h4 := h.2 i hi
    rw [nxs, h3]
    split <;> omega
include hI in
theorem zio {t : Nat} (ht : t ≤ 400000) {i : Nat} (hi : i < l.length) : rd (nxs l m (t + 1)) (i : Int) = rd (nxs l m t) (i : Int) + (if (i : Int) ∈ rowt l m t then 1 else 0) := by
  have h := zej hI m t ht
  obtain ⟨h1, h2⟩ := zha hI m h
  exact zka (nxs l m t) l.length h.1 (t : Int) (by omega) h.2 _ _ rfl (fun x hx => ⟨(h2 x hx).1, (h2 x hx).2.1⟩) h1 i hi
theorem set_fill {β : Type} (o : List β) (z v : β) (q : Nat) : (o ++ List.replicate (q + 1) z).set o.length v = (o ++ [v]) ++ List.replicate q z := by
  rw [List.set_append_right _ _ (Nat.le_refl _)]
  simp [List.replicate_succ]
include hI in
theorem run_l0 (hm : 0 ≤ m) : ∀ d now : Nat, now + d = 120 → ∃ K, ∀ k, K ≤ k → zbu.l0 k l m d now (nxs l m now) (rws l m now ++ List.replicate d []) = some (rws l m 120) := by
  intro d
  induction d with
  | zero =>
    intro now h
    obtain rfl : now = 120 := by omega
    exact ⟨0, fun k _ => by rw [zbu.l0]; simp⟩
  | succ d ih =>
    intro now h
    obtain ⟨K1, h1⟩ := row_ev hI (zej hI m now (by omega)) (by omega) (now : Int) m hm
    obtain ⟨K2, h2⟩ := ih (now + 1) (by omega)
    refine ⟨max K1 K2, fun k hk => ?_⟩
    obtain ⟨h3, h4⟩ := h1 k (by omega)
    have h5 := h2 k (by omega)
    rw [zbu.l0, if_pos h3, h4]
    have e : (rws l m now ++ List.replicate (d + 1) []).set now (row l (nxs l m now) (now : Int) m) = rws l m (now + 1) ++ List.replicate d [] := by
      have := set_fill (rws l m now) [] (row l (nxs l m now) (now : Int) m) d
      rw [ze6] at this
      rw [this, rws_succ]; rfl
    rw [e]
    exact h5
end
theorem cores_f (a : Int) : zdc.f a = some (decide (1 ≤ a ∧ a ≤ 5)) := by
  unfold zdc.f
  rw [in_f]
  rfl
theorem run_tot (l : List Task) (m : Int) : Tot (fun k => zbu.f k l m) (fun r => r = FR l m) := by
  unfold zbu.f FR
  refine Tot.zdx (impl_f l) ?_
  by_cases hI : Impl l
  · refine Tot.yes (decide_eq_true hI) (Tot.zdx (cores_f m) ?_)
    by_cases hm : 1 ≤ m ∧ m ≤ 5
    · refine Tot.yes (decide_eq_true hm) (Tot.yes ⟨by have := hI.1.1; omega, fun t ht => by have := hI.1.2 t ht; unfold TVt TV at this; omega, by omega⟩ ?_)
      rw [if_pos ⟨hI, hm⟩]
      obtain ⟨K, hK⟩ := run_l0 hI m (by omega) 120 0 (by omega)
      exact ⟨_, ⟨K, hK⟩, rfl⟩
    · rw [if_neg (fun h => hm h.2)]
      exact Tot.no (fun h => hm (of_decide_eq_true h)) (Tot.ret _ rfl)
  · rw [if_neg (fun h => hI h.1)]
    exact Tot.no (fun h => hI (of_decide_eq_true h)) (Tot.ret _ rfl)
theorem srun_tot (l : List Task) (m : Int) (hl : l.length ≤ 2097152) : Tot (fun k => zu.f k l m) (fun r => r = FR l m) := by
  unfold zu.f
  refine Tot.zdx (a := ([] : List (List Int))) rfl ?_
  have out : ∀ b : Bool, (b = true → ¬ (zeb l ∧ 1 ≤ m ∧ m ≤ 5)) → (b = false → zeb l ∧ 1 ≤ m ∧ m ≤ 5) → Tot (fun k => zu.j0 k l m [] b) (fun r => r = FR l m) := by
    intro b hb1 hb2
    refine Tot.step (fun k => by rw [zu.j0]) (Tot.ite (fun h => Tot.ret _ ?_) (fun h => ?_))
    · unfold FR; rw [if_neg (fun h2 => hb1 h ⟨h2.1.1, h2.2⟩)]
    · obtain ⟨hs, hm⟩ := hb2 (by simpa using h)
      have loop : ∀ d i : Nat, i + d = l.length → (∀ j : Nat, j < i → (tk l (j : Int)).f1 = (tk l (j : Int)).f2) → Tot (fun k => zu.l0 k l m [] (i : Int)) (fun r => r = FR l m) := by
        intro d
        induction d with
        | zero =>
          intro i hi hall
          have hI : Impl l := ⟨hs, fun t ht => by
            obtain ⟨j, hj, rfl⟩ := List.mem_iff_getElem.1 ht
            have := hall j (by omega)
            unfold tk at this
            rw [show zg l (j : Int) = l[j] from zj8 _ l j hj] at this
            exact this⟩
          have hl5 := hs.1
          refine Tot.step (fun k => by rw [zu.l0]) ?_
          refine Tot.no (by omega) (Tot.yes (by omega) ?_)
          refine Tot.yes (by rw [Int.toNat_natCast]; omega) ?_
          rw [Int.toNat_natCast]
          have ticks : ∀ d now : Nat, now + d = 120 → Tot (fun k => zu.l1 k l m (rws l m now) (nxs l m now) (now : Int)) (fun r => r = FR l m) := by
            intro d
            induction d with
            | zero =>
              intro now hn
              obtain rfl : now = 120 := by omega
              refine Tot.step (fun k => by rw [zu.l1]) (Tot.no (by decide) (Tot.ret _ ?_))
              unfold FR; rw [if_pos ⟨hI, hm⟩]
            | succ d ih =>
              intro now hn
              have hS := zej hI m now (by omega)
              refine Tot.step (fun k => by rw [zu.l1]) (Tot.yes (by omega) ?_)
              refine Tot.bind (fpick_tot hI hS (by omega) (now : Int) m) ?_
              rintro _ rfl
              obtain ⟨hr1, hr2⟩ := zha hI m hS
              have adv : ∀ e j : Nat, j + e = (row l (nxs l m now) (now : Int) m).length → Tot (fun k => zu.l2 k l m (rws l m now) (fadv (nxs l m now) ((row l (nxs l m now) (now : Int) m).take j)) (now : Int) (row l (nxs l m now) (now : Int) m) (j : Int)) (fun r => r = FR l m) := by
                intro e
                induction e with
                | zero =>
                  intro j hj
                  refine Tot.step (fun k => by rw [zu.l2]) (Tot.no (by omega) ?_)
                  refine Tot.yes (by rw [ze6]; omega) ?_
                  rw [List.take_of_length_le (by omega), w64 (x := (now : Int) + 1) (by omega) (by omega)]
                  have := ih (now + 1) (by omega)
                  rw [rws_succ] at this
                  exact this
                | succ e ih2 =>
                  intro j hj
                  have hjl : j < (row l (nxs l m now) (now : Int) m).length := by omega
                  have hx := hr2 _ (List.getElem_mem hjl)
                  have hrl : (row l (nxs l m now) (now : Int) m).length ≤ 5 := by
                    have := zim hI hS (now : Int)
                    unfold row
                    rw [List.length_take]; omega
                  refine Tot.step (fun k => by rw [zu.l2]) (Tot.yes (by omega) (Tot.yes (by omega) ?_))
                  rw [zeo _ j hjl, w64 (x := (j : Int) + 1) (by omega) (by omega)]
                  refine Tot.yes hx.1 ?_
                  refine Tot.yes (by rw [zfd, hS.1]; exact hx.2.1) ?_
                  have := ih2 (j + 1) (by omega)
                  rw [List.take_succ_eq_append_getElem hjl, zg9] at this
                  exact this
              have := adv (row l (nxs l m now) (now : Int) m).length 0 (by omega)
              exact this
          exact ticks 120 0 (by omega)
        | succ d ih =>
          intro i hi hall
          refine Tot.step (fun k => by rw [zu.l0]) (Tot.yes (by omega) (Tot.yes (by omega) ?_))
          rw [w64 (x := (i : Int) + 1) (by omega) (by omega)]
          refine Tot.ite (fun h1 => ih (i + 1) (by omega) (fun j hj => ?_)) (fun h1 => Tot.ret _ ?_)
          · by_cases e : j = i
            · subst e; exact h1
            · exact hall j (by omega)
          · unfold FR
            rw [if_neg (fun h2 => h1 (h2.1.2 _ (tk_mem (by omega))))]
      exact loop l.length 0 (by omega) (fun j hj => by omega)
  refine Tot.bind (Tot.val (Tm.sset_ev l hl)) ?_
  rintro _ rfl
  by_cases hs : zeb l
  · refine Tot.yes (decide_eq_true hs) (Tot.zdx (l1In_f _ _ _) ?_)
    refine out _ (fun h => fun h2 => ?_) (fun h => ?_)
    · simp only [Bool.not_eq_true', decide_eq_false_iff_not] at h
      exact h h2.2
    · simp only [Bool.not_eq_false', decide_eq_true_eq] at h
      exact ⟨hs, h⟩
  · exact Tot.no (fun h => hs (of_decide_eq_true h)) (out _ (fun _ h => hs h.1) (fun h => by cases h))
end Go.Proofs.Ytnilnaabjpcfjaa.Fair
namespace Go.Proofs.Ytnilnaabjpcfjaa.Tm
open Go.RowKit Go.Proofs.Ytnilnaabjpcfjaa.P Go.Proofs.Ytnilnaabjpcfjaa.Base Go.Proofs.Ytnilnaabjpcfjaa.Gen Go.Proofs.Ytnilnaabjpcfjaa.Alive Go.Proofs.Ytnilnaabjpcfjaa.Set Go.Proofs.YtnilnaabjpcfjaaW.PrintWords Go.Proofs.YtnilnaabjpcfjaaW.PrintLast
theorem nmod (a b : Nat) : Int.tmod (a : Int) (b : Int) = ((a % b : Nat) : Int) := by
  rw [tmod_pos (by omega)]; omega
theorem ndiv (a b : Nat) : Int.tdiv (a : Int) (b : Int) = ((a / b : Nat) : Int) := by
  rw [zey (by omega)]; omega
theorem gcd_step (a b : Nat) : Nat.gcd b (a % b) = Nat.gcd a b := by
  rw [Nat.gcd_comm b (a % b), ← Nat.gcd_rec, Nat.gcd_comm]
theorem gcd_ev : ∀ (b a : Nat), Ev (fun k => zcx.f k (a : Int) (b : Int)) ((Nat.gcd a b : Nat) : Int) := by
  intro b
  induction b using Nat.strongRecOn with
  | ind b ih =>
    intro a
    rcases Nat.eq_zero_or_pos b with rfl | hb
    · refine Ev.step (f := fun _ => some (a : Int)) (fun k => ?_) ?_
      · unfold zcx.f
        simp only [zcx.l0]
        rw [if_pos (by omega)]
      · rw [Nat.gcd_zero_right]; exact Ev.now _
    · have h := ih (a % b) (Nat.mod_lt _ hb) b
      rw [gcd_step] at h
      refine Ev.step (fun k => ?_) h
      unfold zcx.f
      simp only [zcx.l0]
      rw [if_neg (by omega), nmod]
theorem lcm_val {h p : Nat} (h1 : 1 ≤ h) (h2 : h ≤ 27720) (h3 : Nat.lcm h p ≤ 27720) : ((Nat.gcd h p : Nat) : Int) ≠ 0 ∧ wrap64 (wrap64 (Int.tdiv (h : Int) ((Nat.gcd h p : Nat) : Int)) * (p : Int)) = ((Nat.lcm h p : Nat) : Int) := by
  have hg : 0 < Nat.gcd h p := Nat.gcd_pos_of_pos_left _ h1
  refine ⟨by omega, ?_⟩
  have hd := Nat.div_le_self h (Nat.gcd h p)
  have hl := lcm_div h p h1
  rw [ndiv]
  generalize h / Nat.gcd h p = q at hd hl ⊢
  rw [w64 (x := ((q : Nat) : Int)) (by omega) (by omega), ← Int.natCast_mul, hl, w64 (by omega) (by omega)]
theorem lcm_ev {h p : Nat} (h1 : 1 ≤ h) (h2 : h ≤ 27720) (h3 : Nat.lcm h p ≤ 27720) : Ev (fun k => zex.f k (h : Int) (p : Int)) ((Nat.lcm h p : Nat) : Int) := by
  have hv := lcm_val h1 h2 h3
  unfold zex.f
  refine Ev.bind (gcd_ev p h) ?_
  rw [if_neg hv.1, hv.2]
  exact Ev.now _
theorem pnat {l : List Task} (hl : AllV l) (i : Nat) (h : i < l.length) : l[i].f2 = ((l[i].f2.toNat : Nat) : Int) := by
  have := hl _ (List.getElem_mem h)
  unfold TVt TV at this
  omega
theorem hyper_ev {l : List Task} (hs : zeb l) : Ev (fun k => zb7.f k l) ((hy l : Nat) : Int) := by
  have hl := hs.all
  have hlen := hs.1
  have loop : ∀ d i, i + d = l.length → Ev (fun k => zb7.l0 k ((hy (l.take i) : Nat) : Int) l (l.length : Int) (i : Int)) ((hy l : Nat) : Int) := by
    intro d
    induction d with
    | zero =>
      intro i hi
      refine Ev.step (f := fun _ => some ((hy l : Nat) : Int)) (fun k => ?_) (Ev.now _)
      simp only [zb7.l0]
      rw [if_neg (by omega), List.take_of_length_le (by omega)]
    | succ d ih =>
      intro i hi
      have hil : i < l.length := by omega
      have hb := zjn (hl.take i)
      have hb2 := zjn (hl.take (i + 1))
      rw [hy_take _ _ hil] at hb2
      refine Ev.step (f := fun k => (zex.f k ((hy (l.take i) : Nat) : Int) ((l[i].f2.toNat : Nat) : Int)).bind fun t => zb7.l0 k t l (l.length : Int) ((i : Int) + 1)) (fun k => ?_) ?_
      · simp only [zb7.l0]
        rw [if_pos (by omega), if_pos (by omega), if_pos (by omega), rdT_at l i hil, ← pnat hl i hil, w64 (by omega) (by omega)]
      · refine Ev.bind (lcm_ev hb.1 hb.2 hb2.2) ?_
        rw [← hy_take _ _ hil]
        exact ih (i + 1) (by omega)
  exact loop l.length 0 (by omega)
theorem wk1_bd {l : List Task} (hs : zeb l) : ∀ t ∈ l, 0 ≤ (hy l : Int) / t.f2 ∧ (hy l : Int) / t.f2 ≤ 27720 ∧ 0 ≤ (hy l : Int) / t.f2 * t.f0 ∧ (hy l : Int) / t.f2 * t.f0 ≤ 221760 := by
  intro t ht
  have hb := zjn hs.all
  have := hs.2 t ht
  unfold TVt TV at this
  have h1 := Int.ediv_nonneg (show 0 ≤ (hy l : Int) by omega) (show 0 ≤ t.f2 by omega)
  have h2 := Int.ediv_le_self t.f2 (show 0 ≤ (hy l : Int) by omega)
  have h3 := zgf (a := (hy l : Int) / t.f2) (b := t.f0) (A := 27720) (B := 8) h1 (by omega) (by omega) (by omega)
  omega
theorem load_ev {l : List Task} (hs : zeb l) : Ev (fun k => zcq.f k l) (ld l) := by
  have hl := hs.all
  have hlen := hs.1
  have hb := zjn hl
  have h1 := wk1_bd hs
  have loop : ∀ d i, i + d = l.length → Ev (fun k => zcq.l0 k (hy l : Int) (sm (fun t => (hy l : Int) / t.f2 * t.f0) (l.take i)) l (l.length : Int) (i : Int)) (ld l) := by
    intro d
    induction d with
    | zero =>
      intro i hi
      refine Ev.step (f := fun _ => some (ld l)) (fun k => ?_) (Ev.now _)
      simp only [zcq.l0]
      rw [if_neg (by omega), List.take_of_length_le (by omega)]
      rfl
    | succ d ih =>
      intro i hi
      have hil : i < l.length := by omega
      have hi1 := h1 _ (List.getElem_mem hil)
      have hv := hl _ (List.getElem_mem hil)
      unfold TVt TV at hv
      have ht := take_bd (fun t => (hy l : Int) / t.f2 * t.f0) l 221760 (fun a ha => by have := h1 a ha; exact ⟨this.2.2.1, this.2.2.2⟩) i (by omega)
      have IH := ih (i + 1) (by omega)
      rw [sm_take _ _ _ hil] at IH
      refine Ev.step (fun k => ?_) IH
      simp only [zcq.l0]
      rw [if_pos (by omega), if_pos (by omega), if_pos (by omega), rdT_at l i hil, if_neg (by omega), zey (by omega), w64 (x := (hy l : Int) / l[i].f2) (by omega) (by omega), w64 (x := (hy l : Int) / l[i].f2 * l[i].f0) (by omega) (by omega), w64 (x := (i : Int) + 1) (by omega) (by omega), w64 (by omega) (by omega)]
      rfl
  unfold zcq.f
  exact Ev.bind (hyper_ev hs) (loop l.length 0 (by omega))
end Go.Proofs.Ytnilnaabjpcfjaa.Tm
namespace Go.Proofs.Ytnilnaabjpcfjaa.Fair
open Go.RowKit Go.Proofs.Ytnilnaabjpcfjaa.P Go.Proofs.Ytnilnaabjpcfjaa.Base Go.Proofs.Ytnilnaabjpcfjaa.Gen Go.Proofs.Ytnilnaabjpcfjaa.Alive Go.Proofs.Ytnilnaabjpcfjaa.Set Go.Proofs.Ytnilnaabjpcfjaa.Tm Go.Proofs.YtnilnaabjpcfjaaW.PrintWords Go.Proofs.YtnilnaabjpcfjaaW.PrintLast
set_option linter.unusedVariables false
def UtOk (l : List Task) (r : Int × Int) : Prop := ∃ g : Int, 1 ≤ g ∧ ld l = g * r.1 ∧ (hy l : Int) = g * r.2 ∧ 0 ≤ r.1 ∧ r.1 ≤ 1108800 ∧ 1 ≤ r.2 ∧ r.2 ≤ 27720
theorem util_tot {l : List Task} (hs : zeb l) : Tot (fun k => zb9.f k l) (UtOk l) := by
  have hb := zjn hs.all
  have hd := ld_bd hs
  unfold zb9.f
  refine Tot.zdx (set_f l) (Tot.yes (decide_eq_true hs) ?_)
  refine Tot.bind (Tot.val (load_ev hs)) ?_
  rintro _ rfl
  refine Tot.bind (Tot.val (hyper_ev hs)) ?_
  rintro _ rfl
  refine Tot.bind (P := UtOk l) ?_ (fun r h => Tot.ret _ h)
  unfold zcb.f
  obtain ⟨n, hn⟩ : ∃ n : Nat, ld l = (n : Int) := ⟨(ld l).toNat, by omega⟩
  unfold UtOk
  rw [hn]
  refine Tot.bind (Tot.val (gcd_ev (hy l) n)) ?_
  rintro _ rfl
  have hg : 0 < Nat.gcd n (hy l) := Nat.gcd_pos_of_pos_right _ hb.1
  obtain ⟨a, ha⟩ := Nat.gcd_dvd_left n (hy l)
  obtain ⟨b, hb2⟩ := Nat.gcd_dvd_right n (hy l)
  refine Tot.no (by omega) (Tot.ret _ ?_)
  rw [ndiv, ndiv]
  have e1 : n / Nat.gcd n (hy l) = a := Nat.div_eq_of_eq_mul_right hg ha
  have e2 : hy l / Nat.gcd n (hy l) = b := Nat.div_eq_of_eq_mul_right hg hb2
  rw [e1, e2]
  have l1 : a ≤ n := by
    have := Nat.le_mul_of_pos_left a hg
    omega
  have l2 : b ≤ hy l := by
    have := Nat.le_mul_of_pos_left b hg
    omega
  have l3 : 1 ≤ b := by
    rcases Nat.eq_zero_or_pos b with h | h
    · rw [h] at hb2; simp at hb2; omega
    · exact h
  rw [w64 (by omega) (by omega), w64 (by omega) (by omega)]
  refine ⟨(Nat.gcd n (hy l) : Nat), by omega, ?_, ?_, by simp only; omega, by simp only; omega, by simp only; omega, by simp only; omega⟩
  · simp only; rw [← Int.natCast_mul, ← ha]
  · simp only; rw [← Int.natCast_mul, ← hb2]
theorem ut_iff {l : List Task} {r : Int × Int} (h : UtOk l r) (m : Int) : (r.1 ≤ m * r.2 ↔ ld l ≤ m * hy l) ∧ (r.1 = m * r.2 ↔ ld l = m * hy l) := by
  obtain ⟨g, h1, h2, h3, _⟩ := h
  have e : m * (g * r.2) = g * (m * r.2) := by rw [Int.mul_left_comm]
  rw [h2, h3, e]
  refine ⟨(Int.mul_le_mul_left (by omega)).symm, ?_⟩
  constructor
  · intro h; rw [h]
  · intro h; exact Int.eq_of_mul_eq_mul_left (by omega) h
theorem ld_wt {l : List Task} (hI : Impl l) : ld l * 27720 = (hy l : Int) * Pd2.sm (wt l) l.length := by
  have hall := hI.1.all
  have h1 : ∀ n, n ≤ l.length → sm (fun t => (hy l : Int) / t.f2 * t.f0) (l.take n) * 27720 = (hy l : Int) * Pd2.sm (wt l) n := by
    intro n
    induction n with
    | zero => intro _; simp [sm, Pd2.sm]
    | succ n ih =>
      intro hn
      have hil : n < l.length := by omega
      have h2 := ih (by omega)
      have h3 := hy_int hall (List.getElem_mem hil)
      have h4 : (hy l : Int) / l[n].f2 * l[n].f2 = hy l := Int.ediv_mul_cancel h3
      have h5 := quo hI hil
      have h6 : tk l (n : Int) = l[n] := zj8 _ l n hil
      have h7 : cs l n = l[n].f0 := by unfold cs; rw [h6]
      have h8 : ps l n = l[n].f2 := by unfold ps; rw [h6]
      rw [sm_take _ _ _ hil, Pd2.sm, Int.add_mul, h2, Int.mul_add]
      congr 1
      unfold wt
      have h9 : 27720 / l[n].f2 * l[n].f2 = 27720 := by rw [← h8]; exact h5.1
      rw [h7, h8]
      calc (hy l : Int) / l[n].f2 * l[n].f0 * 27720 = (hy l : Int) / l[n].f2 * l[n].f0 * (27720 / l[n].f2 * l[n].f2) := by rw [h9]
        _ = ((hy l : Int) / l[n].f2 * l[n].f2) * (27720 / l[n].f2 * l[n].f0) := by
          rw [Int.mul_assoc, Int.mul_assoc]
          congr 1
          rw [Int.mul_left_comm, Int.mul_comm l[n].f0, Int.mul_left_comm]
        _ = (hy l : Int) * (27720 / l[n].f2 * l[n].f0) := by rw [h4]
  have := h1 l.length (Nat.le_refl _)
  rw [List.take_length] at this
  exact this
theorem util_le {l : List Task} (hI : Impl l) (m : Int) : ld l ≤ m * hy l ↔ Pd2.sm (wt l) l.length ≤ m * 27720 := by
  have h1 := ld_wt hI
  have h2 := zjn hI.1.all
  have e : (hy l : Int) * (m * 27720) = m * hy l * 27720 := by rw [Int.mul_left_comm, Int.mul_assoc]
  have h3 := Int.mul_le_mul_left (a := (hy l : Int)) (b := Pd2.sm (wt l) l.length) (c := m * 27720) (by omega)
  rw [← h3, ← h1, e]
  omega
theorem util_eq {l : List Task} (hI : Impl l) (m : Int) : ld l = m * hy l → Pd2.sm (wt l) l.length = m * 27720 := by
  intro h
  have h1 := ld_wt hI
  have h2 := zjn hI.1.all
  apply Int.eq_of_mul_eq_mul_left (a := (hy l : Int)) (by omega)
  rw [← h1, h, Int.mul_assoc, Int.mul_left_comm]
noncomputable instance (l : List Task) : Decidable (Edf l) := Classical.propDecidable _
end Go.Proofs.Ytnilnaabjpcfjaa.Fair
namespace Go.Proofs.Ytnilnaabjpcfjaa.Fair
open Go.RowKit Go.Proofs.Ytnilnaabjpcfjaa.P Go.Proofs.Ytnilnaabjpcfjaa.Base Go.Proofs.Ytnilnaabjpcfjaa.Gen Go.Proofs.Ytnilnaabjpcfjaa.Alive Go.Proofs.Ytnilnaabjpcfjaa.Win Go.Proofs.Ytnilnaabjpcfjaa.Set Go.Proofs.Ytnilnaabjpcfjaa.Isort Go.Proofs.YtnilnaabjpcfjaaW.PrintWords Go.Proofs.YtnilnaabjpcfjaaW.PrintLast
set_option linter.unusedVariables false
set_option linter.unusedSectionVars false
theorem zjo (g : Nat → Int) : ∀ a b : List Nat, Pd2.ls g (a ++ b) = Pd2.ls g a + Pd2.ls g b
  | [], b => by simp [Pd2.ls]
  | k :: a, b => by have := zjo g a b; simp only [List.cons_append, Pd2.ls]; omega
section
variable {l : List Task} (hI : Impl l) {nx : List Int} {t : Nat} (hS : StOk l nx t)
include hI hS
theorem nat_row (r : List Int) (hnd : r.Nodup) (hr : ∀ x ∈ r, 0 ≤ x ∧ x < (l.length : Int)) : (r.map Int.toNat).Nodup ∧ (∀ k ∈ r.map Int.toNat, k < l.length) ∧ ∀ k : Nat, k ∈ r.map Int.toNat ↔ (k : Int) ∈ r := by
  refine ⟨?_, fun k hk => ?_, fun k => ?_⟩
  · rw [List.Nodup, List.pairwise_map]
    refine List.Pairwise.imp_of_mem (fun {a b} ha hb h => ?_) hnd
    have h1 := hr a ha
    have h2 := hr b hb
    omega
  · obtain ⟨x, hx, rfl⟩ := List.mem_map.1 hk
    have := hr x hx
    omega
  · rw [List.mem_map]
    constructor
    · rintro ⟨x, hx, rfl⟩
      have := hr x hx
      rw [Int.toNat_of_nonneg this.1]; exact hx
    · intro h; exact ⟨_, h, Int.toNat_natCast k⟩
theorem zh1 (now : Int) (q : Nat) (hq : q < (srt l nx now).length) :
    Pd2.ct (fun j => decide ((j : Int) ∈ srt l nx now) && decide (kf l nx (j : Int) < kf l nx (srt l nx now)[q])) l.length = (q : Int) := by
  have hp := (zjm hI hS now).2
  have hm : ∀ x ∈ srt l nx now, 0 ≤ x ∧ x < (l.length : Int) := fun x hx => ⟨((zg7 hI hS now x).1 hx).1, ((zg7 hI hS now x).1 hx).2.1⟩
  obtain ⟨h1, h2, h3⟩ := nat_row hI hS _ (zg8 hI hS now) hm
  obtain ⟨s, hs⟩ : ∃ s, srt l nx now = s := ⟨_, rfl⟩
  have hv : (srt l nx now)[q] = rd s (q : Int) := by rw [← hs, zeo _ q hq]
  rw [hv]
  rw [hs] at hp hm h1 h2 h3 hq ⊢
  have e1 := Pd2.ls_sm (fun k => Pd2.on (decide (kf l nx (k : Int) < kf l nx (rd s (q : Int))))) l.length (s.map Int.toNat) h1 h2
  have e2 : Pd2.ct (fun j => decide ((j : Int) ∈ s) && decide (kf l nx (j : Int) < kf l nx (rd s (q : Int)))) l.length = Pd2.ls (fun k => Pd2.on (decide (kf l nx (k : Int) < kf l nx (rd s (q : Int))))) (s.map Int.toNat) := by
    rw [e1]
    unfold Pd2.ct
    apply Pd2.zdp
    intro k _
    show Pd2.on (decide ((k : Int) ∈ s) && decide (kf l nx (k : Int) < kf l nx (rd s (q : Int)))) = if k ∈ s.map Int.toNat then Pd2.on (decide (kf l nx (k : Int) < kf l nx (rd s (q : Int)))) else 0
    by_cases h : (k : Int) ∈ s
    · rw [if_pos ((h3 k).2 h), decide_eq_true h]; rfl
    · rw [if_neg (fun h' => h ((h3 k).1 h')), decide_eq_false h]; rfl
  rw [e2, ← List.take_append_drop q s, List.map_append, zjo]
  rw [List.take_append_drop]
  have e3 : Pd2.ls (fun k => Pd2.on (decide (kf l nx (k : Int) < kf l nx (rd s (q : Int))))) ((s.take q).map Int.toNat) = 1 * (((s.take q).map Int.toNat).length : Int) := by
    apply Pd2.zei
    intro k hk
    obtain ⟨x, hx, rfl⟩ := List.mem_map.1 hk
    obtain ⟨a, ha, rfl⟩ := List.mem_iff_getElem.1 hx
    rw [List.length_take] at ha
    rw [List.getElem_take]
    have h4 := hm s[a] (List.getElem_mem _)
    have h5 := hp a q (by omega) hq
    rw [zeo s a (by omega)] at h5
    show Pd2.on (decide (kf l nx ((s[a].toNat : Nat) : Int) < kf l nx (rd s (q : Int)))) = 1
    rw [Int.toNat_of_nonneg h4.1, decide_eq_true h5]; rfl
  have e4 : Pd2.ls (fun k => Pd2.on (decide (kf l nx (k : Int) < kf l nx (rd s (q : Int))))) ((s.drop q).map Int.toNat) = 0 * (((s.drop q).map Int.toNat).length : Int) := by
    apply Pd2.zei
    intro k hk
    obtain ⟨x, hx, rfl⟩ := List.mem_map.1 hk
    obtain ⟨a, ha, rfl⟩ := List.mem_iff_getElem.1 hx
    rw [List.length_drop] at ha
    rw [List.getElem_drop]
    have h4 := hm s[q + a] (List.getElem_mem _)
    have h5 : ¬ kf l nx s[q + a] < kf l nx (rd s (q : Int)) := by
      by_cases e : a = 0
      · subst e
        rw [zeo s q hq]
        exact Int.lt_irrefl _
      · have h6 := hp q (q + a) (by omega) (by omega)
        rw [zeo s (q + a) (by omega)] at h6
        omega
    show Pd2.on (decide (kf l nx ((s[q + a].toNat : Nat) : Int) < kf l nx (rd s (q : Int)))) = 0
    rw [Int.toNat_of_nonneg h4.1, decide_eq_false h5]; rfl
  rw [e3, e4, List.length_map, List.length_take]
  omega
end
def Z0 (B : Nat) : Nat → List Nat := fun _ => List.range' 0 B
section
variable {l : List Task} (hI : Impl l) {m : Int} (hm : 1 ≤ m)
include hI hm in
theorem run_link (B : Nat) (hB : B ≤ 300000) : ∀ u : Nat, u ≤ B → ∀ T, T < l.length → (zel l m).run (Z0 B) u T = List.range' (rd (nxs l m u) (T : Int)).toNat (B - (rd (nxs l m u) (T : Int)).toNat) := by
  intro u
  induction u with
  | zero =>
    intro _ T hT
    show List.range' 0 B = _
    rw [nxs, zin]; rfl
  | succ u ih =>
    intro hu T hT
    have ih := ih (by omega)
    have hS := zej hI m u (by omega)
    have hcons : ∀ V, V < l.length → (zel l m).run (Z0 B) u V = (rd (nxs l m u) (V : Int)).toNat :: List.range' ((rd (nxs l m u) (V : Int)).toNat + 1) (B - (rd (nxs l m u) (V : Int)).toNat - 1) := fun V hV => by
      have h1 := hS.2 V hV
      rw [ih V hV]
      obtain ⟨q, hq⟩ : ∃ q, B - (rd (nxs l m u) (V : Int)).toNat = q + 1 := ⟨B - (rd (nxs l m u) (V : Int)).toNat - 1, by omega⟩
      rw [hq, List.range'_succ, Nat.add_sub_cancel]
    have hel : ∀ V, V < l.length → (zel l m).el ((zel l m).run (Z0 B) u) u V = decide ((V : Int) ∈ srt l (nxs l m u) (u : Int)) := fun V hV => by
      have h1 := hS.2 V hV
      have h2 := tv hI hV
      have h3 := wr_nn h2.1 h2.2.2.1 h1.1
      unfold Pd2.Sys.el
      rw [hcons V hV]
      show decide ((wr (cs l V) (ps l V) (((rd (nxs l m u) (V : Int)).toNat : Nat) : Int)).toNat ≤ u) = _
      rw [Int.toNat_of_nonneg h1.1, decide_eq_decide, zg7 hI hS]
      show _ ↔ _ ∧ _ ∧ wr (cs l V) (ps l V) (rd (nxs l m u) (V : Int)) ≤ (u : Int)
      omega
    have hkey : ∀ V, V < l.length → (zel l m).key ((zel l m).run (Z0 B) u) V = kf l (nxs l m u) (V : Int) := fun V hV => by
      have h1 := hS.2 V hV
      unfold Pd2.Sys.key
      rw [hcons V hV]
      show key (cs l V) (ps l V) (((rd (nxs l m u) (V : Int)).toNat : Nat) : Int) (V : Int) = _
      rw [Int.toNat_of_nonneg h1.1]; rfl
    have hsel : (zel l m).sel ((zel l m).run (Z0 B) u) u T = decide ((T : Int) ∈ rowt l m u) := by
      rw [Bool.eq_iff_iff, Pd2.Sys.zd1, decide_eq_true_eq]
      have hct : ∀ x : Int, Pd2.ct (fun j => (zel l m).el ((zel l m).run (Z0 B) u) u j && decide ((zel l m).key ((zel l m).run (Z0 B) u) j < x)) l.length = Pd2.ct (fun j => decide ((j : Int) ∈ srt l (nxs l m u) (u : Int)) && decide (kf l (nxs l m u) (j : Int) < x)) l.length := fun x =>
        Pd2.ct_congr l.length (fun j hj => by rw [hel j hj, hkey j hj])
      rw [hel T hT, hkey T hT]
      show T < l.length ∧ decide ((T : Int) ∈ srt l (nxs l m u) (u : Int)) = true ∧ Pd2.ct (fun j => (zel l m).el ((zel l m).run (Z0 B) u) u j && decide ((zel l m).key ((zel l m).run (Z0 B) u) j < kf l (nxs l m u) (T : Int))) l.length < m ↔ _
      rw [hct, decide_eq_true_eq]
      unfold rowt row
      constructor
      · rintro ⟨_, h2, h3⟩
        obtain ⟨q, hq, e⟩ := List.mem_iff_getElem.1 h2
        rw [← e, zh1 hI hS (u : Int) q hq] at h3
        rw [← e]
        exact List.mem_iff_getElem.2 ⟨q, by rw [List.length_take]; omega, by rw [List.getElem_take]⟩
      · intro h
        obtain ⟨q, hq, e⟩ := List.mem_iff_getElem.1 h
        rw [List.length_take] at hq
        rw [List.getElem_take] at e
        refine ⟨hT, by rw [← e]; exact List.getElem_mem _, ?_⟩
        rw [← e, zh1 hI hS (u : Int) q (by omega)]
        omega
    have hst := zio hI m (t := u) (by omega) hT
    have h1 := hS.2 T hT
    show (zel l m).nxt ((zel l m).run (Z0 B) u) u T = _
    by_cases hr : (T : Int) ∈ rowt l m u
    · rw [Pd2.Sys.zek (by rw [hsel]; exact decide_eq_true hr) (hcons T hT), hst, if_pos hr, show (rd (nxs l m u) (T : Int) + 1).toNat = (rd (nxs l m u) (T : Int)).toNat + 1 by omega]
      congr 1
    · rw [Pd2.Sys.zd2 (by rw [hsel]; exact decide_eq_false hr), ih T hT, hst, if_neg hr, Int.add_zero]
include hI hm in
theorem zg3 (hU : Pd2.sm (wt l) l.length ≤ m * 27720) {u : Nat} (hu : u ≤ 200000) {T : Nat} (hT : T < l.length) : (u : Int) < wd (cs l T) (ps l T) (rd (nxs l m u) (T : Int)) := by
  have hS := zej hI m u (by omega)
  have h1 := hS.2 T hT
  have hsz : Pd2.Sys.size (zel l m) (Z0 300000) ≤ ((Pd2.Sys.size (zel l m) (Z0 300000)).toNat : Int) := Int.self_le_toNat _
  have h2 := Pd2.Sys.zg3 (good hI hm hU) _ (Z0 300000) (fun V => List.pairwise_lt_range') hsz u T hT
  have h3 := run_link hI hm 300000 (by omega) u (by omega) T hT
  have h4 := h2 (rd (nxs l m u) (T : Int)).toNat (by
    rw [h3, List.mem_range'_1]; omega)
  have h5 : u < (wd (cs l T) (ps l T) (((rd (nxs l m u) (T : Int)).toNat : Nat) : Int)).toNat := h4
  rw [Int.toNat_of_nonneg h1.1] at h5
  omega
include hI in
theorem row_len (u : Nat) : ((rowt l m u).length : Int) ≤ max m 0 := by
  unfold rowt row
  rw [List.length_take]; omega
include hI hm in
theorem all_busy (hU : Pd2.sm (wt l) l.length = m * 27720) : ∀ u : Nat, u < 27720 → ((rowt l m u).length : Int) = m := by
  have hD : ∀ u : Nat, u ≤ 27720 → Pd2.sm (fun T => wt l T * (u : Int) - 27720 * rd (nxs l m u) (T : Int)) l.length = 27720 * Pd2.sm (fun v => m - ((rowt l m v).length : Int)) u := by
    intro u
    induction u with
    | zero =>
      intro _
      have : Pd2.sm (fun T => wt l T * ((0 : Nat) : Int) - 27720 * rd (nxs l m 0) (T : Int)) l.length = Pd2.sm (fun _ => 0) l.length := Pd2.zdp _ (fun k _ => by
        show wt l k * ((0 : Nat) : Int) - 27720 * rd (List.replicate l.length 0) (k : Int) = 0
        rw [zin]; simp)
      rw [this, Pd2.ze3]; rfl
    | succ u ih =>
      intro hu
      have hS := zej hI m u (by omega)
      obtain ⟨hr1, hr2⟩ := zha hI m hS
      obtain ⟨n1, n2, n3⟩ := nat_row hI hS (rowt l m u) hr1 (fun x hx => ⟨(hr2 x hx).1, (hr2 x hx).2.1⟩)
      have e1 : Pd2.sm (fun T => wt l T * ((u + 1 : Nat) : Int) - 27720 * rd (nxs l m (u + 1)) (T : Int)) l.length = Pd2.sm (fun T => (wt l T * (u : Int) - 27720 * rd (nxs l m u) (T : Int)) + (wt l T - 27720 * (if T ∈ (rowt l m u).map Int.toNat then 1 else 0))) l.length := Pd2.zdp _ (fun k hk => by
        show wt l k * ((u + 1 : Nat) : Int) - 27720 * rd (nxs l m (u + 1)) (k : Int) = (wt l k * (u : Int) - 27720 * rd (nxs l m u) (k : Int)) + (wt l k - 27720 * (if k ∈ (rowt l m u).map Int.toNat then 1 else 0))
        rw [zio hI m (by omega) hk, Pd2.mulc]
        by_cases h : (k : Int) ∈ rowt l m u
        · rw [if_pos h, if_pos ((n3 k).2 h)]; omega
        · rw [if_neg h, if_neg (fun h' => h ((n3 k).1 h'))]; omega)
      have e2 := Pd2.ls_sm (fun _ => 1) l.length ((rowt l m u).map Int.toNat) n1 n2
      have e3 := Pd2.zei 1 (g := fun _ => 1) ((rowt l m u).map Int.toNat) (fun _ _ => rfl)
      rw [List.length_map] at e3
      rw [e1, Pd2.zhw, ih (by omega), Pd2.zje (wt l), hU, Pd2.zhx 27720 (fun T => if T ∈ (rowt l m u).map Int.toNat then 1 else 0), ← e2, e3]
      show _ = 27720 * (Pd2.sm (fun v => m - ((rowt l m v).length : Int)) u + (m - ((rowt l m u).length : Int)))
      omega
  have hend : Pd2.sm (fun T => wt l T * ((27720 : Nat) : Int) - 27720 * rd (nxs l m 27720) (T : Int)) l.length ≤ 0 := by
    have h1 := Pd2.zfg (f := fun T => wt l T * ((27720 : Nat) : Int) - 27720 * rd (nxs l m 27720) (T : Int)) (g := fun _ => 0) l.length (fun k hk => by
      have h2 := zg3 hI hm (by omega) (u := 27720) (by omega) hk
      have h3 := tv hI hk
      have h4 := quo hI hk
      have h5 : ¬ wd (cs l k) (ps l k) (rd (nxs l m 27720) (k : Int)) ≤ 27720 := by omega
      rw [zgh h3.1] at h5
      have h6 : cs l k * 27720 = wt l k * ps l k := by
        unfold wt
        have h9 := h4.1
        generalize 27720 / ps l k = q at h9 ⊢
        rw [← h9, ← Int.mul_assoc, Int.mul_comm (cs l k) q]
      have h7 : wt l k * ps l k < (rd (nxs l m 27720) (k : Int) + 1) * ps l k := by rw [← h6]; omega
      have h8 : wt l k < rd (nxs l m 27720) (k : Int) + 1 := Int.lt_of_mul_lt_mul_right h7 (by omega)
      show wt l k * 27720 - 27720 * rd (nxs l m 27720) (k : Int) ≤ 0
      omega)
    rw [Pd2.ze3] at h1
    exact h1
  have h0 := hD 27720 (Nat.le_refl _)
  intro u hu
  have hrl : ∀ v, 0 ≤ m - ((rowt l m v).length : Int) := fun v => by have := row_len hI (m := m) v; omega
  have h1 := Pd2.zjf (f := fun v => m - ((rowt l m v).length : Int)) 27720 u hu (fun k _ => hrl k)
  have h2 := hrl u
  have h3 : m - ((rowt l m u).length : Int) ≤ Pd2.sm (fun v => m - ((rowt l m v).length : Int)) 27720 := h1
  omega
end
end Go.Proofs.Ytnilnaabjpcfjaa.Fair
namespace Go.Proofs.Ytnilnaabjpcfjaa.Pb
open Go.RowKit Go.Proofs.Ytnilnaabjpcfjaa.P Go.Proofs.Ytnilnaabjpcfjaa.Gen Go.Proofs.Ytnilnaabjpcfjaa.Base Go.Proofs.YtnilnaabjpcfjaaW.PrintWords Go.Proofs.YtnilnaabjpcfjaaW.PrintLast
theorem xor_ok (x y : Int) (hx : 0 ≤ x) (hx1 : x < 4611686018427387904) (hy : 0 ≤ y) (hy1 : y < 4611686018427387904) : 0 ≤ Go.bits .xor .i64 x y := by
  obtain ⟨a, rfl⟩ := Int.eq_ofNat_of_zero_le hx
  obtain ⟨b, rfl⟩ := Int.eq_ofNat_of_zero_le hy
  have ha : a < 2 ^ 62 := by have e : (2 : Nat) ^ 62 = 4611686018427387904 := by decide
                             omega
  have hb : b < 2 ^ 62 := by have e : (2 : Nat) ^ 62 = 4611686018427387904 := by decide
                             omega
  have ha' : a % 2 ^ 64 = a := Nat.mod_eq_of_lt (by omega)
  have hb' : b % 2 ^ 64 = b := Nat.mod_eq_of_lt (by omega)
  have hx := Nat.xor_lt_two_pow ha hb
  simp only [Go.bits]
  rw [show IntKind.i64.bits = 64 from rfl]
  rw [BitVec.toNat_xor, BitVec.ofInt_natCast, BitVec.ofInt_natCast, BitVec.toNat_ofNat, BitVec.toNat_ofNat, ha', hb', IntKind.wrap_i64]
  have e : (2 : Nat) ^ 62 = 4611686018427387904 := by decide
  omega
def Bytes (s : List Int) : Prop := s.length ≤ 2000 ∧ ∀ x ∈ s, 0 ≤ x ∧ x ≤ 255
theorem Bytes.rd {s : List Int} (h : Bytes s) (i : Int) : 0 ≤ rd s i ∧ rd s i ≤ 255 := by
  unfold Go.Proofs.YtnilnaabjpcfjaaW.PrintWords.rd
  rw [List.getD_eq_getElem?_getD]
  rcases Nat.lt_or_ge i.toNat s.length with hi | hi
  · rw [List.getElem?_eq_getElem hi]
    exact h.2 _ (List.getElem_mem hi)
  · rw [List.getElem?_eq_none hi]
    simp
theorem u8_wf {x : Int} (h : (Lit.int .u8 x).wf = true) : 0 ≤ x ∧ x ≤ 255 := by
  simp [Lit.wf, IntKind.min, IntKind.max, IntKind.bits, IntKind.signed] at h
  omega
theorem ziq (a n : Int) (ha : 0 ≤ a) (hn : 1 ≤ n) : 0 ≤ Int.tmod a n ∧ Int.tmod a n < n := by
  rw [Int.tmod_eq_emod_of_nonneg ha]
  exact ⟨Int.emod_nonneg _ (by omega), Int.emod_lt_of_pos _ (by omega)⟩
theorem zir (a n : Int) (ha : 0 ≤ a) (hn : 1 ≤ n) : 0 ≤ Int.tdiv a n ∧ Int.tdiv a n ≤ a := by
  rw [Int.tdiv_eq_ediv_of_nonneg ha]
  exact ⟨Int.ediv_nonneg ha (by omega), Int.ediv_le_self _ ha⟩
theorem pick_at (k : Nat) (s : List Int) (p n : Int) (hs : Bytes s) (hp : 0 ≤ p) (hp2 : p ≤ 1000000000) :
    ∃ r, zb.f (k + 1) s p n = some (r, p + 1) ∧ 0 ≤ r ∧ (1 ≤ n → r < n) := by
  unfold zb.f
  rw [w64 (x := p + 1) (by omega) (by omega)]
  by_cases hn : n < 1
  · rw [if_pos hn]
    exact ⟨0, by simp [zb.j0], Int.le_refl _, fun h => by omega⟩
  · rw [if_neg hn]
    by_cases h0 : (s.length : Int) = 0
    · refine ⟨0, ?_, Int.le_refl _, fun h => by omega⟩
      simp only [zb.j0]
      rw [if_pos (by simpa using h0)]
    · simp only [zb.j0]
      rw [if_neg (by simpa using h0)]
      have hl := hs.1
      rw [w64 (x := p + 1 - 1) (by omega) (by omega), show p + 1 - 1 = p by omega]
      by_cases h1 : p < (s.length : Int)
      · have hb := hs.rd p
        rw [if_pos h1, if_pos hp, if_neg (by omega), w64 (x := rd s p) (by omega) (by omega)]
        have ht := ziq (rd s p) n hb.1 (by omega)
        exact ⟨_, rfl, ht.1, fun _ => ht.2⟩
      · rw [if_neg h1, if_neg h0]
        have m0 := ziq p (s.length : Int) hp (by omega)
        rw [if_pos m0.1, if_pos m0.2]
        rw [w64 (x := p * 7) (by omega) (by omega), w64 (x := p * 7 + 3) (by omega) (by omega)]
        have m1 := ziq (p * 7 + 3) (s.length : Int) (by omega) (by omega)
        rw [if_pos m1.1, if_pos m1.2, if_neg (by omega)]
        have b0 := hs.rd (Int.tmod p (s.length : Int))
        have b1 := hs.rd (Int.tmod (p * 7 + 3) (s.length : Int))
        have d0 := zir p (s.length : Int) hp (by omega)
        generalize rd s (Int.tmod p (s.length : Int)) = x at b0 ⊢
        generalize rd s (Int.tmod (p * 7 + 3) (s.length : Int)) = y at b1 ⊢
        generalize Int.tdiv p (s.length : Int) = q at d0 ⊢
        rw [w64 (x := x) (by omega) (by omega), w64 (x := y) (by omega) (by omega), w64 (x := q) (by omega) (by omega)]
        rw [w64 (x := x * 131) (by omega) (by omega), w64 (x := y * 1117) (by omega) (by omega), w64 (x := p * 29) (by omega) (by omega), w64 (x := q * 53) (by omega) (by omega)]
        rw [w64 (x := x * 131 + y * 1117) (by omega) (by omega), w64 (x := x * 131 + y * 1117 + p * 29) (by omega) (by omega), w64 (x := x * 131 + y * 1117 + p * 29 + q * 53) (by omega) (by omega)]
        have e0 := zir (x * 131 + y * 1117 + p * 29 + q * 53) 64 (by omega) (by omega)
        rw [w64 (x := Int.tdiv (x * 131 + y * 1117 + p * 29 + q * 53) 64) (by omega) (by omega)]
        have hx := xor_ok (x * 131 + y * 1117 + p * 29 + q * 53) (Int.tdiv (x * 131 + y * 1117 + p * 29 + q * 53) 64) (by omega) (by omega) e0.1 (by omega)
        have ht := ziq _ n hx (by omega)
        exact ⟨_, rfl, ht.1, fun _ => ht.2⟩
theorem open_at (l : List Int) (hl : ∀ x ∈ l, (Lit.int .u8 x).wf = true) : ∃ s, zdb.f l = some (s, 0) ∧ Bytes s := by
  unfold zdb.f
  by_cases h : (l.length : Int) > 2000
  · rw [if_pos h, if_pos (by omega)]
    exact ⟨_, rfl, by rw [List.length_take]; omega, fun x hx => u8_wf (hl x (List.mem_of_mem_take hx))⟩
  · rw [if_neg h]
    exact ⟨_, rfl, by omega, fun x hx => u8_wf (hl x hx)⟩
def At (p q : Int) (c : Int) : Prop := p ≤ q ∧ q ≤ p + c
theorem zde (s : List Int) (p n : Int) (hs : Bytes s) (hp : 0 ≤ p) (hp2 : p ≤ 1000000000) : Tot (fun k => zb.f k s p n) (fun r => r.2 = p + 1 ∧ 0 ≤ r.1 ∧ (1 ≤ n → r.1 < n)) := by
  obtain ⟨r, hr, h0, h1⟩ := pick_at 0 s p n hs hp hp2
  refine ⟨(r, p + 1), ⟨1, fun k hk => ?_⟩, rfl, h0, h1⟩
  obtain ⟨j, rfl⟩ : ∃ j, k = j + 1 := ⟨k - 1, by omega⟩
  obtain ⟨r', hr', h0', h1'⟩ := pick_at j s p n hs hp hp2
  have hm := ziw (g := fun k => zb.f k s p n) (fun k => zb.mono _ _ _ k) (show 1 ≤ j + 1 by omega) hr
  exact hm
theorem zis (s : List Int) (p n : Int) (hs : Bytes s) (hp : 0 ≤ p) (hp2 : p ≤ 1000000000) : Tot (fun k => zbl.f k s p n) (fun r => p ≤ r.2 ∧ r.2 ≤ p + 1) := by
  unfold zbl.f
  refine Tot.ite (fun _ => ?_) (fun _ => Tot.ret _ ⟨Int.le_refl _, by omega⟩)
  refine Tot.bind (zde s p n hs hp hp2) ?_
  rintro ⟨a, q⟩ ⟨rfl, _, _⟩
  exact Tot.ret _ ⟨by show p ≤ p + 1; omega, Int.le_refl _⟩
theorem open_tot {β : Type} {Q : β → Prop} (l : List Int) (hl : ∀ x ∈ l, (Lit.int .u8 x).wf = true) {f : Nat → List Int × Int → Option β} (hf : ∀ s, Bytes s → Tot (fun k => f k (s, 0)) Q) : Tot (fun k => (zdb.f l).bind (f k)) Q := by
  obtain ⟨s, hs, hb⟩ := open_at l hl
  exact Tot.zdx hs (hf s hb)
theorem zed {α β : Type} {Q : β → Prop} (a : α) {f : Nat → α → Option β} (h : Tot (fun k => f k a) Q) : Tot (fun k => (some a).bind (f k)) Q := h
theorem rd_mem {xs : List Int} {i : Int} (h0 : 0 ≤ i) (h1 : i < (xs.length : Int)) : rd xs i ∈ xs := by
  unfold Go.Proofs.YtnilnaabjpcfjaaW.PrintWords.rd
  have : i.toNat < xs.length := by omega
  rw [List.getD_eq_getElem?_getD, List.getElem?_eq_getElem this]
  exact List.getElem_mem this
end Go.Proofs.Ytnilnaabjpcfjaa.Pb
namespace Go.Proofs.Ytnilnaabjpcfjaa.DrTask
open Go.RowKit Go.Proofs.Ytnilnaabjpcfjaa.P Go.Proofs.Ytnilnaabjpcfjaa.Base Go.Proofs.Ytnilnaabjpcfjaa.Gen Go.Proofs.Ytnilnaabjpcfjaa.Pb Go.Proofs.YtnilnaabjpcfjaaW.PrintWords Go.Proofs.YtnilnaabjpcfjaaW.PrintLast
theorem rd_bd {xs : List Int} {i : Int} (lo hi : Int) (h0 : 0 ≤ i) (h1 : i < (xs.length : Int)) (h : ∀ x ∈ xs, lo ≤ x ∧ x ≤ hi) : lo ≤ rd xs i ∧ rd xs i ≤ hi := h _ (rd_mem h0 h1)
theorem mx_bd (a b : Int) : a ≤ mx a b ∧ b ≤ mx a b ∧ (mx a b = a ∨ mx a b = b) := by unfold mx; split <;> omega
theorem mn_bd (a b : Int) : mn a b ≤ a ∧ mn a b ≤ b ∧ (mn a b = a ∨ mn a b = b) := by unfold mn; split <;> omega
def zhb (c d p : Int) : Prop := -20 ≤ c ∧ c ≤ 20 ∧ -20 ≤ d ∧ d ≤ 20 ∧ -20 ≤ p ∧ p ≤ 20
theorem zgl (s : List Int) (p n : Int) (hs : Bytes s) (hp : 0 ≤ p) (hp2 : p ≤ 900000000) :
    Tot (fun k => zk.f k s p n) (fun r => zhb r.1 r.2.1 r.2.2.1 ∧ p ≤ r.2.2.2 ∧ r.2.2.2 ≤ p + 9) := by
  have last : ∀ (q c d e : Int), zhb c d e → p ≤ q → q ≤ p + 9 → Tot (fun k => zk.j0 k s q c d e) (fun r => zhb r.1 r.2.1 r.2.2.1 ∧ p ≤ r.2.2.2 ∧ r.2.2.2 ≤ p + 9) := by
    intro q c d e h1 h2 h3
    exact Tot.step (fun k => by rw [zk.j0]) (Tot.ret _ ⟨h1, h2, h3⟩)
  unfold zk.f
  refine Tot.bind (zde s p 12 hs hp (by omega)) ?_
  rintro ⟨a, q⟩ ⟨h, ha0, ha1⟩
  simp only at h ha0 ha1 ⊢; subst h
  have ha1 := ha1 (by omega)
  rw [w64 (x := 1 + a) (by omega) (by omega)]
  refine zed _ ?_
  refine Tot.bind (zde s (p + 1) 8 hs (by omega) (by omega)) ?_
  rintro ⟨b, q⟩ ⟨h, hb0, hb1⟩
  simp only at h hb0 hb1 ⊢; subst h
  have hb1 := hb1 (by omega)
  have hlt : b < ((([2, 3, 4, 6, 8, 12, 1 + a, 5] : List Int).length : Nat) : Int) := by simp; omega
  refine Tot.yes hb0 (Tot.yes hlt ?_)
  have hc := rd_bd 1 12 hb0 hlt (by intro x hx; simp only [List.mem_cons, List.not_mem_nil, or_false] at hx; omega)
  generalize rd [2, 3, 4, 6, 8, 12, 1 + a, 5] b = P at hc ⊢
  refine Tot.bind (zde s (p + 1 + 1) P hs (by omega) (by omega)) ?_
  rintro ⟨c, q⟩ ⟨h, hc0, hc1⟩
  simp only at h hc0 hc1 ⊢; subst h
  have hc1 := hc1 (by omega)
  rw [w64 (x := 1 + c) (by omega) (by omega), w64 (x := P - 1) (by omega) (by omega)]
  have hm := mx_bd 1 (P - 1)
  refine zed _ ?_
  refine Tot.bind (zde s (p + 1 + 1 + 1) 3 hs (by omega) (by omega)) ?_
  rintro ⟨d, q⟩ ⟨h, hd0, hd1⟩
  simp only at h hd0 hd1 ⊢; subst h
  have hd1 := hd1 (by omega)
  have hlt : d < ((([P, 1 + c, mx 1 (P - 1)] : List Int).length : Nat) : Int) := by simp; omega
  refine Tot.yes hd0 (Tot.yes hlt ?_)
  have hD := rd_bd 1 12 hd0 hlt (by intro x hx; simp only [List.mem_cons, List.not_mem_nil, or_false] at hx; omega)
  generalize rd [P, 1 + c, mx 1 (P - 1)] d = D at hD ⊢
  have e2 := zir D 2 (by omega) (by omega)
  have e3 := zir D 3 (by omega) (by omega)
  rw [w64 (x := Int.tdiv D 2) (by omega) (by omega), w64 (x := Int.tdiv D 3) (by omega) (by omega)]
  have hm2 := mx_bd 1 (Int.tdiv D 2)
  have hm3 := mx_bd 1 (Int.tdiv D 3)
  refine zed _ ?_
  refine Tot.bind (zde s (p + 1 + 1 + 1 + 1) 3 hs (by omega) (by omega)) ?_
  rintro ⟨e, q⟩ ⟨h, he0, he1⟩
  simp only at h he0 he1 ⊢; subst h
  have he1 := he1 (by omega)
  have hlt : e < ((([D, mx 1 (Int.tdiv D 2), mx 1 (Int.tdiv D 3)] : List Int).length : Nat) : Int) := by simp; omega
  refine Tot.yes he0 (Tot.yes hlt ?_)
  have hE := rd_bd 1 12 he0 hlt (by intro x hx; simp only [List.mem_cons, List.not_mem_nil, or_false] at hx; omega)
  generalize rd [D, mx 1 (Int.tdiv D 2), mx 1 (Int.tdiv D 3)] e = E at hE ⊢
  have hmn := mn_bd 8 E
  refine Tot.bind (zde s (p + 1 + 1 + 1 + 1 + 1) (mn 8 E) hs (by omega) (by omega)) ?_
  rintro ⟨f, q⟩ ⟨h, hf0, hf1⟩
  simp only at h hf0 hf1 ⊢; subst h
  have hf1 := hf1 (by omega)
  rw [w64 (x := 1 + f) (by omega) (by omega)]
  refine Tot.bind (zis s (p + 1 + 1 + 1 + 1 + 1 + 1) n hs (by omega) (by omega)) ?_
  rintro ⟨g, q⟩ ⟨h1, h2⟩
  simp only at h1 h2 ⊢
  refine Tot.ite (fun _ => ?_) (fun _ => last _ _ _ _ (by unfold zhb; omega) (by omega) (by omega))
  refine Tot.bind (zde s q 3 hs (by omega) (by omega)) ?_
  rintro ⟨u, q'⟩ ⟨h, hu0, hu1⟩
  simp only at h hu0 hu1 ⊢; subst h
  refine Tot.ite (fun _ => ?_) (fun _ => Tot.ite (fun _ => ?_) (fun _ => ?_))
  · rw [w64 (x := D + 1) (by omega) (by omega)]
    refine zed _ ?_
    refine Tot.bind (zde s (q + 1) 4 hs (by omega) (by omega)) ?_
    rintro ⟨v, q'⟩ ⟨h, hv0, hv1⟩
    simp only at h hv0 hv1 ⊢; subst h
    have hlt : v < ((([0, -1, 9, D + 1] : List Int).length : Nat) : Int) := by simp; omega
    refine Tot.yes hv0 (Tot.yes hlt ?_)
    have hV := rd_bd (-1) 13 hv0 hlt (by intro x hx; simp only [List.mem_cons, List.not_mem_nil, or_false] at hx; omega)
    exact last _ _ _ _ (by unfold zhb; omega) (by omega) (by omega)
  · rw [w64 (x := P + 1) (by omega) (by omega)]
    refine zed _ ?_
    refine Tot.bind (zde s (q + 1) 3 hs (by omega) (by omega)) ?_
    rintro ⟨v, q'⟩ ⟨h, hv0, hv1⟩
    simp only at h hv0 hv1 ⊢; subst h
    have hlt : v < ((([0, P + 1, -1] : List Int).length : Nat) : Int) := by simp; omega
    refine Tot.yes hv0 (Tot.yes hlt ?_)
    have hV := rd_bd (-1) 13 hv0 hlt (by intro x hx; simp only [List.mem_cons, List.not_mem_nil, or_false] at hx; omega)
    exact last _ _ _ _ (by unfold zhb; omega) (by omega) (by omega)
  · refine zed _ ?_
    refine Tot.bind (zde s (q + 1) 3 hs (by omega) (by omega)) ?_
    rintro ⟨v, q'⟩ ⟨h, hv0, hv1⟩
    simp only at h hv0 hv1 ⊢; subst h
    have hlt : v < ((([0, 13, -1] : List Int).length : Nat) : Int) := by simp; omega
    refine Tot.yes hv0 (Tot.yes hlt ?_)
    have hV := rd_bd (-1) 13 hv0 hlt (by intro x hx; simp only [List.mem_cons, List.not_mem_nil, or_false] at hx; omega)
    exact last _ _ _ _ (by unfold zhb; omega) (by omega) (by omega)
end Go.Proofs.Ytnilnaabjpcfjaa.DrTask
namespace Go.Proofs.Ytnilnaabjpcfjaa.DrSet
open Go.RowKit Go.Proofs.Ytnilnaabjpcfjaa.P Go.Proofs.Ytnilnaabjpcfjaa.Base Go.Proofs.Ytnilnaabjpcfjaa.Gen Go.Proofs.Ytnilnaabjpcfjaa.Pb Go.Proofs.Ytnilnaabjpcfjaa.DrTask Go.Proofs.YtnilnaabjpcfjaaW.PrintWords Go.Proofs.YtnilnaabjpcfjaaW.PrintLast
abbrev Task := S35
def Short (p : Int) (r : List Task × Int) : Prop := r.1.length ≤ 20 ∧ p ≤ r.2 ∧ r.2 ≤ p + 300
theorem set_tot (s : List Int) (p n : Int) (hs : Bytes s) (hp : 0 ≤ p) (hp2 : p ≤ 100000) : Tot (fun k => zbs.f k s p n) (Short p) := by
  have more : ∀ (d : Nat) (x : List Task) (q : Int), x.length + d = 6 → p ≤ q → q ≤ p + 100 + 10 * (6 - d) → Tot (fun k => zbs.l1 k x s q) (Short p) := by
    intro d
    induction d with
    | zero =>
      intro x q h1 h2 h3
      refine Tot.step (fun k => by rw [zbs.l1]) (Tot.no (by omega) ?_)
      refine Tot.bind (zgl s q 2 hs (by omega) (by omega)) ?_
      rintro ⟨a, b, c, q2⟩ ⟨_, h4, h5⟩
      simp only at h4 h5 ⊢
      exact Tot.yes (by omega) (Tot.ret _ ⟨by simp; omega, by simp; omega, by simp; omega⟩)
    | succ d ih =>
      intro x q h1 h2 h3
      refine Tot.step (fun k => by rw [zbs.l1]) (Tot.yes (by omega) ?_)
      refine Tot.bind (zgl s q 0 hs (by omega) (by omega)) ?_
      rintro ⟨a, b, c, q2⟩ ⟨_, h4, h5⟩
      simp only at h4 h5 ⊢
      exact Tot.yes (by omega) (ih _ _ (by simp; omega) (by omega) (by omega))
  have first : ∀ (d : Nat) (x6 : Int) (x : List Task) (q : Int), x6 = d → x.length + d ≤ 5 → p ≤ q → q ≤ p + 1 + 9 * (5 - d) → Tot (fun k => zbs.l0 k n x x6 s q) (Short p) := by
    intro d
    induction d with
    | zero =>
      intro x6 x q h1 h2 h3 h4
      refine Tot.step (fun k => by rw [zbs.l0]) (Tot.no (by omega) ?_)
      refine Tot.bind (zis s q n hs (by omega) (by omega)) ?_
      rintro ⟨a, q2⟩ ⟨h5, h6⟩
      simp only at h5 h6 ⊢
      refine Tot.ite (fun _ => ?_) (fun _ => Tot.ret _ ⟨by simp; omega, by simp; omega, by simp; omega⟩)
      refine Tot.bind (zde s q2 3 hs (by omega) (by omega)) ?_
      rintro ⟨b, q3⟩ ⟨h7, h8, h9⟩
      simp only at h7 h8 h9 ⊢; subst h7
      refine Tot.ite (fun _ => more (6 - x.length) x _ (by omega) (by omega) (by omega)) (fun _ => ?_)
      refine Tot.bind (zgl s (q2 + 1) 2 hs (by omega) (by omega)) ?_
      rintro ⟨a, b, c, q4⟩ ⟨_, h10, h11⟩
      simp only at h10 h11 ⊢
      exact Tot.yes (by omega) (Tot.ret _ ⟨by simp; omega, by simp; omega, by simp; omega⟩)
    | succ d ih =>
      intro x6 x q h1 h2 h3 h4
      refine Tot.step (fun k => by rw [zbs.l0]) (Tot.yes (by omega) ?_)
      refine Tot.bind (zgl s q 0 hs (by omega) (by omega)) ?_
      rintro ⟨a, b, c, q2⟩ ⟨_, h4, h5⟩
      simp only at h4 h5 ⊢
      rw [w64 (x := x6 - 1) (by omega) (by omega)]
      exact Tot.yes (by omega) (ih _ _ _ (by omega) (by simp; omega) (by omega) (by omega))
  unfold zbs.f
  refine Tot.bind (zde s p 6 hs hp (by omega)) ?_
  rintro ⟨a, q2⟩ ⟨h5, h6, h7⟩
  simp only at h5 h6 h7 ⊢; subst h5
  have h7 := h7 (by omega)
  exact first a.toNat a [] _ (by omega) (by simp; omega) (by omega) (by omega)
end Go.Proofs.Ytnilnaabjpcfjaa.DrSet
namespace Go.Proofs.Ytnilnaabjpcfjaa.Same
open Go.RowKit Go.Proofs.Ytnilnaabjpcfjaa.P Go.Proofs.Ytnilnaabjpcfjaa.Base Go.Proofs.Ytnilnaabjpcfjaa.Gen Go.Proofs.YtnilnaabjpcfjaaW.PrintWords Go.Proofs.YtnilnaabjpcfjaaW.PrintLast
theorem same_tot (l : List Int) (hl : l.length ≤ 1048576) : Tot (fun k => zb2.f k l l) (fun r => r = true) := by
  have h := Tot.look (r := true) (fun k i => zb2.l0 k l l i) l.length (fun k i h => by
    simp only [zb2.l0]
    rw [if_pos (by omega), if_pos (by omega), if_pos (by omega), if_pos (by first | trivial | rfl), w64 (by omega) (by omega)]) (fun k => by
    simp only [zb2.l0]
    rw [if_neg (by omega)])
  refine Tot.congr (fun k => ?_) h
  unfold zb2.f
  rw [if_pos rfl]
end Go.Proofs.Ytnilnaabjpcfjaa.Same
namespace Go.Proofs.Ytnilnaabjpcfjaa.Fair
open Go.RowKit Go.Proofs.Ytnilnaabjpcfjaa.P Go.Proofs.Ytnilnaabjpcfjaa.Base Go.Proofs.Ytnilnaabjpcfjaa.Gen Go.Proofs.Ytnilnaabjpcfjaa.Alive Go.Proofs.Ytnilnaabjpcfjaa.Win Go.Proofs.Ytnilnaabjpcfjaa.Set Go.Proofs.Ytnilnaabjpcfjaa.Isort Go.Proofs.Ytnilnaabjpcfjaa.Pb Go.Proofs.Ytnilnaabjpcfjaa.Same Go.Proofs.YtnilnaabjpcfjaaW.PrintWords Go.Proofs.YtnilnaabjpcfjaaW.PrintLast
set_option linter.unusedVariables false
set_option linter.unusedSectionVars false
theorem zjq (s : List Int) (n : Int) (hs : Bytes s) : Tot (fun k => zbr.f k s 0 n) (fun r => r.1.length ≤ 20 ∧ 0 ≤ r.2 ∧ r.2 ≤ 400) := by
  unfold zbr.f
  refine Tot.bind (DrSet.set_tot s 0 n hs (by omega) (by omega)) ?_
  rintro ⟨x, q⟩ ⟨h1, h2, h3⟩
  simp only at h1 h2 h3 ⊢
  refine Tot.bind (zis s q n hs (by omega) (by omega)) ?_
  rintro ⟨a, q2⟩ ⟨h4, h5⟩
  simp only at h4 h5 ⊢
  refine Tot.ite (fun _ => Tot.ret _ ⟨h1, by simp only; omega, by simp only; omega⟩) (fun _ => ?_)
  have loop : ∀ (d i : Nat) (y : List Set.Task), i + d = y.length → y.length ≤ 20 → Tot (fun k => zbr.l0 k y (i : Int) s q2) (fun r => r.1.length ≤ 20 ∧ 0 ≤ r.2 ∧ r.2 ≤ 400) := by
    intro d
    induction d with
    | zero =>
      intro i y hi hy
      exact Tot.step (fun k => by rw [zbr.l0]) (Tot.no (by omega) (Tot.ret _ ⟨hy, by simp only; omega, by simp only; omega⟩))
    | succ d ih =>
      intro i y hi hy
      refine Tot.step (fun k => by rw [zbr.l0]) (Tot.yes (by omega) (Tot.yes (by omega) ?_))
      rw [w64 (by omega) (by omega)]
      exact ih (i + 1) _ (by rw [List.length_set]; omega) (by rw [List.length_set]; exact hy)
  exact loop x.length 0 x (by omega) h1
theorem cores_tot (s : List Int) (p n : Int) (hs : Bytes s) (hp : 0 ≤ p) (hp2 : p ≤ 10000000) : Tot (fun k => zc1.f k s p n) (fun _ => True) := by
  unfold zc1.f
  refine Tot.bind (zis s p n hs hp (by omega)) ?_
  rintro ⟨a, q⟩ ⟨h1, h2⟩
  simp only at h1 h2 ⊢
  refine Tot.ite (fun _ => zed _ ?_) (fun _ => ?_)
  · refine Tot.bind (zde s q 3 hs (by omega) (by omega)) ?_
    rintro ⟨b, q2⟩ ⟨h3, h4, h5⟩
    simp only at h3 h4 h5 ⊢
    exact Tot.yes h4 (Tot.yes (by simp; omega) (Tot.ret _ trivial))
  · refine Tot.bind (zde s q 4 hs (by omega) (by omega)) ?_
    intro _ _
    exact Tot.ret _ trivial
theorem draw_tot (l0 : List Int) (hl : ∀ x ∈ l0, (Lit.int .u8 x).wf = true) : Tot (fun k => zcv.f k l0) (fun r => r.1.length ≤ 20) := by
  unfold zcv.f
  refine open_tot l0 hl (fun s hs => ?_)
  refine Tot.bind (zjq s 12 hs) ?_
  rintro ⟨x, q⟩ ⟨h1, h2, h3⟩
  simp only at h1 h2 h3 ⊢
  refine Tot.bind (cores_tot s q 12 hs h2 (by omega)) ?_
  intro r _
  exact Tot.ret _ h1
theorem FR_yes {l : List Task} {m : Int} (h : Impl l ∧ 1 ≤ m ∧ m ≤ 5) : FR l m = rws l m 120 := by unfold FR; rw [if_pos h]
theorem FR_no {l : List Task} {m : Int} (h : ¬ (Impl l ∧ 1 ≤ m ∧ m ≤ 5)) : FR l m = [] := by unfold FR; rw [if_neg h]
theorem rws_at (l : List Task) (m : Int) {t : Nat} (ht : t < 120) : zcn (rws l m 120) (t : Int) = rowt l m t := by
  unfold zcn
  rw [List.getD_eq_getElem?_getD, Int.toNat_natCast]
  unfold rws
  rw [List.getElem?_map, List.getElem?_range ht]; rfl
theorem FR_at {l : List Task} {m : Int} {i : Nat} (h : i < (FR l m).length) : (zcn (FR l m) (i : Int)).length ≤ 5 := by
  by_cases hI : Impl l ∧ 1 ≤ m ∧ m ≤ 5
  · rw [FR_yes hI] at h ⊢
    rw [ze6] at h
    rw [rws_at l m h]
    have := zim hI.1 (zej hI.1 m i (by omega)) (i : Int)
    unfold rowt row
    rw [List.length_take]; omega
  · rw [FR_no hI] at h
    simp at h
theorem FR_len (l : List Task) (m : Int) : (FR l m).length ≤ 120 := by
  unfold FR
  split
  · rw [ze6]; exact Nat.le_refl _
  · simp
theorem rows_tot (l : List Task) (m : Int) : Tot (fun k => zby.f k (FR l m) (FR l m)) (fun r => r = true) := by
  unfold zby.f
  have hlen := FR_len l m
  have loop : ∀ d i : Nat, i + d = (FR l m).length → Tot (fun k => zby.l0 k (FR l m) (FR l m) (i : Int)) (fun r => r = true) := by
    intro d
    induction d with
    | zero => intro i hi; exact Tot.step (fun k => by rw [zby.l0]) (Tot.no (by omega) (Tot.ret _ rfl))
    | succ d ih =>
      intro i hi
      refine Tot.step (fun k => by rw [zby.l0]) (Tot.yes (by omega) (Tot.yes (by omega) (Tot.yes (by omega) ?_)))
      have := FR_at (l := l) (m := m) (i := i) (by omega)
      refine Tot.bind (same_tot _ (by omega)) ?_
      rintro _ rfl
      refine Tot.yes rfl ?_
      rw [w64 (by omega) (by omega)]
      exact ih (i + 1) (by omega)
  exact Tot.yes rfl (loop (FR l m).length 0 (by omega))
section
variable {l : List Task} (hI : Impl l) {m : Int}
include hI
theorem zit {t : Nat} (ht : t ≤ 400000) : (rowt l m t).Nodup ∧ (rowt l m t).length ≤ 5 ∧ ∀ x ∈ rowt l m t, 0 ≤ x ∧ x < (l.length : Int) ∧ wr (tk l x).f0 (tk l x).f2 (rd (nxs l m t) x) ≤ (t : Int) := by
  have hS := zej hI m t ht
  have h := zha hI m hS
  refine ⟨h.1, ?_, h.2⟩
  have := zim hI hS (t : Int)
  unfold rowt row
  rw [List.length_take]; omega
theorem released : ∀ t : Nat, t ≤ 400000 → ∀ i : Nat, i < l.length → rd (nxs l m t) (i : Int) = 0 ∨ wr (cs l i) (ps l i) (rd (nxs l m t) (i : Int) - 1) < (t : Int)
  | 0, _, i, _ => Or.inl (by rw [nxs, zin])
  | t + 1, ht, i, hi => by
    have ih := released t (by omega) i hi
    have h1 := zio hI m (t := t) (by omega) hi
    rw [h1]
    by_cases h : (i : Int) ∈ rowt l m t
    · rw [if_pos h]
      right
      have h2 := ((zit hI (m := m) (t := t) (by omega)).2.2 _ h).2.2
      rw [show rd (nxs l m t) (i : Int) + 1 - 1 = rd (nxs l m t) (i : Int) by omega]
      show wr (tk l (i : Int)).f0 (tk l (i : Int)).f2 (rd (nxs l m t) (i : Int)) < _
      omega
    · rw [if_neg h, Int.add_zero]
      rcases ih with h2 | h2
      · left; exact h2
      · right; omega
theorem part_rd {t : Nat} (ht : t ≤ 400000) (j : Nat) (i : Nat) (hi : i < l.length) : rd (fadv (nxs l m t) ((rowt l m t).take j)) (i : Int) = rd (nxs l m t) (i : Int) + (if (i : Int) ∈ (rowt l m t).take j then 1 else 0) := by
  have hS := zej hI m t ht
  have h := zit hI (m := m) ht
  exact zka (nxs l m t) l.length hS.1 (t : Int) (by omega) hS.2 _ _ rfl (fun x hx => ⟨(h.2.2 x (List.mem_of_mem_take hx)).1, (h.2.2 x (List.mem_of_mem_take hx)).2.1⟩) (h.1.sublist (List.take_sublist _ _)) i hi
end
end Go.Proofs.Ytnilnaabjpcfjaa.Fair
namespace Go.Proofs.Ytnilnaabjpcfjaa.Fair
open Go.RowKit Go.Proofs.Ytnilnaabjpcfjaa.P Go.Proofs.Ytnilnaabjpcfjaa.Base Go.Proofs.Ytnilnaabjpcfjaa.Gen Go.Proofs.Ytnilnaabjpcfjaa.Alive Go.Proofs.Ytnilnaabjpcfjaa.Win Go.Proofs.Ytnilnaabjpcfjaa.Set Go.Proofs.Ytnilnaabjpcfjaa.Isort Go.Proofs.YtnilnaabjpcfjaaW.PrintWords Go.Proofs.YtnilnaabjpcfjaaW.PrintLast
set_option linter.unusedVariables false
set_option linter.unusedSectionVars false
section
variable {l : List Task} (hI : Impl l) {m : Int}
include hI
theorem nat_of {x : Int} (h0 : 0 ≤ x) (h1 : x < (l.length : Int)) : ∃ i : Nat, x = (i : Int) ∧ i < l.length := by
  obtain ⟨i, rfl⟩ := Int.eq_ofNat_of_zero_le h0
  exact ⟨i, rfl, by omega⟩
theorem small {u : Nat} (hu : u ≤ 1000) {i : Nat} (hi : i < l.length) : 1 ≤ cs l i ∧ cs l i ≤ 8 ∧ cs l i ≤ ps l i ∧ ps l i ≤ 12 ∧ 0 ≤ rd (nxs l m u) (i : Int) ∧ rd (nxs l m u) (i : Int) ≤ u ∧
    0 ≤ (u : Int) * cs l i ∧ (u : Int) * cs l i ≤ 8000 ∧ 0 ≤ rd (nxs l m u) (i : Int) * ps l i ∧ rd (nxs l m u) (i : Int) * ps l i ≤ 12000 := by
  have h1 := tv hI hi
  have h2 := (zej hI m u (by omega)).2 i hi
  have h3 := zgf (a := (u : Int)) (b := cs l i) (A := 1000) (B := 8) (by omega) (by omega) (by omega) (by omega)
  have h4 := zgf (a := rd (nxs l m u) (i : Int)) (b := ps l i) (A := 1000) (B := 12) h2.1 (by omega) (by omega) (by omega)
  omega
theorem not_ahead {u : Nat} (hu : u ≤ 1000) {i : Nat} (hi : i < l.length) : rd (nxs l m u) (i : Int) * ps l i - (u : Int) * cs l i < ps l i := by
  have h1 := small hI (m := m) hu hi
  rcases released hI (m := m) u (by omega) i hi with h | h
  · rw [h]; omega
  · have h2 := (wr_iff (p := ps l i) h1.1 (rd (nxs l m u) (i : Int) - 1) ((u : Int) - 1)).1 (by omega)
    rw [show (u : Int) - 1 + 1 = (u : Int) by omega, Int.sub_mul, Int.one_mul, Int.mul_comm (cs l i)] at h2
    omega
theorem not_behind (hm : 1 ≤ m) (hU : Pd2.sm (wt l) l.length ≤ m * 27720) {u : Nat} (hu : u ≤ 1000) {i : Nat} (hi : i < l.length) : (u : Int) * cs l i - rd (nxs l m u) (i : Int) * ps l i < ps l i := by
  have h1 := small hI (m := m) hu hi
  have h2 := zg3 hI hm hU (u := u) (by omega) hi
  have h3 : ¬ wd (cs l i) (ps l i) (rd (nxs l m u) (i : Int)) ≤ (u : Int) := by omega
  rw [zgh h1.1, Int.add_mul, Int.one_mul, Int.mul_comm (cs l i)] at h3
  omega
theorem at_row {t : Nat} (ht : t < 120) {j : Nat} (hj : j < (rowt l m t).length) : ∃ i : Nat, rd (rowt l m t) (j : Int) = (i : Int) ∧ i < l.length ∧ (i : Int) ∈ rowt l m t ∧ (i : Int) ∉ (rowt l m t).take j ∧ rd (fadv (nxs l m t) ((rowt l m t).take j)) (i : Int) = rd (nxs l m t) (i : Int) ∧ wr (cs l i) (ps l i) (rd (nxs l m t) (i : Int)) ≤ (t : Int) ∧
    (fadv (nxs l m t) ((rowt l m t).take j)).set i (wrap64 (rd (nxs l m t) (i : Int) + 1)) = fadv (nxs l m t) ((rowt l m t).take (j + 1)) := by
  obtain ⟨h1, h2, h3⟩ := zit hI (m := m) (t := t) (by omega)
  have h4 := h3 _ (List.getElem_mem hj)
  obtain ⟨i, hi, hil⟩ := nat_of hI h4.1 h4.2.1
  have hS := (zej hI m t (by omega)).2 i hil
  have hn : (i : Int) ∉ (rowt l m t).take j := fun h => by
    obtain ⟨a, ha, e⟩ := List.mem_iff_getElem.1 h
    rw [List.length_take] at ha
    rw [List.getElem_take, ← hi] at e
    have := zil h1 (by omega) hj e
    omega
  have hp := part_rd hI (m := m) (t := t) (by omega) j i hil
  rw [if_neg hn, Int.add_zero] at hp
  refine ⟨i, by rw [zeo _ j hj, hi], hil, by rw [← hi]; exact List.getElem_mem hj, hn, hp, ?_, ?_⟩
  · rw [hi] at h4; exact h4.2.2
  · rw [List.take_succ_eq_append_getElem hj, zg9, hi, Int.toNat_natCast, hp]
theorem fadv_all (t : Nat) : fadv (nxs l m t) ((rowt l m t).take (rowt l m t).length) = nxs l m (t + 1) := by
  rw [List.take_length]; rfl
theorem cost_at (i : Nat) : (zg l (i : Int)).f0 = cs l i := rfl
theorem per_at (i : Nat) : (zg l (i : Int)).f2 = ps l i := rfl
end
end Go.Proofs.Ytnilnaabjpcfjaa.Fair
namespace Go.Proofs.Ytnilnaabjpcfjaa.Pure
open Go.RowKit Go.Proofs.Ytnilnaabjpcfjaa.P Go.Proofs.Ytnilnaabjpcfjaa.Base Go.Proofs.Ytnilnaabjpcfjaa.Gen Go.Proofs.YtnilnaabjpcfjaaW.PrintWords Go.Proofs.YtnilnaabjpcfjaaW.PrintLast
open Go.Proofs.Ytnilnaabjpcfjaa.Pb Go.Proofs.Ytnilnaabjpcfjaa.Alive Go.Proofs.Ytnilnaabjpcfjaa.Win Go.Proofs.Ytnilnaabjpcfjaa.Set Go.Proofs.Ytnilnaabjpcfjaa.Fair
theorem FnFairFull : laws_FnFairFull.Pure := by
  intro l0 _ hl
  apply Tot.rounds
  unfold laws_FnFairFull.f
  refine Tot.ite (fun _ => Tot.ret _ rfl) (fun _ => ?_)
  refine Tot.bind (draw_tot l0 hl.2) ?_
  rintro ⟨l, m⟩ hlen
  simp only at hlen ⊢
  refine Tot.bind (run_tot l m) ?_
  rintro _ rfl
  refine Tot.bind (srun_tot l m (by omega)) ?_
  rintro _ rfl
  refine Tot.bind (rows_tot l m) ?_
  rintro _ rfl
  refine Tot.yes rfl ?_
  have out : ∀ x y : Int, Tot (fun k => laws_FnFairFull.j0 k l m (FR l m) true x y) (fun r => r = true) := fun x y =>
    Tot.step (fun k => by rw [laws_FnFairFull.j0]) (Tot.yes rfl (Tot.zdx alive_f (Tot.ret _ rfl)))
  by_cases h : Impl l ∧ 1 ≤ m ∧ m ≤ 5
  · refine Tot.bind (util_tot h.1.1) ?_
    rintro ⟨n, d⟩ hu
    simp only
    rw [FR_yes h] at out ⊢
    refine Tot.yes (by rw [ze6]; rfl) ?_
    have hb := hu
    obtain ⟨g, _, _, _, b1, b2, b3, b4⟩ := hb
    simp only at b1 b2 b3 b4
    have hmd := zgf (a := m) (b := d) (A := 5) (B := 27720) (by omega) (by omega) (by omega) (by omega)
    rw [w64 (by omega) (by omega)]
    by_cases hc : n > m * d
    · rw [decide_eq_true hc]; exact out _ _
    · rw [decide_eq_false hc]
      have hU : Pd2.sm (wt l) l.length ≤ m * 27720 := (util_le h.1 m).1 ((ut_iff hu m).1.1 (by simp only; omega))
      have hl5 := h.1.1.1
      refine Tot.step (fun k => by rw [laws_FnFairFull.j0]) ?_
      refine Tot.no (by decide) (Tot.yes (by omega) ?_)
      refine Tot.yes (by rw [Int.toNat_natCast]; omega) ?_
      rw [Int.toNat_natCast]
      have ticks : ∀ e t : Nat, t + e = 120 → Tot (fun k => laws_FnFairFull.l0 k l m (rws l m 120) (nxs l m t) (t : Int) n d) (fun r => r = true) := by
        intro e
        induction e with
        | zero => intro t ht; exact Tot.step (fun k => by rw [laws_FnFairFull.l0]) (Tot.no (by omega) (Tot.ret _ rfl))
        | succ e ih =>
          intro t ht
          refine Tot.step (fun k => by rw [laws_FnFairFull.l0]) (Tot.yes (by omega) ?_)
          have each : ∀ q i : Nat, i + q = l.length → Tot (fun k => laws_FnFairFull.l2 k l m (rws l m 120) (nxs l m (t + 1)) (t : Int) (i : Int) n d) (fun r => r = true) := by
            intro q
            induction q with
            | zero =>
              intro i hi
              refine Tot.step (fun k => by rw [laws_FnFairFull.l2]) (Tot.no (by omega) ?_)
              rw [w64 (x := (t : Int) + 1) (by omega) (by omega)]
              exact ih (t + 1) (by omega)
            | succ q ihq =>
              intro i hi
              have hil : i < l.length := by omega
              have hsm := small h.1 (m := m) (u := t + 1) (by omega) hil
              have ha := not_ahead h.1 (m := m) (u := t + 1) (by omega) hil
              have hbh := not_behind h.1 h.2.1 hU (u := t + 1) (by omega) hil
              have hS := (zej h.1 m (t + 1) (by omega)).1
              refine Tot.step (fun k => by rw [laws_FnFairFull.l2]) (Tot.yes (by omega) (Tot.yes (by omega) ?_))
              rw [cost_at h.1, per_at h.1, w64 (x := (t : Int) + 1) (by omega) (by omega), show ((t : Int) + 1) = ((t + 1 : Nat) : Int) by omega, w64 (x := (i : Int) + 1) (by omega) (by omega), zey (by omega), tmod_pos (by omega)]
              have hnext : Tot (fun k => laws_FnFairFull.l2 k l m (rws l m 120) (nxs l m (t + 1)) (t : Int) ((i : Int) + 1) n d) (fun r => r = true) := ihq (i + 1) (by omega)
              have h1 := Int.mul_ediv_add_emod ((t + 1 : Nat) : Int) (ps l i)
              have h3 := Int.ediv_nonneg (show 0 ≤ ((t + 1 : Nat) : Int) by omega) (show 0 ≤ ps l i by omega)
              have h4 := Int.ediv_le_self (ps l i) (show 0 ≤ ((t + 1 : Nat) : Int) by omega)
              refine Tot.no (by omega) (Tot.ite (fun h0 => ?_) (fun _ => hnext))
              rw [h0, Int.add_zero] at h1
              generalize ((t + 1 : Nat) : Int) / ps l i = q1 at *
              have h5 := zgf (a := q1) (b := cs l i) (A := 1000) (B := 8) h3 (by omega) (by omega) (by omega)
              rw [w64 (x := q1) (by omega) (by omega), w64 (x := q1 * cs l i) (by omega) (by omega)]
              have h6 : ((t + 1 : Nat) : Int) * cs l i = q1 * cs l i * ps l i := by rw [← h1, Int.mul_comm (ps l i), Int.mul_assoc, Int.mul_assoc, Int.mul_comm (ps l i)]
              have h7 : q1 * cs l i < rd (nxs l m (t + 1)) (i : Int) + 1 := by
                refine Int.lt_of_mul_lt_mul_right (a := ps l i) ?_ (by omega)
                rw [Int.add_mul, Int.one_mul]; omega
              have h8 : rd (nxs l m (t + 1)) (i : Int) < q1 * cs l i + 1 := by
                refine Int.lt_of_mul_lt_mul_right (a := ps l i) ?_ (by omega)
                rw [Int.add_mul, Int.one_mul]; omega
              refine Tot.yes (by omega) (Tot.yes (by omega) ?_)
              exact hnext
          have go : ∀ q j : Nat, j + q = (rowt l m t).length → Tot (fun k => laws_FnFairFull.l1 k l m (rws l m 120) (fadv (nxs l m t) ((rowt l m t).take j)) (t : Int) (j : Int) n d) (fun r => r = true) := by
            intro q
            induction q with
            | zero =>
              intro j hj
              obtain rfl : j = (rowt l m t).length := by omega
              refine Tot.step (fun k => by rw [laws_FnFairFull.l1]) (Tot.yes (by omega) (Tot.yes (by rw [ze6]; omega) ?_))
              rw [rws_at l m (by omega), fadv_all h.1]
              exact Tot.no (by omega) (each l.length 0 (by omega))
            | succ q ihq =>
              intro j hj
              obtain ⟨i, e1, hil, _, _, e2, _, e3⟩ := at_row h.1 (m := m) (t := t) (by omega) (j := j) (by omega)
              have hS := (zej h.1 m t (by omega)).1
              have hr5 := (zit h.1 (m := m) (t := t) (by omega)).2.1
              refine Tot.step (fun k => by rw [laws_FnFairFull.l1]) (Tot.yes (by omega) (Tot.yes (by rw [ze6]; omega) ?_))
              rw [rws_at l m (by omega), e1]
              refine Tot.yes (by omega) (Tot.yes (by omega) (Tot.yes (by omega) (Tot.yes (by rw [zfd]; omega) ?_)))
              rw [Int.toNat_natCast, e2, e3, w64 (x := (j : Int) + 1) (by omega) (by omega)]
              exact ihq (j + 1) (by omega)
          have start : ∀ x : Bool, x = false → Tot (fun k => laws_FnFairFull.j2 k l m (rws l m 120) (nxs l m t) (t : Int) x n d) (fun r => r = true) := fun x hx => by
            subst hx
            refine Tot.step (fun k => by rw [laws_FnFairFull.j2]) ?_
            exact Tot.no (by decide) (go (rowt l m t).length 0 (by omega))
          rw [w64 (x := m * d) (by omega) (by omega)]
          refine Tot.ite (fun hq => ?_) (fun _ => start _ rfl)
          have hbusy := all_busy h.1 h.2.1 (util_eq h.1 m ((ut_iff hu m).2.1 hq)) t (by omega)
          refine Tot.yes (by omega) (Tot.yes (by rw [ze6]; omega) ?_)
          rw [rws_at l m (by omega)]
          exact start _ (by rw [hbusy]; simp)
      exact ticks 120 0 (by omega)
  · rw [FR_no h] at out ⊢
    refine Tot.bind (P := fun _ => True) ?_ (fun r _ => Tot.no (by simp) (out _ _))
    by_cases hs : zeb l
    · exact (util_tot hs).mono (fun _ _ => trivial)
    · unfold zb9.f
      exact Tot.zdx (set_f l) (Tot.no (fun h => hs (of_decide_eq_true h)) (Tot.ret _ trivial))
end Go.Proofs.Ytnilnaabjpcfjaa.Pure
namespace Go.Proofs.Ytnilnaabjpcfjaa.Opn
open Go.ChangeShapes Go.WideShapes Go.Deep Go.RowKit Go.Proofs.YtnilnaabjpcfjaaW.PrintWords
section
variable {H : Type} {enc : TypeId × Value → H} {P : Program} {W : World} {base : Nat} {spare : Nat → Bool} {held : Bool}
def Opens {α : Type} (enc : TypeId × Value → H) (P : Program) (W : World) (base : Nat) (spare : Nat → Bool) (held : Bool) (t : TypeId) (d : Kd α) (G : α → Prop) : Prop :=
  ∀ (fuel : Nat) (cs : List Value) (x : DataW H × List MemPlace), DataW.trod enc P W base spare held fuel t cs = some x → ∃ a, d.K W a cs ∧ G a
theorem opens_int {t : TypeId} {k : IntKind} (hu : P.underlying t = some (.int k)) : Opens enc P W base spare held t (Kd.int k) (fun x => (Lit.int k x).wf = true) := by
  intro fuel cs x h
  obtain ⟨n, hc, _, hw⟩ := DataW.trod_int hu h
  exact ⟨n, hc, hw⟩
theorem list_of {α : Type} (m : Nat) (R : Nat → α → Prop) (h : ∀ i, i < m → ∃ a, R i a) : ∃ xs : List α, xs.length = m ∧ ∀ i a, xs[i]? = some a → R i a := by
  induction m with
  | zero => exact ⟨[], rfl, fun i a ha => by simp at ha⟩
  | succ m ih =>
    obtain ⟨xs, hl, hx⟩ := ih (fun i hi => h i (by omega))
    obtain ⟨a, ha⟩ := h m (by omega)
    refine ⟨xs ++ [a], by simp [hl], fun i b hb => ?_⟩
    rcases Nat.lt_or_ge i m with hi | hi
    · rw [List.getElem?_append_left (by omega)] at hb
      exact hx i b hb
    · have hi' : i = m := by
        have := (List.getElem?_eq_some_iff.1 hb).1
        simp at this
        omega
      subst hi'
      have : a = b := by simpa [hl] using hb
      subst this
      exact ha
theorem slice_row {α : Type} {t e : TypeId} {d : Kd α} {G : α → Prop} (hu : P.underlying t = some (.slice e)) (hC : P.cellsOf e = d.sz) (he : Opens enc P W base spare held e d G)
    {fuel : Nat} {A : Option Addr} {n cap : Nat} {x : DataW H × List MemPlace} (h : DataW.trod enc P W base spare held fuel t [.slice A n cap] = some x) :
    ∃ xs : List α, xs.length = n ∧ n ≤ cap ∧ n ≤ maxLen ∧ d.C W A xs.length xs ∧ ∀ y ∈ xs, G y := by
  rcases open_slice hu h with ⟨h0, _⟩ | ⟨a, len, c, m, k, D, Pl, hcs, _, hl, hm, hmm, _, hel⟩
  · simp only [List.cons.injEq, Value.slice.injEq, and_true] at h0
    obtain ⟨rfl, rfl, rfl⟩ := h0
    exact ⟨[], rfl, Nat.le_refl _, by simp [maxLen], Kd.C_nil d W, fun y hy => by simp at hy⟩
  · simp only [List.cons.injEq, Value.slice.injEq, and_true] at hcs
    obtain ⟨rfl, rfl, rfl⟩ := hcs
    have hle : n ≤ m := by rw [hmm]; split <;> omega
    obtain ⟨xs, hxl, hx⟩ := list_of (α := α) n (fun i y => G y ∧ ∃ cs', d.K W y cs' ∧ cs'.length = d.sz ∧ ∀ j, j < d.sz → W.cell? ((a.add (i * d.sz)).add j) = cs'[j]?) (by
      intro i hi
      obtain ⟨cs', hc, ht⟩ := hel i (by omega)
      obtain ⟨y, hK, hG⟩ := he _ _ _ ht
      rw [hC] at hc
      obtain ⟨_, hcl, hcc⟩ := World.cells?_some hc
      exact ⟨y, hG, cs', hK, hcl, hcc⟩)
    refine ⟨xs, hxl, hl, by omega, ⟨rfl, by simp only [maxLen] at hm; omega, fun hp => ⟨a, rfl, fun j p hj => ?_⟩⟩, fun y hy => ?_⟩
    · obtain ⟨_, cs', hK, hcl, hcc⟩ := hx j p hj
      refine ⟨cs', hcl, hK, fun i u hi => ?_⟩
      have hlt : i < d.sz := by
        have := (List.getElem?_eq_some_iff.1 hi).1
        omega
      rw [← Go.Deep.add_add, hcc i hlt, hi]
    · obtain ⟨i, hi, rfl⟩ := List.getElem_of_mem hy
      exact (hx i _ (List.getElem?_eq_getElem hi)).1
theorem sized_row {t e : TypeId} {A : Option Addr} {n cap : Nat} {d : DataW H} {ps : List MemPlace} {ts : List TypeId} {ds : List (DataW H)} {j : Nat}
    (hsz : (DataW.weightsEach P ts ds).all (· ≤ reachBytes) = true) (ht : ts[j]? = some t) (hd : ds[j]? = some d) (hu : P.underlying t = some (.slice e)) {B : Nat} (hB : P.bytesOf e = B)
    (h : DataW.Trod enc P W base spare held t (.slice A n cap) d ps) : n * B ≤ 140737488351232 := by
  obtain ⟨fuel, hf⟩ := h
  have hf' : DataW.trod enc P W base spare held fuel t [.slice A n cap] = some (d, ps) := hf
  rcases open_slice hu hf' with ⟨h0, _⟩ | ⟨a, len, c, m, k, D, Pl, hcs, _, hl, hm, hmm, hx, hel⟩
  · simp only [List.cons.injEq, Value.slice.injEq, and_true] at h0
    obtain ⟨rfl, rfl, rfl⟩ := h0
    simp
  · simp only [List.cons.injEq, Value.slice.injEq, and_true] at hcs
    obtain ⟨rfl, rfl, rfl⟩ := hcs
    obtain ⟨hx, _⟩ := Prod.mk.inj hx
    subst hx
    have z := sized_slice hsz ht hd hu
    rw [hB] at z
    simp only [List.length_map, List.length_range] at z
    exact Nat.le_trans (Nat.mul_le_mul_right _ (by omega)) z
end
end Go.Proofs.Ytnilnaabjpcfjaa.Opn
namespace Go.Proofs.Ytnilnaabjpcfjaa.Head
open Go
def chars (l : List Nat) : List Char := l.map Char.ofNat
def w1 : List Nat := [104, 97, 114, 110, 101, 115, 115]
def w2 : List Nat := [50, 53, 51, 97, 57, 57, 101, 98, 100, 48, 53, 53, 97, 98, 56, 56, 102, 57, 48, 98, 57, 52, 49, 102, 100, 56, 55, 52, 49, 48, 50, 98, 101, 48, 97, 97, 53, 99, 51, 56, 55, 53, 102, 48, 55, 102, 51, 52, 57, 51, 50, 100, 101, 101, 54, 99, 54, 49, 50, 54, 48, 55, 54, 48]
def w3 : List Nat := [99, 117, 116]
def w4 : List Nat := [97, 116, 32, 108, 111, 111, 112, 46, 101, 120, 97, 109, 112, 108, 101, 47, 100, 101, 97, 100, 108, 105, 110, 101, 115, 99, 104, 101, 100, 117, 108, 101, 114, 47, 108, 97, 119, 115, 46, 70, 110, 70, 97, 105, 114, 76, 97, 103, 32, 108, 111, 111, 112, 46, 101, 120, 97, 109, 112, 108, 101, 47, 100, 101, 97, 100, 108, 105, 110, 101, 115, 99, 104, 101, 100, 117, 108, 101, 114, 47, 108, 97, 119, 115, 46, 70, 110, 70, 97, 105, 114, 79, 110, 101, 32, 108, 111, 111, 112, 46, 101, 120, 97, 109, 112, 108, 101, 47, 100, 101, 97, 100, 108, 105, 110, 101, 115, 99, 104, 101, 100, 117, 108, 101, 114, 47, 108, 97, 119, 115, 46, 70, 110, 70, 97, 105, 114, 87, 105, 110, 100, 111, 119, 115, 32, 108, 111, 111, 112, 46, 101, 120, 97, 109, 112, 108, 101, 47, 100, 101, 97, 100, 108, 105, 110, 101, 115, 99, 104, 101, 100, 117, 108, 101, 114, 47, 108, 97, 119, 115, 46, 70, 110, 70, 97, 105, 114, 82, 111, 119, 115, 32, 108, 111, 111, 112, 46, 101, 120, 97, 109, 112, 108, 101, 47, 100, 101, 97, 100, 108, 105, 110, 101, 115, 99, 104, 101, 100, 117, 108, 101, 114, 47, 108, 97, 119, 115, 46, 70, 110, 69, 120, 97, 99, 116, 82, 117, 110, 70, 97, 105, 114, 32, 108, 111, 111, 112, 46, 101, 120, 97, 109, 112, 108, 101, 47, 100, 101, 97, 100, 108, 105, 110, 101, 115, 99, 104, 101, 100, 117, 108, 101, 114, 47, 108, 97, 119, 115, 46, 70, 110, 70, 97, 105, 114, 70, 117, 108, 108]
theorem io_eq : Try.prog.initOrder = String.ofList (chars (w1 ++ 32 :: (w2 ++ 32 :: (w3 ++ 32 :: w4)))) := by kernel_rfl
theorem io_list : Try.prog.initOrder.toList = chars (w1 ++ 32 :: (w2 ++ 32 :: (w3 ++ 32 :: w4))) := by rw [io_eq, String.toList_ofList]
theorem ws_one (c : Char) (r w : List Char) (ws : List (List Char)) (hc : c ≠ Char.ofNat 32) (h : wordsSigns r = w :: ws) : wordsSigns (c :: r) = (c :: w) :: ws := by
  have e : wordsSigns (c :: r) = match wordsSigns r with
    | w :: ws => (c :: w) :: ws
    | [] => [[c]] := by
    rw [wordsSigns]
    · rfl
    · exact hc
  rw [e, h]
theorem ws_word (w : List Char) (h : ∀ c ∈ w, c ≠ Char.ofNat 32) (r : List Char) : wordsSigns (w ++ Char.ofNat 32 :: r) = w :: wordsSigns r := by
  induction w with
  | nil => rfl
  | cons c w ih => exact ws_one _ _ _ _ (h c (by simp)) (ih (fun x hx => h x (by simp [hx])))
theorem ws_nat (w r : List Nat) (h : w.all (fun n => !(Char.ofNat n == Char.ofNat 32)) = true) : wordsSigns (chars (w ++ 32 :: r)) = chars w :: wordsSigns (chars r) := by
  have e : chars (w ++ 32 :: r) = chars w ++ Char.ofNat 32 :: chars r := by simp [chars]
  rw [e]
  refine ws_word _ (fun c hc => ?_) _
  obtain ⟨n, hn, rfl⟩ := List.mem_map.1 hc
  have := List.all_eq_true.1 h n hn
  simpa using this
theorem ziu : behindMainWord (wordsSigns Try.prog.initOrder.toList) = chars w3 :: wordsSigns (chars w4) := by
  rw [io_list, ws_nat _ _ (by kernel_rfl), ws_nat _ _ (by kernel_rfl), ws_nat _ _ (by kernel_rfl)]
  generalize wordsSigns (chars w4) = R
  kernel_rfl
theorem make_gen (P : Program) (c : List Char) (R : List (List Char)) (h : behindMainWord (wordsSigns P.initOrder.toList) = c :: R) (h1 : (c == "gc".toList || c == "spec".toList) = false) (h2 : (c == "cut".toList) = true) : P.make = some .cut := by
  unfold Program.make
  rw [h]
  simp only [h1, h2, Bool.true_or, if_true, Bool.false_eq_true, if_false]
theorem make : Try.prog.make = some .cut := make_gen _ _ _ ziu (by kernel_rfl) (by kernel_rfl)
theorem enter_gen (P : Program) (c : List Char) (R : List (List Char)) (h : behindMainWord (wordsSigns P.initOrder.toList) = c :: R) (h1 : ∀ R, stripLifts liftWords (c :: R) = ([], c :: R)) (h2 : (some c == some "cut".toList) = true)
    (h3 : P.laysLater = false) (h4 : P.bearsReflect = false) (h5 : P.doorFits [] = true) : P.mayEnter = true := by
  unfold Program.mayEnter
  rw [h]
  simp only [h1, h2, h3, h4, h5, List.head?_cons, Bool.not_false, Bool.or_true, Bool.and_true, List.contains_nil]
theorem enter : Try.prog.mayEnter = true := enter_gen _ _ _ ziu (fun R => by kernel_rfl) (by kernel_rfl) (by kernel_rfl) (by kernel_rfl) (by kernel_rfl)
theorem lifts : Try.prog.liftsFinal = false := by
  unfold Program.liftsFinal Program.headLifts
  simp only [ziu]
  generalize wordsSigns (chars w4) = R
  kernel_rfl
end Go.Proofs.Ytnilnaabjpcfjaa.Head
namespace Go.Proofs.Ytnilnaabjpcfjaa.fnFairFull
open Go.ChangeShapes Go.WideShapes Go.ChangeAt Go.RowKit Go.Proofs.YtnilnaabjpcfjaaW.PrintWords Go.Proofs.Ytnilnaabjpcfjaa.P
open Go.ChangeMaps (open_string shut_string)
theorem own : ownKnob Try.prog.godebug = none := by kernel_rfl
theorem laidOut : laidOutB Try.prog = true := by kernel_rfl
theorem lifted (os : Os) (started : os.Started) (H : Type) (enc : TypeId × Value → H) :
    ReturnsInHanded {} Try.checked os 8 .any (Rows.fnFairFullSpec.pre6 enc Try.prog Try.f8 Rows.fnFairFullRow.domain false) (Rows.fnFairFullSpec.post enc Try.prog Try.f8 false true false false) := by
  refine returnsInHanded_of_change_sized (C := Try.checked) own started (by kernel_rfl) Try.func8
    (ChangeSpec.witness6 (enc := enc) (C := Try.checked) false ⟨#[], #[.slice none 0 0], []⟩ 8 (by kernel_rfl) (by kernel_rfl) (by kernel_rfl) (by kernel_rfl)) ?_
  intro W base args ds gs before hval0 hW hcnd hsz0 _
  have hsz : (DataW.weightsEach Try.prog (Try.f8.params.toList ++ Rows.fnFairFullSpec.plain.varTypes Try.prog) (ds ++ gs)).all (· ≤ reachBytes) = true := hsz0
  have hval : ∀ (j : Nat) t v, Try.f8.params[j]? = some t → args[j]? = some v → Value.okWide Try.prog W .any base t v := hval0
  have hW' := hW
  obtain ⟨p, q, hA0, hV, rfl, hfz, hnd⟩ := hW
  have hA : DataW.TrodAll enc Try.prog W 0 (fun _ => true) true Try.f8.params.toList args.toList ds p := hA0
  rw [Try.params8] at hA hval hsz
  obtain ⟨v0, vs0, d0, ds0, p0, q0, hargs, rfl, rfl, h0, r0⟩ := trodAll_cons hA
  obtain ⟨rfl, rfl, rfl⟩ := trodAll_nil r0
  obtain rfl : args = #[v0] := by cases args; simp_all
  obtain ⟨rfl, rfl⟩ := trodVars_none hV
  have k0 := h0
  have lt0 : ∀ x ∈ p0, x.block < W.heap.size := by obtain ⟨m, hm⟩ := k0; exact DataW.trod_lt m _ _ _ hm
  obtain ⟨A0, n0, c0, rfl⟩ := okWide_slice Try.underlying22 (hval 0 22 v0 rfl rfl)
  have y0 : n0 * 1 ≤ 140737488351232 := Opn.sized_row hsz (j := 0) (t := 22) rfl rfl Try.underlying22 (by kernel_rfl) h0
  obtain ⟨l0, rfl, hc0, hm0, hr0, hg0⟩ : ∃ xs : List (Int), xs.length = n0 ∧ n0 ≤ c0 ∧ n0 ≤ maxLen ∧ Kd.C (Kd.int .u8) W A0 xs.length xs ∧ ∀ y0 ∈ xs, (Lit.int .u8 y0).wf = true := by
    obtain ⟨fuel, hf⟩ := h0
    exact Opn.slice_row Try.underlying22 (by kernel_rfl) (Opn.opens_int Try.underlying5) hf
  obtain ⟨k, hk⟩ := Pure.FnFairFull l0 y0 ⟨hm0, hg0⟩
  clear hA0 hval0 hsz0 hsz
  refine (laws_FnFairFull.calls k A0 c0 l0 true W hr0 hc0 hk).mono fun e W' ⟨he, hd⟩ => ?_
  have bel := hd
  subst he
  exact ⟨_, rfl, _, _, _, [], _, [], hW', trodAll_mk1 (shut_bool Try.underlying4 _), (trodAll_cons_mk (Below.trod laidOut (by kernel_rfl) (of_decide_eq_true (by kernel_rfl)) k0 bel lt0) trodAll_mk0), rfl, bel.frame _, fun h => by cases h⟩
theorem closed : joinedFacts Try.prog 8 Try.f8 Rows.fnFairFullSpec Rows.fnFairFullRow = true := by
  simp only [joinedFacts, Head.enter, Head.lifts, Head.make]
  kernel_rfl
theorem named : Try.prog.funcNamed Rows.fnFairFullRow.func = some 8 := by kernel_rfl
theorem wrapped : Try.f8.isWrapper Try.prog Rows.fnFairFullRow.wrapper Rows.fnFairFullRow.mainSum := by unfold Func.isWrapper; first | (rw [if_pos (by decide +kernel)]; kernel_rfl) | (rw [if_neg (by decide +kernel)]; exact ⟨rfl, rfl⟩)
theorem over : Rows.fnFairFullRow.holds Try.pinned (OpenSpec.ofChange Rows.fnFairFullSpec) :=
  OpenClaim.holds_of_wide 8 Try.f8 rfl rfl rfl rfl rfl rfl rfl ⟨rfl, rfl, rfl, rfl, rfl⟩ rfl rfl rfl rfl rfl named Try.func8 closed
    (of_decide_eq_true (by kernel_rfl)) wrapped
    (fun os started H enc _ => lifted os started H enc)
theorem proved : Rows.FnFairFullSaid := over
#print axioms proved
end Go.Proofs.Ytnilnaabjpcfjaa.fnFairFull
namespace Go.Proofs.Ytnilnaabjpcfjaa
theorem fnFairFull_holds : Rows.FnFairFullSaid := fnFairFull.proved
end Go.Proofs.Ytnilnaabjpcfjaa
