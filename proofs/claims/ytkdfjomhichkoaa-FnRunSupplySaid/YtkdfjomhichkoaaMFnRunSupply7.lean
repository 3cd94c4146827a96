/- The law FnRunSupply for every input, part 7 of its proof: what the program's functions answer, and the plain law. No condition. -/
import Derived.Test.YtkdfjomhichkoaaMFnRunSupply1
import Derived.Test.YtkdfjomhichkoaaMFnRunSupply6
import Derived.SizedLaws
import Derived.ChangeSlices
import Derived.ChangeArms
import Derived.WideShapes
import Derived.Deep.Slices
import Derived.OpenShut
import Derived.Test.YtkdfjomhichkoaaRows
import Derived.JoinedOf
import Derived.KernelRfl
import Derived.WalkKit
import Derived.ProofKit
import Derived.ShutString
import Derived.ChangeOld
import Derived.Below
namespace Go.Proofs.Ytkdfjomhichkoaa.Pure
open Go.RowKit Go.Proofs.Ytkdfjomhichkoaa.P Go.Proofs.Ytkdfjomhichkoaa.Base Go.Proofs.Ytkdfjomhichkoaa.Gen Go.Proofs.YtkdfjomhichkoaaW.PrintWords Go.Proofs.YtkdfjomhichkoaaW.PrintLast
open Go.Proofs.Ytkdfjomhichkoaa.Pb Go.Proofs.Ytkdfjomhichkoaa.Alive Go.Proofs.Ytkdfjomhichkoaa.Set Go.Proofs.Ytkdfjomhichkoaa.Sup Go.Proofs.Ytkdfjomhichkoaa.Pat Go.Proofs.Ytkdfjomhichkoaa.Edf Go.Proofs.Ytkdfjomhichkoaa.Sim Go.Proofs.Ytkdfjomhichkoaa.Jobs Go.Proofs.Ytkdfjomhichkoaa.Leg Go.Proofs.Ytkdfjomhichkoaa.Nps Go.Proofs.Ytkdfjomhichkoaa.Npr Go.Proofs.Ytkdfjomhichkoaa.Rs Go.Proofs.Ytkdfjomhichkoaa.DrNp Go.Proofs.Ytkdfjomhichkoaa.DrRs
theorem all_pv : PV 1 1 (List.replicate 120 true) := by
  refine ⟨by unfold SV; omega, by simp, ?_⟩
  intro j _ _ hj
  have e1 : (1 : Int).toNat = 1 := rfl
  rw [e1] at hj ⊢
  have h := cnt_succ (List.replicate 120 true) (j * 1) 0 (by rw [List.length_replicate]; omega)
  rw [cnt_zero, List.getElem_replicate, if_pos rfl] at h
  rw [Nat.mul_one, Nat.zero_add] at h
  rw [Nat.mul_one]
  exact h
theorem on_all (t : Nat) (h : t < 120) : onb (List.replicate 120 true) t = true := by
  unfold onb
  rw [rdOf_at _ _ t (by simpa using h), List.getElem_replicate]
set_option maxHeartbeats 4000000 in
theorem FnRunSupply : laws_FnRunSupply.Pure := by
  intro l0 _ hl
  apply Tot.rounds
  unfold laws_FnRunSupply.f
  refine Tot.ite (fun _ => Tot.ret _ rfl) (fun _ => ?_)
  refine Tot.bind (draw_rs l0 hl.2) ?_
  rintro ⟨l, js, b, p, pat⟩ ⟨h1, h2, h3⟩
  simp only at h1 h2 h3 ⊢
  refine Tot.bind (Tot.val (impl_rs l js b p pat (by omega) (by omega))) ?_
  rintro _ rfl
  refine Tot.bind (Tot.val (spec_rs l js b p pat (by omega) (by omega))) ?_
  rintro _ rfl
  by_cases hh : PV b p pat ∧ JL l js
  · obtain ⟨hp, h⟩ := hh
    have hr : RS l js b p pat = sch js (supp js (onb pat)) := if_pos ⟨hp, h⟩
    have hsl := sch_len js (supp js (onb pat))
    have h60 := h.2.1
    have hpl := hp.2.1
    have hel := zdl js
    have hS := sch_of (supp_picks js (onb pat)) h.pos
    rw [hr]
    refine Tot.bind (sched_tot _ _ (by omega) (by omega)) ?_
    rintro _ rfl
    refine Tot.yes rfl (Tot.yes (by omega) (Tot.yes (by omega) (Tot.yes (by rw [Int.toNat_natCast]; omega) ?_)))
    rw [Int.toNat_natCast]
    have ticks : ∀ (d t : Nat) (dn : List Int), t + d = 120 → dn.length = js.length → (∀ i, i < js.length → rd dn (i : Int) = rd (exs js) (i : Int) - rd (stL (supp js (onb pat)) (exs js) t) (i : Int)) →
        Tot (fun k => laws_FnRunSupply.l0 k l js pat dn (List.replicate t true) (t : Int) (sch js (supp js (onb pat))).1 (sch js (supp js (onb pat))).2) (fun r => r = true) := by
      intro d
      induction d with
      | zero =>
        intro t dn ht _ _
        obtain rfl : t = 120 := by omega
        refine Tot.step (fun k => by rw [laws_FnRunSupply.l0]) (Tot.no (by omega) ?_)
        have e1 : RS l js 1 1 (List.replicate 120 true) = sch js (supp js (onb (List.replicate 120 true))) := if_pos ⟨all_pv, h⟩
        have e2 : RE l js = sch js (edfp js) := if_pos h
        have e3 : sch js (supp js (onb (List.replicate 120 true))) = sch js (edfp js) := sch_congr (fun left t ht => by unfold supp; rw [if_pos (on_all t ht)])
        have hsl2 := sch_len js (edfp js)
        have hv := impl_rs l js 1 1 (List.replicate 120 true) (by omega) (by omega)
        have hv2 := impl_re l js (by omega) (by omega)
        rw [e1, e3] at hv
        rw [e2] at hv2
        clear e1 e2 e3
        refine Tot.bind (Tot.val hv) ?_
        intro r hr
        subst hr
        refine Tot.bind0 hv2 ?_
        refine Tot.bind (sched_tot _ _ (by omega) (by omega)) ?_
        rintro _ rfl
        exact Tot.ret _ rfl
      | succ d ih =>
        intro t dn ht hdl hdn
        have htn : (sch js (supp js (onb pat))).1.length = 120 := hsl.1
        have hw := za.mk (show wrap64 ((t : Int) + 1) = ((t + 1 : Nat) : Int) by rw [w64 (by omega) (by omega)]; omega)
        refine Tot.step (fun k => by rw [laws_FnRunSupply.l0]) (Tot.yes (by omega) (Tot.yes (by rw [List.length_replicate]; omega) ?_))
        refine zdk _ (Tot.yes (by omega) (Tot.yes (by omega) (Tot.yes (by omega) ?_)))
        rw [rd_sch js _ t (by omega), show List.replicate t true ++ [true] = List.replicate (t + 1) true by rw [List.replicate_succ']]
        have hp2 := supp_picks js (onb pat) (stL (supp js (onb pat)) (exs js) t) t (stL_len t)
        rw [zdl] at hp2
        have fin : Tot (fun k => laws_FnRunSupply.j3 k l js pat dn (List.replicate (t + 1) true) (t : Int) (runL (supp js (onb pat)) (exs js) t) 0 false (sch js (supp js (onb pat))).1 (sch js (supp js (onb pat))).2) (fun r => r = true) ∧
            ∀ c : Int, Tot (fun k => laws_FnRunSupply.j3 k l js pat dn (List.replicate (t + 1) true) (t : Int) (runL (supp js (onb pat)) (exs js) t) c false (sch js (supp js (onb pat))).1 (sch js (supp js (onb pat))).2) (fun r => r = true) := by
          have all : ∀ c : Int, Tot (fun k => laws_FnRunSupply.j3 k l js pat dn (List.replicate (t + 1) true) (t : Int) (runL (supp js (onb pat)) (exs js) t) c false (sch js (supp js (onb pat))).1 (sch js (supp js (onb pat))).2) (fun r => r = true) := by
            intro c
            refine Tot.step (fun k => by rw [laws_FnRunSupply.j3]) (Tot.no (by simp) ?_)
            rcases hp2 with hr2 | ⟨i, hi, hr2, hrel, hliv⟩
            · have hr2 : runL (supp js (onb pat)) (exs js) t = -1 := hr2
              rw [hr2, hw.out]
              refine Tot.no (by omega) (ih (t + 1) dn (by omega) hdl (fun i hi => ?_))
              rw [(st_idle hr2).1]
              exact hdn i hi
            · have hr2 : runL (supp js (onb pat)) (exs js) t = (i : Int) := hr2
              have hle := hS.le_ex t i (by rw [zdl]; exact hi)
              have hxb := exs_bd h i hi
              have hdi := hdn i hi
              rw [hr2, hw.out, w64 (x := rd dn (i : Int) + 1) (by omega) (by omega), Int.toNat_natCast]
              refine Tot.yes (by omega) (Tot.yes (by omega) (Tot.yes (by omega) (ih (t + 1) _ (by omega) (by rw [List.length_set]; exact hdl) (fun j hj => ?_))))
              rw [(st_run hr2 (by rw [zdl]; exact hi)).1]
              by_cases e : j = i
              · subst e
                rw [rd_set_eq _ _ _ (by omega), rd_set_eq _ _ _ (by rw [stL_len, zdl]; omega)]; omega
              · rw [rd_set_ne _ _ _ _ e, rd_set_ne _ _ _ _ e]
                exact hdn j hj
          exact ⟨all 0, all⟩
        by_cases hon : rdOf false pat (t : Int) = true
        · refine Tot.yes hon ?_
          refine Tot.step (fun k => by rw [laws_FnRunSupply.j1]) (Tot.no (by simp) ?_)
          have hpk : runL (supp js (onb pat)) (exs js) t = edfp js (stL (supp js (onb pat)) (exs js) t) t := by
            show supp js (onb pat) (stL (supp js (onb pat)) (exs js) t) t = _
            conv => lhs; unfold supp
            rw [if_pos (show onb pat t = true from hon)]
            rfl
          have jobs : ∀ e i : Nat, i + e = js.length → Tot (fun k => laws_FnRunSupply.l1 k l js pat dn (List.replicate (t + 1) true) (t : Int) (runL (supp js (onb pat)) (exs js) t) (i : Int) (sch js (supp js (onb pat))).1 (sch js (supp js (onb pat))).2) (fun r => r = true) := by
            intro e
            induction e with
            | zero =>
              intro i hi
              refine Tot.step (fun k => by rw [laws_FnRunSupply.l1]) (Tot.yes (by omega) (Tot.yes (by omega) (Tot.yes hon (Tot.ite (fun _ => ?_) (fun _ => fin.2 _)))))
              rw [decide_eq_false (by omega)]
              exact fin.2 _
            | succ e ihe =>
              intro i hi
              have hil : i < js.length := by omega
              refine Tot.step (fun k => by rw [laws_FnRunSupply.l1]) (Tot.yes (by omega) (Tot.yes (by omega) (Tot.yes hon (Tot.ite (fun hneg => ?_) (fun _ => fin.2 _)))))
              rw [decide_eq_true (by omega)]
              refine Tot.step (fun k => by rw [laws_FnRunSupply.j3]) (Tot.yes rfl (Tot.yes (by omega) (Tot.yes (by omega) ?_)))
              rw [rjT, show wrap64 ((i : Int) + 1) = ((i + 1 : Nat) : Int) by rw [w64 (by omega) (by omega)]; omega]
              refine Tot.ite (fun hrel => Tot.yes (by omega) (Tot.no ?_ (ihe (i + 1) (by omega)))) (fun _ => ihe (i + 1) (by omega))
              rw [hpk] at hneg
              rcases edfp_sp js (stL (supp js (onb pat)) (exs js) t) t with ⟨_, h5⟩ | ⟨a, _, h5, _⟩
              · have h6 := h5 i hil hrel
                have h7 := hdn i hil
                have h8 := exs_rd js i hil
                omega
              · omega
          exact jobs js.length 0 (by omega)
        · refine Tot.no hon ?_
          have hpk : runL (supp js (onb pat)) (exs js) t = -1 := by
            show supp js (onb pat) (stL (supp js (onb pat)) (exs js) t) t = _
            conv => lhs; unfold supp
            rw [if_neg (show ¬ onb pat t = true from hon)]
          rw [decide_eq_false (by omega)]
          refine Tot.step (fun k => by rw [laws_FnRunSupply.j1]) (Tot.no (by simp) ?_)
          exact Tot.step (fun k => by rw [laws_FnRunSupply.l1]) (Tot.yes (by omega) (Tot.yes (by omega) (Tot.no hon fin.1)))
    refine ticks 120 0 (List.replicate js.length 0) (by omega) (by simp) (fun i hi => ?_)
    rw [rd_at _ i (by simpa using hi), List.getElem_replicate]
    show (0 : Int) = rd (exs js) (i : Int) - rd (exs js) (i : Int)
    omega
  · have hr : RS l js b p pat = ([], []) := if_neg hh
    rw [hr]
    refine Tot.bind (sched_tot [] [] (by simp) (by simp)) ?_
    rintro _ rfl
    exact Tot.yes rfl (Tot.no (by simp) (Tot.yes (by simp [wrap64]) (Tot.bind0 alive_f (Tot.ret _ rfl))))
end Go.Proofs.Ytkdfjomhichkoaa.Pure
namespace Go.Proofs.Ytkdfjomhichkoaa.Opn
open Go.ChangeShapes Go.WideShapes Go.Deep Go.RowKit Go.Proofs.YtkdfjomhichkoaaW.PrintWords
section
variable {H : Type} {enc : TypeId × Value → H} {P : Program} {W : World} {base : Nat} {spare : Nat → Bool} {held : Bool}
def Opens {α : Type} (enc : TypeId × Value → H) (P : Program) (W : World) (base : Nat) (spare : Nat → Bool) (held : Bool) (t : TypeId) (d : Kd α) (G : α → Prop) : Prop :=
  ∀ (fuel : Nat) (cs : List Value) (x : DataW H × List MemPlace), DataW.trod enc P W base spare held fuel t cs = some x → ∃ a, d.K W a cs ∧ G a
theorem opens_int {t : TypeId} {k : IntKind} (hu : P.underlying t = some (.int k)) : Opens enc P W base spare held t (Kd.int k) (fun x => (Lit.int k x).wf = true) := by
  intro fuel cs x h
  obtain ⟨n, hc, _, hw⟩ := DataW.trod_int hu h
  exact ⟨n, hc, hw⟩
theorem list_of {α : Type} (m : Nat) (R : Nat → α → Prop) (h : ∀ i, i < m → ∃ a, R i a) : ∃ xs : List α, xs.length = m ∧ ∀ i a, xs[i]? = some a → R i a := by
  induction m with
  | zero => exact ⟨[], rfl, fun i a ha => by simp at ha⟩
  | succ m ih =>
    obtain ⟨xs, hl, hx⟩ := ih (fun i hi => h i (by omega))
    obtain ⟨a, ha⟩ := h m (by omega)
    refine ⟨xs ++ [a], by simp [hl], fun i b hb => ?_⟩
    rcases Nat.lt_or_ge i m with hi | hi
    · rw [List.getElem?_append_left (by omega)] at hb
      exact hx i b hb
    · have hi' : i = m := by
        have := (List.getElem?_eq_some_iff.1 hb).1
        simp at this
        omega
      subst hi'
      have : a = b := by simpa [hl] using hb
      subst this
      exact ha
theorem slice_row {α : Type} {t e : TypeId} {d : Kd α} {G : α → Prop} (hu : P.underlying t = some (.slice e)) (hC : P.cellsOf e = d.sz) (he : Opens enc P W base spare held e d G)
    {fuel : Nat} {A : Option Addr} {n cap : Nat} {x : DataW H × List MemPlace} (h : DataW.trod enc P W base spare held fuel t [.slice A n cap] = some x) :
    ∃ xs : List α, xs.length = n ∧ n ≤ cap ∧ n ≤ maxLen ∧ d.C W A xs.length xs ∧ ∀ y ∈ xs, G y := by
  rcases open_slice hu h with ⟨h0, _⟩ | ⟨a, len, c, m, k, D, Pl, hcs, _, hl, hm, hmm, _, hel⟩
  · simp only [List.cons.injEq, Value.slice.injEq, and_true] at h0
    obtain ⟨rfl, rfl, rfl⟩ := h0
    exact ⟨[], rfl, Nat.le_refl _, by simp [maxLen], Kd.C_nil d W, fun y hy => by simp at hy⟩
  · simp only [List.cons.injEq, Value.slice.injEq, and_true] at hcs
    obtain ⟨rfl, rfl, rfl⟩ := hcs
    have hle : n ≤ m := by rw [hmm]; split <;> omega
    obtain ⟨xs, hxl, hx⟩ := list_of (α := α) n (fun i y => G y ∧ ∃ cs', d.K W y cs' ∧ cs'.length = d.sz ∧ ∀ j, j < d.sz → W.cell? ((a.add (i * d.sz)).add j) = cs'[j]?) (by
      intro i hi
      obtain ⟨cs', hc, ht⟩ := hel i (by omega)
      obtain ⟨y, hK, hG⟩ := he _ _ _ ht
      rw [hC] at hc
      obtain ⟨_, hcl, hcc⟩ := World.cells?_some hc
      exact ⟨y, hG, cs', hK, hcl, hcc⟩)
    refine ⟨xs, hxl, hl, by omega, ⟨rfl, by simp only [maxLen] at hm; omega, fun hp => ⟨a, rfl, fun j p hj => ?_⟩⟩, fun y hy => ?_⟩
    · obtain ⟨_, cs', hK, hcl, hcc⟩ := hx j p hj
      refine ⟨cs', hcl, hK, fun i u hi => ?_⟩
      have hlt : i < d.sz := by
        have := (List.getElem?_eq_some_iff.1 hi).1
        omega
      rw [← Go.Deep.add_add, hcc i hlt, hi]
    · obtain ⟨i, hi, rfl⟩ := List.getElem_of_mem hy
      exact (hx i _ (List.getElem?_eq_getElem hi)).1
theorem sized_row {t e : TypeId} {A : Option Addr} {n cap : Nat} {d : DataW H} {ps : List MemPlace} {ts : List TypeId} {ds : List (DataW H)} {j : Nat}
    (hsz : (DataW.weightsEach P ts ds).all (· ≤ reachBytes) = true) (ht : ts[j]? = some t) (hd : ds[j]? = some d) (hu : P.underlying t = some (.slice e)) {B : Nat} (hB : P.bytesOf e = B)
    (h : DataW.Trod enc P W base spare held t (.slice A n cap) d ps) : n * B ≤ 140737488351232 := by
  obtain ⟨fuel, hf⟩ := h
  have hf' : DataW.trod enc P W base spare held fuel t [.slice A n cap] = some (d, ps) := hf
  rcases open_slice hu hf' with ⟨h0, _⟩ | ⟨a, len, c, m, k, D, Pl, hcs, _, hl, hm, hmm, hx, hel⟩
  · simp only [List.cons.injEq, Value.slice.injEq, and_true] at h0
    obtain ⟨rfl, rfl, rfl⟩ := h0
    simp
  · simp only [List.cons.injEq, Value.slice.injEq, and_true] at hcs
    obtain ⟨rfl, rfl, rfl⟩ := hcs
    obtain ⟨hx, _⟩ := Prod.mk.inj hx
    subst hx
    have z := sized_slice hsz ht hd hu
    rw [hB] at z
    simp only [List.length_map, List.length_range] at z
    exact Nat.le_trans (Nat.mul_le_mul_right _ (by omega)) z
end
end Go.Proofs.Ytkdfjomhichkoaa.Opn
namespace Go.Proofs.Ytkdfjomhichkoaa.Head
open Go
def chars (l : List Nat) : List Char := l.map Char.ofNat
def w1 : List Nat := [104, 97, 114, 110, 101, 115, 115]
def w2 : List Nat := [53, 56, 52, 57, 99, 51, 101, 100, 56, 100, 101, 101, 57, 99, 49, 55, 56, 100, 101, 48, 49, 51, 53, 50, 57, 99, 57, 53, 100, 99, 51, 50, 57, 51, 57, 100, 102, 102, 53, 53, 98, 102, 54, 98, 52, 51, 55, 99, 55, 48, 49, 56, 49, 48, 57, 48, 56, 53, 56, 102, 99, 54, 52, 48]
def w3 : List Nat := [99, 117, 116]
def w4 : List Nat := [97, 116, 32, 108, 111, 111, 112, 46, 101, 120, 97, 109, 112, 108, 101, 47, 100, 101, 97, 100, 108, 105, 110, 101, 115, 99, 104, 101, 100, 117, 108, 101, 114, 47, 108, 97, 119, 115, 46, 70, 110, 82, 117, 110, 78, 111, 110, 80, 114, 101, 101, 109, 112, 116, 105, 118, 101, 32, 108, 111, 111, 112, 46, 101, 120, 97, 109, 112, 108, 101, 47, 100, 101, 97, 100, 108, 105, 110, 101, 115, 99, 104, 101, 100, 117, 108, 101, 114, 47, 108, 97, 119, 115, 46, 70, 110, 85, 110, 105, 116, 67, 111, 115, 116, 115, 32, 108, 111, 111, 112, 46, 101, 120, 97, 109, 112, 108, 101, 47, 100, 101, 97, 100, 108, 105, 110, 101, 115, 99, 104, 101, 100, 117, 108, 101, 114, 47, 108, 97, 119, 115, 46, 70, 110, 69, 120, 97, 99, 116, 82, 117, 110, 78, 111, 110, 80, 114, 101, 101, 109, 112, 116, 105, 118, 101, 32, 108, 111, 111, 112, 46, 101, 120, 97, 109, 112, 108, 101, 47, 100, 101, 97, 100, 108, 105, 110, 101, 115, 99, 104, 101, 100, 117, 108, 101, 114, 47, 108, 97, 119, 115, 46, 70, 110, 78, 111, 110, 80, 114, 101, 101, 109, 112, 116, 105, 118, 101, 83, 97, 102, 101, 32, 108, 111, 111, 112, 46, 101, 120, 97, 109, 112, 108, 101, 47, 100, 101, 97, 100, 108, 105, 110, 101, 115, 99, 104, 101, 100, 117, 108, 101, 114, 47, 108, 97, 119, 115, 46, 70, 110, 82, 117, 110, 83, 117, 112, 112, 108, 121, 32, 108, 111, 111, 112, 46, 101, 120, 97, 109, 112, 108, 101, 47, 100, 101, 97, 100, 108, 105, 110, 101, 115, 99, 104, 101, 100, 117, 108, 101, 114, 47, 108, 97, 119, 115, 46, 70, 110, 69, 120, 97, 99, 116, 82, 117, 110, 83, 117, 112, 112, 108, 121, 32, 108, 111, 111, 112, 46, 101, 120, 97, 109, 112, 108, 101, 47, 100, 101, 97, 100, 108, 105, 110, 101, 115, 99, 104, 101, 100, 117, 108, 101, 114, 47, 108, 97, 119, 115, 46, 70, 110, 83, 117, 112, 112, 108, 121, 83, 97, 102, 101, 32, 108, 111, 111, 112, 46, 101, 120, 97, 109, 112, 108, 101, 47, 100, 101, 97, 100, 108, 105, 110, 101, 115, 99, 104, 101, 100, 117, 108, 101, 114, 47, 108, 97, 119, 115, 46, 70, 110, 69, 120, 97, 99, 116, 83, 116, 101, 97, 108, 83, 108, 97, 99, 107]
theorem io_eq : Try.prog.initOrder = String.ofList (chars (w1 ++ 32 :: (w2 ++ 32 :: (w3 ++ 32 :: w4)))) := by kernel_rfl
theorem io_list : Try.prog.initOrder.toList = chars (w1 ++ 32 :: (w2 ++ 32 :: (w3 ++ 32 :: w4))) := by rw [io_eq, String.toList_ofList]
theorem ws_one (c : Char) (r w : List Char) (ws : List (List Char)) (hc : c ≠ Char.ofNat 32) (h : wordsSigns r = w :: ws) : wordsSigns (c :: r) = (c :: w) :: ws := by
  have e : wordsSigns (c :: r) = match wordsSigns r with
    | w :: ws => (c :: w) :: ws
    | [] => [[c]] := by
    rw [wordsSigns]
    · rfl
    · exact hc
  rw [e, h]
theorem ws_word (w : List Char) (h : ∀ c ∈ w, c ≠ Char.ofNat 32) (r : List Char) : wordsSigns (w ++ Char.ofNat 32 :: r) = w :: wordsSigns r := by
  induction w with
  | nil => rfl
  | cons c w ih => exact ws_one _ _ _ _ (h c (by simp)) (ih (fun x hx => h x (by simp [hx])))
theorem ws_nat (w r : List Nat) (h : w.all (fun n => !(Char.ofNat n == Char.ofNat 32)) = true) : wordsSigns (chars (w ++ 32 :: r)) = chars w :: wordsSigns (chars r) := by
  have e : chars (w ++ 32 :: r) = chars w ++ Char.ofNat 32 :: chars r := by simp [chars]
  rw [e]
  refine ws_word _ (fun c hc => ?_) _
  obtain ⟨n, hn, rfl⟩ := List.mem_map.1 hc
  have := List.all_eq_true.1 h n hn
  simpa using this
theorem io_words : behindMainWord (wordsSigns Try.prog.initOrder.toList) = chars w3 :: wordsSigns (chars w4) := by
  rw [io_list, ws_nat _ _ (by kernel_rfl), ws_nat _ _ (by kernel_rfl), ws_nat _ _ (by kernel_rfl)]
  generalize wordsSigns (chars w4) = R
  kernel_rfl
theorem make_gen (P : Program) (c : List Char) (R : List (List Char)) (h : behindMainWord (wordsSigns P.initOrder.toList) = c :: R) (h1 : (c == "gc".toList || c == "spec".toList) = false) (h2 : (c == "cut".toList) = true) : P.make = some .cut := by
  unfold Program.make
  rw [h]
  simp only [h1, h2, Bool.true_or, if_true, Bool.false_eq_true, if_false]
theorem make : Try.prog.make = some .cut := make_gen _ _ _ io_words (by kernel_rfl) (by kernel_rfl)
theorem enter_gen (P : Program) (c : List Char) (R : List (List Char)) (h : behindMainWord (wordsSigns P.initOrder.toList) = c :: R) (h1 : ∀ R, stripLifts liftWords (c :: R) = ([], c :: R)) (h2 : (some c == some "cut".toList) = true)
    (h3 : P.laysLater = false) (h4 : P.bearsReflect = false) (h5 : P.doorFits [] = true) : P.mayEnter = true := by
  unfold Program.mayEnter
  rw [h]
  simp only [h1, h2, h3, h4, h5, List.head?_cons, Bool.not_false, Bool.or_true, Bool.and_true, List.contains_nil]
theorem enter : Try.prog.mayEnter = true := enter_gen _ _ _ io_words (fun R => by kernel_rfl) (by kernel_rfl) (by kernel_rfl) (by kernel_rfl) (by kernel_rfl)
theorem lifts : Try.prog.liftsFinal = false := by
  unfold Program.liftsFinal Program.headLifts
  simp only [io_words]
  generalize wordsSigns (chars w4) = R
  kernel_rfl
end Go.Proofs.Ytkdfjomhichkoaa.Head
namespace Go.Proofs.Ytkdfjomhichkoaa.fnRunSupply
open Go.ChangeShapes Go.WideShapes Go.ChangeAt Go.RowKit Go.Proofs.YtkdfjomhichkoaaW.PrintWords Go.Proofs.Ytkdfjomhichkoaa.P
open Go.ChangeMaps (open_string shut_string)
theorem own : ownKnob Try.prog.godebug = none := by kernel_rfl
theorem laidOut : laidOutB Try.prog = true := by kernel_rfl
set_option maxRecDepth 100000 in
theorem lifted (os : Os) (started : os.Started) (H : Type) (enc : TypeId × Value → H) :
    ReturnsInHanded {} Try.checked os 7 .any (Rows.fnRunSupplySpec.pre6 enc Try.prog Try.f7 Rows.fnRunSupplyRow.domain false) (Rows.fnRunSupplySpec.post enc Try.prog Try.f7 false true false false) := by
  refine returnsInHanded_of_change_sized (C := Try.checked) own started (by kernel_rfl) Try.func7
    (ChangeSpec.witness6 (enc := enc) (C := Try.checked) false ⟨#[], #[.slice none 0 0], []⟩ 8 (by kernel_rfl) (by kernel_rfl) (by kernel_rfl) (by kernel_rfl)) ?_
  intro W base args ds gs before hval0 hW hcnd hsz0 _
  have hsz : (DataW.weightsEach Try.prog (Try.f7.params.toList ++ Rows.fnRunSupplySpec.plain.varTypes Try.prog) (ds ++ gs)).all (· ≤ reachBytes) = true := hsz0
  have hval : ∀ (j : Nat) t v, Try.f7.params[j]? = some t → args[j]? = some v → Value.okWide Try.prog W .any base t v := hval0
  have hW' := hW
  obtain ⟨p, q, hA0, hV, rfl, hfz, hnd⟩ := hW
  have hA : DataW.TrodAll enc Try.prog W 0 (fun _ => true) true Try.f7.params.toList args.toList ds p := hA0
  rw [Try.params7] at hA hval hsz
  obtain ⟨v0, vs0, d0, ds0, p0, q0, hargs, rfl, rfl, h0, r0⟩ := trodAll_cons hA
  obtain ⟨rfl, rfl, rfl⟩ := trodAll_nil r0
  obtain rfl : args = #[v0] := by cases args; simp_all
  obtain ⟨rfl, rfl⟩ := trodVars_none hV
  have k0 := h0
  have lt0 : ∀ x ∈ p0, x.block < W.heap.size := by obtain ⟨m, hm⟩ := k0; exact DataW.trod_lt m _ _ _ hm
  obtain ⟨A0, n0, c0, rfl⟩ := okWide_slice Try.underlying22 (hval 0 22 v0 rfl rfl)
  have y0 : n0 * 1 ≤ 140737488351232 := Opn.sized_row hsz (j := 0) (t := 22) rfl rfl Try.underlying22 (by kernel_rfl) h0
  obtain ⟨l0, rfl, hc0, hm0, hr0, hg0⟩ : ∃ xs : List (Int), xs.length = n0 ∧ n0 ≤ c0 ∧ n0 ≤ maxLen ∧ Kd.C (Kd.int .u8) W A0 xs.length xs ∧ ∀ y0 ∈ xs, (Lit.int .u8 y0).wf = true := by
    obtain ⟨fuel, hf⟩ := h0
    exact Opn.slice_row Try.underlying22 (by kernel_rfl) (Opn.opens_int Try.underlying5) hf
  obtain ⟨k, hk⟩ := Pure.FnRunSupply l0 y0 ⟨hm0, hg0⟩
  clear hA0 hval0 hsz0 hsz
  refine (laws_FnRunSupply.calls k A0 c0 l0 true W hr0 hc0 hk rfl).mono fun e W' ⟨he, hd⟩ => ?_
  have bel := hd
  subst he
  exact ⟨_, rfl, _, _, _, [], _, [], hW', trodAll_mk1 (shut_bool Try.underlying4 _), (trodAll_cons_mk (Below.trod laidOut (by kernel_rfl) (of_decide_eq_true (by kernel_rfl)) k0 bel lt0) trodAll_mk0), rfl, bel.frame _, fun h => by cases h⟩
theorem closed : joinedFacts Try.prog 7 Try.f7 Rows.fnRunSupplySpec Rows.fnRunSupplyRow = true := by
  simp only [joinedFacts, Head.enter, Head.lifts, Head.make]
  kernel_rfl
theorem named : Try.prog.funcNamed Rows.fnRunSupplyRow.func = some 7 := by kernel_rfl
theorem wrapped : Try.f7.isWrapper Try.prog Rows.fnRunSupplyRow.wrapper Rows.fnRunSupplyRow.mainSum := by unfold Func.isWrapper; first | (rw [if_pos (by decide +kernel)]; kernel_rfl) | (rw [if_neg (by decide +kernel)]; exact ⟨rfl, rfl⟩)
theorem over : Rows.fnRunSupplyRow.holds Try.pinned (OpenSpec.ofChange Rows.fnRunSupplySpec) :=
  OpenClaim.holds_of_wide 7 Try.f7 rfl rfl rfl rfl rfl rfl rfl ⟨rfl, rfl, rfl, rfl, rfl⟩ rfl rfl rfl rfl rfl named Try.func7 closed
    (of_decide_eq_true (by kernel_rfl)) wrapped
    (fun os started H enc _ => lifted os started H enc)
theorem proved : Rows.FnRunSupplySaid := over
#print axioms proved
end Go.Proofs.Ytkdfjomhichkoaa.fnRunSupply
namespace Go.Proofs.Ytkdfjomhichkoaa
theorem fnRunSupply_holds : Rows.FnRunSupplySaid := fnRunSupply.proved
end Go.Proofs.Ytkdfjomhichkoaa
