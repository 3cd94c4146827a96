/- The law FnGraphWide for every input, part 4 of its proof: what the program's functions answer, and the plain law. No condition. -/
import Derived.Test.YtebgfobjhlcopaaMFnGraphWide1
import Derived.Test.YtebgfobjhlcopaaMFnGraphWide3
import Derived.SizedLaws
import Derived.ChangeSlices
import Derived.ChangeArms
import Derived.WideShapes
import Derived.Deep.Slices
import Derived.OpenShut
import Derived.Test.YtebgfobjhlcopaaRows
import Derived.JoinedOf
import Derived.KernelRfl
import Derived.WalkKit
import Derived.ProofKit
import Derived.ShutString
import Derived.ChangeOld
import Derived.Below
set_option maxRecDepth 100000
namespace Go.Proofs.Ytebgfobjhlcopaa.Pure
open Go.RowKit Go.Proofs.Ytebgfobjhlcopaa.P Go.Proofs.Ytebgfobjhlcopaa.Base Go.Proofs.Ytebgfobjhlcopaa.Gen Go.Proofs.YtebgfobjhlcopaaW.PrintWords Go.Proofs.YtebgfobjhlcopaaW.PrintLast
open Go.Proofs.Ytebgfobjhlcopaa.Pb Go.Proofs.Ytebgfobjhlcopaa.Alive Go.Proofs.Ytebgfobjhlcopaa.Graph Go.Proofs.Ytebgfobjhlcopaa.DrGraph Go.Proofs.Ytebgfobjhlcopaa.Crit Go.Proofs.Ytebgfobjhlcopaa.Gra Go.Proofs.Ytebgfobjhlcopaa.Rg Go.Proofs.Ytebgfobjhlcopaa.Wide
theorem cores_tot (s : List Int) (p n : Int) (hs : Bytes s) (hp : 0 ≤ p) (hp2 : p ≤ 10000000) : Tot (fun k => zb4.f k s p n) (fun _ => True) := by
  unfold zb4.f
  refine Tot.bind (odd_tot s p n hs hp (by omega)) ?_
  rintro ⟨b, q⟩ ⟨h1, h2⟩
  simp only at h1 h2 ⊢
  refine Tot.ite (fun _ => ?_) (fun _ => ?_)
  · refine zhl _ (Tot.bind (zcy s q 3 hs (by omega) (by omega)) ?_)
    rintro ⟨a, q2⟩ ⟨_, h4, h5⟩
    simp only at h4 h5 ⊢
    have h6 := h5 (by omega)
    exact Tot.yes (by omega) (Tot.yes (by simp; omega) (Tot.ret _ trivial))
  · refine Tot.bind (zcy s q 4 hs (by omega) (by omega)) ?_
    rintro ⟨a, q2⟩ _
    exact Tot.ret _ trivial
theorem FnGraphWide : laws_FnGraphWide.Pure := by
  intro l0 _ hl
  apply Tot.rounds
  unfold laws_FnGraphWide.f
  refine Tot.ite (fun _ => Tot.ret _ rfl) (fun _ => ?_)
  unfold zbs.f
  refine Tot.bind (P := fun r => r.1.length ≤ 20 ∧ r.2.1.length ≤ 20) (open_tot l0 hl.2 (fun s hs => Tot.bind (graph_tot s 0 12 hs (by omega) (by omega)) (fun r hr => Tot.bind (cores_tot s r.2.2 12 hs hr.2.2.1 (by have := hr.2.2.2; omega)) (fun _ _ => Tot.ret _ ⟨hr.1, hr.2.1⟩)))) ?_
  rintro ⟨c, es, m⟩ ⟨hc, he⟩
  simp only at hc he ⊢
  refine Tot.bind (Tot.val (impl_mb c es m (by omega) (by omega))) ?_
  rintro _ rfl
  refine Tot.bind (Tot.val (spec_mb c es m)) ?_
  rintro _ rfl
  refine Tot.yes rfl ?_
  by_cases hv : GV c es ∧ 1 ≤ m ∧ m ≤ 5
  · obtain ⟨hg, hm1, hm5⟩ := hv
    have hb := lng_bd hg
    have hb2 := vl_bd hg
    have e1 : MB c es m = lng c es + (vl c - lng c es) / m := if_pos ⟨hg, hm1, hm5⟩
    have hq := Int.ediv_nonneg (show 0 ≤ vl c - lng c es by omega) (show 0 ≤ m by omega)
    have last : Tot (fun k => laws_FnGraphWide.j0 k c es m false) (fun r => r = true) := by
      refine Tot.step (fun k => by rw [laws_FnGraphWide.j0]) (Tot.no (by simp) (Tot.ite (fun _ => Tot.ret _ rfl) (fun hw => ?_)))
      refine Tot.bind (Tot.val (impl_rg c es m (by omega) (by omega))) ?_
      rintro _ rfl
      refine Tot.bind (Tot.val (impl_cp c es (by omega) (by omega))) ?_
      rintro _ rfl
      have e2 : CP c es = lng c es := if_pos hg
      have e3 : (RG c es m).1 = (List.range (TT es m c)).map (run es m c (zz c)) := by unfold RG; rw [if_pos ⟨hg, hm1, hm5⟩]
      refine Tot.ret _ ?_
      rw [e2, e3, List.length_map, List.length_range, wide hg hm1 (by omega)]
      simp
    rw [e1]
    refine Tot.no (by omega) (Tot.ite (fun h5 => ?_) (fun _ => last))
    refine Tot.bind (Tot.val (impl_mb c es (wrap64 (m + 1)) (by omega) (by omega))) ?_
    rintro _ rfl
    have e4 : MB c es (wrap64 (m + 1)) = lng c es + (vl c - lng c es) / (m + 1) := by
      rw [w64 (x := m + 1) (by omega) (by omega)]
      exact if_pos ⟨hg, by omega, by omega⟩
    rw [e4, decide_eq_false (by have := div_more (x := vl c - lng c es) (m := m) (by omega) hm1; omega)]
    exact last
  · have e1 : MB c es m = -1 := if_neg hv
    rw [e1]
    exact Tot.yes (by omega) (Tot.bind0 alive_f (Tot.ret _ rfl))
end Go.Proofs.Ytebgfobjhlcopaa.Pure
namespace Go.Proofs.Ytebgfobjhlcopaa.Opn
open Go.ChangeShapes Go.WideShapes Go.Deep Go.RowKit Go.Proofs.YtebgfobjhlcopaaW.PrintWords
section
variable {H : Type} {enc : TypeId × Value → H} {P : Program} {W : World} {base : Nat} {spare : Nat → Bool} {held : Bool}
def Opens {α : Type} (enc : TypeId × Value → H) (P : Program) (W : World) (base : Nat) (spare : Nat → Bool) (held : Bool) (t : TypeId) (d : Kd α) (G : α → Prop) : Prop :=
  ∀ (fuel : Nat) (cs : List Value) (x : DataW H × List MemPlace), DataW.trod enc P W base spare held fuel t cs = some x → ∃ a, d.K W a cs ∧ G a
theorem opens_int {t : TypeId} {k : IntKind} (hu : P.underlying t = some (.int k)) : Opens enc P W base spare held t (Kd.int k) (fun x => (Lit.int k x).wf = true) := by
  intro fuel cs x h
  obtain ⟨n, hc, _, hw⟩ := DataW.trod_int hu h
  exact ⟨n, hc, hw⟩
theorem list_of {α : Type} (m : Nat) (R : Nat → α → Prop) (h : ∀ i, i < m → ∃ a, R i a) : ∃ xs : List α, xs.length = m ∧ ∀ i a, xs[i]? = some a → R i a := by
  induction m with
  | zero => exact ⟨[], rfl, fun i a ha => by simp at ha⟩
  | succ m ih =>
    obtain ⟨xs, hl, hx⟩ := ih (fun i hi => h i (by omega))
    obtain ⟨a, ha⟩ := h m (by omega)
    refine ⟨xs ++ [a], by simp [hl], fun i b hb => ?_⟩
    rcases Nat.lt_or_ge i m with hi | hi
    · rw [List.getElem?_append_left (by omega)] at hb
      exact hx i b hb
    · have hi' : i = m := by
        have := (List.getElem?_eq_some_iff.1 hb).1
        simp at this
        omega
      subst hi'
      have : a = b := by simpa [hl] using hb
      subst this
      exact ha
theorem slice_row {α : Type} {t e : TypeId} {d : Kd α} {G : α → Prop} (hu : P.underlying t = some (.slice e)) (hC : P.cellsOf e = d.sz) (he : Opens enc P W base spare held e d G)
    {fuel : Nat} {A : Option Addr} {n cap : Nat} {x : DataW H × List MemPlace} (h : DataW.trod enc P W base spare held fuel t [.slice A n cap] = some x) :
    ∃ xs : List α, xs.length = n ∧ n ≤ cap ∧ n ≤ maxLen ∧ d.C W A xs.length xs ∧ ∀ y ∈ xs, G y := by
  rcases open_slice hu h with ⟨h0, _⟩ | ⟨a, len, c, m, k, D, Pl, hcs, _, hl, hm, hmm, _, hel⟩
  · simp only [List.cons.injEq, Value.slice.injEq, and_true] at h0
    obtain ⟨rfl, rfl, rfl⟩ := h0
    exact ⟨[], rfl, Nat.le_refl _, by simp [maxLen], Kd.C_nil d W, fun y hy => by simp at hy⟩
  · simp only [List.cons.injEq, Value.slice.injEq, and_true] at hcs
    obtain ⟨rfl, rfl, rfl⟩ := hcs
    have hle : n ≤ m := by rw [hmm]; split <;> omega
    obtain ⟨xs, hxl, hx⟩ := list_of (α := α) n (fun i y => G y ∧ ∃ cs', d.K W y cs' ∧ cs'.length = d.sz ∧ ∀ j, j < d.sz → W.cell? ((a.add (i * d.sz)).add j) = cs'[j]?) (by
      intro i hi
      obtain ⟨cs', hc, ht⟩ := hel i (by omega)
      obtain ⟨y, hK, hG⟩ := he _ _ _ ht
      rw [hC] at hc
      obtain ⟨_, hcl, hcc⟩ := World.cells?_some hc
      exact ⟨y, hG, cs', hK, hcl, hcc⟩)
    refine ⟨xs, hxl, hl, by omega, ⟨rfl, by simp only [maxLen] at hm; omega, fun hp => ⟨a, rfl, fun j p hj => ?_⟩⟩, fun y hy => ?_⟩
    · obtain ⟨_, cs', hK, hcl, hcc⟩ := hx j p hj
      refine ⟨cs', hcl, hK, fun i u hi => ?_⟩
      have hlt : i < d.sz := by
        have := (List.getElem?_eq_some_iff.1 hi).1
        omega
      rw [← Go.Deep.add_add, hcc i hlt, hi]
    · obtain ⟨i, hi, rfl⟩ := List.getElem_of_mem hy
      exact (hx i _ (List.getElem?_eq_getElem hi)).1
theorem sized_row {t e : TypeId} {A : Option Addr} {n cap : Nat} {d : DataW H} {ps : List MemPlace} {ts : List TypeId} {ds : List (DataW H)} {j : Nat}
    (hsz : (DataW.weightsEach P ts ds).all (· ≤ reachBytes) = true) (ht : ts[j]? = some t) (hd : ds[j]? = some d) (hu : P.underlying t = some (.slice e)) {B : Nat} (hB : P.bytesOf e = B)
    (h : DataW.Trod enc P W base spare held t (.slice A n cap) d ps) : n * B ≤ 140737488351232 := by
  obtain ⟨fuel, hf⟩ := h
  have hf' : DataW.trod enc P W base spare held fuel t [.slice A n cap] = some (d, ps) := hf
  rcases open_slice hu hf' with ⟨h0, _⟩ | ⟨a, len, c, m, k, D, Pl, hcs, _, hl, hm, hmm, hx, hel⟩
  · simp only [List.cons.injEq, Value.slice.injEq, and_true] at h0
    obtain ⟨rfl, rfl, rfl⟩ := h0
    simp
  · simp only [List.cons.injEq, Value.slice.injEq, and_true] at hcs
    obtain ⟨rfl, rfl, rfl⟩ := hcs
    obtain ⟨hx, _⟩ := Prod.mk.inj hx
    subst hx
    have z := sized_slice hsz ht hd hu
    rw [hB] at z
    simp only [List.length_map, List.length_range] at z
    exact Nat.le_trans (Nat.mul_le_mul_right _ (by omega)) z
end
end Go.Proofs.Ytebgfobjhlcopaa.Opn
namespace Go.Proofs.Ytebgfobjhlcopaa.Head
open Go
def chars (l : List Nat) : List Char := l.map Char.ofNat
def w1 : List Nat := [104, 97, 114, 110, 101, 115, 115]
def w2 : List Nat := [53, 57, 99, 56, 55, 98, 101, 99, 57, 52, 48, 54, 101, 57, 48, 57, 53, 52, 100, 53, 57, 57, 100, 55, 55, 100, 99, 57, 51, 55, 50, 48, 54, 55, 57, 57, 99, 49, 48, 97, 101, 56, 98, 49, 53, 51, 50, 57, 100, 102, 53, 52, 49, 101, 55, 54, 98, 100, 55, 98, 98, 97, 55, 48]
def w3 : List Nat := [99, 117, 116]
def w4 : List Nat := [97, 116, 32, 108, 111, 111, 112, 46, 101, 120, 97, 109, 112, 108, 101, 47, 100, 101, 97, 100, 108, 105, 110, 101, 115, 99, 104, 101, 100, 117, 108, 101, 114, 47, 108, 97, 119, 115, 46, 70, 110, 82, 117, 110, 71, 114, 97, 112, 104, 32, 108, 111, 111, 112, 46, 101, 120, 97, 109, 112, 108, 101, 47, 100, 101, 97, 100, 108, 105, 110, 101, 115, 99, 104, 101, 100, 117, 108, 101, 114, 47, 108, 97, 119, 115, 46, 70, 110, 71, 114, 97, 112, 104, 87, 105, 100, 101, 32, 108, 111, 111, 112, 46, 101, 120, 97, 109, 112, 108, 101, 47, 100, 101, 97, 100, 108, 105, 110, 101, 115, 99, 104, 101, 100, 117, 108, 101, 114, 47, 108, 97, 119, 115, 46, 70, 110, 69, 120, 97, 99, 116, 82, 117, 110, 71, 114, 97, 112, 104, 32, 108, 111, 111, 112, 46, 101, 120, 97, 109, 112, 108, 101, 47, 100, 101, 97, 100, 108, 105, 110, 101, 115, 99, 104, 101, 100, 117, 108, 101, 114, 47, 108, 97, 119, 115, 46, 70, 110, 71, 114, 97, 104, 97, 109, 32, 108, 111, 111, 112, 46, 101, 120, 97, 109, 112, 108, 101, 47, 100, 101, 97, 100, 108, 105, 110, 101, 115, 99, 104, 101, 100, 117, 108, 101, 114, 47, 108, 97, 119, 115, 46, 70, 110, 71, 114, 97, 112, 104, 69, 120, 97, 109, 112, 108, 101]
theorem io_eq : Try.prog.initOrder = String.ofList (chars (w1 ++ 32 :: (w2 ++ 32 :: (w3 ++ 32 :: w4)))) := by kernel_rfl
theorem io_list : Try.prog.initOrder.toList = chars (w1 ++ 32 :: (w2 ++ 32 :: (w3 ++ 32 :: w4))) := by rw [io_eq, String.toList_ofList]
theorem ws_one (c : Char) (r w : List Char) (ws : List (List Char)) (hc : c ≠ Char.ofNat 32) (h : wordsSigns r = w :: ws) : wordsSigns (c :: r) = (c :: w) :: ws := by
  have e : wordsSigns (c :: r) = match wordsSigns r with
    | w :: ws => (c :: w) :: ws
    | [] => [[c]] := by
    rw [wordsSigns]
    · rfl
    · exact hc
  rw [e, h]
theorem ws_word (w : List Char) (h : ∀ c ∈ w, c ≠ Char.ofNat 32) (r : List Char) : wordsSigns (w ++ Char.ofNat 32 :: r) = w :: wordsSigns r := by
  induction w with
  | nil => rfl
  | cons c w ih => exact ws_one _ _ _ _ (h c (by simp)) (ih (fun x hx => h x (by simp [hx])))
theorem ws_nat (w r : List Nat) (h : w.all (fun n => !(Char.ofNat n == Char.ofNat 32)) = true) : wordsSigns (chars (w ++ 32 :: r)) = chars w :: wordsSigns (chars r) := by
  have e : chars (w ++ 32 :: r) = chars w ++ Char.ofNat 32 :: chars r := by simp [chars]
  rw [e]
  refine ws_word _ (fun c hc => ?_) _
  obtain ⟨n, hn, rfl⟩ := List.mem_map.1 hc
  have := List.all_eq_true.1 h n hn
  simpa using this
theorem zgt : behindMainWord (wordsSigns Try.prog.initOrder.toList) = chars w3 :: wordsSigns (chars w4) := by
  rw [io_list, ws_nat _ _ (by kernel_rfl), ws_nat _ _ (by kernel_rfl), ws_nat _ _ (by kernel_rfl)]
  generalize wordsSigns (chars w4) = R
  kernel_rfl
theorem make_gen (P : Program) (c : List Char) (R : List (List Char)) (h : behindMainWord (wordsSigns P.initOrder.toList) = c :: R) (h1 : (c == "gc".toList || c == "spec".toList) = false) (h2 : (c == "cut".toList) = true) : P.make = some .cut := by
  unfold Program.make
  rw [h]
  simp only [h1, h2, Bool.true_or, if_true, Bool.false_eq_true, if_false]
theorem make : Try.prog.make = some .cut := make_gen _ _ _ zgt (by kernel_rfl) (by kernel_rfl)
theorem enter_gen (P : Program) (c : List Char) (R : List (List Char)) (h : behindMainWord (wordsSigns P.initOrder.toList) = c :: R) (h1 : ∀ R, stripLifts liftWords (c :: R) = ([], c :: R)) (h2 : (some c == some "cut".toList) = true)
    (h3 : P.laysLater = false) (h4 : P.bearsReflect = false) (h5 : P.doorFits [] = true) : P.mayEnter = true := by
  unfold Program.mayEnter
  rw [h]
  simp only [h1, h2, h3, h4, h5, List.head?_cons, Bool.not_false, Bool.or_true, Bool.and_true, List.contains_nil]
theorem enter : Try.prog.mayEnter = true := enter_gen _ _ _ zgt (fun R => by kernel_rfl) (by kernel_rfl) (by kernel_rfl) (by kernel_rfl) (by kernel_rfl)
theorem lifts : Try.prog.liftsFinal = false := by
  unfold Program.liftsFinal Program.headLifts
  simp only [zgt]
  generalize wordsSigns (chars w4) = R
  kernel_rfl
end Go.Proofs.Ytebgfobjhlcopaa.Head
namespace Go.Proofs.Ytebgfobjhlcopaa.fnGraphWide
open Go.ChangeShapes Go.WideShapes Go.ChangeAt Go.RowKit Go.Proofs.YtebgfobjhlcopaaW.PrintWords Go.Proofs.Ytebgfobjhlcopaa.P
open Go.ChangeMaps (open_string shut_string)
theorem own : ownKnob Try.prog.godebug = none := by kernel_rfl
theorem laidOut : laidOutB Try.prog = true := by kernel_rfl
theorem lifted (os : Os) (started : os.Started) (H : Type) (enc : TypeId × Value → H) :
    ReturnsInHanded {} Try.checked os 4 .any (Rows.fnGraphWideSpec.pre6 enc Try.prog Try.f4 Rows.fnGraphWideRow.domain false) (Rows.fnGraphWideSpec.post enc Try.prog Try.f4 false true false false) := by
  refine returnsInHanded_of_change_sized (C := Try.checked) own started (by kernel_rfl) Try.func4
    (ChangeSpec.witness6 (enc := enc) (C := Try.checked) false ⟨#[], #[.slice none 0 0], []⟩ 8 (by kernel_rfl) (by kernel_rfl) (by kernel_rfl) (by kernel_rfl)) ?_
  intro W base args ds gs before hval0 hW hcnd hsz0 _
  have hsz : (DataW.weightsEach Try.prog (Try.f4.params.toList ++ Rows.fnGraphWideSpec.plain.varTypes Try.prog) (ds ++ gs)).all (· ≤ reachBytes) = true := hsz0
  have hval : ∀ (j : Nat) t v, Try.f4.params[j]? = some t → args[j]? = some v → Value.okWide Try.prog W .any base t v := hval0
  have hW' := hW
  obtain ⟨p, q, hA0, hV, rfl, hfz, hnd⟩ := hW
  have hA : DataW.TrodAll enc Try.prog W 0 (fun _ => true) true Try.f4.params.toList args.toList ds p := hA0
  rw [Try.params4] at hA hval hsz
  obtain ⟨v0, vs0, d0, ds0, p0, q0, hargs, rfl, rfl, h0, r0⟩ := trodAll_cons hA
  obtain ⟨rfl, rfl, rfl⟩ := trodAll_nil r0
  obtain rfl : args = #[v0] := by cases args; simp_all
  obtain ⟨rfl, rfl⟩ := trodVars_none hV
  have k0 := h0
  have lt0 : ∀ x ∈ p0, x.block < W.heap.size := by obtain ⟨m, hm⟩ := k0; exact DataW.trod_lt m _ _ _ hm
  obtain ⟨A0, n0, c0, rfl⟩ := okWide_slice Try.underlying22 (hval 0 22 v0 rfl rfl)
  have y0 : n0 * 1 ≤ 140737488351232 := Opn.sized_row hsz (j := 0) (t := 22) rfl rfl Try.underlying22 (by kernel_rfl) h0
  obtain ⟨l0, rfl, hc0, hm0, hr0, hg0⟩ : ∃ xs : List (Int), xs.length = n0 ∧ n0 ≤ c0 ∧ n0 ≤ maxLen ∧ Kd.C (Kd.int .u8) W A0 xs.length xs ∧ ∀ y0 ∈ xs, (Lit.int .u8 y0).wf = true := by
    obtain ⟨fuel, hf⟩ := h0
    exact Opn.slice_row Try.underlying22 (by kernel_rfl) (Opn.opens_int Try.underlying5) hf
  obtain ⟨k, hk⟩ := Pure.FnGraphWide l0 y0 ⟨hm0, hg0⟩
  clear hA0 hval0 hsz0 hsz
  refine (laws_FnGraphWide.calls k A0 c0 l0 true W hr0 hc0 hk rfl).mono fun e W' ⟨he, hd⟩ => ?_
  have bel := hd
  subst he
  exact ⟨_, rfl, _, _, _, [], _, [], hW', trodAll_mk1 (shut_bool Try.underlying4 _), (trodAll_cons_mk (Below.trod laidOut (by kernel_rfl) (of_decide_eq_true (by kernel_rfl)) k0 bel lt0) trodAll_mk0), rfl, bel.frame _, fun h => by cases h⟩
theorem closed : joinedFacts Try.prog 4 Try.f4 Rows.fnGraphWideSpec Rows.fnGraphWideRow = true := by
  simp only [joinedFacts, Head.enter, Head.lifts, Head.make]
  kernel_rfl
theorem named : Try.prog.funcNamed Rows.fnGraphWideRow.func = some 4 := by kernel_rfl
theorem wrapped : Try.f4.isWrapper Try.prog Rows.fnGraphWideRow.wrapper Rows.fnGraphWideRow.mainSum := by unfold Func.isWrapper; first | (rw [if_pos (by decide +kernel)]; kernel_rfl) | (rw [if_neg (by decide +kernel)]; exact ⟨rfl, rfl⟩)
theorem over : Rows.fnGraphWideRow.holds Try.pinned (OpenSpec.ofChange Rows.fnGraphWideSpec) :=
  OpenClaim.holds_of_wide 4 Try.f4 rfl rfl rfl rfl rfl rfl rfl ⟨rfl, rfl, rfl, rfl, rfl⟩ rfl rfl rfl rfl rfl named Try.func4 closed
    (of_decide_eq_true (by kernel_rfl)) wrapped
    (fun os started H enc _ => lifted os started H enc)
theorem proved : Rows.FnGraphWideSaid := over
#print axioms proved
end Go.Proofs.Ytebgfobjhlcopaa.fnGraphWide
namespace Go.Proofs.Ytebgfobjhlcopaa
theorem fnGraphWide_holds : Rows.FnGraphWideSaid := fnGraphWide.proved
end Go.Proofs.Ytebgfobjhlcopaa
