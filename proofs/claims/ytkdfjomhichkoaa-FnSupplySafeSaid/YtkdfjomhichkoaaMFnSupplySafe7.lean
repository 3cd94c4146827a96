/- The law FnSupplySafe for every input, part 7 of its proof: what the program's functions answer, and the plain law. No condition. -/
import Derived.Test.YtkdfjomhichkoaaMFnSupplySafe1
import Derived.Test.YtkdfjomhichkoaaMFnSupplySafe2
import Derived.Test.YtkdfjomhichkoaaMFnSupplySafe3
import Derived.Test.YtkdfjomhichkoaaMFnSupplySafe4
import Derived.Test.YtkdfjomhichkoaaMFnSupplySafe6
import Derived.Laws.BitsLemmas
import Derived.SizedLaws
import Derived.ChangeSlices
import Derived.ChangeArms
import Derived.WideShapes
import Derived.Deep.Slices
import Derived.OpenShut
import Derived.Test.YtkdfjomhichkoaaRows
import Derived.JoinedOf
import Derived.KernelRfl
import Derived.WalkKit
import Derived.ProofKit
import Derived.ShutString
import Derived.ChangeOld
import Derived.Below
set_option maxRecDepth 100000
namespace Go.Proofs.Ytkdfjomhichkoaa.Sf
open Go.RowKit Go.Proofs.Ytkdfjomhichkoaa.P Go.Proofs.Ytkdfjomhichkoaa.Base Go.Proofs.Ytkdfjomhichkoaa.Gen Go.Proofs.Ytkdfjomhichkoaa.Alive Go.Proofs.Ytkdfjomhichkoaa.Set Go.Proofs.Ytkdfjomhichkoaa.Tm Go.Proofs.Ytkdfjomhichkoaa.Sup Go.Proofs.Ytkdfjomhichkoaa.SupLaw Go.Proofs.YtkdfjomhichkoaaW.PrintWords Go.Proofs.YtkdfjomhichkoaaW.PrintLast
theorem prod_bd {l : List Task} (hs : zec l) {b p : Int} (hv : SV b p) : (0 ≤ ld l * p ∧ ld l * p ≤ 13305600) ∧ 0 ≤ b * hy l ∧ b * hy l ≤ 332640 := by
  unfold SV at hv
  have h1 := ld_bd hs
  have h2 := zij hs.all
  have m1 := zfs (a := ld l) (b := p) (A := 1108800) (B := 12) h1.1 h1.2 (by omega) (by omega)
  have m2 := zfs (a := b) (b := (hy l : Int)) (A := 12) (B := 27720) (by omega) (by omega) (by omega) (by omega)
  omega
theorem lcm_small {l : List Task} (hl : AllV l) {pn : Nat} {b : Int} (hv : SV b (pn : Int)) : Nat.lcm (hy l) pn ≤ 27720 ∧ lim l (pn : Int) = (Nat.lcm (hy l) pn : Int) + 2 * (pn : Int) := by
  unfold SV at hv
  have h1 : Nat.lcm (hy l) pn ∣ 27720 := Nat.lcm_dvd (zii hl) (zhf (by omega) (by omega))
  refine ⟨Nat.le_of_dvd (by omega) h1, ?_⟩
  unfold lim
  rw [Int.toNat_natCast]
theorem impl_sf (l : List Task) (b p : Int) : Tot (fun k => zk.f k l b p) (fun r => r = decide (SF l b p)) := by
  have bad : ¬ SF l b p → Tot (fun k => zk.j0 k l true b p) (fun r => r = decide (SF l b p)) := fun h =>
    Tot.step (fun k => by rw [zk.j0]) (Tot.yes rfl (Tot.ret _ (decide_eq_false h).symm))
  unfold zk.f
  refine Tot.zjg (set_f l) (Tot.ite (fun hs => ?_) (fun hs => bad (fun h => hs (decide_eq_true h.1))))
  have hs := of_decide_eq_true hs
  refine Tot.zjg (sv_f b p) (Tot.ite (fun hv => ?_) (fun hv => bad (fun h => hv (decide_eq_true h.2.1))))
  have hv := of_decide_eq_true hv
  have hv' := hv
  unfold SV at hv'
  have hl := hs.all
  have hb := zij hl
  have hp := prod_bd hs hv
  have hlm := lim_bd hl hv
  refine Tot.bind (Tot.val (load_ev hs)) ?_
  rintro _ rfl
  refine Tot.bind (Tot.val (zgu hs)) ?_
  rintro _ rfl
  rw [w64 (x := ld l * p) (by omega) (by omega), w64 (x := b * hy l) (by omega) (by omega)]
  by_cases hu : ld l * p > b * hy l
  · rw [decide_eq_true hu]
    exact bad (fun h => by have := h.2.2.1; omega)
  · rw [decide_eq_false hu]
    refine Tot.step (fun k => by rw [zk.j0]) (Tot.no (by simp) ?_)
    obtain ⟨pn, rfl⟩ : ∃ pn : Nat, p = (pn : Int) := ⟨p.toNat, by omega⟩
    have hlc := lcm_small hl hv
    have loop : ∀ (d : Nat) (t : Int), t + d = lim l (pn : Int) + 1 → 1 ≤ t → (∀ q : Int, 1 ≤ q → q < t → dm l q ≤ sb b pn q) → Tot (fun k => zk.l0 k l t b (pn : Int)) (fun r => r = decide (SF l b pn)) := by
      intro d
      induction d with
      | zero =>
        intro t ht h1 hm
        refine Tot.step (fun k => by rw [zk.l0]) ?_
        refine Tot.bind (Tot.val (zgu hs)) ?_
        rintro _ rfl
        refine Tot.bind (Tot.val (lcm_ev hb.1 hb.2 hlc.1)) ?_
        rintro _ rfl
        rw [w64 (x := 2 * (pn : Int)) (by omega) (by omega), w64 (x := (Nat.lcm (hy l) pn : Int) + 2 * (pn : Int)) (by omega) (by omega)]
        refine Tot.no (by omega) (Tot.ret _ ?_)
        symm
        rw [decide_eq_true_iff]
        exact ⟨hs, hv, by omega, fun q q1 q2 => hm q q1 (by omega)⟩
      | succ d ih =>
        intro t ht h1 hm
        refine Tot.step (fun k => by rw [zk.l0]) ?_
        refine Tot.bind (Tot.val (zgu hs)) ?_
        rintro _ rfl
        refine Tot.bind (Tot.val (lcm_ev hb.1 hb.2 hlc.1)) ?_
        rintro _ rfl
        rw [w64 (x := 2 * (pn : Int)) (by omega) (by omega), w64 (x := (Nat.lcm (hy l) pn : Int) + 2 * (pn : Int)) (by omega) (by omega)]
        refine Tot.yes (by omega) ?_
        refine Tot.bind (Tot.val (demand_ev hs (t := t) (by omega) (by omega))) ?_
        rintro _ rfl
        refine Tot.zjg (bound_f hv (by omega) (by omega)) ?_
        refine Tot.ite (fun hg => Tot.ret _ ?_) (fun hg => ?_)
        · symm
          rw [decide_eq_false_iff_not]
          intro h
          have := h.2.2.2 t h1 (by omega)
          omega
        · rw [w64 (x := t + 1) (by omega) (by omega)]
          refine ih (t + 1) (by omega) (by omega) (fun q q1 q2 => ?_)
          by_cases e : q = t
          · subst e; omega
          · exact hm q q1 (by omega)
    exact loop (lim l (pn : Int)).toNat 1 (by omega) (by omega) (fun q _ _ => by omega)
end Go.Proofs.Ytkdfjomhichkoaa.Sf
namespace Go.Proofs.Ytkdfjomhichkoaa.Pb
open Go.RowKit Go.Proofs.Ytkdfjomhichkoaa.P Go.Proofs.Ytkdfjomhichkoaa.Gen Go.Proofs.Ytkdfjomhichkoaa.Base Go.Proofs.YtkdfjomhichkoaaW.PrintWords Go.Proofs.YtkdfjomhichkoaaW.PrintLast
theorem xor_ok (x y : Int) (hx : 0 ≤ x) (hx1 : x < 4611686018427387904) (hy : 0 ≤ y) (hy1 : y < 4611686018427387904) : 0 ≤ Go.bits .xor .i64 x y := by
  obtain ⟨a, rfl⟩ := Int.eq_ofNat_of_zero_le hx
  obtain ⟨b, rfl⟩ := Int.eq_ofNat_of_zero_le hy
  have ha : a < 2 ^ 62 := by have e : (2 : Nat) ^ 62 = 4611686018427387904 := by decide
                             omega
  have hb : b < 2 ^ 62 := by have e : (2 : Nat) ^ 62 = 4611686018427387904 := by decide
                             omega
  have ha' : a % 2 ^ 64 = a := Nat.mod_eq_of_lt (by omega)
  have hb' : b % 2 ^ 64 = b := Nat.mod_eq_of_lt (by omega)
  have hx := Nat.xor_lt_two_pow ha hb
  simp only [Go.bits]
  rw [show IntKind.i64.bits = 64 from rfl]
  rw [BitVec.toNat_xor, BitVec.ofInt_natCast, BitVec.ofInt_natCast, BitVec.toNat_ofNat, BitVec.toNat_ofNat, ha', hb', IntKind.wrap_i64]
  have e : (2 : Nat) ^ 62 = 4611686018427387904 := by decide
  omega
def Bytes (s : List Int) : Prop := s.length ≤ 2000 ∧ ∀ x ∈ s, 0 ≤ x ∧ x ≤ 255
theorem Bytes.rd {s : List Int} (h : Bytes s) (i : Int) : 0 ≤ rd s i ∧ rd s i ≤ 255 := by
  unfold Go.Proofs.YtkdfjomhichkoaaW.PrintWords.rd
  rw [List.getD_eq_getElem?_getD]
  rcases Nat.lt_or_ge i.toNat s.length with hi | hi
  · rw [List.getElem?_eq_getElem hi]
    exact h.2 _ (List.getElem_mem hi)
  · rw [List.getElem?_eq_none hi]
    simp
theorem u8_wf {x : Int} (h : (Lit.int .u8 x).wf = true) : 0 ≤ x ∧ x ≤ 255 := by
  simp [Lit.wf, IntKind.min, IntKind.max, IntKind.bits, IntKind.signed] at h
  omega
theorem zim (a n : Int) (ha : 0 ≤ a) (hn : 1 ≤ n) : 0 ≤ Int.tmod a n ∧ Int.tmod a n < n := by
  rw [Int.tmod_eq_emod_of_nonneg ha]
  exact ⟨Int.emod_nonneg _ (by omega), Int.emod_lt_of_pos _ (by omega)⟩
theorem zhg (a n : Int) (ha : 0 ≤ a) (hn : 1 ≤ n) : 0 ≤ Int.tdiv a n ∧ Int.tdiv a n ≤ a := by
  rw [Int.tdiv_eq_ediv_of_nonneg ha]
  exact ⟨Int.ediv_nonneg ha (by omega), Int.ediv_le_self _ ha⟩
theorem pick_at (k : Nat) (s : List Int) (p n : Int) (hs : Bytes s) (hp : 0 ≤ p) (hp2 : p ≤ 1000000000) :
    ∃ r, zb.f (k + 1) s p n = some (r, p + 1) ∧ 0 ≤ r ∧ (1 ≤ n → r < n) := by
  unfold zb.f
  rw [w64 (x := p + 1) (by omega) (by omega)]
  by_cases hn : n < 1
  · rw [if_pos hn]
    exact ⟨0, by simp [zb.j0], Int.le_refl _, fun h => by omega⟩
  · rw [if_neg hn]
    by_cases h0 : (s.length : Int) = 0
    · refine ⟨0, ?_, Int.le_refl _, fun h => by omega⟩
      simp only [zb.j0]
      rw [if_pos (by simpa using h0)]
    · simp only [zb.j0]
      rw [if_neg (by simpa using h0)]
      have hl := hs.1
      rw [w64 (x := p + 1 - 1) (by omega) (by omega), show p + 1 - 1 = p by omega]
      by_cases h1 : p < (s.length : Int)
      · have hb := hs.rd p
        rw [if_pos h1, if_pos hp, if_neg (by omega), w64 (x := rd s p) (by omega) (by omega)]
        have ht := zim (rd s p) n hb.1 (by omega)
        exact ⟨_, rfl, ht.1, fun _ => ht.2⟩
      · rw [if_neg h1, if_neg h0]
        have m0 := zim p (s.length : Int) hp (by omega)
        rw [if_pos m0.1, if_pos m0.2]
        rw [w64 (x := p * 7) (by omega) (by omega), w64 (x := p * 7 + 3) (by omega) (by omega)]
        have m1 := zim (p * 7 + 3) (s.length : Int) (by omega) (by omega)
        rw [if_pos m1.1, if_pos m1.2, if_neg (by omega)]
        have b0 := hs.rd (Int.tmod p (s.length : Int))
        have b1 := hs.rd (Int.tmod (p * 7 + 3) (s.length : Int))
        have d0 := zhg p (s.length : Int) hp (by omega)
        generalize rd s (Int.tmod p (s.length : Int)) = x at b0 ⊢
        generalize rd s (Int.tmod (p * 7 + 3) (s.length : Int)) = y at b1 ⊢
        generalize Int.tdiv p (s.length : Int) = q at d0 ⊢
        rw [w64 (x := x) (by omega) (by omega), w64 (x := y) (by omega) (by omega), w64 (x := q) (by omega) (by omega)]
        rw [w64 (x := x * 131) (by omega) (by omega), w64 (x := y * 1117) (by omega) (by omega), w64 (x := p * 29) (by omega) (by omega), w64 (x := q * 53) (by omega) (by omega)]
        rw [w64 (x := x * 131 + y * 1117) (by omega) (by omega), w64 (x := x * 131 + y * 1117 + p * 29) (by omega) (by omega), w64 (x := x * 131 + y * 1117 + p * 29 + q * 53) (by omega) (by omega)]
        have e0 := zhg (x * 131 + y * 1117 + p * 29 + q * 53) 64 (by omega) (by omega)
        rw [w64 (x := Int.tdiv (x * 131 + y * 1117 + p * 29 + q * 53) 64) (by omega) (by omega)]
        have hx := xor_ok (x * 131 + y * 1117 + p * 29 + q * 53) (Int.tdiv (x * 131 + y * 1117 + p * 29 + q * 53) 64) (by omega) (by omega) e0.1 (by omega)
        have ht := zim _ n hx (by omega)
        exact ⟨_, rfl, ht.1, fun _ => ht.2⟩
theorem open_at (l : List Int) (hl : ∀ x ∈ l, (Lit.int .u8 x).wf = true) : ∃ s, zdw.f l = some (s, 0) ∧ Bytes s := by
  unfold zdw.f
  by_cases h : (l.length : Int) > 2000
  · rw [if_pos h, if_pos (by omega)]
    exact ⟨_, rfl, by rw [List.length_take]; omega, fun x hx => u8_wf (hl x (List.mem_of_mem_take hx))⟩
  · rw [if_neg h]
    exact ⟨_, rfl, by omega, fun x hx => u8_wf (hl x hx)⟩
theorem zci (s : List Int) (p n : Int) (hs : Bytes s) (hp : 0 ≤ p) (hp2 : p ≤ 1000000000) : Tot (fun k => zb.f k s p n) (fun r => r.2 = p + 1 ∧ 0 ≤ r.1 ∧ (1 ≤ n → r.1 < n)) := by
  obtain ⟨r, hr, h0, h1⟩ := pick_at 0 s p n hs hp hp2
  refine ⟨(r, p + 1), ⟨1, fun k hk => ?_⟩, rfl, h0, h1⟩
  obtain ⟨j, rfl⟩ : ∃ j, k = j + 1 := ⟨k - 1, by omega⟩
  obtain ⟨r', hr', h0', h1'⟩ := pick_at j s p n hs hp hp2
  have hm := zir (g := fun k => zb.f k s p n) (fun k => zb.mono _ _ _ k) (show 1 ≤ j + 1 by omega) hr
  exact hm
theorem zhh (s : List Int) (p n : Int) (hs : Bytes s) (hp : 0 ≤ p) (hp2 : p ≤ 1000000000) : Tot (fun k => zbk.f k s p n) (fun r => p ≤ r.2 ∧ r.2 ≤ p + 1) := by
  unfold zbk.f
  refine Tot.ite (fun _ => ?_) (fun _ => Tot.ret _ ⟨Int.le_refl _, by omega⟩)
  refine Tot.bind (zci s p n hs hp hp2) ?_
  rintro ⟨a, q⟩ ⟨rfl, _, _⟩
  exact Tot.ret _ ⟨by show p ≤ p + 1; omega, Int.le_refl _⟩
theorem open_tot {β : Type} {Q : β → Prop} (l : List Int) (hl : ∀ x ∈ l, (Lit.int .u8 x).wf = true) {f : Nat → List Int × Int → Option β} (hf : ∀ s, Bytes s → Tot (fun k => f k (s, 0)) Q) : Tot (fun k => (zdw.f l).bind (f k)) Q := by
  obtain ⟨s, hs, hb⟩ := open_at l hl
  exact Tot.zjg hs (hf s hb)
theorem zdx {α β : Type} {Q : β → Prop} (a : α) {f : Nat → α → Option β} (h : Tot (fun k => f k a) Q) : Tot (fun k => (some a).bind (f k)) Q := h
theorem rd_mem {xs : List Int} {i : Int} (h0 : 0 ≤ i) (h1 : i < (xs.length : Int)) : rd xs i ∈ xs := by
  unfold Go.Proofs.YtkdfjomhichkoaaW.PrintWords.rd
  have : i.toNat < xs.length := by omega
  rw [List.getD_eq_getElem?_getD, List.getElem?_eq_getElem this]
  exact List.getElem_mem this
end Go.Proofs.Ytkdfjomhichkoaa.Pb
namespace Go.Proofs.Ytkdfjomhichkoaa.DrTask
open Go.RowKit Go.Proofs.Ytkdfjomhichkoaa.P Go.Proofs.Ytkdfjomhichkoaa.Base Go.Proofs.Ytkdfjomhichkoaa.Gen Go.Proofs.Ytkdfjomhichkoaa.Pb Go.Proofs.YtkdfjomhichkoaaW.PrintWords Go.Proofs.YtkdfjomhichkoaaW.PrintLast
theorem rd_bd {xs : List Int} {i : Int} (lo hi : Int) (h0 : 0 ≤ i) (h1 : i < (xs.length : Int)) (h : ∀ x ∈ xs, lo ≤ x ∧ x ≤ hi) : lo ≤ rd xs i ∧ rd xs i ≤ hi := h _ (rd_mem h0 h1)
theorem mx_bd (a b : Int) : a ≤ mx a b ∧ b ≤ mx a b ∧ (mx a b = a ∨ mx a b = b) := by unfold mx; split <;> omega
theorem mn_bd (a b : Int) : mn a b ≤ a ∧ mn a b ≤ b ∧ (mn a b = a ∨ mn a b = b) := by unfold mn; split <;> omega
def zhi (c d p : Int) : Prop := -20 ≤ c ∧ c ≤ 20 ∧ -20 ≤ d ∧ d ≤ 20 ∧ -20 ≤ p ∧ p ≤ 20
theorem zgx (s : List Int) (p n : Int) (hs : Bytes s) (hp : 0 ≤ p) (hp2 : p ≤ 900000000) :
    Tot (fun k => zl.f k s p n) (fun r => zhi r.1 r.2.1 r.2.2.1 ∧ p ≤ r.2.2.2 ∧ r.2.2.2 ≤ p + 9) := by
  have last : ∀ (q c d e : Int), zhi c d e → p ≤ q → q ≤ p + 9 → Tot (fun k => zl.j0 k s q c d e) (fun r => zhi r.1 r.2.1 r.2.2.1 ∧ p ≤ r.2.2.2 ∧ r.2.2.2 ≤ p + 9) := by
    intro q c d e h1 h2 h3
    exact Tot.step (fun k => by rw [zl.j0]) (Tot.ret _ ⟨h1, h2, h3⟩)
  unfold zl.f
  refine Tot.bind (zci s p 12 hs hp (by omega)) ?_
  rintro ⟨a, q⟩ ⟨h, ha0, ha1⟩
  simp only at h ha0 ha1 ⊢; subst h
  have ha1 := ha1 (by omega)
  rw [w64 (x := 1 + a) (by omega) (by omega)]
  refine zdx _ ?_
  refine Tot.bind (zci s (p + 1) 8 hs (by omega) (by omega)) ?_
  rintro ⟨b, q⟩ ⟨h, hb0, hb1⟩
  simp only at h hb0 hb1 ⊢; subst h
  have hb1 := hb1 (by omega)
  have hlt : b < ((([2, 3, 4, 6, 8, 12, 1 + a, 5] : List Int).length : Nat) : Int) := by simp; omega
  refine Tot.yes hb0 (Tot.yes hlt ?_)
  have hc := rd_bd 1 12 hb0 hlt (by intro x hx; simp only [List.mem_cons, List.not_mem_nil, or_false] at hx; omega)
  generalize rd [2, 3, 4, 6, 8, 12, 1 + a, 5] b = P at hc ⊢
  refine Tot.bind (zci s (p + 1 + 1) P hs (by omega) (by omega)) ?_
  rintro ⟨c, q⟩ ⟨h, hc0, hc1⟩
  simp only at h hc0 hc1 ⊢; subst h
  have hc1 := hc1 (by omega)
  rw [w64 (x := 1 + c) (by omega) (by omega), w64 (x := P - 1) (by omega) (by omega)]
  have hm := mx_bd 1 (P - 1)
  refine zdx _ ?_
  refine Tot.bind (zci s (p + 1 + 1 + 1) 3 hs (by omega) (by omega)) ?_
  rintro ⟨d, q⟩ ⟨h, hd0, hd1⟩
  simp only at h hd0 hd1 ⊢; subst h
  have hd1 := hd1 (by omega)
  have hlt : d < ((([P, 1 + c, mx 1 (P - 1)] : List Int).length : Nat) : Int) := by simp; omega
  refine Tot.yes hd0 (Tot.yes hlt ?_)
  have hD := rd_bd 1 12 hd0 hlt (by intro x hx; simp only [List.mem_cons, List.not_mem_nil, or_false] at hx; omega)
  generalize rd [P, 1 + c, mx 1 (P - 1)] d = D at hD ⊢
  have e2 := zhg D 2 (by omega) (by omega)
  have e3 := zhg D 3 (by omega) (by omega)
  rw [w64 (x := Int.tdiv D 2) (by omega) (by omega), w64 (x := Int.tdiv D 3) (by omega) (by omega)]
  have hm2 := mx_bd 1 (Int.tdiv D 2)
  have hm3 := mx_bd 1 (Int.tdiv D 3)
  refine zdx _ ?_
  refine Tot.bind (zci s (p + 1 + 1 + 1 + 1) 3 hs (by omega) (by omega)) ?_
  rintro ⟨e, q⟩ ⟨h, he0, he1⟩
  simp only at h he0 he1 ⊢; subst h
  have he1 := he1 (by omega)
  have hlt : e < ((([D, mx 1 (Int.tdiv D 2), mx 1 (Int.tdiv D 3)] : List Int).length : Nat) : Int) := by simp; omega
  refine Tot.yes he0 (Tot.yes hlt ?_)
  have hE := rd_bd 1 12 he0 hlt (by intro x hx; simp only [List.mem_cons, List.not_mem_nil, or_false] at hx; omega)
  generalize rd [D, mx 1 (Int.tdiv D 2), mx 1 (Int.tdiv D 3)] e = E at hE ⊢
  have hmn := mn_bd 8 E
  refine Tot.bind (zci s (p + 1 + 1 + 1 + 1 + 1) (mn 8 E) hs (by omega) (by omega)) ?_
  rintro ⟨f, q⟩ ⟨h, hf0, hf1⟩
  simp only at h hf0 hf1 ⊢; subst h
  have hf1 := hf1 (by omega)
  rw [w64 (x := 1 + f) (by omega) (by omega)]
  refine Tot.bind (zhh s (p + 1 + 1 + 1 + 1 + 1 + 1) n hs (by omega) (by omega)) ?_
  rintro ⟨g, q⟩ ⟨h1, h2⟩
  simp only at h1 h2 ⊢
  refine Tot.ite (fun _ => ?_) (fun _ => last _ _ _ _ (by unfold zhi; omega) (by omega) (by omega))
  refine Tot.bind (zci s q 3 hs (by omega) (by omega)) ?_
  rintro ⟨u, q'⟩ ⟨h, hu0, hu1⟩
  simp only at h hu0 hu1 ⊢; subst h
  refine Tot.ite (fun _ => ?_) (fun _ => Tot.ite (fun _ => ?_) (fun _ => ?_))
  · rw [w64 (x := D + 1) (by omega) (by omega)]
    refine zdx _ ?_
    refine Tot.bind (zci s (q + 1) 4 hs (by omega) (by omega)) ?_
    rintro ⟨v, q'⟩ ⟨h, hv0, hv1⟩
    simp only at h hv0 hv1 ⊢; subst h
    have hlt : v < ((([0, -1, 9, D + 1] : List Int).length : Nat) : Int) := by simp; omega
    refine Tot.yes hv0 (Tot.yes hlt ?_)
    have hV := rd_bd (-1) 13 hv0 hlt (by intro x hx; simp only [List.mem_cons, List.not_mem_nil, or_false] at hx; omega)
    exact last _ _ _ _ (by unfold zhi; omega) (by omega) (by omega)
  · rw [w64 (x := P + 1) (by omega) (by omega)]
    refine zdx _ ?_
    refine Tot.bind (zci s (q + 1) 3 hs (by omega) (by omega)) ?_
    rintro ⟨v, q'⟩ ⟨h, hv0, hv1⟩
    simp only at h hv0 hv1 ⊢; subst h
    have hlt : v < ((([0, P + 1, -1] : List Int).length : Nat) : Int) := by simp; omega
    refine Tot.yes hv0 (Tot.yes hlt ?_)
    have hV := rd_bd (-1) 13 hv0 hlt (by intro x hx; simp only [List.mem_cons, List.not_mem_nil, or_false] at hx; omega)
    exact last _ _ _ _ (by unfold zhi; omega) (by omega) (by omega)
  · refine zdx _ ?_
    refine Tot.bind (zci s (q + 1) 3 hs (by omega) (by omega)) ?_
    rintro ⟨v, q'⟩ ⟨h, hv0, hv1⟩
    simp only at h hv0 hv1 ⊢; subst h
    have hlt : v < ((([0, 13, -1] : List Int).length : Nat) : Int) := by simp; omega
    refine Tot.yes hv0 (Tot.yes hlt ?_)
    have hV := rd_bd (-1) 13 hv0 hlt (by intro x hx; simp only [List.mem_cons, List.not_mem_nil, or_false] at hx; omega)
    exact last _ _ _ _ (by unfold zhi; omega) (by omega) (by omega)
end Go.Proofs.Ytkdfjomhichkoaa.DrTask
namespace Go.Proofs.Ytkdfjomhichkoaa.DrSet
open Go.RowKit Go.Proofs.Ytkdfjomhichkoaa.P Go.Proofs.Ytkdfjomhichkoaa.Base Go.Proofs.Ytkdfjomhichkoaa.Gen Go.Proofs.Ytkdfjomhichkoaa.Pb Go.Proofs.Ytkdfjomhichkoaa.DrTask Go.Proofs.YtkdfjomhichkoaaW.PrintWords Go.Proofs.YtkdfjomhichkoaaW.PrintLast
abbrev Task := S88
def Short (p : Int) (r : List Task × Int) : Prop := r.1.length ≤ 20 ∧ p ≤ r.2 ∧ r.2 ≤ p + 300
theorem set_tot (s : List Int) (p n : Int) (hs : Bytes s) (hp : 0 ≤ p) (hp2 : p ≤ 100000) : Tot (fun k => zb1.f k s p n) (Short p) := by
  have more : ∀ (d : Nat) (x : List Task) (q : Int), x.length + d = 6 → p ≤ q → q ≤ p + 100 + 10 * (6 - d) → Tot (fun k => zb1.l1 k x s q) (Short p) := by
    intro d
    induction d with
    | zero =>
      intro x q h1 h2 h3
      refine Tot.step (fun k => by rw [zb1.l1]) (Tot.no (by omega) ?_)
      refine Tot.bind (zgx s q 2 hs (by omega) (by omega)) ?_
      rintro ⟨a, b, c, q2⟩ ⟨_, h4, h5⟩
      simp only at h4 h5 ⊢
      exact Tot.yes (by omega) (Tot.ret _ ⟨by simp; omega, by simp; omega, by simp; omega⟩)
    | succ d ih =>
      intro x q h1 h2 h3
      refine Tot.step (fun k => by rw [zb1.l1]) (Tot.yes (by omega) ?_)
      refine Tot.bind (zgx s q 0 hs (by omega) (by omega)) ?_
      rintro ⟨a, b, c, q2⟩ ⟨_, h4, h5⟩
      simp only at h4 h5 ⊢
      exact Tot.yes (by omega) (ih _ _ (by simp; omega) (by omega) (by omega))
  have first : ∀ (d : Nat) (x6 : Int) (x : List Task) (q : Int), x6 = d → x.length + d ≤ 5 → p ≤ q → q ≤ p + 1 + 9 * (5 - d) → Tot (fun k => zb1.l0 k n x x6 s q) (Short p) := by
    intro d
    induction d with
    | zero =>
      intro x6 x q h1 h2 h3 h4
      refine Tot.step (fun k => by rw [zb1.l0]) (Tot.no (by omega) ?_)
      refine Tot.bind (zhh s q n hs (by omega) (by omega)) ?_
      rintro ⟨a, q2⟩ ⟨h5, h6⟩
      simp only at h5 h6 ⊢
      refine Tot.ite (fun _ => ?_) (fun _ => Tot.ret _ ⟨by simp; omega, by simp; omega, by simp; omega⟩)
      refine Tot.bind (zci s q2 3 hs (by omega) (by omega)) ?_
      rintro ⟨b, q3⟩ ⟨h7, h8, h9⟩
      simp only at h7 h8 h9 ⊢; subst h7
      refine Tot.ite (fun _ => more (6 - x.length) x _ (by omega) (by omega) (by omega)) (fun _ => ?_)
      refine Tot.bind (zgx s (q2 + 1) 2 hs (by omega) (by omega)) ?_
      rintro ⟨a, b, c, q4⟩ ⟨_, h10, h11⟩
      simp only at h10 h11 ⊢
      exact Tot.yes (by omega) (Tot.ret _ ⟨by simp; omega, by simp; omega, by simp; omega⟩)
    | succ d ih =>
      intro x6 x q h1 h2 h3 h4
      refine Tot.step (fun k => by rw [zb1.l0]) (Tot.yes (by omega) ?_)
      refine Tot.bind (zgx s q 0 hs (by omega) (by omega)) ?_
      rintro ⟨a, b, c, q2⟩ ⟨_, h4, h5⟩
      simp only at h4 h5 ⊢
      rw [w64 (x := x6 - 1) (by omega) (by omega)]
      exact Tot.yes (by omega) (ih _ _ _ (by omega) (by simp; omega) (by omega) (by omega))
  unfold zb1.f
  refine Tot.bind (zci s p 6 hs hp (by omega)) ?_
  rintro ⟨a, q2⟩ ⟨h5, h6, h7⟩
  simp only at h5 h6 h7 ⊢; subst h5
  have h7 := h7 (by omega)
  exact first a.toNat a [] _ (by omega) (by simp; omega) (by omega) (by omega)
end Go.Proofs.Ytkdfjomhichkoaa.DrSet
namespace Go.Proofs.Ytkdfjomhichkoaa.DrJobs
open Go.RowKit Go.Proofs.Ytkdfjomhichkoaa.P Go.Proofs.Ytkdfjomhichkoaa.Base Go.Proofs.Ytkdfjomhichkoaa.Gen Go.Proofs.Ytkdfjomhichkoaa.Pb Go.Proofs.Ytkdfjomhichkoaa.Set Go.Proofs.Ytkdfjomhichkoaa.Jobs Go.Proofs.YtkdfjomhichkoaaW.PrintWords Go.Proofs.YtkdfjomhichkoaaW.PrintLast
theorem jobs_tot (s : List Int) (l : List Task) (p n : Int) (hs : Bytes s) (hl : l.length ≤ 5) (hp : 0 ≤ p) (hp2 : p ≤ 990000000) : Tot (fun k => zbb.f k s p l n) (fun r => r.1.length ≤ 61) := by
  have fill : ∀ (d : Nat) (x : List Job) (q : Int), x.length + d = 61 → Tot (fun k => zbb.l2 k x s q) (fun r => r.1.length ≤ 61) := by
    intro d
    induction d with
    | zero => intro x q hx; exact Tot.step (fun k => by rw [zbb.l2]) (Tot.no (by omega) (Tot.ret _ (by simp only; omega)))
    | succ d ih =>
      intro x q hx
      exact Tot.step (fun k => by rw [zbb.l2]) (Tot.yes (by omega) (Tot.yes (by omega) (ih _ q (by rw [List.length_append, List.length_singleton]; omega))))
  have last : ∀ (x : List Job) (b : Bool) (q : Int), x.length ≤ 60 → (b = true → 0 < x.length) → 0 ≤ q → q ≤ 999000000 → Tot (fun k => zbb.j3 k l x b s q) (fun r => r.1.length ≤ 61) := by
    intro x b q hx hb hq0 hq1
    refine Tot.step (fun k => by rw [zbb.j3]) (Tot.ite (fun hbt => ?_) (fun _ => Tot.ret _ (by simp only; omega)))
    have hpos := hb hbt
    refine Tot.bind (zci s q (x.length : Int) hs hq0 (by omega)) ?_
    rintro ⟨a, q2⟩ ⟨h1, h2, h3⟩
    simp only at h1 h2 h3 ⊢; subst h1
    have h3 := h3 (by omega)
    refine Tot.bind (zci s (q + 1) 6 hs (by omega) (by omega)) ?_
    rintro ⟨c, q3⟩ ⟨h4, h5, h6⟩
    simp only at h4 h5 h6 ⊢; subst h4
    refine Tot.ite (fun _ => ?_) (fun _ => Tot.ite (fun _ => ?_) (fun _ => Tot.ite (fun _ => ?_) (fun _ => Tot.ite (fun _ => ?_) (fun _ => Tot.ite (fun _ => ?_) (fun _ => ?_)))))
    · refine zdx _ (Tot.bind (zci s (q + 1 + 1) 2 hs (by omega) (by omega)) ?_)
      rintro ⟨d, q4⟩ ⟨h7, h8, h9⟩
      simp only at h7 h8 h9 ⊢; subst h7
      have h9 := h9 (by omega)
      exact Tot.yes h8 (Tot.yes (by simp; omega) (Tot.yes h2 (Tot.yes h3 (Tot.ret _ (by simp only [List.length_set]; omega)))))
    · refine Tot.yes h2 (Tot.yes h3 (zdx _ (Tot.bind (zci s (q + 1 + 1) 3 hs (by omega) (by omega)) ?_)))
      rintro ⟨d, q4⟩ ⟨h7, h8, h9⟩
      simp only at h7 h8 h9 ⊢; subst h7
      have h9 := h9 (by omega)
      exact Tot.yes h8 (Tot.yes (by simp; omega) (Tot.ret _ (by simp only [List.length_set]; omega)))
    · exact Tot.yes h2 (Tot.yes h3 (Tot.ret _ (by simp only [List.length_set]; omega)))
    · refine zdx _ (Tot.bind (zci s (q + 1 + 1) 2 hs (by omega) (by omega)) ?_)
      rintro ⟨d, q4⟩ ⟨h7, h8, h9⟩
      simp only at h7 h8 h9 ⊢; subst h7
      have h9 := h9 (by omega)
      exact Tot.yes h8 (Tot.yes (by simp; omega) (Tot.yes h2 (Tot.yes h3 (Tot.ret _ (by simp only [List.length_set]; omega)))))
    · exact Tot.yes h2 (Tot.yes h3 (Tot.yes (by omega) (Tot.ret _ (by simp only [List.length_append, List.length_singleton]; omega))))
    · exact fill (61 - x.length) x _ (by omega)
  have inner : ∀ (t : Int) (u : Int), 0 ≤ u → u ≤ 3 → ∀ (R : Int → Prop),
      (∀ (x : List Job) (y : List Int) (q : Int), x.length ≤ 60 → y.length = l.length → R q → Tot (fun k => zbb.l0 k l n x y u (wrap64 (t + 1)) s q) (fun r => r.1.length ≤ 61)) →
      ∀ (d i : Nat) (x : List Job) (y : List Int) (q : Int), i + d = l.length → x.length ≤ 60 → y.length = l.length → 0 ≤ q → (∀ q', q ≤ q' → q' ≤ q + 3 * d → R q') → q + 3 * d ≤ 999000000 → Tot (fun k => zbb.l1 k l n x y u t (i : Int) s q) (fun r => r.1.length ≤ 61) := by
    intro t u hu0 hu1 R hR d
    induction d with
    | zero =>
      intro i x y q hi hx hy hq hRq _
      exact Tot.step (fun k => by rw [zbb.l1]) (Tot.no (by omega) (hR x y q hx hy (hRq q (by omega) (by omega))))
    | succ d ih =>
      intro i x y q hi hx hy hq hRq hqb
      have e1 : wrap64 ((i : Int) + 1) = ((i + 1 : Nat) : Int) := by rw [w64 (by omega) (by omega)]; omega
      have next : ∀ (x2 : List Job) (y2 : List Int) (q2 : Int), x2.length ≤ 60 → y2.length = l.length → q ≤ q2 → q2 ≤ q + 3 → Tot (fun k => zbb.l1 k l n x2 y2 u t (wrap64 ((i : Int) + 1)) s q2) (fun r => r.1.length ≤ 61) := by
        intro x2 y2 q2 hx2 hy2 h1 h2
        rw [e1]
        exact ih (i + 1) x2 y2 q2 (by omega) hx2 hy2 (by omega) (fun q' h3 h4 => hRq q' (by omega) (by omega)) (by omega)
      have j2 : ∀ (b : Bool) (q2 : Int), (b = false → x.length < 60) → q ≤ q2 → q2 ≤ q + 1 → Tot (fun k => zbb.j2 k l n x y u t (i : Int) b s q2) (fun r => r.1.length ≤ 61) := by
        intro b q2 hb h1 h2
        refine Tot.step (fun k => by rw [zbb.j2]) (Tot.ite (fun _ => next x y q2 hx hy h1 (by omega)) (fun hbf => ?_))
        have hlt := hb (by simpa using hbf)
        refine Tot.yes (by omega) (Tot.yes (by omega) ?_)
        refine Tot.bind (zci s q2 3 hs (by omega) (by omega)) ?_
        rintro ⟨a, q3⟩ ⟨h3, h4, h5⟩
        simp only at h3 h4 h5 ⊢; subst h3
        refine Tot.ite (fun _ => ?_) (fun _ => ?_)
        · refine Tot.bind (zci s (q2 + 1) _ hs (by omega) (by omega)) ?_
          rintro ⟨c, q4⟩ ⟨h6, h7, h8⟩
          simp only at h6 h7 h8 ⊢; subst h6
          exact Tot.yes (by omega) (Tot.yes (by omega) (next _ _ _ (by rw [List.length_append, List.length_singleton]; omega) (by rw [List.length_set]; exact hy) (by omega) (by omega)))
        · exact Tot.yes (by omega) (Tot.yes (by omega) (next _ _ _ (by rw [List.length_append, List.length_singleton]; omega) (by rw [List.length_set]; exact hy) (by omega) (by omega)))
      refine Tot.step (fun k => by rw [zbb.l1]) (Tot.yes (by omega) (Tot.yes (by omega) (Tot.yes (by omega) ?_)))
      refine Tot.ite (fun _ => j2 true q (by simp) (by omega) (by omega)) (fun _ => Tot.ite (fun _ => j2 true q (by simp) (by omega) (by omega)) (fun h60 => ?_))
      refine Tot.ite (fun _ => ?_) (fun _ => j2 false q (fun _ => by omega) (by omega) (by omega))
      refine Tot.bind (zci s q _ hs hq (by omega)) ?_
      rintro ⟨a, q3⟩ ⟨h3, h4, h5⟩
      simp only at h3 h4 h5 ⊢; subst h3
      exact j2 _ _ (fun _ => by omega) (by omega) (by omega)
  have outer : ∀ (u : Int), 0 ≤ u → u ≤ 3 → ∀ (d i : Nat) (x : List Job) (y : List Int) (q : Int), i + d = 100 → x.length ≤ 60 → y.length = l.length → 0 ≤ q → q + 15 * d ≤ 998000000 → Tot (fun k => zbb.l0 k l n x y u (i : Int) s q) (fun r => r.1.length ≤ 61) := by
    intro u hu0 hu1 d
    induction d with
    | zero =>
      intro i x y q hi hx hy hq hqb
      refine Tot.step (fun k => by rw [zbb.l0]) (Tot.no (by omega) ?_)
      refine Tot.bind (zhh s q n hs hq (by omega)) ?_
      rintro ⟨a, q2⟩ ⟨h1, h2⟩
      simp only at h1 h2 ⊢
      exact Tot.ite (fun _ => last x _ q2 hx (fun h => by have := of_decide_eq_true h; omega) (by omega) (by omega)) (fun _ => last x _ q2 hx (by simp) (by omega) (by omega))
    | succ d ih =>
      intro i x y q hi hx hy hq hqb
      refine Tot.step (fun k => by rw [zbb.l0]) (Tot.yes (by omega) ?_)
      refine inner (i : Int) u hu0 hu1 (fun q' => q ≤ q' ∧ q' ≤ q + 15) (fun x2 y2 q2 hx2 hy2 hq2 => ?_) l.length 0 x y q (by omega) hx hy hq (fun q' h1 h2 => ⟨h1, by omega⟩) (by omega)
      rw [show wrap64 ((i : Int) + 1) = ((i + 1 : Nat) : Int) by rw [w64 (by omega) (by omega)]; omega]
      exact ih (i + 1) x2 y2 q2 (by omega) hx2 hy2 (by omega) (by omega)
  unfold zbb.f
  refine Tot.yes (by omega) (Tot.yes (by rw [Int.toNat_natCast]; omega) ?_)
  refine Tot.bind (zci s p 3 hs hp (by omega)) ?_
  rintro ⟨a, q2⟩ ⟨h1, h2, h3⟩
  simp only at h1 h2 h3 ⊢; subst h1
  have h3 := h3 (by omega)
  exact outer a h2 (by omega) 100 0 [] _ _ (by omega) (by simp) (by rw [List.length_replicate, Int.toNat_natCast]) (by omega) (by omega)
end Go.Proofs.Ytkdfjomhichkoaa.DrJobs
namespace Go.Proofs.Ytkdfjomhichkoaa.Same
open Go.RowKit Go.Proofs.Ytkdfjomhichkoaa.P Go.Proofs.Ytkdfjomhichkoaa.Base Go.Proofs.Ytkdfjomhichkoaa.Gen Go.Proofs.YtkdfjomhichkoaaW.PrintWords Go.Proofs.YtkdfjomhichkoaaW.PrintLast
theorem same_tot (l : List Int) (hl : l.length ≤ 1048576) : Tot (fun k => zb7.f k l l) (fun r => r = true) := by
  have h := Tot.look (r := true) (fun k i => zb7.l0 k l l i) l.length (fun k i h => by
    simp only [zb7.l0]
    rw [if_pos (by omega), if_pos (by omega), if_pos (by omega), if_pos (by first | trivial | rfl), w64 (by omega) (by omega)]) (fun k => by
    simp only [zb7.l0]
    rw [if_neg (by omega)])
  refine Tot.congr (fun k => ?_) h
  unfold zb7.f
  rw [if_pos rfl]
end Go.Proofs.Ytkdfjomhichkoaa.Same
namespace Go.Proofs.Ytkdfjomhichkoaa.DrNp
open Go.RowKit Go.Proofs.Ytkdfjomhichkoaa.P Go.Proofs.Ytkdfjomhichkoaa.Base Go.Proofs.Ytkdfjomhichkoaa.Gen Go.Proofs.Ytkdfjomhichkoaa.Pb Go.Proofs.Ytkdfjomhichkoaa.Set Go.Proofs.Ytkdfjomhichkoaa.Tm Go.Proofs.Ytkdfjomhichkoaa.DrSet Go.Proofs.Ytkdfjomhichkoaa.Jobs Go.Proofs.Ytkdfjomhichkoaa.DrJobs Go.Proofs.Ytkdfjomhichkoaa.Same Go.Proofs.YtkdfjomhichkoaaW.PrintWords Go.Proofs.YtkdfjomhichkoaaW.PrintLast
theorem sched_tot (a b : List Int) (ha : a.length ≤ 1048576) (hb : b.length ≤ 1048576) : Tot (fun k => zcs.f k a b a b) (fun r => r = true) := by
  unfold zcs.f
  refine Tot.bind (same_tot a ha) ?_
  rintro _ rfl
  refine Tot.yes rfl (Tot.bind (same_tot b hb) ?_)
  rintro _ rfl
  exact Tot.ret _ rfl
end Go.Proofs.Ytkdfjomhichkoaa.DrNp
namespace Go.Proofs.Ytkdfjomhichkoaa.DrSup
open Go.RowKit Go.Proofs.Ytkdfjomhichkoaa.P Go.Proofs.Ytkdfjomhichkoaa.Base Go.Proofs.Ytkdfjomhichkoaa.Gen Go.Proofs.Ytkdfjomhichkoaa.Pb Go.Proofs.YtkdfjomhichkoaaW.PrintWords Go.Proofs.YtkdfjomhichkoaaW.PrintLast
section
variable (s : List Int) (p n : Int) (hs : Bytes s) (hp : 0 ≤ p) (hp2 : p ≤ 900000000)
include hs hp hp2
theorem supply_tot : Tot (fun k => zdn.f k s p n) (fun r => p ≤ r.2.2 ∧ r.2.2 ≤ p + 5 ∧ -100 ≤ r.1 ∧ r.1 ≤ 100 ∧ -100 ≤ r.2.1 ∧ r.2.1 ≤ 100) := by
  unfold zdn.f
  refine Tot.bind (zci s p 12 hs hp (by omega)) ?_
  rintro ⟨a, q⟩ ⟨h, ha0, ha1⟩
  simp only at h ha0 ha1; subst h
  have ha2 := ha1 (by omega)
  refine zdx _ ?_
  refine Tot.bind (zci s (p + 1) 4 hs (by omega) (by omega)) ?_
  rintro ⟨b, q⟩ ⟨h, h3, h4⟩
  simp only at h h3 h4; subst h
  refine Tot.yes h3 (Tot.yes (by simp; omega) ?_)
  have hm := rd_mem (xs := [4, 6, 12, wrap64 (1 + a)]) h3 (by simp; omega)
  rw [w64 (x := 1 + a) (by omega) (by omega)] at hm ⊢
  simp only [List.mem_cons, List.not_mem_nil, or_false] at hm
  generalize rd [4, 6, 12, 1 + a] b = c at hm ⊢
  have hc : 1 ≤ c ∧ c ≤ 12 := by omega
  have hd := zhg c 2 (by omega) (by omega)
  rw [w64 (x := Int.tdiv c 2) (by omega) (by omega), w64 (x := Int.tdiv c 2 + 1) (by omega) (by omega)]
  refine Tot.bind (zci s (p + 1 + 1) _ hs (by omega) (by omega)) ?_
  rintro ⟨d, q⟩ ⟨h, h5, h6⟩
  simp only at h h5 h6; subst h
  have h7 := h6 (by unfold mx; split <;> omega)
  have h8 : mx 1 (Int.tdiv c 2 + 1) ≤ 13 := by unfold mx; split <;> omega
  refine Tot.bind (zhh s (p + 1 + 1 + 1) n hs (by omega) (by omega)) ?_
  rintro ⟨e, q⟩ ⟨h1, h2⟩
  simp only at h1 h2
  refine Tot.ite (fun _ => ?_) (fun _ => Tot.ret _ ⟨by show p ≤ q; omega, by show q ≤ p + 5; omega, ?_, ?_, by show -100 ≤ c; omega, by show c ≤ 100; omega⟩)
  · refine zdx _ ?_
    refine Tot.bind (zci s q 3 hs (by omega) (by omega)) ?_
    rintro ⟨d, q'⟩ ⟨h, h3, h4⟩
    simp only at h h3 h4; subst h
    have h9 : d = 0 ∨ d = 1 ∨ d = 2 := by omega
    rcases h9 with rfl | rfl | rfl
    all_goals exact Tot.yes (by omega) (Tot.yes (by dsimp only; decide) (Tot.ret _ ⟨by show p ≤ q + 1; omega, by show q + 1 ≤ p + 5; omega, by dsimp only; decide, by dsimp only; decide, by dsimp only; decide, by dsimp only; decide⟩))
  · show -100 ≤ mx 1 (wrap64 (c - d))
    rw [w64 (by omega) (by omega)]; unfold mx; split <;> omega
  · show mx 1 (wrap64 (c - d)) ≤ 100
    rw [w64 (by omega) (by omega)]; unfold mx; split <;> omega
end
end Go.Proofs.Ytkdfjomhichkoaa.DrSup
namespace Go.Proofs.Ytkdfjomhichkoaa.DrPat
open Go.RowKit Go.Proofs.Ytkdfjomhichkoaa.P Go.Proofs.Ytkdfjomhichkoaa.Base Go.Proofs.Ytkdfjomhichkoaa.Gen Go.Proofs.Ytkdfjomhichkoaa.Pb Go.Proofs.Ytkdfjomhichkoaa.Sup Go.Proofs.YtkdfjomhichkoaaW.PrintWords Go.Proofs.YtkdfjomhichkoaaW.PrintLast
section
variable (s : List Int) (n b p : Int) (hs : Bytes s) (hv : SV b p)
include hs
theorem tail_tot (l : List Bool) (hl : l.length = 120) (a q : Int) (hq : 0 ≤ q) (hq2 : q ≤ 900000000) :
    Tot (fun k => zn.j1 k n l a false s q b p) (fun r => r.1.length ≤ 120 ∧ q ≤ r.2 ∧ r.2 ≤ q + 3) := by
  refine Tot.step (fun k => by rw [zn.j1]) (Tot.no (by simp) ?_)
  refine Tot.bind (zhh s q n hs hq (by omega)) ?_
  rintro ⟨c, q1⟩ ⟨h1, h2⟩
  simp only at h1 h2 ⊢
  refine Tot.ite (fun _ => ?_) (fun _ => Tot.ret _ ⟨by simp; omega, by simp; omega, by simp; omega⟩)
  refine Tot.bind (zci s q1 120 hs (by omega) (by omega)) ?_
  rintro ⟨d, q2⟩ ⟨h, h3, h4⟩
  simp only at h h3 h4 ⊢; subst h
  have h4 := h4 (by omega)
  refine Tot.bind (zci s (q1 + 1) 2 hs (by omega) (by omega)) ?_
  rintro ⟨e, q2⟩ ⟨h, h5, h6⟩
  simp only at h h5 h6 ⊢; subst h
  refine Tot.ite (fun _ => Tot.yes h3 (Tot.yes (by omega) (Tot.ret _ ⟨by simp; omega, by simp; omega, by simp; omega⟩))) (fun _ => Tot.yes h3 (Tot.yes (by omega) (Tot.ret _ ⟨by simp; omega, by simp; omega, by simp; omega⟩)))
include hv
theorem inner_tot (a : Int) (ha : 0 ≤ a) (ha2 : a < 120) (q0 : Int) (hq : 0 ≤ q0) (hq2 : q0 ≤ 800000000)
    (H : ∀ (l : List Bool) (q : Int), l.length = 120 → q0 ≤ q → q ≤ q0 + 12 → Tot (fun k => zn.l0 k n l (a + p) s q b p) (fun r => r.1.length ≤ 120 ∧ 0 ≤ r.2 ∧ r.2 ≤ 900000000)) (x9 : Int) :
    ∀ (d : Nat) (j : Nat) (l : List Bool) (left q : Int), (j : Int) + d = p → l.length = 120 → -20 ≤ left → left ≤ 20 → q0 ≤ q → q ≤ q0 + j →
      Tot (fun k => zn.l1 k n l a x9 left (j : Int) s q b p) (fun r => r.1.length ≤ 120 ∧ 0 ≤ r.2 ∧ r.2 ≤ 900000000) := by
  unfold SV at hv
  have out : ∀ (j : Nat) (l : List Bool) (left q : Int), (j : Int) ≤ 12 → l.length = 120 → q0 ≤ q → q ≤ q0 + 12 → Tot (fun k => zn.j3 k n l a x9 left (j : Int) false s q b p) (fun r => r.1.length ≤ 120 ∧ 0 ≤ r.2 ∧ r.2 ≤ 900000000) := by
    intro j l left q hj hl h1 h2
    refine Tot.step (fun k => by rw [zn.j3]) (Tot.no (by simp) ?_)
    rw [w64 (x := a + p) (by omega) (by omega)]
    exact H l q hl h1 h2
  intro d
  induction d with
  | zero =>
    intro j l left q hj hl _ _ h1 h2
    refine Tot.step (fun k => by rw [zn.l1]) (Tot.no (by omega) ?_)
    exact out j l left q (by omega) hl h1 (by omega)
  | succ d ih =>
    intro j l left q hj hl hf hf2 h1 h2
    refine Tot.step (fun k => by rw [zn.l1]) (Tot.yes (by omega) ?_)
    rw [w64 (x := a + j) (by omega) (by omega)]
    by_cases hx : a + j < 120
    · rw [show decide (a + (j : Int) < 120) = true from decide_eq_true hx]
      refine Tot.step (fun k => by rw [zn.j3]) (Tot.yes rfl ?_)
      rw [w64 (x := a + j) (by omega) (by omega), w64 (x := left - 1) (by omega) (by omega), w64 (x := (j : Int) + 1) (by omega) (by omega)]
      have next : ∀ (l' : List Bool) (left' q' : Int), l'.length = 120 → -20 ≤ left' → left' ≤ 20 → q0 ≤ q' → q' ≤ q0 + (j + 1 : Nat) → Tot (fun k => zn.l1 k n l' a x9 left' ((j : Int) + 1) s q' b p) (fun r => r.1.length ≤ 120 ∧ 0 ≤ r.2 ∧ r.2 ≤ 900000000) := by
        intro l' left' q' a1 a2 a3 a4 a5
        exact ih (j + 1) l' left' q' (by push_cast; omega) a1 a2 a3 a4 a5
      have hi : 0 ≤ a + (j : Int) := by omega
      have hlt : a + (j : Int) < (l.length : Int) := by omega
      have set_ : ∀ (v : Bool) (left' : Int), -20 ≤ left' → left' ≤ 20 → Tot (fun k => if 0 ≤ a + (j : Int) then (if a + (j : Int) < (l.length : Int) then zn.l1 k n (l.set (a + (j : Int)).toNat v) a x9 left' ((j : Int) + 1) s q b p else none) else none) (fun r => r.1.length ≤ 120 ∧ 0 ≤ r.2 ∧ r.2 ≤ 900000000) := by
        intro v left' a1 a2
        exact Tot.yes hi (Tot.yes hlt (next _ _ _ (by simp [hl]) a1 a2 h1 (by push_cast; omega)))
      refine Tot.ite (fun hz => ?_) (fun _ => set_ _ _ hf hf2)
      refine Tot.ite (fun _ => set_ _ _ (by omega) (by omega)) (fun _ => ?_)
      refine Tot.ite (fun _ => set_ _ _ (by omega) (by omega)) (fun _ => ?_)
      refine Tot.ite (fun _ => ?_) (fun _ => set_ _ _ hf hf2)
      refine Tot.bind (zci s q 2 hs (by omega) (by omega)) ?_
      rintro ⟨e, q2⟩ ⟨h, h5, h6⟩
      simp only at h h5 h6 ⊢; subst h
      refine Tot.yes hi (Tot.yes hlt (zdx _ ?_))
      exact Tot.ite (fun _ => next _ _ _ (by simp [hl]) (by omega) (by omega) (by omega) (by push_cast; omega)) (fun _ => next _ _ _ (by simp [hl]) hf hf2 (by omega) (by push_cast; omega))
    · rw [show decide (a + (j : Int) < 120) = false from decide_eq_false hx]
      exact out j l left q (by omega) hl h1 (by omega)
theorem outer_tot : ∀ (d : Nat) (a : Int) (l : List Bool) (q : Int), 0 ≤ a → a + d = 132 → l.length = 120 → 0 ≤ q → q ≤ 700000000 + 13 * a →
    Tot (fun k => zn.l0 k n l a s q b p) (fun r => r.1.length ≤ 120 ∧ 0 ≤ r.2 ∧ r.2 ≤ 900000000) := by
  have hv' := hv
  unfold SV at hv'
  intro d
  induction d using Nat.strongRecOn with
  | _ d ih =>
    intro a l q ha hd hl hq hq2
    refine Tot.step (fun k => by rw [zn.l0]) (Tot.zjg (ssv_f b p) (Tot.yes (decide_eq_true hv) ?_))
    by_cases hx : a < 120
    · rw [show decide (a < 120) = true from decide_eq_true hx]
      refine Tot.step (fun k => by rw [zn.j1]) (Tot.yes rfl ?_)
      refine Tot.bind (zci s q 3 hs hq (by omega)) ?_
      rintro ⟨e, q2⟩ ⟨h, h5, h6⟩
      simp only at h h5 h6 ⊢; subst h
      refine inner_tot s n b p hs hv a ha hx (q + 1) (by omega) (by omega) ?_ e p.toNat 0 l b (q + 1) (by push_cast; omega) hl (by omega) (by omega) (by omega) (by push_cast; omega)
      intro l' q' hl' h1 h2
      exact ih (132 - (a + p)).toNat (by omega) (a + p) l' q' (by omega) (by omega) hl' (by omega) (by omega)
    · rw [show decide (a < 120) = false from decide_eq_false hx]
      exact (tail_tot s n b p hs l hl a q hq (by omega)).mono (fun r hr => ⟨hr.1, by omega, by omega⟩)
end
theorem zj8 (s : List Int) (q b p n : Int) (hs : Bytes s) (hq : 0 ≤ q) (hq2 : q ≤ 700000000) : Tot (fun k => zn.f k s q b p n) (fun r => r.1.length ≤ 120 ∧ 0 ≤ r.2 ∧ r.2 ≤ 900000000) := by
  unfold zn.f
  refine Tot.yes (by decide) ?_
  by_cases hv : SV b p
  · exact outer_tot s n b p hs hv 132 0 _ q (by omega) (by omega) (by simp) hq (by omega)
  · refine Tot.step (fun k => by rw [zn.l0]) (Tot.zjg (ssv_f b p) (Tot.no (fun h => hv (of_decide_eq_true h)) ?_))
    exact (tail_tot s n b p hs _ (by simp) 0 q hq (by omega)).mono (fun r hr => ⟨hr.1, by omega, by omega⟩)
end Go.Proofs.Ytkdfjomhichkoaa.DrPat
namespace Go.Proofs.Ytkdfjomhichkoaa.DrRs
open Go.RowKit Go.Proofs.Ytkdfjomhichkoaa.P Go.Proofs.Ytkdfjomhichkoaa.Base Go.Proofs.Ytkdfjomhichkoaa.Gen Go.Proofs.Ytkdfjomhichkoaa.Pb Go.Proofs.Ytkdfjomhichkoaa.Set Go.Proofs.Ytkdfjomhichkoaa.Tm Go.Proofs.Ytkdfjomhichkoaa.DrSet Go.Proofs.Ytkdfjomhichkoaa.Jobs Go.Proofs.Ytkdfjomhichkoaa.DrJobs Go.Proofs.Ytkdfjomhichkoaa.DrSup Go.Proofs.Ytkdfjomhichkoaa.DrPat Go.Proofs.YtkdfjomhichkoaaW.PrintWords Go.Proofs.YtkdfjomhichkoaaW.PrintLast
def ShortR (r : List DrSet.Task × List Job × Int × Int × List Bool) : Prop := r.1.length ≤ 20 ∧ r.2.1.length ≤ 61 ∧ r.2.2.2.2.length ≤ 120
theorem draw_rs (l0 : List Int) (hl : ∀ x ∈ l0, (Lit.int .u8 x).wf = true) : Tot (fun k => zbd.f k l0) ShortR := by
  unfold zbd.f
  refine open_tot l0 hl (fun s hs => ?_)
  have last : ∀ (l : List DrSet.Task) (q : Int), l.length ≤ 20 → 0 ≤ q → q ≤ 1000 → Tot (fun k => zbd.j1 k l s q) ShortR := by
    intro l q hl20 hq0 hq1
    refine Tot.step (fun k => by rw [zbd.j1]) ?_
    refine Tot.bind (supply_tot s q 20 hs hq0 (by omega)) ?_
    rintro ⟨b, p, q2⟩ ⟨h1, h2, _⟩
    simp only at h1 h2 ⊢
    refine Tot.bind (zj8 s q2 b p 16 hs (by omega) (by omega)) ?_
    rintro ⟨pat, q3⟩ ⟨h3, h4, h5⟩
    simp only at h3 h4 h5 ⊢
    refine Tot.bind (Tot.val (sset_ev l (by omega))) ?_
    rintro _ rfl
    by_cases hs2 : zec l
    · refine Tot.yes (decide_eq_true hs2) (Tot.bind (jobs_tot s l q3 16 hs hs2.1 h4 (by omega)) ?_)
      rintro ⟨js, q4⟩ h6
      exact Tot.ret _ ⟨hl20, h6, h3⟩
    · exact Tot.no (by simp [hs2]) (Tot.ret _ ⟨hl20, by simp, h3⟩)
  have loop : ∀ (d : Nat) (x : Int) (l : List DrSet.Task) (q : Int), x = d → (l.length : Int) + x ≤ 3 → 0 ≤ q → q + 2 * x ≤ 50 → Tot (fun k => zbd.l0 k l x s q) ShortR := by
    intro d
    induction d with
    | zero =>
      intro x l q hx hlx hq0 hq1
      refine Tot.step (fun k => by rw [zbd.l0]) (Tot.no (by omega) ?_)
      refine Tot.bind (zci s q 3 hs hq0 (by omega)) ?_
      rintro ⟨a, q2⟩ ⟨h1, h2, h3⟩
      simp only at h1 h2 h3 ⊢; subst h1
      refine Tot.ite (fun _ => ?_) (fun _ => last l _ (by omega) (by omega) (by omega))
      refine Tot.bind (set_tot s (q + 1) 16 hs (by omega) (by omega)) ?_
      rintro ⟨l2, q3⟩ ⟨h4, h5, h6⟩
      simp only at h4 h5 h6 ⊢
      exact last l2 q3 h4 (by omega) (by omega)
    | succ d ih =>
      intro x l q hx hlx hq0 hq1
      refine Tot.step (fun k => by rw [zbd.l0]) (Tot.yes (by omega) ?_)
      refine Tot.bind (zci s q 2 hs hq0 (by omega)) ?_
      rintro ⟨a, q2⟩ ⟨h1, h2, h3⟩
      simp only at h1 h2 h3 ⊢; subst h1
      refine Tot.bind (zci s (q + 1) 5 hs (by omega) (by omega)) ?_
      rintro ⟨c, q3⟩ ⟨h4, h5, h6⟩
      simp only at h4 h5 h6 ⊢; subst h4
      rw [w64 (x := x - 1) (by omega) (by omega)]
      exact Tot.yes (by omega) (ih (x - 1) _ _ (by omega) (by rw [List.length_append, List.length_singleton]; omega) (by omega) (by omega))
  refine Tot.bind (zci s 0 3 hs (by omega) (by omega)) ?_
  rintro ⟨a, q2⟩ ⟨h1, h2, h3⟩
  simp only at h1 h2 h3 ⊢; subst h1
  have h3 := h3 (by omega)
  exact loop a.toNat a [] _ (by omega) (by simp; omega) (by omega) (by omega)
end Go.Proofs.Ytkdfjomhichkoaa.DrRs
namespace Go.Proofs.Ytkdfjomhichkoaa.Pure
open Go.RowKit Go.Proofs.Ytkdfjomhichkoaa.P Go.Proofs.Ytkdfjomhichkoaa.Base Go.Proofs.Ytkdfjomhichkoaa.Gen Go.Proofs.YtkdfjomhichkoaaW.PrintWords Go.Proofs.YtkdfjomhichkoaaW.PrintLast
open Go.Proofs.Ytkdfjomhichkoaa.Pb Go.Proofs.Ytkdfjomhichkoaa.Alive Go.Proofs.Ytkdfjomhichkoaa.Set Go.Proofs.Ytkdfjomhichkoaa.Sup Go.Proofs.Ytkdfjomhichkoaa.Pat Go.Proofs.Ytkdfjomhichkoaa.Sf Go.Proofs.Ytkdfjomhichkoaa.Edf Go.Proofs.Ytkdfjomhichkoaa.Sim Go.Proofs.Ytkdfjomhichkoaa.Jobs Go.Proofs.Ytkdfjomhichkoaa.Leg Go.Proofs.Ytkdfjomhichkoaa.Nps Go.Proofs.Ytkdfjomhichkoaa.Npr Go.Proofs.Ytkdfjomhichkoaa.Rs Go.Proofs.Ytkdfjomhichkoaa.SupSafe Go.Proofs.Ytkdfjomhichkoaa.DrNp Go.Proofs.Ytkdfjomhichkoaa.DrRs
set_option maxHeartbeats 1000000 in
theorem FnSupplySafe : laws_FnSupplySafe.Pure := by
  intro l0 _ hl
  apply Tot.rounds
  unfold laws_FnSupplySafe.f
  refine Tot.ite (fun _ => Tot.ret _ rfl) (fun _ => ?_)
  refine Tot.bind (draw_rs l0 hl.2) ?_
  rintro ⟨l, js, b, p, pat⟩ ⟨h1, h2, h3⟩
  simp only at h1 h2 h3 ⊢
  refine Tot.bind (Tot.val (impl_rs l js b p pat (by omega) (by omega))) ?_
  rintro _ rfl
  refine Tot.bind (Tot.val (spec_rs l js b p pat (by omega) (by omega))) ?_
  rintro _ rfl
  have hal : ∀ x y : List Int, Tot (fun k => laws_FnSupplySafe.j0 k js true b p x y) (fun r => r = true) := fun x y => Tot.step (fun k => by rw [laws_FnSupplySafe.j0]) (Tot.yes rfl (Tot.zjg alive_f (Tot.ret _ rfl)))
  have hlen := RS_len l js b p pat
  refine Tot.bind (sched_tot _ _ (by omega) (by omega)) ?_
  rintro _ rfl
  refine Tot.yes rfl (Tot.ite (fun h120 => ?_) (fun _ => hal _ _))
  refine Tot.bind (impl_sf l b p) ?_
  rintro _ rfl
  by_cases hn : SF l b p
  · rw [decide_eq_true hn]
    by_cases hh : PV b p pat ∧ JL l js
    · obtain ⟨hp, h⟩ := hh
      have hr : RS l js b p pat = sch js (supp js (onb pat)) := if_pos ⟨hp, h⟩
      rw [hr]
      have hsl := sch_len js (supp js (onb pat))
      have hj := h.2.1
      have hv := hp.1
      unfold SV at hv
      refine Tot.step (fun k => by rw [laws_FnSupplySafe.j0]) (Tot.no (by simp) ?_)
      have e : zd2.f js (sch js (supp js (onb pat))).1 (sch js (supp js (onb pat))).2 = some (zeh js (sch js (supp js (onb pat))).2 js.length) := by
        unfold zd2.f
        rw [if_pos ⟨hsl.2, by omega⟩]
      refine Tot.zjg e ?_
      clear e
      have hml := missL_mem (js := js) (fin := (sch js (supp js (onb pat))).2) js.length
      have hmn := zhc js (sch js (supp js (onb pat))).2 js.length
      have hlate := fun i hi hm => sup_late h hp hn i hi hm
      generalize zeh js (sch js (supp js (onb pat))).2 js.length = M at *
      have hdiv : (120 : Int) / p * p ≤ 120 ∧ 0 ≤ 120 / p ∧ 120 / p ≤ 120 ∧ 0 ≤ 120 / p * p := ⟨Int.ediv_mul_le 120 (by omega), Int.ediv_nonneg (by omega) (by omega), Int.ediv_le_self p (by omega), Int.mul_nonneg (Int.ediv_nonneg (by omega) (by omega)) (by omega)⟩
      have hw : wrap64 ((wrap64 ((120 : Int) / p)) * p) = 120 / p * p := by rw [w64 (x := 120 / p) (by omega) (by omega), w64 (by omega) (by omega)]
      have loop : ∀ d i : Nat, i + d = M.length → Tot (fun k => laws_FnSupplySafe.l0 k js M (i : Int) b p) (fun r => r = true) := by
        intro d
        induction d with
        | zero => intro i hi; exact Tot.step (fun k => by rw [laws_FnSupplySafe.l0]) (Tot.no (by omega) (Tot.ret _ rfl))
        | succ d ih =>
          intro i hi
          have hiM : i < M.length := by omega
          obtain ⟨a, ha, hxa, hmb⟩ := hml _ (List.getElem_mem hiM)
          have hrd : rd M (i : Int) = (a : Int) := by rw [zj0 M i hiM, hxa]
          have hla := hlate a ha hmb
          have hjd : (zf js (a : Int)).f2 = dl js a := rfl
          refine Tot.step (fun k => by rw [laws_FnSupplySafe.l0]) (Tot.yes (by omega) (Tot.yes (by omega) ?_))
          rw [hrd, hw, hjd, w64 (x := (i : Int) + 1) (by omega) (by omega)]
          exact Tot.yes (by omega) (Tot.yes (by omega) (Tot.no (by omega) (Tot.no (by omega) (ih (i + 1) (by omega)))))
      exact loop M.length 0 (by omega)
    · exfalso
      have hr : RS l js b p pat = ([], []) := if_neg hh
      rw [hr] at h120
      simp at h120
  · rw [decide_eq_false hn]
    exact hal _ _
end Go.Proofs.Ytkdfjomhichkoaa.Pure
namespace Go.Proofs.Ytkdfjomhichkoaa.Opn
open Go.ChangeShapes Go.WideShapes Go.Deep Go.RowKit Go.Proofs.YtkdfjomhichkoaaW.PrintWords
section
variable {H : Type} {enc : TypeId × Value → H} {P : Program} {W : World} {base : Nat} {spare : Nat → Bool} {held : Bool}
def Opens {α : Type} (enc : TypeId × Value → H) (P : Program) (W : World) (base : Nat) (spare : Nat → Bool) (held : Bool) (t : TypeId) (d : Kd α) (G : α → Prop) : Prop :=
  ∀ (fuel : Nat) (cs : List Value) (x : DataW H × List MemPlace), DataW.trod enc P W base spare held fuel t cs = some x → ∃ a, d.K W a cs ∧ G a
theorem opens_int {t : TypeId} {k : IntKind} (hu : P.underlying t = some (.int k)) : Opens enc P W base spare held t (Kd.int k) (fun x => (Lit.int k x).wf = true) := by
  intro fuel cs x h
  obtain ⟨n, hc, _, hw⟩ := DataW.trod_int hu h
  exact ⟨n, hc, hw⟩
theorem list_of {α : Type} (m : Nat) (R : Nat → α → Prop) (h : ∀ i, i < m → ∃ a, R i a) : ∃ xs : List α, xs.length = m ∧ ∀ i a, xs[i]? = some a → R i a := by
  induction m with
  | zero => exact ⟨[], rfl, fun i a ha => by simp at ha⟩
  | succ m ih =>
    obtain ⟨xs, hl, hx⟩ := ih (fun i hi => h i (by omega))
    obtain ⟨a, ha⟩ := h m (by omega)
    refine ⟨xs ++ [a], by simp [hl], fun i b hb => ?_⟩
    rcases Nat.lt_or_ge i m with hi | hi
    · rw [List.getElem?_append_left (by omega)] at hb
      exact hx i b hb
    · have hi' : i = m := by
        have := (List.getElem?_eq_some_iff.1 hb).1
        simp at this
        omega
      subst hi'
      have : a = b := by simpa [hl] using hb
      subst this
      exact ha
theorem slice_row {α : Type} {t e : TypeId} {d : Kd α} {G : α → Prop} (hu : P.underlying t = some (.slice e)) (hC : P.cellsOf e = d.sz) (he : Opens enc P W base spare held e d G)
    {fuel : Nat} {A : Option Addr} {n cap : Nat} {x : DataW H × List MemPlace} (h : DataW.trod enc P W base spare held fuel t [.slice A n cap] = some x) :
    ∃ xs : List α, xs.length = n ∧ n ≤ cap ∧ n ≤ maxLen ∧ d.C W A xs.length xs ∧ ∀ y ∈ xs, G y := by
  rcases open_slice hu h with ⟨h0, _⟩ | ⟨a, len, c, m, k, D, Pl, hcs, _, hl, hm, hmm, _, hel⟩
  · simp only [List.cons.injEq, Value.slice.injEq, and_true] at h0
    obtain ⟨rfl, rfl, rfl⟩ := h0
    exact ⟨[], rfl, Nat.le_refl _, by simp [maxLen], Kd.C_nil d W, fun y hy => by simp at hy⟩
  · simp only [List.cons.injEq, Value.slice.injEq, and_true] at hcs
    obtain ⟨rfl, rfl, rfl⟩ := hcs
    have hle : n ≤ m := by rw [hmm]; split <;> omega
    obtain ⟨xs, hxl, hx⟩ := list_of (α := α) n (fun i y => G y ∧ ∃ cs', d.K W y cs' ∧ cs'.length = d.sz ∧ ∀ j, j < d.sz → W.cell? ((a.add (i * d.sz)).add j) = cs'[j]?) (by
      intro i hi
      obtain ⟨cs', hc, ht⟩ := hel i (by omega)
      obtain ⟨y, hK, hG⟩ := he _ _ _ ht
      rw [hC] at hc
      obtain ⟨_, hcl, hcc⟩ := World.cells?_some hc
      exact ⟨y, hG, cs', hK, hcl, hcc⟩)
    refine ⟨xs, hxl, hl, by omega, ⟨rfl, by simp only [maxLen] at hm; omega, fun hp => ⟨a, rfl, fun j p hj => ?_⟩⟩, fun y hy => ?_⟩
    · obtain ⟨_, cs', hK, hcl, hcc⟩ := hx j p hj
      refine ⟨cs', hcl, hK, fun i u hi => ?_⟩
      have hlt : i < d.sz := by
        have := (List.getElem?_eq_some_iff.1 hi).1
        omega
      rw [← Go.Deep.add_add, hcc i hlt, hi]
    · obtain ⟨i, hi, rfl⟩ := List.getElem_of_mem hy
      exact (hx i _ (List.getElem?_eq_getElem hi)).1
theorem sized_row {t e : TypeId} {A : Option Addr} {n cap : Nat} {d : DataW H} {ps : List MemPlace} {ts : List TypeId} {ds : List (DataW H)} {j : Nat}
    (hsz : (DataW.weightsEach P ts ds).all (· ≤ reachBytes) = true) (ht : ts[j]? = some t) (hd : ds[j]? = some d) (hu : P.underlying t = some (.slice e)) {B : Nat} (hB : P.bytesOf e = B)
    (h : DataW.Trod enc P W base spare held t (.slice A n cap) d ps) : n * B ≤ 140737488351232 := by
  obtain ⟨fuel, hf⟩ := h
  have hf' : DataW.trod enc P W base spare held fuel t [.slice A n cap] = some (d, ps) := hf
  rcases open_slice hu hf' with ⟨h0, _⟩ | ⟨a, len, c, m, k, D, Pl, hcs, _, hl, hm, hmm, hx, hel⟩
  · simp only [List.cons.injEq, Value.slice.injEq, and_true] at h0
    obtain ⟨rfl, rfl, rfl⟩ := h0
    simp
  · simp only [List.cons.injEq, Value.slice.injEq, and_true] at hcs
    obtain ⟨rfl, rfl, rfl⟩ := hcs
    obtain ⟨hx, _⟩ := Prod.mk.inj hx
    subst hx
    have z := sized_slice hsz ht hd hu
    rw [hB] at z
    simp only [List.length_map, List.length_range] at z
    exact Nat.le_trans (Nat.mul_le_mul_right _ (by omega)) z
end
end Go.Proofs.Ytkdfjomhichkoaa.Opn
namespace Go.Proofs.Ytkdfjomhichkoaa.Head
open Go
def chars (l : List Nat) : List Char := l.map Char.ofNat
def w1 : List Nat := [104, 97, 114, 110, 101, 115, 115]
def w2 : List Nat := [53, 56, 52, 57, 99, 51, 101, 100, 56, 100, 101, 101, 57, 99, 49, 55, 56, 100, 101, 48, 49, 51, 53, 50, 57, 99, 57, 53, 100, 99, 51, 50, 57, 51, 57, 100, 102, 102, 53, 53, 98, 102, 54, 98, 52, 51, 55, 99, 55, 48, 49, 56, 49, 48, 57, 48, 56, 53, 56, 102, 99, 54, 52, 48]
def w3 : List Nat := [99, 117, 116]
def w4 : List Nat := [97, 116, 32, 108, 111, 111, 112, 46, 101, 120, 97, 109, 112, 108, 101, 47, 100, 101, 97, 100, 108, 105, 110, 101, 115, 99, 104, 101, 100, 117, 108, 101, 114, 47, 108, 97, 119, 115, 46, 70, 110, 82, 117, 110, 78, 111, 110, 80, 114, 101, 101, 109, 112, 116, 105, 118, 101, 32, 108, 111, 111, 112, 46, 101, 120, 97, 109, 112, 108, 101, 47, 100, 101, 97, 100, 108, 105, 110, 101, 115, 99, 104, 101, 100, 117, 108, 101, 114, 47, 108, 97, 119, 115, 46, 70, 110, 85, 110, 105, 116, 67, 111, 115, 116, 115, 32, 108, 111, 111, 112, 46, 101, 120, 97, 109, 112, 108, 101, 47, 100, 101, 97, 100, 108, 105, 110, 101, 115, 99, 104, 101, 100, 117, 108, 101, 114, 47, 108, 97, 119, 115, 46, 70, 110, 69, 120, 97, 99, 116, 82, 117, 110, 78, 111, 110, 80, 114, 101, 101, 109, 112, 116, 105, 118, 101, 32, 108, 111, 111, 112, 46, 101, 120, 97, 109, 112, 108, 101, 47, 100, 101, 97, 100, 108, 105, 110, 101, 115, 99, 104, 101, 100, 117, 108, 101, 114, 47, 108, 97, 119, 115, 46, 70, 110, 78, 111, 110, 80, 114, 101, 101, 109, 112, 116, 105, 118, 101, 83, 97, 102, 101, 32, 108, 111, 111, 112, 46, 101, 120, 97, 109, 112, 108, 101, 47, 100, 101, 97, 100, 108, 105, 110, 101, 115, 99, 104, 101, 100, 117, 108, 101, 114, 47, 108, 97, 119, 115, 46, 70, 110, 82, 117, 110, 83, 117, 112, 112, 108, 121, 32, 108, 111, 111, 112, 46, 101, 120, 97, 109, 112, 108, 101, 47, 100, 101, 97, 100, 108, 105, 110, 101, 115, 99, 104, 101, 100, 117, 108, 101, 114, 47, 108, 97, 119, 115, 46, 70, 110, 69, 120, 97, 99, 116, 82, 117, 110, 83, 117, 112, 112, 108, 121, 32, 108, 111, 111, 112, 46, 101, 120, 97, 109, 112, 108, 101, 47, 100, 101, 97, 100, 108, 105, 110, 101, 115, 99, 104, 101, 100, 117, 108, 101, 114, 47, 108, 97, 119, 115, 46, 70, 110, 83, 117, 112, 112, 108, 121, 83, 97, 102, 101, 32, 108, 111, 111, 112, 46, 101, 120, 97, 109, 112, 108, 101, 47, 100, 101, 97, 100, 108, 105, 110, 101, 115, 99, 104, 101, 100, 117, 108, 101, 114, 47, 108, 97, 119, 115, 46, 70, 110, 69, 120, 97, 99, 116, 83, 116, 101, 97, 108, 83, 108, 97, 99, 107]
theorem io_eq : Try.prog.initOrder = String.ofList (chars (w1 ++ 32 :: (w2 ++ 32 :: (w3 ++ 32 :: w4)))) := by kernel_rfl
theorem io_list : Try.prog.initOrder.toList = chars (w1 ++ 32 :: (w2 ++ 32 :: (w3 ++ 32 :: w4))) := by rw [io_eq, String.toList_ofList]
theorem ws_one (c : Char) (r w : List Char) (ws : List (List Char)) (hc : c ≠ Char.ofNat 32) (h : wordsSigns r = w :: ws) : wordsSigns (c :: r) = (c :: w) :: ws := by
  have e : wordsSigns (c :: r) = match wordsSigns r with
    | w :: ws => (c :: w) :: ws
    | [] => [[c]] := by
    rw [wordsSigns]
    · rfl
    · exact hc
  rw [e, h]
theorem ws_word (w : List Char) (h : ∀ c ∈ w, c ≠ Char.ofNat 32) (r : List Char) : wordsSigns (w ++ Char.ofNat 32 :: r) = w :: wordsSigns r := by
  induction w with
  | nil => rfl
  | cons c w ih => exact ws_one _ _ _ _ (h c (by simp)) (ih (fun x hx => h x (by simp [hx])))
theorem ws_nat (w r : List Nat) (h : w.all (fun n => !(Char.ofNat n == Char.ofNat 32)) = true) : wordsSigns (chars (w ++ 32 :: r)) = chars w :: wordsSigns (chars r) := by
  have e : chars (w ++ 32 :: r) = chars w ++ Char.ofNat 32 :: chars r := by simp [chars]
  rw [e]
  refine ws_word _ (fun c hc => ?_) _
  obtain ⟨n, hn, rfl⟩ := List.mem_map.1 hc
  have := List.all_eq_true.1 h n hn
  simpa using this
theorem zin : behindMainWord (wordsSigns Try.prog.initOrder.toList) = chars w3 :: wordsSigns (chars w4) := by
  rw [io_list, ws_nat _ _ (by kernel_rfl), ws_nat _ _ (by kernel_rfl), ws_nat _ _ (by kernel_rfl)]
  generalize wordsSigns (chars w4) = R
  kernel_rfl
theorem make_gen (P : Program) (c : List Char) (R : List (List Char)) (h : behindMainWord (wordsSigns P.initOrder.toList) = c :: R) (h1 : (c == "gc".toList || c == "spec".toList) = false) (h2 : (c == "cut".toList) = true) : P.make = some .cut := by
  unfold Program.make
  rw [h]
  simp only [h1, h2, Bool.true_or, if_true, Bool.false_eq_true, if_false]
theorem make : Try.prog.make = some .cut := make_gen _ _ _ zin (by kernel_rfl) (by kernel_rfl)
theorem enter_gen (P : Program) (c : List Char) (R : List (List Char)) (h : behindMainWord (wordsSigns P.initOrder.toList) = c :: R) (h1 : ∀ R, stripLifts liftWords (c :: R) = ([], c :: R)) (h2 : (some c == some "cut".toList) = true)
    (h3 : P.laysLater = false) (h4 : P.bearsReflect = false) (h5 : P.doorFits [] = true) : P.mayEnter = true := by
  unfold Program.mayEnter
  rw [h]
  simp only [h1, h2, h3, h4, h5, List.head?_cons, Bool.not_false, Bool.or_true, Bool.and_true, List.contains_nil]
theorem enter : Try.prog.mayEnter = true := enter_gen _ _ _ zin (fun R => by kernel_rfl) (by kernel_rfl) (by kernel_rfl) (by kernel_rfl) (by kernel_rfl)
theorem lifts : Try.prog.liftsFinal = false := by
  unfold Program.liftsFinal Program.headLifts
  simp only [zin]
  generalize wordsSigns (chars w4) = R
  kernel_rfl
end Go.Proofs.Ytkdfjomhichkoaa.Head
namespace Go.Proofs.Ytkdfjomhichkoaa.fnSupplySafe
open Go.ChangeShapes Go.WideShapes Go.ChangeAt Go.RowKit Go.Proofs.YtkdfjomhichkoaaW.PrintWords Go.Proofs.Ytkdfjomhichkoaa.P
open Go.ChangeMaps (open_string shut_string)
theorem own : ownKnob Try.prog.godebug = none := by kernel_rfl
theorem laidOut : laidOutB Try.prog = true := by kernel_rfl
theorem lifted (os : Os) (started : os.Started) (H : Type) (enc : TypeId × Value → H) :
    ReturnsInHanded {} Try.checked os 9 .any (Rows.fnSupplySafeSpec.pre6 enc Try.prog Try.f9 Rows.fnSupplySafeRow.domain false) (Rows.fnSupplySafeSpec.post enc Try.prog Try.f9 false true false false) := by
  refine returnsInHanded_of_change_sized (C := Try.checked) own started (by kernel_rfl) Try.func9
    (ChangeSpec.witness6 (enc := enc) (C := Try.checked) false ⟨#[], #[.slice none 0 0], []⟩ 8 (by kernel_rfl) (by kernel_rfl) (by kernel_rfl) (by kernel_rfl)) ?_
  intro W base args ds gs before hval0 hW hcnd hsz0 _
  have hsz : (DataW.weightsEach Try.prog (Try.f9.params.toList ++ Rows.fnSupplySafeSpec.plain.varTypes Try.prog) (ds ++ gs)).all (· ≤ reachBytes) = true := hsz0
  have hval : ∀ (j : Nat) t v, Try.f9.params[j]? = some t → args[j]? = some v → Value.okWide Try.prog W .any base t v := hval0
  have hW' := hW
  obtain ⟨p, q, hA0, hV, rfl, hfz, hnd⟩ := hW
  have hA : DataW.TrodAll enc Try.prog W 0 (fun _ => true) true Try.f9.params.toList args.toList ds p := hA0
  rw [Try.params9] at hA hval hsz
  obtain ⟨v0, vs0, d0, ds0, p0, q0, hargs, rfl, rfl, h0, r0⟩ := trodAll_cons hA
  obtain ⟨rfl, rfl, rfl⟩ := trodAll_nil r0
  obtain rfl : args = #[v0] := by cases args; simp_all
  obtain ⟨rfl, rfl⟩ := trodVars_none hV
  have k0 := h0
  have lt0 : ∀ x ∈ p0, x.block < W.heap.size := by obtain ⟨m, hm⟩ := k0; exact DataW.trod_lt m _ _ _ hm
  obtain ⟨A0, n0, c0, rfl⟩ := okWide_slice Try.underlying22 (hval 0 22 v0 rfl rfl)
  have y0 : n0 * 1 ≤ 140737488351232 := Opn.sized_row hsz (j := 0) (t := 22) rfl rfl Try.underlying22 (by kernel_rfl) h0
  obtain ⟨l0, rfl, hc0, hm0, hr0, hg0⟩ : ∃ xs : List (Int), xs.length = n0 ∧ n0 ≤ c0 ∧ n0 ≤ maxLen ∧ Kd.C (Kd.int .u8) W A0 xs.length xs ∧ ∀ y0 ∈ xs, (Lit.int .u8 y0).wf = true := by
    obtain ⟨fuel, hf⟩ := h0
    exact Opn.slice_row Try.underlying22 (by kernel_rfl) (Opn.opens_int Try.underlying5) hf
  obtain ⟨k, hk⟩ := Pure.FnSupplySafe l0 y0 ⟨hm0, hg0⟩
  clear hA0 hval0 hsz0 hsz
  refine (laws_FnSupplySafe.calls k A0 c0 l0 true W hr0 hc0 hk rfl).mono fun e W' ⟨he, hd⟩ => ?_
  have bel := hd
  subst he
  exact ⟨_, rfl, _, _, _, [], _, [], hW', trodAll_mk1 (shut_bool Try.underlying4 _), (trodAll_cons_mk (Below.trod laidOut (by kernel_rfl) (of_decide_eq_true (by kernel_rfl)) k0 bel lt0) trodAll_mk0), rfl, bel.frame _, fun h => by cases h⟩
theorem closed : joinedFacts Try.prog 9 Try.f9 Rows.fnSupplySafeSpec Rows.fnSupplySafeRow = true := by
  simp only [joinedFacts, Head.enter, Head.lifts, Head.make]
  kernel_rfl
theorem named : Try.prog.funcNamed Rows.fnSupplySafeRow.func = some 9 := by kernel_rfl
theorem wrapped : Try.f9.isWrapper Try.prog Rows.fnSupplySafeRow.wrapper Rows.fnSupplySafeRow.mainSum := by unfold Func.isWrapper; first | (rw [if_pos (by decide +kernel)]; kernel_rfl) | (rw [if_neg (by decide +kernel)]; exact ⟨rfl, rfl⟩)
theorem over : Rows.fnSupplySafeRow.holds Try.pinned (OpenSpec.ofChange Rows.fnSupplySafeSpec) :=
  OpenClaim.holds_of_wide 9 Try.f9 rfl rfl rfl rfl rfl rfl rfl ⟨rfl, rfl, rfl, rfl, rfl⟩ rfl rfl rfl rfl rfl named Try.func9 closed
    (of_decide_eq_true (by kernel_rfl)) wrapped
    (fun os started H enc _ => lifted os started H enc)
theorem proved : Rows.FnSupplySafeSaid := over
#print axioms proved
end Go.Proofs.Ytkdfjomhichkoaa.fnSupplySafe
namespace Go.Proofs.Ytkdfjomhichkoaa
theorem fnSupplySafe_holds : Rows.FnSupplySafeSaid := fnSupplySafe.proved
end Go.Proofs.Ytkdfjomhichkoaa
