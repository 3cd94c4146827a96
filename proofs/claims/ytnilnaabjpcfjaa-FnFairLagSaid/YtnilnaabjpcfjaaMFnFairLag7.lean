/- The law FnFairLag for every input, part 7 of its proof: what the program's functions answer, and the plain law. No condition. -/
import Derived.Test.YtnilnaabjpcfjaaMFnFairLag1
import Derived.Test.YtnilnaabjpcfjaaMFnFairLag2
import Derived.Test.YtnilnaabjpcfjaaMFnFairLag3
import Derived.Test.YtnilnaabjpcfjaaMFnFairLag5
import Derived.Test.YtnilnaabjpcfjaaMFnFairLag6
import Derived.Laws.BitsLemmas
import Derived.SizedLaws
import Derived.ChangeSlices
import Derived.ChangeArms
import Derived.WideShapes
import Derived.Deep.Slices
import Derived.OpenShut
import Derived.Test.YtnilnaabjpcfjaaRows
import Derived.JoinedOf
import Derived.KernelRfl
import Derived.WalkKit
import Derived.ProofKit
import Derived.ShutString
import Derived.ChangeOld
import Derived.Below
set_option maxRecDepth 100000
namespace Go.Proofs.Ytnilnaabjpcfjaa.Pb
open Go.RowKit Go.Proofs.Ytnilnaabjpcfjaa.P Go.Proofs.Ytnilnaabjpcfjaa.Gen Go.Proofs.Ytnilnaabjpcfjaa.Base Go.Proofs.YtnilnaabjpcfjaaW.PrintWords Go.Proofs.YtnilnaabjpcfjaaW.PrintLast
theorem xor_ok (x y : Int) (hx : 0 ≤ x) (hx1 : x < 4611686018427387904) (hy : 0 ≤ y) (hy1 : y < 4611686018427387904) : 0 ≤ Go.bits .xor .i64 x y := by
  obtain ⟨a, rfl⟩ := Int.eq_ofNat_of_zero_le hx
  obtain ⟨b, rfl⟩ := Int.eq_ofNat_of_zero_le hy
  have ha : a < 2 ^ 62 := by have e : (2 : Nat) ^ 62 = 4611686018427387904 := by decide
                             omega
  have hb : b < 2 ^ 62 := by have e : (2 : Nat) ^ 62 = 4611686018427387904 := by decide
                             omega
  have ha' : a % 2 ^ 64 = a := Nat.mod_eq_of_lt (by omega)
  have hb' : b % 2 ^ 64 = b := Nat.mod_eq_of_lt (by omega)
  have hx := Nat.xor_lt_two_pow ha hb
  simp only [Go.bits]
  rw [show IntKind.i64.bits = 64 from rfl]
  rw [BitVec.toNat_xor, BitVec.ofInt_natCast, BitVec.ofInt_natCast, BitVec.toNat_ofNat, BitVec.toNat_ofNat, ha', hb', IntKind.wrap_i64]
  have e : (2 : Nat) ^ 62 = 4611686018427387904 := by decide
  omega
def Bytes (s : List Int) : Prop := s.length ≤ 2000 ∧ ∀ x ∈ s, 0 ≤ x ∧ x ≤ 255
theorem Bytes.rd {s : List Int} (h : Bytes s) (i : Int) : 0 ≤ rd s i ∧ rd s i ≤ 255 := by
  unfold Go.Proofs.YtnilnaabjpcfjaaW.PrintWords.rd
  rw [List.getD_eq_getElem?_getD]
  rcases Nat.lt_or_ge i.toNat s.length with hi | hi
  · rw [List.getElem?_eq_getElem hi]
    exact h.2 _ (List.getElem_mem hi)
  · rw [List.getElem?_eq_none hi]
    simp
theorem u8_wf {x : Int} (h : (Lit.int .u8 x).wf = true) : 0 ≤ x ∧ x ≤ 255 := by
  simp [Lit.wf, IntKind.min, IntKind.max, IntKind.bits, IntKind.signed] at h
  omega
theorem zij (a n : Int) (ha : 0 ≤ a) (hn : 1 ≤ n) : 0 ≤ Int.tmod a n ∧ Int.tmod a n < n := by
  rw [Int.tmod_eq_emod_of_nonneg ha]
  exact ⟨Int.emod_nonneg _ (by omega), Int.emod_lt_of_pos _ (by omega)⟩
theorem zik (a n : Int) (ha : 0 ≤ a) (hn : 1 ≤ n) : 0 ≤ Int.tdiv a n ∧ Int.tdiv a n ≤ a := by
  rw [Int.tdiv_eq_ediv_of_nonneg ha]
  exact ⟨Int.ediv_nonneg ha (by omega), Int.ediv_le_self _ ha⟩
theorem pick_at (k : Nat) (s : List Int) (p n : Int) (hs : Bytes s) (hp : 0 ≤ p) (hp2 : p ≤ 1000000000) :
    ∃ r, zb.f (k + 1) s p n = some (r, p + 1) ∧ 0 ≤ r ∧ (1 ≤ n → r < n) := by
  unfold zb.f
  rw [w64 (x := p + 1) (by omega) (by omega)]
  by_cases hn : n < 1
  · rw [if_pos hn]
    exact ⟨0, by simp [zb.j0], Int.le_refl _, fun h => by omega⟩
  · rw [if_neg hn]
    by_cases h0 : (s.length : Int) = 0
    · refine ⟨0, ?_, Int.le_refl _, fun h => by omega⟩
      simp only [zb.j0]
      rw [if_pos (by simpa using h0)]
    · simp only [zb.j0]
      rw [if_neg (by simpa using h0)]
      have hl := hs.1
      rw [w64 (x := p + 1 - 1) (by omega) (by omega), show p + 1 - 1 = p by omega]
      by_cases h1 : p < (s.length : Int)
      · have hb := hs.rd p
        rw [if_pos h1, if_pos hp, if_neg (by omega), w64 (x := rd s p) (by omega) (by omega)]
        have ht := zij (rd s p) n hb.1 (by omega)
        exact ⟨_, rfl, ht.1, fun _ => ht.2⟩
      · rw [if_neg h1, if_neg h0]
        have m0 := zij p (s.length : Int) hp (by omega)
        rw [if_pos m0.1, if_pos m0.2]
        rw [w64 (x := p * 7) (by omega) (by omega), w64 (x := p * 7 + 3) (by omega) (by omega)]
        have m1 := zij (p * 7 + 3) (s.length : Int) (by omega) (by omega)
        rw [if_pos m1.1, if_pos m1.2, if_neg (by omega)]
        have b0 := hs.rd (Int.tmod p (s.length : Int))
        have b1 := hs.rd (Int.tmod (p * 7 + 3) (s.length : Int))
        have d0 := zik p (s.length : Int) hp (by omega)
        generalize rd s (Int.tmod p (s.length : Int)) = x at b0 ⊢
        generalize rd s (Int.tmod (p * 7 + 3) (s.length : Int)) = y at b1 ⊢
        generalize Int.tdiv p (s.length : Int) = q at d0 ⊢
        rw [w64 (x := x) (by omega) (by omega), w64 (x := y) (by omega) (by omega), w64 (x := q) (by omega) (by omega)]
        rw [w64 (x := x * 131) (by omega) (by omega), w64 (x := y * 1117) (by omega) (by omega), w64 (x := p * 29) (by omega) (by omega), w64 (x := q * 53) (by omega) (by omega)]
        rw [w64 (x := x * 131 + y * 1117) (by omega) (by omega), w64 (x := x * 131 + y * 1117 + p * 29) (by omega) (by omega), w64 (x := x * 131 + y * 1117 + p * 29 + q * 53) (by omega) (by omega)]
        have e0 := zik (x * 131 + y * 1117 + p * 29 + q * 53) 64 (by omega) (by omega)
        rw [w64 (x := Int.tdiv (x * 131 + y * 1117 + p * 29 + q * 53) 64) (by omega) (by omega)]
        have hx := xor_ok (x * 131 + y * 1117 + p * 29 + q * 53) (Int.tdiv (x * 131 + y * 1117 + p * 29 + q * 53) 64) (by omega) (by omega) e0.1 (by omega)
        have ht := zij _ n hx (by omega)
        exact ⟨_, rfl, ht.1, fun _ => ht.2⟩
theorem open_at (l : List Int) (hl : ∀ x ∈ l, (Lit.int .u8 x).wf = true) : ∃ s, zdb.f l = some (s, 0) ∧ Bytes s := by
  unfold zdb.f
  by_cases h : (l.length : Int) > 2000
  · rw [if_pos h, if_pos (by omega)]
    exact ⟨_, rfl, by rw [List.length_take]; omega, fun x hx => u8_wf (hl x (List.mem_of_mem_take hx))⟩
  · rw [if_neg h]
    exact ⟨_, rfl, by omega, fun x hx => u8_wf (hl x hx)⟩
def At (p q : Int) (c : Int) : Prop := p ≤ q ∧ q ≤ p + c
theorem zde (s : List Int) (p n : Int) (hs : Bytes s) (hp : 0 ≤ p) (hp2 : p ≤ 1000000000) : Tot (fun k => zb.f k s p n) (fun r => r.2 = p + 1 ∧ 0 ≤ r.1 ∧ (1 ≤ n → r.1 < n)) := by
  obtain ⟨r, hr, h0, h1⟩ := pick_at 0 s p n hs hp hp2
  refine ⟨(r, p + 1), ⟨1, fun k hk => ?_⟩, rfl, h0, h1⟩
  obtain ⟨j, rfl⟩ : ∃ j, k = j + 1 := ⟨k - 1, by omega⟩
  obtain ⟨r', hr', h0', h1'⟩ := pick_at j s p n hs hp hp2
  have hm := ziq (g := fun k => zb.f k s p n) (fun k => zb.mono _ _ _ k) (show 1 ≤ j + 1 by omega) hr
  exact hm
theorem zil (s : List Int) (p n : Int) (hs : Bytes s) (hp : 0 ≤ p) (hp2 : p ≤ 1000000000) : Tot (fun k => zbl.f k s p n) (fun r => p ≤ r.2 ∧ r.2 ≤ p + 1) := by
  unfold zbl.f
  refine Tot.ite (fun _ => ?_) (fun _ => Tot.ret _ ⟨Int.le_refl _, by omega⟩)
  refine Tot.bind (zde s p n hs hp hp2) ?_
  rintro ⟨a, q⟩ ⟨rfl, _, _⟩
  exact Tot.ret _ ⟨by show p ≤ p + 1; omega, Int.le_refl _⟩
theorem open_tot {β : Type} {Q : β → Prop} (l : List Int) (hl : ∀ x ∈ l, (Lit.int .u8 x).wf = true) {f : Nat → List Int × Int → Option β} (hf : ∀ s, Bytes s → Tot (fun k => f k (s, 0)) Q) : Tot (fun k => (zdb.f l).bind (f k)) Q := by
  obtain ⟨s, hs, hb⟩ := open_at l hl
  exact Tot.zdx hs (hf s hb)
theorem zeb {α β : Type} {Q : β → Prop} (a : α) {f : Nat → α → Option β} (h : Tot (fun k => f k a) Q) : Tot (fun k => (some a).bind (f k)) Q := h
theorem rd_mem {xs : List Int} {i : Int} (h0 : 0 ≤ i) (h1 : i < (xs.length : Int)) : rd xs i ∈ xs := by
  unfold Go.Proofs.YtnilnaabjpcfjaaW.PrintWords.rd
  have : i.toNat < xs.length := by omega
  rw [List.getD_eq_getElem?_getD, List.getElem?_eq_getElem this]
  exact List.getElem_mem this
end Go.Proofs.Ytnilnaabjpcfjaa.Pb
namespace Go.Proofs.Ytnilnaabjpcfjaa.DrTask
open Go.RowKit Go.Proofs.Ytnilnaabjpcfjaa.P Go.Proofs.Ytnilnaabjpcfjaa.Base Go.Proofs.Ytnilnaabjpcfjaa.Gen Go.Proofs.Ytnilnaabjpcfjaa.Pb Go.Proofs.YtnilnaabjpcfjaaW.PrintWords Go.Proofs.YtnilnaabjpcfjaaW.PrintLast
theorem rd_bd {xs : List Int} {i : Int} (lo hi : Int) (h0 : 0 ≤ i) (h1 : i < (xs.length : Int)) (h : ∀ x ∈ xs, lo ≤ x ∧ x ≤ hi) : lo ≤ rd xs i ∧ rd xs i ≤ hi := h _ (rd_mem h0 h1)
theorem mx_bd (a b : Int) : a ≤ mx a b ∧ b ≤ mx a b ∧ (mx a b = a ∨ mx a b = b) := by unfold mx; split <;> omega
theorem mn_bd (a b : Int) : mn a b ≤ a ∧ mn a b ≤ b ∧ (mn a b = a ∨ mn a b = b) := by unfold mn; split <;> omega
def zg9 (c d p : Int) : Prop := -20 ≤ c ∧ c ≤ 20 ∧ -20 ≤ d ∧ d ≤ 20 ∧ -20 ≤ p ∧ p ≤ 20
theorem zgj (s : List Int) (p n : Int) (hs : Bytes s) (hp : 0 ≤ p) (hp2 : p ≤ 900000000) :
    Tot (fun k => zk.f k s p n) (fun r => zg9 r.1 r.2.1 r.2.2.1 ∧ p ≤ r.2.2.2 ∧ r.2.2.2 ≤ p + 9) := by
  have last : ∀ (q c d e : Int), zg9 c d e → p ≤ q → q ≤ p + 9 → Tot (fun k => zk.j0 k s q c d e) (fun r => zg9 r.1 r.2.1 r.2.2.1 ∧ p ≤ r.2.2.2 ∧ r.2.2.2 ≤ p + 9) := by
    intro q c d e h1 h2 h3
    exact Tot.step (fun k => by rw [zk.j0]) (Tot.ret _ ⟨h1, h2, h3⟩)
  unfold zk.f
  refine Tot.bind (zde s p 12 hs hp (by omega)) ?_
  rintro ⟨a, q⟩ ⟨h, ha0, ha1⟩
  simp only at h ha0 ha1 ⊢; subst h
  have ha1 := ha1 (by omega)
  rw [w64 (x := 1 + a) (by omega) (by omega)]
  refine zeb _ ?_
  refine Tot.bind (zde s (p + 1) 8 hs (by omega) (by omega)) ?_
  rintro ⟨b, q⟩ ⟨h, hb0, hb1⟩
  simp only at h hb0 hb1 ⊢; subst h
  have hb1 := hb1 (by omega)
  have hlt : b < ((([2, 3, 4, 6, 8, 12, 1 + a, 5] : List Int).length : Nat) : Int) := by simp; omega
  refine Tot.yes hb0 (Tot.yes hlt ?_)
  have hc := rd_bd 1 12 hb0 hlt (by intro x hx; simp only [List.mem_cons, List.not_mem_nil, or_false] at hx; omega)
  generalize rd [2, 3, 4, 6, 8, 12, 1 + a, 5] b = P at hc ⊢
  refine Tot.bind (zde s (p + 1 + 1) P hs (by omega) (by omega)) ?_
  rintro ⟨c, q⟩ ⟨h, hc0, hc1⟩
  simp only at h hc0 hc1 ⊢; subst h
  have hc1 := hc1 (by omega)
  rw [w64 (x := 1 + c) (by omega) (by omega), w64 (x := P - 1) (by omega) (by omega)]
  have hm := mx_bd 1 (P - 1)
  refine zeb _ ?_
  refine Tot.bind (zde s (p + 1 + 1 + 1) 3 hs (by omega) (by omega)) ?_
  rintro ⟨d, q⟩ ⟨h, hd0, hd1⟩
  simp only at h hd0 hd1 ⊢; subst h
  have hd1 := hd1 (by omega)
  have hlt : d < ((([P, 1 + c, mx 1 (P - 1)] : List Int).length : Nat) : Int) := by simp; omega
  refine Tot.yes hd0 (Tot.yes hlt ?_)
  have hD := rd_bd 1 12 hd0 hlt (by intro x hx; simp only [List.mem_cons, List.not_mem_nil, or_false] at hx; omega)
  generalize rd [P, 1 + c, mx 1 (P - 1)] d = D at hD ⊢
  have e2 := zik D 2 (by omega) (by omega)
  have e3 := zik D 3 (by omega) (by omega)
  rw [w64 (x := Int.tdiv D 2) (by omega) (by omega), w64 (x := Int.tdiv D 3) (by omega) (by omega)]
  have hm2 := mx_bd 1 (Int.tdiv D 2)
  have hm3 := mx_bd 1 (Int.tdiv D 3)
  refine zeb _ ?_
  refine Tot.bind (zde s (p + 1 + 1 + 1 + 1) 3 hs (by omega) (by omega)) ?_
  rintro ⟨e, q⟩ ⟨h, he0, he1⟩
  simp only at h he0 he1 ⊢; subst h
  have he1 := he1 (by omega)
  have hlt : e < ((([D, mx 1 (Int.tdiv D 2), mx 1 (Int.tdiv D 3)] : List Int).length : Nat) : Int) := by simp; omega
  refine Tot.yes he0 (Tot.yes hlt ?_)
  have hE := rd_bd 1 12 he0 hlt (by intro x hx; simp only [List.mem_cons, List.not_mem_nil, or_false] at hx; omega)
  generalize rd [D, mx 1 (Int.tdiv D 2), mx 1 (Int.tdiv D 3)] e = E at hE ⊢
  have hmn := mn_bd 8 E
  refine Tot.bind (zde s (p + 1 + 1 + 1 + 1 + 1) (mn 8 E) hs (by omega) (by omega)) ?_
  rintro ⟨f, q⟩ ⟨h, hf0, hf1⟩
  simp only at h hf0 hf1 ⊢; subst h
  have hf1 := hf1 (by omega)
  rw [w64 (x := 1 + f) (by omega) (by omega)]
  refine Tot.bind (zil s (p + 1 + 1 + 1 + 1 + 1 + 1) n hs (by omega) (by omega)) ?_
  rintro ⟨g, q⟩ ⟨h1, h2⟩
  simp only at h1 h2 ⊢
  refine Tot.ite (fun _ => ?_) (fun _ => last _ _ _ _ (by unfold zg9; omega) (by omega) (by omega))
  refine Tot.bind (zde s q 3 hs (by omega) (by omega)) ?_
  rintro ⟨u, q'⟩ ⟨h, hu0, hu1⟩
  simp only at h hu0 hu1 ⊢; subst h
  refine Tot.ite (fun _ => ?_) (fun _ => Tot.ite (fun _ => ?_) (fun _ => ?_))
  · rw [w64 (x := D + 1) (by omega) (by omega)]
    refine zeb _ ?_
    refine Tot.bind (zde s (q + 1) 4 hs (by omega) (by omega)) ?_
    rintro ⟨v, q'⟩ ⟨h, hv0, hv1⟩
    simp only at h hv0 hv1 ⊢; subst h
    have hlt : v < ((([0, -1, 9, D + 1] : List Int).length : Nat) : Int) := by simp; omega
    refine Tot.yes hv0 (Tot.yes hlt ?_)
    have hV := rd_bd (-1) 13 hv0 hlt (by intro x hx; simp only [List.mem_cons, List.not_mem_nil, or_false] at hx; omega)
    exact last _ _ _ _ (by unfold zg9; omega) (by omega) (by omega)
  · rw [w64 (x := P + 1) (by omega) (by omega)]
    refine zeb _ ?_
    refine Tot.bind (zde s (q + 1) 3 hs (by omega) (by omega)) ?_
    rintro ⟨v, q'⟩ ⟨h, hv0, hv1⟩
    simp only at h hv0 hv1 ⊢; subst h
    have hlt : v < ((([0, P + 1, -1] : List Int).length : Nat) : Int) := by simp; omega
    refine Tot.yes hv0 (Tot.yes hlt ?_)
    have hV := rd_bd (-1) 13 hv0 hlt (by intro x hx; simp only [List.mem_cons, List.not_mem_nil, or_false] at hx; omega)
    exact last _ _ _ _ (by unfold zg9; omega) (by omega) (by omega)
  · refine zeb _ ?_
    refine Tot.bind (zde s (q + 1) 3 hs (by omega) (by omega)) ?_
    rintro ⟨v, q'⟩ ⟨h, hv0, hv1⟩
    simp only at h hv0 hv1 ⊢; subst h
    have hlt : v < ((([0, 13, -1] : List Int).length : Nat) : Int) := by simp; omega
    refine Tot.yes hv0 (Tot.yes hlt ?_)
    have hV := rd_bd (-1) 13 hv0 hlt (by intro x hx; simp only [List.mem_cons, List.not_mem_nil, or_false] at hx; omega)
    exact last _ _ _ _ (by unfold zg9; omega) (by omega) (by omega)
end Go.Proofs.Ytnilnaabjpcfjaa.DrTask
namespace Go.Proofs.Ytnilnaabjpcfjaa.DrSet
open Go.RowKit Go.Proofs.Ytnilnaabjpcfjaa.P Go.Proofs.Ytnilnaabjpcfjaa.Base Go.Proofs.Ytnilnaabjpcfjaa.Gen Go.Proofs.Ytnilnaabjpcfjaa.Pb Go.Proofs.Ytnilnaabjpcfjaa.DrTask Go.Proofs.YtnilnaabjpcfjaaW.PrintWords Go.Proofs.YtnilnaabjpcfjaaW.PrintLast
abbrev Task := S35
def Short (p : Int) (r : List Task × Int) : Prop := r.1.length ≤ 20 ∧ p ≤ r.2 ∧ r.2 ≤ p + 300
theorem set_tot (s : List Int) (p n : Int) (hs : Bytes s) (hp : 0 ≤ p) (hp2 : p ≤ 100000) : Tot (fun k => zbs.f k s p n) (Short p) := by
  have more : ∀ (d : Nat) (x : List Task) (q : Int), x.length + d = 6 → p ≤ q → q ≤ p + 100 + 10 * (6 - d) → Tot (fun k => zbs.l1 k x s q) (Short p) := by
    intro d
    induction d with
    | zero =>
      intro x q h1 h2 h3
      refine Tot.step (fun k => by rw [zbs.l1]) (Tot.no (by omega) ?_)
      refine Tot.bind (zgj s q 2 hs (by omega) (by omega)) ?_
      rintro ⟨a, b, c, q2⟩ ⟨_, h4, h5⟩
      simp only at h4 h5 ⊢
      exact Tot.yes (by omega) (Tot.ret _ ⟨by simp; omega, by simp; omega, by simp; omega⟩)
    | succ d ih =>
      intro x q h1 h2 h3
      refine Tot.step (fun k => by rw [zbs.l1]) (Tot.yes (by omega) ?_)
      refine Tot.bind (zgj s q 0 hs (by omega) (by omega)) ?_
      rintro ⟨a, b, c, q2⟩ ⟨_, h4, h5⟩
      simp only at h4 h5 ⊢
      exact Tot.yes (by omega) (ih _ _ (by simp; omega) (by omega) (by omega))
  have first : ∀ (d : Nat) (x6 : Int) (x : List Task) (q : Int), x6 = d → x.length + d ≤ 5 → p ≤ q → q ≤ p + 1 + 9 * (5 - d) → Tot (fun k => zbs.l0 k n x x6 s q) (Short p) := by
    intro d
    induction d with
    | zero =>
      intro x6 x q h1 h2 h3 h4
      refine Tot.step (fun k => by rw [zbs.l0]) (Tot.no (by omega) ?_)
      refine Tot.bind (zil s q n hs (by omega) (by omega)) ?_
      rintro ⟨a, q2⟩ ⟨h5, h6⟩
      simp only at h5 h6 ⊢
      refine Tot.ite (fun _ => ?_) (fun _ => Tot.ret _ ⟨by simp; omega, by simp; omega, by simp; omega⟩)
      refine Tot.bind (zde s q2 3 hs (by omega) (by omega)) ?_
      rintro ⟨b, q3⟩ ⟨h7, h8, h9⟩
      simp only at h7 h8 h9 ⊢; subst h7
      refine Tot.ite (fun _ => more (6 - x.length) x _ (by omega) (by omega) (by omega)) (fun _ => ?_)
      refine Tot.bind (zgj s (q2 + 1) 2 hs (by omega) (by omega)) ?_
      rintro ⟨a, b, c, q4⟩ ⟨_, h10, h11⟩
      simp only at h10 h11 ⊢
      exact Tot.yes (by omega) (Tot.ret _ ⟨by simp; omega, by simp; omega, by simp; omega⟩)
    | succ d ih =>
      intro x6 x q h1 h2 h3 h4
      refine Tot.step (fun k => by rw [zbs.l0]) (Tot.yes (by omega) ?_)
      refine Tot.bind (zgj s q 0 hs (by omega) (by omega)) ?_
      rintro ⟨a, b, c, q2⟩ ⟨_, h4, h5⟩
      simp only at h4 h5 ⊢
      rw [w64 (x := x6 - 1) (by omega) (by omega)]
      exact Tot.yes (by omega) (ih _ _ _ (by omega) (by simp; omega) (by omega) (by omega))
  unfold zbs.f
  refine Tot.bind (zde s p 6 hs hp (by omega)) ?_
  rintro ⟨a, q2⟩ ⟨h5, h6, h7⟩
  simp only at h5 h6 h7 ⊢; subst h5
  have h7 := h7 (by omega)
  exact first a.toNat a [] _ (by omega) (by simp; omega) (by omega) (by omega)
end Go.Proofs.Ytnilnaabjpcfjaa.DrSet
namespace Go.Proofs.Ytnilnaabjpcfjaa.Same
open Go.RowKit Go.Proofs.Ytnilnaabjpcfjaa.P Go.Proofs.Ytnilnaabjpcfjaa.Base Go.Proofs.Ytnilnaabjpcfjaa.Gen Go.Proofs.YtnilnaabjpcfjaaW.PrintWords Go.Proofs.YtnilnaabjpcfjaaW.PrintLast
theorem same_tot (l : List Int) (hl : l.length ≤ 1048576) : Tot (fun k => zb2.f k l l) (fun r => r = true) := by
  have h := Tot.look (r := true) (fun k i => zb2.l0 k l l i) l.length (fun k i h => by
    simp only [zb2.l0]
    rw [if_pos (by omega), if_pos (by omega), if_pos (by omega), if_pos (by first | trivial | rfl), w64 (by omega) (by omega)]) (fun k => by
    simp only [zb2.l0]
    rw [if_neg (by omega)])
  refine Tot.congr (fun k => ?_) h
  unfold zb2.f
  rw [if_pos rfl]
end Go.Proofs.Ytnilnaabjpcfjaa.Same
namespace Go.Proofs.Ytnilnaabjpcfjaa.Fair
open Go.RowKit Go.Proofs.Ytnilnaabjpcfjaa.P Go.Proofs.Ytnilnaabjpcfjaa.Base Go.Proofs.Ytnilnaabjpcfjaa.Gen Go.Proofs.Ytnilnaabjpcfjaa.Alive Go.Proofs.Ytnilnaabjpcfjaa.Win Go.Proofs.Ytnilnaabjpcfjaa.Set Go.Proofs.Ytnilnaabjpcfjaa.Isort Go.Proofs.Ytnilnaabjpcfjaa.Pb Go.Proofs.Ytnilnaabjpcfjaa.Same Go.Proofs.YtnilnaabjpcfjaaW.PrintWords Go.Proofs.YtnilnaabjpcfjaaW.PrintLast
set_option linter.unusedVariables false
set_option linter.unusedSectionVars false
theorem zji (s : List Int) (n : Int) (hs : Bytes s) : Tot (fun k => zbr.f k s 0 n) (fun r => r.1.length ≤ 20 ∧ 0 ≤ r.2 ∧ r.2 ≤ 400) := by
  unfold zbr.f
  refine Tot.bind (DrSet.set_tot s 0 n hs (by omega) (by omega)) ?_
  rintro ⟨x, q⟩ ⟨h1, h2, h3⟩
  simp only at h1 h2 h3 ⊢
  refine Tot.bind (zil s q n hs (by omega) (by omega)) ?_
  rintro ⟨a, q2⟩ ⟨h4, h5⟩
  simp only at h4 h5 ⊢
  refine Tot.ite (fun _ => Tot.ret _ ⟨h1, by simp only; omega, by simp only; omega⟩) (fun _ => ?_)
  have loop : ∀ (d i : Nat) (y : List Set.Task), i + d = y.length → y.length ≤ 20 → Tot (fun k => zbr.l0 k y (i : Int) s q2) (fun r => r.1.length ≤ 20 ∧ 0 ≤ r.2 ∧ r.2 ≤ 400) := by
    intro d
    induction d with
    | zero =>
      intro i y hi hy
      exact Tot.step (fun k => by rw [zbr.l0]) (Tot.no (by omega) (Tot.ret _ ⟨hy, by simp only; omega, by simp only; omega⟩))
    | succ d ih =>
      intro i y hi hy
      refine Tot.step (fun k => by rw [zbr.l0]) (Tot.yes (by omega) (Tot.yes (by omega) ?_))
      rw [w64 (by omega) (by omega)]
      exact ih (i + 1) _ (by rw [List.length_set]; omega) (by rw [List.length_set]; exact hy)
  exact loop x.length 0 x (by omega) h1
theorem cores_tot (s : List Int) (p n : Int) (hs : Bytes s) (hp : 0 ≤ p) (hp2 : p ≤ 10000000) : Tot (fun k => zc1.f k s p n) (fun _ => True) := by
  unfold zc1.f
  refine Tot.bind (zil s p n hs hp (by omega)) ?_
  rintro ⟨a, q⟩ ⟨h1, h2⟩
  simp only at h1 h2 ⊢
  refine Tot.ite (fun _ => zeb _ ?_) (fun _ => ?_)
  · refine Tot.bind (zde s q 3 hs (by omega) (by omega)) ?_
    rintro ⟨b, q2⟩ ⟨h3, h4, h5⟩
    simp only at h3 h4 h5 ⊢
    exact Tot.yes h4 (Tot.yes (by simp; omega) (Tot.ret _ trivial))
  · refine Tot.bind (zde s q 4 hs (by omega) (by omega)) ?_
    intro _ _
    exact Tot.ret _ trivial
theorem draw_tot (l0 : List Int) (hl : ∀ x ∈ l0, (Lit.int .u8 x).wf = true) : Tot (fun k => zcu.f k l0) (fun r => r.1.length ≤ 20) := by
  unfold zcu.f
  refine open_tot l0 hl (fun s hs => ?_)
  refine Tot.bind (zji s 12 hs) ?_
  rintro ⟨x, q⟩ ⟨h1, h2, h3⟩
  simp only at h1 h2 h3 ⊢
  refine Tot.bind (cores_tot s q 12 hs h2 (by omega)) ?_
  intro r _
  exact Tot.ret _ h1
theorem FR_yes {l : List Task} {m : Int} (h : Impl l ∧ 1 ≤ m ∧ m ≤ 5) : FR l m = rws l m 120 := by unfold FR; rw [if_pos h]
theorem FR_no {l : List Task} {m : Int} (h : ¬ (Impl l ∧ 1 ≤ m ∧ m ≤ 5)) : FR l m = [] := by unfold FR; rw [if_neg h]
theorem rws_at (l : List Task) (m : Int) {t : Nat} (ht : t < 120) : zct (rws l m 120) (t : Int) = rowt l m t := by
  unfold zct
  rw [List.getD_eq_getElem?_getD, Int.toNat_natCast]
  unfold rws
  rw [List.getElem?_map, List.getElem?_range ht]; rfl
theorem FR_at {l : List Task} {m : Int} {i : Nat} (h : i < (FR l m).length) : (zct (FR l m) (i : Int)).length ≤ 5 := by
  by_cases hI : Impl l ∧ 1 ≤ m ∧ m ≤ 5
  · rw [FR_yes hI] at h ⊢
    rw [zfe] at h
    rw [rws_at l m h]
    have := zih hI.1 (zeo hI.1 m i (by omega)) (i : Int)
    unfold rowt row
    rw [List.length_take]; omega
  · rw [FR_no hI] at h
    simp at h
theorem FR_len (l : List Task) (m : Int) : (FR l m).length ≤ 120 := by
  unfold FR
  split
  · rw [zfe]; exact Nat.le_refl _
  · simp
theorem rows_tot (l : List Task) (m : Int) : Tot (fun k => zby.f k (FR l m) (FR l m)) (fun r => r = true) := by
  unfold zby.f
  have hlen := FR_len l m
  have loop : ∀ d i : Nat, i + d = (FR l m).length → Tot (fun k => zby.l0 k (FR l m) (FR l m) (i : Int)) (fun r => r = true) := by
    intro d
    induction d with
    | zero => intro i hi; exact Tot.step (fun k => by rw [zby.l0]) (Tot.no (by omega) (Tot.ret _ rfl))
    | succ d ih =>
      intro i hi
      refine Tot.step (fun k => by rw [zby.l0]) (Tot.yes (by omega) (Tot.yes (by omega) (Tot.yes (by omega) ?_)))
      have := FR_at (l := l) (m := m) (i := i) (by omega)
      refine Tot.bind (same_tot _ (by omega)) ?_
      rintro _ rfl
      refine Tot.yes rfl ?_
      rw [w64 (by omega) (by omega)]
      exact ih (i + 1) (by omega)
  exact Tot.yes rfl (loop (FR l m).length 0 (by omega))
section
variable {l : List Task} (hI : Impl l) {m : Int}
include hI
theorem zim {t : Nat} (ht : t ≤ 400000) : (rowt l m t).Nodup ∧ (rowt l m t).length ≤ 5 ∧ ∀ x ∈ rowt l m t, 0 ≤ x ∧ x < (l.length : Int) ∧ wr (tk l x).f0 (tk l x).f2 (rd (nxs l m t) x) ≤ (t : Int) := by
  have hS := zeo hI m t ht
  have h := zii hI m hS
  refine ⟨h.1, ?_, h.2⟩
  have := zih hI hS (t : Int)
  unfold rowt row
  rw [List.length_take]; omega
theorem released : ∀ t : Nat, t ≤ 400000 → ∀ i : Nat, i < l.length → rd (nxs l m t) (i : Int) = 0 ∨ wr (cs l i) (ps l i) (rd (nxs l m t) (i : Int) - 1) < (t : Int)
  | 0, _, i, _ => Or.inl (by rw [nxs, zj5])
  | t + 1, ht, i, hi => by
    have ih := released t (by omega) i hi
    have h1 := nxs_step hI m (t := t) (by omega) hi
    rw [h1]
    by_cases h : (i : Int) ∈ rowt l m t
    · rw [if_pos h]
      right
      have h2 := ((zim hI (m := m) (t := t) (by omega)).2.2 _ h).2.2
      rw [show rd (nxs l m t) (i : Int) + 1 - 1 = rd (nxs l m t) (i : Int) by omega]
      show wr (tk l (i : Int)).f0 (tk l (i : Int)).f2 (rd (nxs l m t) (i : Int)) < _
      omega
    · rw [if_neg h, Int.add_zero]
      rcases ih with h2 | h2
      · left; exact h2
      · right; omega
theorem part_rd {t : Nat} (ht : t ≤ 400000) (j : Nat) (i : Nat) (hi : i < l.length) : rd (fadv (nxs l m t) ((rowt l m t).take j)) (i : Int) = rd (nxs l m t) (i : Int) + (if (i : Int) ∈ (rowt l m t).take j then 1 else 0) := by
  have hS := zeo hI m t ht
  have h := zim hI (m := m) ht
  exact zj4 (nxs l m t) l.length hS.1 (t : Int) (by omega) hS.2 _ _ rfl (fun x hx => ⟨(h.2.2 x (List.mem_of_mem_take hx)).1, (h.2.2 x (List.mem_of_mem_take hx)).2.1⟩) (h.1.sublist (List.take_sublist _ _)) i hi
end
end Go.Proofs.Ytnilnaabjpcfjaa.Fair
namespace Go.Proofs.Ytnilnaabjpcfjaa.Fair
open Go.RowKit Go.Proofs.Ytnilnaabjpcfjaa.P Go.Proofs.Ytnilnaabjpcfjaa.Base Go.Proofs.Ytnilnaabjpcfjaa.Gen Go.Proofs.Ytnilnaabjpcfjaa.Alive Go.Proofs.Ytnilnaabjpcfjaa.Win Go.Proofs.Ytnilnaabjpcfjaa.Set Go.Proofs.Ytnilnaabjpcfjaa.Isort Go.Proofs.YtnilnaabjpcfjaaW.PrintWords Go.Proofs.YtnilnaabjpcfjaaW.PrintLast
set_option linter.unusedVariables false
set_option linter.unusedSectionVars false
section
variable {l : List Task} (hI : Impl l) {m : Int}
include hI
theorem nat_of {x : Int} (h0 : 0 ≤ x) (h1 : x < (l.length : Int)) : ∃ i : Nat, x = (i : Int) ∧ i < l.length := by
  obtain ⟨i, rfl⟩ := Int.eq_ofNat_of_zero_le h0
  exact ⟨i, rfl, by omega⟩
theorem small {u : Nat} (hu : u ≤ 1000) {i : Nat} (hi : i < l.length) : 1 ≤ cs l i ∧ cs l i ≤ 8 ∧ cs l i ≤ ps l i ∧ ps l i ≤ 12 ∧ 0 ≤ rd (nxs l m u) (i : Int) ∧ rd (nxs l m u) (i : Int) ≤ u ∧
    0 ≤ (u : Int) * cs l i ∧ (u : Int) * cs l i ≤ 8000 ∧ 0 ≤ rd (nxs l m u) (i : Int) * ps l i ∧ rd (nxs l m u) (i : Int) * ps l i ≤ 12000 := by
  have h1 := tv hI hi
  have h2 := (zeo hI m u (by omega)).2 i hi
  have h3 := zgz (a := (u : Int)) (b := cs l i) (A := 1000) (B := 8) (by omega) (by omega) (by omega) (by omega)
  have h4 := zgz (a := rd (nxs l m u) (i : Int)) (b := ps l i) (A := 1000) (B := 12) h2.1 (by omega) (by omega) (by omega)
  omega
theorem not_ahead {u : Nat} (hu : u ≤ 1000) {i : Nat} (hi : i < l.length) : rd (nxs l m u) (i : Int) * ps l i - (u : Int) * cs l i < ps l i := by
  have h1 := small hI (m := m) hu hi
  rcases released hI (m := m) u (by omega) i hi with h | h
  · rw [h]; omega
  · have h2 := (wr_iff (p := ps l i) h1.1 (rd (nxs l m u) (i : Int) - 1) ((u : Int) - 1)).1 (by omega)
    rw [show (u : Int) - 1 + 1 = (u : Int) by omega, Int.sub_mul, Int.one_mul, Int.mul_comm (cs l i)] at h2
    omega
theorem not_behind (hm : 1 ≤ m) (hU : Pd2.sm (wt l) l.length ≤ m * 27720) {u : Nat} (hu : u ≤ 1000) {i : Nat} (hi : i < l.length) : (u : Int) * cs l i - rd (nxs l m u) (i : Int) * ps l i < ps l i := by
  have h1 := small hI (m := m) hu hi
  have h2 := zid hI hm hU (u := u) (by omega) hi
  have h3 : ¬ wd (cs l i) (ps l i) (rd (nxs l m u) (i : Int)) ≤ (u : Int) := by omega
  rw [zg2 h1.1, Int.add_mul, Int.one_mul, Int.mul_comm (cs l i)] at h3
  omega
theorem at_row {t : Nat} (ht : t < 120) {j : Nat} (hj : j < (rowt l m t).length) : ∃ i : Nat, rd (rowt l m t) (j : Int) = (i : Int) ∧ i < l.length ∧ (i : Int) ∈ rowt l m t ∧ (i : Int) ∉ (rowt l m t).take j ∧ rd (fadv (nxs l m t) ((rowt l m t).take j)) (i : Int) = rd (nxs l m t) (i : Int) ∧ wr (cs l i) (ps l i) (rd (nxs l m t) (i : Int)) ≤ (t : Int) ∧
    (fadv (nxs l m t) ((rowt l m t).take j)).set i (wrap64 (rd (nxs l m t) (i : Int) + 1)) = fadv (nxs l m t) ((rowt l m t).take (j + 1)) := by
  obtain ⟨h1, h2, h3⟩ := zim hI (m := m) (t := t) (by omega)
  have h4 := h3 _ (List.getElem_mem hj)
  obtain ⟨i, hi, hil⟩ := nat_of hI h4.1 h4.2.1
  have hS := (zeo hI m t (by omega)).2 i hil
  have hn : (i : Int) ∉ (rowt l m t).take j := fun h => by
    obtain ⟨a, ha, e⟩ := List.mem_iff_getElem.1 h
    rw [List.length_take] at ha
    rw [List.getElem_take, ← hi] at e
    have := zif h1 (by omega) hj e
    omega
  have hp := part_rd hI (m := m) (t := t) (by omega) j i hil
  rw [if_neg hn, Int.add_zero] at hp
  refine ⟨i, by rw [zem _ j hj, hi], hil, by rw [← hi]; exact List.getElem_mem hj, hn, hp, ?_, ?_⟩
  · rw [hi] at h4; exact h4.2.2
  · rw [List.take_succ_eq_append_getElem hj, zg8, hi, Int.toNat_natCast, hp]
theorem fadv_all (t : Nat) : fadv (nxs l m t) ((rowt l m t).take (rowt l m t).length) = nxs l m (t + 1) := by
  rw [List.take_length]; rfl
theorem cost_at (i : Nat) : (zg l (i : Int)).f0 = cs l i := rfl
theorem per_at (i : Nat) : (zg l (i : Int)).f2 = ps l i := rfl
end
end Go.Proofs.Ytnilnaabjpcfjaa.Fair
namespace Go.Proofs.Ytnilnaabjpcfjaa.Pure
open Go.RowKit Go.Proofs.Ytnilnaabjpcfjaa.P Go.Proofs.Ytnilnaabjpcfjaa.Base Go.Proofs.Ytnilnaabjpcfjaa.Gen Go.Proofs.YtnilnaabjpcfjaaW.PrintWords Go.Proofs.YtnilnaabjpcfjaaW.PrintLast
open Go.Proofs.Ytnilnaabjpcfjaa.Pb Go.Proofs.Ytnilnaabjpcfjaa.Alive Go.Proofs.Ytnilnaabjpcfjaa.Win Go.Proofs.Ytnilnaabjpcfjaa.Set Go.Proofs.Ytnilnaabjpcfjaa.Fair
theorem FnFairLag : laws_FnFairLag.Pure := by
  intro l0 _ hl
  apply Tot.rounds
  unfold laws_FnFairLag.f
  refine Tot.ite (fun _ => Tot.ret _ rfl) (fun _ => ?_)
  refine Tot.bind (draw_tot l0 hl.2) ?_
  rintro ⟨l, m⟩ hlen
  simp only at hlen ⊢
  refine Tot.bind (run_tot l m) ?_
  rintro _ rfl
  refine Tot.bind (srun_tot l m (by omega)) ?_
  rintro _ rfl
  refine Tot.bind (rows_tot l m) ?_
  rintro _ rfl
  refine Tot.yes rfl ?_
  have out : Tot (fun k => laws_FnFairLag.j0 k l (FR l m) true) (fun r => r = true) :=
    Tot.step (fun k => by rw [laws_FnFairLag.j0]) (Tot.yes rfl (Tot.zdx alive_f (Tot.ret _ rfl)))
  by_cases h : Impl l ∧ 1 ≤ m ∧ m ≤ 5
  · refine Tot.bind (util_tot h.1.1) ?_
    rintro ⟨n, d⟩ hu
    simp only
    rw [FR_yes h] at out ⊢
    refine Tot.yes (by rw [zfe]; rfl) ?_
    have hb := hu
    obtain ⟨g, _, _, _, b1, b2, b3, b4⟩ := hb
    simp only at b1 b2 b3 b4
    have hmd := zgz (a := m) (b := d) (A := 5) (B := 27720) (by omega) (by omega) (by omega) (by omega)
    rw [w64 (by omega) (by omega)]
    by_cases hc : n > m * d
    · rw [decide_eq_true hc]; exact out
    · rw [decide_eq_false hc]
      have hU : Pd2.sm (wt l) l.length ≤ m * 27720 := (util_le h.1 m).1 ((ut_iff hu m).1.1 (by simp only; omega))
      have hl5 := h.1.1.1
      refine Tot.step (fun k => by rw [laws_FnFairLag.j0]) ?_
      refine Tot.no (by decide) (Tot.yes (by omega) ?_)
      refine Tot.yes (by rw [Int.toNat_natCast]; omega) ?_
      rw [Int.toNat_natCast]
      have ticks : ∀ e t : Nat, t + e = 120 → Tot (fun k => laws_FnFairLag.l0 k l (rws l m 120) (nxs l m t) (t : Int)) (fun r => r = true) := by
        intro e
        induction e with
        | zero => intro t ht; exact Tot.step (fun k => by rw [laws_FnFairLag.l0]) (Tot.no (by omega) (Tot.ret _ rfl))
        | succ e ih =>
          intro t ht
          refine Tot.step (fun k => by rw [laws_FnFairLag.l0]) (Tot.yes (by omega) ?_)
          have each : ∀ q i : Nat, i + q = l.length → Tot (fun k => laws_FnFairLag.l2 k l (rws l m 120) (nxs l m (t + 1)) (t : Int) (i : Int)) (fun r => r = true) := by
            intro q
            induction q with
            | zero =>
              intro i hi
              refine Tot.step (fun k => by rw [laws_FnFairLag.l2]) (Tot.no (by omega) ?_)
              rw [w64 (x := (t : Int) + 1) (by omega) (by omega)]
              exact ih (t + 1) (by omega)
            | succ q ihq =>
              intro i hi
              have hil : i < l.length := by omega
              have hsm := small h.1 (m := m) (u := t + 1) (by omega) hil
              have ha := not_ahead h.1 (m := m) (u := t + 1) (by omega) hil
              have hbh := not_behind h.1 h.2.1 hU (u := t + 1) (by omega) hil
              have hS := (zeo h.1 m (t + 1) (by omega)).1
              refine Tot.step (fun k => by rw [laws_FnFairLag.l2]) (Tot.yes (by omega) (Tot.yes (by omega) (Tot.yes (by omega) ?_)))
              rw [cost_at h.1, per_at h.1, w64 (x := (t : Int) + 1) (by omega) (by omega), show ((t : Int) + 1) = ((t + 1 : Nat) : Int) by omega, w64 (x := ((t + 1 : Nat) : Int) * cs l i) (by omega) (by omega), w64 (x := rd (nxs l m (t + 1)) (i : Int) * ps l i) (by omega) (by omega), w64 (x := ((t + 1 : Nat) : Int) * cs l i - rd (nxs l m (t + 1)) (i : Int) * ps l i) (by omega) (by omega), w64 (x := -(((t + 1 : Nat) : Int) * cs l i - rd (nxs l m (t + 1)) (i : Int) * ps l i)) (by omega) (by omega), w64 (x := (i : Int) + 1) (by omega) (by omega)]
              refine Tot.no (by omega) (Tot.no (by omega) ?_)
              have := ihq (i + 1) (by omega)
              exact this
          have go : ∀ q j : Nat, j + q = (rowt l m t).length → Tot (fun k => laws_FnFairLag.l1 k l (rws l m 120) (fadv (nxs l m t) ((rowt l m t).take j)) (t : Int) (j : Int)) (fun r => r = true) := by
            intro q
            induction q with
            | zero =>
              intro j hj
              obtain rfl : j = (rowt l m t).length := by omega
              refine Tot.step (fun k => by rw [laws_FnFairLag.l1]) (Tot.yes (by omega) (Tot.yes (by rw [zfe]; omega) ?_))
              rw [rws_at l m (by omega), fadv_all h.1]
              exact Tot.no (by omega) (each l.length 0 (by omega))
            | succ q ihq =>
              intro j hj
              obtain ⟨i, e1, hil, _, _, e2, _, e3⟩ := at_row h.1 (m := m) (t := t) (by omega) (j := j) (by omega)
              have hS := (zeo h.1 m t (by omega)).1
              have hr5 := (zim h.1 (m := m) (t := t) (by omega)).2.1
              refine Tot.step (fun k => by rw [laws_FnFairLag.l1]) (Tot.yes (by omega) (Tot.yes (by rw [zfe]; omega) ?_))
              rw [rws_at l m (by omega), e1]
              refine Tot.yes (by omega) (Tot.yes (by omega) (Tot.yes (by omega) (Tot.yes (by rw [zfa]; omega) ?_)))
              rw [Int.toNat_natCast, e2, e3, w64 (x := (j : Int) + 1) (by omega) (by omega)]
              exact ihq (j + 1) (by omega)
          exact go (rowt l m t).length 0 (by omega)
      exact ticks 120 0 (by omega)
  · rw [FR_no h] at out ⊢
    refine Tot.bind (P := fun _ => True) ?_ (fun r _ => Tot.no (by simp) out)
    by_cases hs : zd9 l
    · exact (util_tot hs).mono (fun _ _ => trivial)
    · unfold zb9.f
      exact Tot.zdx (set_f l) (Tot.no (fun h => hs (of_decide_eq_true h)) (Tot.ret _ trivial))
end Go.Proofs.Ytnilnaabjpcfjaa.Pure
namespace Go.Proofs.Ytnilnaabjpcfjaa.Opn
open Go.ChangeShapes Go.WideShapes Go.Deep Go.RowKit Go.Proofs.YtnilnaabjpcfjaaW.PrintWords
section
variable {H : Type} {enc : TypeId × Value → H} {P : Program} {W : World} {base : Nat} {spare : Nat → Bool} {held : Bool}
def Opens {α : Type} (enc : TypeId × Value → H) (P : Program) (W : World) (base : Nat) (spare : Nat → Bool) (held : Bool) (t : TypeId) (d : Kd α) (G : α → Prop) : Prop :=
  ∀ (fuel : Nat) (cs : List Value) (x : DataW H × List MemPlace), DataW.trod enc P W base spare held fuel t cs = some x → ∃ a, d.K W a cs ∧ G a
theorem opens_int {t : TypeId} {k : IntKind} (hu : P.underlying t = some (.int k)) : Opens enc P W base spare held t (Kd.int k) (fun x => (Lit.int k x).wf = true) := by
  intro fuel cs x h
  obtain ⟨n, hc, _, hw⟩ := DataW.trod_int hu h
  exact ⟨n, hc, hw⟩
theorem list_of {α : Type} (m : Nat) (R : Nat → α → Prop) (h : ∀ i, i < m → ∃ a, R i a) : ∃ xs : List α, xs.length = m ∧ ∀ i a, xs[i]? = some a → R i a := by
  induction m with
  | zero => exact ⟨[], rfl, fun i a ha => by simp at ha⟩
  | succ m ih =>
    obtain ⟨xs, hl, hx⟩ := ih (fun i hi => h i (by omega))
    obtain ⟨a, ha⟩ := h m (by omega)
    refine ⟨xs ++ [a], by simp [hl], fun i b hb => ?_⟩
    rcases Nat.lt_or_ge i m with hi | hi
    · rw [List.getElem?_append_left (by omega)] at hb
      exact hx i b hb
    · have hi' : i = m := by
        have := (List.getElem?_eq_some_iff.1 hb).1
        simp at this
        omega
      subst hi'
      have : a = b := by simpa [hl] using hb
      subst this
      exact ha
theorem slice_row {α : Type} {t e : TypeId} {d : Kd α} {G : α → Prop} (hu : P.underlying t = some (.slice e)) (hC : P.cellsOf e = d.sz) (he : Opens enc P W base spare held e d G)
    {fuel : Nat} {A : Option Addr} {n cap : Nat} {x : DataW H × List MemPlace} (h : DataW.trod enc P W base spare held fuel t [.slice A n cap] = some x) :
    ∃ xs : List α, xs.length = n ∧ n ≤ cap ∧ n ≤ maxLen ∧ d.C W A xs.length xs ∧ ∀ y ∈ xs, G y := by
  rcases open_slice hu h with ⟨h0, _⟩ | ⟨a, len, c, m, k, D, Pl, hcs, _, hl, hm, hmm, _, hel⟩
  · simp only [List.cons.injEq, Value.slice.injEq, and_true] at h0
    obtain ⟨rfl, rfl, rfl⟩ := h0
    exact ⟨[], rfl, Nat.le_refl _, by simp [maxLen], Kd.C_nil d W, fun y hy => by simp at hy⟩
  · simp only [List.cons.injEq, Value.slice.injEq, and_true] at hcs
    obtain ⟨rfl, rfl, rfl⟩ := hcs
    have hle : n ≤ m := by rw [hmm]; split <;> omega
    obtain ⟨xs, hxl, hx⟩ := list_of (α := α) n (fun i y => G y ∧ ∃ cs', d.K W y cs' ∧ cs'.length = d.sz ∧ ∀ j, j < d.sz → W.cell? ((a.add (i * d.sz)).add j) = cs'[j]?) (by
      intro i hi
      obtain ⟨cs', hc, ht⟩ := hel i (by omega)
      obtain ⟨y, hK, hG⟩ := he _ _ _ ht
      rw [hC] at hc
      obtain ⟨_, hcl, hcc⟩ := World.cells?_some hc
      exact ⟨y, hG, cs', hK, hcl, hcc⟩)
    refine ⟨xs, hxl, hl, by omega, ⟨rfl, by simp only [maxLen] at hm; omega, fun hp => ⟨a, rfl, fun j p hj => ?_⟩⟩, fun y hy => ?_⟩
    · obtain ⟨_, cs', hK, hcl, hcc⟩ := hx j p hj
      refine ⟨cs', hcl, hK, fun i u hi => ?_⟩
      have hlt : i < d.sz := by
        have := (List.getElem?_eq_some_iff.1 hi).1
        omega
      rw [← Go.Deep.add_add, hcc i hlt, hi]
    · obtain ⟨i, hi, rfl⟩ := List.getElem_of_mem hy
      exact (hx i _ (List.getElem?_eq_getElem hi)).1
theorem sized_row {t e : TypeId} {A : Option Addr} {n cap : Nat} {d : DataW H} {ps : List MemPlace} {ts : List TypeId} {ds : List (DataW H)} {j : Nat}
    (hsz : (DataW.weightsEach P ts ds).all (· ≤ reachBytes) = true) (ht : ts[j]? = some t) (hd : ds[j]? = some d) (hu : P.underlying t = some (.slice e)) {B : Nat} (hB : P.bytesOf e = B)
    (h : DataW.Trod enc P W base spare held t (.slice A n cap) d ps) : n * B ≤ 140737488351232 := by
  obtain ⟨fuel, hf⟩ := h
  have hf' : DataW.trod enc P W base spare held fuel t [.slice A n cap] = some (d, ps) := hf
  rcases open_slice hu hf' with ⟨h0, _⟩ | ⟨a, len, c, m, k, D, Pl, hcs, _, hl, hm, hmm, hx, hel⟩
  · simp only [List.cons.injEq, Value.slice.injEq, and_true] at h0
    obtain ⟨rfl, rfl, rfl⟩ := h0
    simp
  · simp only [List.cons.injEq, Value.slice.injEq, and_true] at hcs
    obtain ⟨rfl, rfl, rfl⟩ := hcs
    obtain ⟨hx, _⟩ := Prod.mk.inj hx
    subst hx
    have z := sized_slice hsz ht hd hu
    rw [hB] at z
    simp only [List.length_map, List.length_range] at z
    exact Nat.le_trans (Nat.mul_le_mul_right _ (by omega)) z
end
end Go.Proofs.Ytnilnaabjpcfjaa.Opn
namespace Go.Proofs.Ytnilnaabjpcfjaa.Head
open Go
def chars (l : List Nat) : List Char := l.map Char.ofNat
def w1 : List Nat := [104, 97, 114, 110, 101, 115, 115]
def w2 : List Nat := [50, 53, 51, 97, 57, 57, 101, 98, 100, 48, 53, 53, 97, 98, 56, 56, 102, 57, 48, 98, 57, 52, 49, 102, 100, 56, 55, 52, 49, 48, 50, 98, 101, 48, 97, 97, 53, 99, 51, 56, 55, 53, 102, 48, 55, 102, 51, 52, 57, 51, 50, 100, 101, 101, 54, 99, 54, 49, 50, 54, 48, 55, 54, 48]
def w3 : List Nat := [99, 117, 116]
def w4 : List Nat := [97, 116, 32, 108, 111, 111, 112, 46, 101, 120, 97, 109, 112, 108, 101, 47, 100, 101, 97, 100, 108, 105, 110, 101, 115, 99, 104, 101, 100, 117, 108, 101, 114, 47, 108, 97, 119, 115, 46, 70, 110, 70, 97, 105, 114, 76, 97, 103, 32, 108, 111, 111, 112, 46, 101, 120, 97, 109, 112, 108, 101, 47, 100, 101, 97, 100, 108, 105, 110, 101, 115, 99, 104, 101, 100, 117, 108, 101, 114, 47, 108, 97, 119, 115, 46, 70, 110, 70, 97, 105, 114, 79, 110, 101, 32, 108, 111, 111, 112, 46, 101, 120, 97, 109, 112, 108, 101, 47, 100, 101, 97, 100, 108, 105, 110, 101, 115, 99, 104, 101, 100, 117, 108, 101, 114, 47, 108, 97, 119, 115, 46, 70, 110, 70, 97, 105, 114, 87, 105, 110, 100, 111, 119, 115, 32, 108, 111, 111, 112, 46, 101, 120, 97, 109, 112, 108, 101, 47, 100, 101, 97, 100, 108, 105, 110, 101, 115, 99, 104, 101, 100, 117, 108, 101, 114, 47, 108, 97, 119, 115, 46, 70, 110, 70, 97, 105, 114, 82, 111, 119, 115, 32, 108, 111, 111, 112, 46, 101, 120, 97, 109, 112, 108, 101, 47, 100, 101, 97, 100, 108, 105, 110, 101, 115, 99, 104, 101, 100, 117, 108, 101, 114, 47, 108, 97, 119, 115, 46, 70, 110, 69, 120, 97, 99, 116, 82, 117, 110, 70, 97, 105, 114, 32, 108, 111, 111, 112, 46, 101, 120, 97, 109, 112, 108, 101, 47, 100, 101, 97, 100, 108, 105, 110, 101, 115, 99, 104, 101, 100, 117, 108, 101, 114, 47, 108, 97, 119, 115, 46, 70, 110, 70, 97, 105, 114, 70, 117, 108, 108]
theorem io_eq : Try.prog.initOrder = String.ofList (chars (w1 ++ 32 :: (w2 ++ 32 :: (w3 ++ 32 :: w4)))) := by kernel_rfl
theorem io_list : Try.prog.initOrder.toList = chars (w1 ++ 32 :: (w2 ++ 32 :: (w3 ++ 32 :: w4))) := by rw [io_eq, String.toList_ofList]
theorem ws_one (c : Char) (r w : List Char) (ws : List (List Char)) (hc : c ≠ Char.ofNat 32) (h : wordsSigns r = w :: ws) : wordsSigns (c :: r) = (c :: w) :: ws := by
  have e : wordsSigns (c :: r) = match wordsSigns r with
    | w :: ws => (c :: w) :: ws
    | [] => [[c]] := by
    rw [wordsSigns]
    · rfl
    · exact hc
  rw [e, h]
theorem ws_word (w : List Char) (h : ∀ c ∈ w, c ≠ Char.ofNat 32) (r : List Char) : wordsSigns (w ++ Char.ofNat 32 :: r) = w :: wordsSigns r := by
  induction w with
  | nil => rfl
  | cons c w ih => exact ws_one _ _ _ _ (h c (by simp)) (ih (fun x hx => h x (by simp [hx])))
theorem ws_nat (w r : List Nat) (h : w.all (fun n => !(Char.ofNat n == Char.ofNat 32)) = true) : wordsSigns (chars (w ++ 32 :: r)) = chars w :: wordsSigns (chars r) := by
  have e : chars (w ++ 32 :: r) = chars w ++ Char.ofNat 32 :: chars r := by simp [chars]
  rw [e]
  refine ws_word _ (fun c hc => ?_) _
  obtain ⟨n, hn, rfl⟩ := List.mem_map.1 hc
  have := List.all_eq_true.1 h n hn
  simpa using this
theorem zin : behindMainWord (wordsSigns Try.prog.initOrder.toList) = chars w3 :: wordsSigns (chars w4) := by
  rw [io_list, ws_nat _ _ (by kernel_rfl), ws_nat _ _ (by kernel_rfl), ws_nat _ _ (by kernel_rfl)]
  generalize wordsSigns (chars w4) = R
  kernel_rfl
theorem make_gen (P : Program) (c : List Char) (R : List (List Char)) (h : behindMainWord (wordsSigns P.initOrder.toList) = c :: R) (h1 : (c == "gc".toList || c == "spec".toList) = false) (h2 : (c == "cut".toList) = true) : P.make = some .cut := by
  unfold Program.make
  rw [h]
  simp only [h1, h2, Bool.true_or, if_true, Bool.false_eq_true, if_false]
theorem make : Try.prog.make = some .cut := make_gen _ _ _ zin (by kernel_rfl) (by kernel_rfl)
theorem enter_gen (P : Program) (c : List Char) (R : List (List Char)) (h : behindMainWord (wordsSigns P.initOrder.toList) = c :: R) (h1 : ∀ R, stripLifts liftWords (c :: R) = ([], c :: R)) (h2 : (some c == some "cut".toList) = true)
    (h3 : P.laysLater = false) (h4 : P.bearsReflect = false) (h5 : P.doorFits [] = true) : P.mayEnter = true := by
  unfold Program.mayEnter
  rw [h]
  simp only [h1, h2, h3, h4, h5, List.head?_cons, Bool.not_false, Bool.or_true, Bool.and_true, List.contains_nil]
theorem enter : Try.prog.mayEnter = true := enter_gen _ _ _ zin (fun R => by kernel_rfl) (by kernel_rfl) (by kernel_rfl) (by kernel_rfl) (by kernel_rfl)
theorem lifts : Try.prog.liftsFinal = false := by
  unfold Program.liftsFinal Program.headLifts
  simp only [zin]
  generalize wordsSigns (chars w4) = R
  kernel_rfl
end Go.Proofs.Ytnilnaabjpcfjaa.Head
namespace Go.Proofs.Ytnilnaabjpcfjaa.fnFairLag
open Go.ChangeShapes Go.WideShapes Go.ChangeAt Go.RowKit Go.Proofs.YtnilnaabjpcfjaaW.PrintWords Go.Proofs.Ytnilnaabjpcfjaa.P
open Go.ChangeMaps (open_string shut_string)
theorem own : ownKnob Try.prog.godebug = none := by kernel_rfl
theorem laidOut : laidOutB Try.prog = true := by kernel_rfl
theorem lifted (os : Os) (started : os.Started) (H : Type) (enc : TypeId × Value → H) :
    ReturnsInHanded {} Try.checked os 3 .any (Rows.fnFairLagSpec.pre6 enc Try.prog Try.f3 Rows.fnFairLagRow.domain false) (Rows.fnFairLagSpec.post enc Try.prog Try.f3 false true false false) := by
  refine returnsInHanded_of_change_sized (C := Try.checked) own started (by kernel_rfl) Try.func3
    (ChangeSpec.witness6 (enc := enc) (C := Try.checked) false ⟨#[], #[.slice none 0 0], []⟩ 8 (by kernel_rfl) (by kernel_rfl) (by kernel_rfl) (by kernel_rfl)) ?_
  intro W base args ds gs before hval0 hW hcnd hsz0 _
  have hsz : (DataW.weightsEach Try.prog (Try.f3.params.toList ++ Rows.fnFairLagSpec.plain.varTypes Try.prog) (ds ++ gs)).all (· ≤ reachBytes) = true := hsz0
  have hval : ∀ (j : Nat) t v, Try.f3.params[j]? = some t → args[j]? = some v → Value.okWide Try.prog W .any base t v := hval0
  have hW' := hW
  obtain ⟨p, q, hA0, hV, rfl, hfz, hnd⟩ := hW
  have hA : DataW.TrodAll enc Try.prog W 0 (fun _ => true) true Try.f3.params.toList args.toList ds p := hA0
  rw [Try.params3] at hA hval hsz
  obtain ⟨v0, vs0, d0, ds0, p0, q0, hargs, rfl, rfl, h0, r0⟩ := trodAll_cons hA
  obtain ⟨rfl, rfl, rfl⟩ := trodAll_nil r0
  obtain rfl : args = #[v0] := by cases args; simp_all
  obtain ⟨rfl, rfl⟩ := trodVars_none hV
  have k0 := h0
  have lt0 : ∀ x ∈ p0, x.block < W.heap.size := by obtain ⟨m, hm⟩ := k0; exact DataW.trod_lt m _ _ _ hm
  obtain ⟨A0, n0, c0, rfl⟩ := okWide_slice Try.underlying22 (hval 0 22 v0 rfl rfl)
  have y0 : n0 * 1 ≤ 140737488351232 := Opn.sized_row hsz (j := 0) (t := 22) rfl rfl Try.underlying22 (by kernel_rfl) h0
  obtain ⟨l0, rfl, hc0, hm0, hr0, hg0⟩ : ∃ xs : List (Int), xs.length = n0 ∧ n0 ≤ c0 ∧ n0 ≤ maxLen ∧ Kd.C (Kd.int .u8) W A0 xs.length xs ∧ ∀ y0 ∈ xs, (Lit.int .u8 y0).wf = true := by
    obtain ⟨fuel, hf⟩ := h0
    exact Opn.slice_row Try.underlying22 (by kernel_rfl) (Opn.opens_int Try.underlying5) hf
  obtain ⟨k, hk⟩ := Pure.FnFairLag l0 y0 ⟨hm0, hg0⟩
  clear hA0 hval0 hsz0 hsz
  refine (laws_FnFairLag.calls k A0 c0 l0 true W hr0 hc0 hk).mono fun e W' ⟨he, hd⟩ => ?_
  have bel := hd
  subst he
  exact ⟨_, rfl, _, _, _, [], _, [], hW', trodAll_mk1 (shut_bool Try.underlying4 _), (trodAll_cons_mk (Below.trod laidOut (by kernel_rfl) (of_decide_eq_true (by kernel_rfl)) k0 bel lt0) trodAll_mk0), rfl, bel.frame _, fun h => by cases h⟩
theorem closed : joinedFacts Try.prog 3 Try.f3 Rows.fnFairLagSpec Rows.fnFairLagRow = true := by
  simp only [joinedFacts, Head.enter, Head.lifts, Head.make]
  kernel_rfl
theorem named : Try.prog.funcNamed Rows.fnFairLagRow.func = some 3 := by kernel_rfl
theorem wrapped : Try.f3.isWrapper Try.prog Rows.fnFairLagRow.wrapper Rows.fnFairLagRow.mainSum := by unfold Func.isWrapper; first | (rw [if_pos (by decide +kernel)]; kernel_rfl) | (rw [if_neg (by decide +kernel)]; exact ⟨rfl, rfl⟩)
theorem over : Rows.fnFairLagRow.holds Try.pinned (OpenSpec.ofChange Rows.fnFairLagSpec) :=
  OpenClaim.holds_of_wide 3 Try.f3 rfl rfl rfl rfl rfl rfl rfl ⟨rfl, rfl, rfl, rfl, rfl⟩ rfl rfl rfl rfl rfl named Try.func3 closed
    (of_decide_eq_true (by kernel_rfl)) wrapped
    (fun os started H enc _ => lifted os started H enc)
theorem proved : Rows.FnFairLagSaid := over
#print axioms proved
end Go.Proofs.Ytnilnaabjpcfjaa.fnFairLag
namespace Go.Proofs.Ytnilnaabjpcfjaa
theorem fnFairLag_holds : Rows.FnFairLagSaid := fnFairLag.proved
end Go.Proofs.Ytnilnaabjpcfjaa
