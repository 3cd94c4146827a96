/- The law FnRunSupply for every input, part 2 of its proof: what the program's functions answer, and the plain law. No condition. -/
import Derived.Test.YtkdfjomhichkoaaMFnRunSupply1
namespace Go.Proofs.Ytkdfjomhichkoaa.P
open Go.RowKit Go.Proofs.YtkdfjomhichkoaaW.PrintWords Go.Proofs.YtkdfjomhichkoaaW.PrintLast Go.Proofs.YtkdfjomhichkoaaW.PrintMore
attribute [local go_sem] max2_int min2_int max_two min_two max_three min_three max_four min_four
set_option linter.unusedVariables false
set_option linter.unusedSimpArgs false
def idxOf {α : Type} (p : α → Bool) (l : List α) : Int := match l.findIdx? p with
  | some i => (i : Int)
  | none => -1
theorem idxOf_hit {α : Type} (p : α → Bool) (l : List α) (k : Nat) (hk : k < l.length) (hp : p l[k] = true) (hn : ∀ j (h : j < k), p (l[j]'(by omega)) = false) : idxOf p l = (k : Int) := by
  have : l.findIdx? p = some k := by
    rw [List.findIdx?_eq_some_iff_getElem]
    exact ⟨hk, hp, fun j hj => by simp [hn j hj]⟩
  unfold idxOf
  rw [this]
theorem idxOf_miss {α : Type} (p : α → Bool) (l : List α) (hn : ∀ j (h : j < l.length), p l[j] = false) : idxOf p l = -1 := by
  have : l.findIdx? p = none := by
    rw [List.findIdx?_eq_none_iff]
    intro x hx
    obtain ⟨j, hj, rfl⟩ := List.getElem_of_mem hx
    exact hn j hj
  unfold idxOf
  rw [this]
theorem idxOf_any {α : Type} (p : α → Bool) (l : List α) : decide (0 ≤ idxOf p l) = l.any p := by
  unfold idxOf
  cases h : l.findIdx? p with
  | none =>
    rw [List.findIdx?_eq_none_iff] at h
    have : l.any p = false := by
      rw [List.any_eq_false]
      intro x hx
      simp [h x hx]
    rw [this]
    rfl
  | some i =>
    rw [List.findIdx?_eq_some_iff_getElem] at h
    obtain ⟨hi, hp, _⟩ := h
    have : l.any p = true := List.any_eq_true.2 ⟨_, List.getElem_mem hi, hp⟩
    rw [this]
    exact decide_eq_true (show (0 : Int) ≤ (i : Int) by omega)
set_option maxHeartbeats 2000000 in
set_option maxRecDepth 100000 in
theorem idxJob_calls (p : S34 → Bool) (g : Nat) (lb : Array Value) (eg : ∀ args w, (callFunc g args).run Try.prog w = .ok (.enter g args) w) (A : Option Addr) (c : Nat) (l : List S34) (w : World)
    (hp : ∀ (W : World) (x : S34), x ∈ l → Below w.heap.size w W → Calls Try.prog g (#[.agg #[.int .i64 x.f0, .int .i64 x.f1, .int .i64 x.f2, .int .i64 x.f3]] ++ lb) W fun e w' => e = .returned (.bool (p x)) ∧ Below W.heap.size W w')
    (hr : Kd.C k34 w A l.length l) :
    Calls Try.prog 113 #[.slice A l.length c, .func (.func g) #[] lb] w fun e w' => e = .returned (.int .i64 (idxOf p l)) ∧ Below w.heap.size w w' := by
  have hbig := za.mk (Kd.C_max hr)
  have HR := za.mk hr
  have HP := za.mk hp
  clear hr hp
  go_enter Try.func113, Try.ntmps113
  go_wp2
  go_loopg [5, 8] l.length (fun gg _ s8 wr => ∃ kk : Nat, kk ≤ l.length ∧ l.length - kk ≤ gg ∧ s8 = .int .i64 kk ∧ za (Below w.heap.size w wr) ∧ za (∀ j (h : j < kk) (h2 : j < l.length), p l[j] = false))
  case atStart => exact ⟨0, Nat.zero_le _, by omega, rfl, ⟨Below.refl _ w⟩, ⟨fun j hj => absurd hj (Nat.not_lt_zero _)⟩⟩
  case round =>
    obtain ⟨kk, hkk, hg, rfl, BW, N⟩ := hrel
    by_cases hlt : kk < l.length
    · have hltz : (kk : Int) < (l.length : Int) := by omega
      have hb1 := hbig.out
      obtain ⟨ad, ea, hx0, hx1, hx2, hx3⟩ := zc9 HR.out (kk : Int) (by omega) hltz
      cases ea
      have hy0 := (BW.out.cell (World.block_lt_of_cell? w _ hx0)).trans hx0
      have hy1 := (BW.out.cell (World.block_lt_of_cell? w _ hx1)).trans hx1
      have hy2 := (BW.out.cell (World.block_lt_of_cell? w _ hx2)).trans hx2
      have hy3 := (BW.out.cell (World.block_lt_of_cell? w _ hx3)).trans hx3
      have er : ze l (kk : Int) = l[kk] := by rw [ze, List.getD_eq_getElem?_getD, Int.toNat_natCast, List.getElem?_eq_getElem hlt]; rfl
      rw [er, Int.toNat_natCast] at hy0 hy1 hy2 hy3
      have hcall := HP.out wr l[kk] (List.getElem_mem hlt) BW.out
      generalize hy : l[kk] = y at hy0 hy1 hy2 hy3 hcall
      have Y := za.mk hy
      clear hy hx0 hx1 hx2 hx3 er
      cases hq : p y with
      | true =>
        rw [hq] at hcall
        go_wp2_with (go_at_fn g; refine hcall.mono ?_; rintro e w' ⟨rfl, hb'⟩)
        go_ret
        refine ⟨?_, Below.trans BW.out (hb'.mono BW.out.size)⟩
        rw [idxOf_hit p l kk hlt (by rw [Y.out]; exact hq) (fun j hj => N.out j hj (by omega))]
        rfl
      | false =>
        rw [hq] at hcall
        go_wp2_with (go_at_fn g; refine hcall.mono ?_; rintro e w' ⟨rfl, hb'⟩)
        go_roundg (l.length - (kk + 1))
        case measure => omega
        case rel =>
          refine ⟨kk + 1, by omega, by omega, by go_num, ⟨Below.trans BW.out (hb'.mono BW.out.size)⟩, ⟨fun j hj hj2 => ?_⟩⟩
          by_cases e : j = kk
          · subst e
            rw [Y.out]; exact hq
          · exact N.out j (by omega) hj2
    · have hltz : ¬ (kk : Int) < (l.length : Int) := by omega
      go_wp2
      go_ret
      refine ⟨?_, BW.out⟩
      rw [idxOf_miss p l (fun j hj => N.out j (by omega) hj)]
      rfl
set_option maxHeartbeats 2000000 in
set_option maxRecDepth 100000 in
theorem anyJob_calls (p : S34 → Bool) (g : Nat) (lb : Array Value) (eg : ∀ args w, (callFunc g args).run Try.prog w = .ok (.enter g args) w) (A : Option Addr) (c : Nat) (l : List S34) (w : World)
    (hp : ∀ (W : World) (x : S34), x ∈ l → Below w.heap.size w W → Calls Try.prog g (#[.agg #[.int .i64 x.f0, .int .i64 x.f1, .int .i64 x.f2, .int .i64 x.f3]] ++ lb) W fun e w' => e = .returned (.bool (p x)) ∧ Below W.heap.size W w')
    (hr : Kd.C k34 w A l.length l) :
    Calls Try.prog 96 #[.slice A l.length c, .func (.func g) #[] lb] w fun e w' => e = .returned (.bool (l.any p)) ∧ Below w.heap.size w w' := by
  have Y := za.mk (idxOf_any p l)
  have h := za.mk (fun W (hW : W = w) => idxJob_calls p g lb eg A c l W (by subst hW; exact hp) (by subst hW; exact hr))
  clear hp hr eg
  go_enter Try.func96, Try.ntmps96
  go_wp2_with (go_at_call 113; refine (h.out _ rfl).mono ?_; rintro e w' ⟨rfl, hb'⟩)
  go_ret
  exact ⟨by rw [← Y.out]; rfl, hb'⟩
set_option maxHeartbeats 2000000 in
set_option maxRecDepth 100000 in
theorem idxTask_calls (p : S88 → Bool) (g : Nat) (lb : Array Value) (eg : ∀ args w, (callFunc g args).run Try.prog w = .ok (.enter g args) w) (A : Option Addr) (c : Nat) (l : List S88) (w : World)
    (hp : ∀ (W : World) (x : S88), Below w.heap.size w W → Calls Try.prog g (#[.agg #[.int .i64 x.f0, .int .i64 x.f1, .int .i64 x.f2]] ++ lb) W fun e w' => e = .returned (.bool (p x)) ∧ Below W.heap.size W w')
    (hr : Kd.C k88 w A l.length l) :
    Calls Try.prog 115 #[.slice A l.length c, .func (.func g) #[] lb] w fun e w' => e = .returned (.int .i64 (idxOf p l)) ∧ Below w.heap.size w w' := by
  have hbig := za.mk (Kd.C_max hr)
  have HR := za.mk hr
  have HP := za.mk hp
  clear hr hp
  go_enter Try.func115, Try.ntmps115
  go_wp2
  go_loopg [5, 8] l.length (fun gg _ s8 wr => ∃ kk : Nat, kk ≤ l.length ∧ l.length - kk ≤ gg ∧ s8 = .int .i64 kk ∧ za (Below w.heap.size w wr) ∧ za (∀ j (h : j < kk) (h2 : j < l.length), p l[j] = false))
  case atStart => exact ⟨0, Nat.zero_le _, by omega, rfl, ⟨Below.refl _ w⟩, ⟨fun j hj => absurd hj (Nat.not_lt_zero _)⟩⟩
  case round =>
    obtain ⟨kk, hkk, hg, rfl, BW, N⟩ := hrel
    by_cases hlt : kk < l.length
    · have hltz : (kk : Int) < (l.length : Int) := by omega
      have hb1 := hbig.out
      obtain ⟨ad, ea, hx0, hx1, hx2⟩ := at_T88 HR.out (kk : Int) (by omega) hltz
      cases ea
      have hy0 := (BW.out.cell (World.block_lt_of_cell? w _ hx0)).trans hx0
      have hy1 := (BW.out.cell (World.block_lt_of_cell? w _ hx1)).trans hx1
      have hy2 := (BW.out.cell (World.block_lt_of_cell? w _ hx2)).trans hx2
      have er : zbf l (kk : Int) = l[kk] := by rw [zbf, List.getD_eq_getElem?_getD, Int.toNat_natCast, List.getElem?_eq_getElem hlt]; rfl
      rw [er, Int.toNat_natCast] at hy0 hy1 hy2
      have hcall := HP.out wr l[kk] BW.out
      generalize hy : l[kk] = y at hy0 hy1 hy2 hcall
      have Y := za.mk hy
      clear hy hx0 hx1 hx2 er
      cases hq : p y with
      | true =>
        rw [hq] at hcall
        go_wp2_with (go_at_fn g; refine hcall.mono ?_; rintro e w' ⟨rfl, hb'⟩)
        go_ret
        refine ⟨?_, Below.trans BW.out (hb'.mono BW.out.size)⟩
        rw [idxOf_hit p l kk hlt (by rw [Y.out]; exact hq) (fun j hj => N.out j hj (by omega))]
        rfl
      | false =>
        rw [hq] at hcall
        go_wp2_with (go_at_fn g; refine hcall.mono ?_; rintro e w' ⟨rfl, hb'⟩)
        go_roundg (l.length - (kk + 1))
        case measure => omega
        case rel =>
          refine ⟨kk + 1, by omega, by omega, by go_num, ⟨Below.trans BW.out (hb'.mono BW.out.size)⟩, ⟨fun j hj hj2 => ?_⟩⟩
          by_cases e : j = kk
          · subst e
            rw [Y.out]; exact hq
          · exact N.out j (by omega) hj2
    · have hltz : ¬ (kk : Int) < (l.length : Int) := by omega
      go_wp2
      go_ret
      refine ⟨?_, BW.out⟩
      rw [idxOf_miss p l (fun j hj => N.out j (by omega) hj)]
      rfl
set_option maxHeartbeats 2000000 in
set_option maxRecDepth 100000 in
theorem anyTask_calls (p : S88 → Bool) (g : Nat) (lb : Array Value) (eg : ∀ args w, (callFunc g args).run Try.prog w = .ok (.enter g args) w) (A : Option Addr) (c : Nat) (l : List S88) (w : World)
    (hp : ∀ (W : World) (x : S88), Below w.heap.size w W → Calls Try.prog g (#[.agg #[.int .i64 x.f0, .int .i64 x.f1, .int .i64 x.f2]] ++ lb) W fun e w' => e = .returned (.bool (p x)) ∧ Below W.heap.size W w')
    (hr : Kd.C k88 w A l.length l) :
    Calls Try.prog 104 #[.slice A l.length c, .func (.func g) #[] lb] w fun e w' => e = .returned (.bool (l.any p)) ∧ Below w.heap.size w w' := by
  have Y := za.mk (idxOf_any p l)
  have h := za.mk (fun W (hW : W = w) => idxTask_calls p g lb eg A c l W (by subst hW; exact hp) (by subst hW; exact hr))
  clear hp hr eg
  go_enter Try.func104, Try.ntmps104
  go_wp2_with (go_at_call 115; refine (h.out _ rfl).mono ?_; rintro e w' ⟨rfl, hb'⟩)
  go_ret
  exact ⟨by rw [← Y.out]; rfl, hb'⟩
def zdr.f (a0_0 : Int) (a0_1 : Int) (a0_2 : Int) : Option (Bool) := (zcu.f a0_0 a0_1 a0_2).bind fun t292 => (some (!t292))
set_option maxHeartbeats 8000000 in
set_option maxRecDepth 100000 in
theorem zdr.calls (a0_0 : Int) (a0_1 : Int) (a0_2 : Int) (r : Bool) (w : World) (h : zdr.f a0_0 a0_1 a0_2 = some r) :
  Calls Try.prog 109 #[.agg #[.int .i64 a0_0, .int .i64 a0_1, .int .i64 a0_2]] w fun e w' => e = .returned (.bool r) ∧ Below w.heap.size w w' := by
 have hu88 := Try.underlying88
 have HB := za.mk (Below.refl w.heap.size w)
 have H : ((zcu.f a0_0 a0_1 a0_2).bind fun t292 => (some (!t292))) = some r := h
 clear h
 replace H := Option.bind_eq_some_iff.mp H
 obtain ⟨t292, A20, H⟩ := H
 replace H : (some (!t292)) = some r := H
 have A2 := za.mk A20
 clear A20
 obtain rfl := Option.some.inj H
 go_enter Try.func109, Try.ntmps109
 go_wp2_with (first | ((with_reducible refine zbp (N := 1) rfl ?_); refine zb1 ?hg (N := 1) ?hd (cs := #[.int .i64 a0_0, .int .i64 a0_1, .int .i64 a0_2]) (t := 88) ?hr ?_; (case hd => rfl); (case hg => rfl); (case hr => first | (go_simp; done) | (go_simp; rfl)); intro gb291 hg w3 hbox hb; have n0_ := za.mk (zo (Zq3 HB.out) hb); have n1_ := za.mk (hbox); have n2_ := za.mk ((by rw [hg]; exact (zbb (Zq3 HB.out)) : w.heap.size ≤ gb291)); have n3_ := za.mk ((by rw [hg]; exact (zbb (Zq3 HB.out)) : w.heap.size ≤ gb291)); clear HB; have HB := n0_; have BK291 := n1_; have GW291 := n2_; have GE291 := n3_; clear n0_ n1_ n2_ n3_; clear hb hbox hg; have hcz4_0 : w3.cell? ⟨gb291, 0, none⟩ = some (.int .i64 a0_0) := (zh BK291.out 0).trans rfl; have hcz4_1 : w3.cell? ⟨gb291, 1, none⟩ = some (.int .i64 a0_1) := (zh BK291.out 1).trans rfl; have hcz4_2 : w3.cell? ⟨gb291, 2, none⟩ = some (.int .i64 a0_2) := (zh BK291.out 2).trans rfl; have hfz4_0 := zg BK291.out 0; have hfz4_1 := zg BK291.out 1; have hfz4_2 := zg BK291.out 2) | ((with_reducible refine zba (f := 59) rfl ?_); refine zbv (some 4) rfl rfl Try.func59 (by kernel_rfl) rfl #[.agg #[.int .i64 a0_0, .int .i64 a0_1, .int .i64 a0_2]] rfl Zmt ?_; (with_reducible refine (zcu.calls a0_0 a0_1 a0_2 t292 _ A2.out).mono ?_); rintro e w5 ⟨rfl, hb⟩; refine ⟨_, rfl, ?_⟩; have n0_ := za.mk (zbg (g := gb291) (o := .cells #[.int .i64 a0_0, .int .i64 a0_1, .int .i64 a0_2] 88 (0, 0)) (Zq4 BK291.out) hb); have n1_ := za.mk (zo (Zq5 HB.out GE291.out) hb); clear BK291; clear HB; have BK291 := n0_; have HB := n1_; clear n0_ n1_; (try clear hb); (try clear hb2); (try clear hk); (try clear hi)))
 go_ret
 exact ⟨by first | rfl | (simp [zbc, zbd] <;> rfl) | (simp [*, zbc, zbd] <;> rfl), Zq5 HB.out GE291.out⟩
def taskOk (x : S88) : Bool := decide (1 ≤ x.f0 ∧ x.f0 ≤ 8 ∧ x.f0 ≤ x.f1 ∧ x.f1 ≤ x.f2 ∧ x.f2 ≤ 12)
def zc7.bad (x : S88) : Bool := !(taskOk x)
theorem zc7.is (x : S88) : zdr.f x.f0 x.f1 x.f2 = some (zc7.bad x) := by
  unfold zdr.f zcu.f zcv.f zc7.bad taskOk
  by_cases h1 : x.f0 ≥ 1 <;> by_cases h2 : x.f0 ≤ 8 <;> by_cases h3 : x.f1 ≥ x.f0 <;> by_cases h4 : x.f1 ≤ x.f2 <;> by_cases h5 : x.f2 ≤ 12 <;> simp [h1, h2, h3, h4, h5]
  all_goals first | omega | (intros; omega) | skip
def zc7.f (l0 : List S88) : Option Bool := some (l0.any zc7.bad)
theorem zc7.calls (A0 : Option Addr) (c0 : Nat) (l0 : List S88) (r : Bool) (w : World) (hr0 : Kd.C k88 w A0 l0.length l0) (hc0 : l0.length ≤ c0) (h : zc7.f l0 = some r) :
    Calls Try.prog 104 #[.slice A0 l0.length c0, .func (.func 109) #[] #[]] w fun e w' => e = .returned (.bool r) ∧ Below w.heap.size w w' := by
  obtain rfl := Option.some.inj h
  exact anyTask_calls zc7.bad 109 #[] (enters_of Try.func109 (by kernel_rfl) rfl) A0 c0 l0 w (fun W' x _ => (zdr.calls x.f0 x.f1 x.f2 _ W' (zc7.is x)).mono fun e w' hh => ⟨hh.1, hh.2⟩) hr0
def zc0.f (l0 : List (S88)) : Option (Bool) := if (l0.length : Int) ≤ 5 then ((zc7.f l0).bind fun t293 => (some (!t293))) else (some false)
set_option maxHeartbeats 8000000 in
set_option maxRecDepth 100000 in
theorem zc0.calls (A0 : Option Addr) (c0 : Nat) (l0 : List (S88)) (r : Bool) (w : World) (hr0 : Kd.C k88 w A0 l0.length l0) (hc0 : l0.length ≤ c0) (h : zc0.f l0 = some r) :
  Calls Try.prog 76 #[.slice A0 l0.length c0] w fun e w' => e = .returned (.bool r) ∧ Below w.heap.size w w' := by
 have HR0 := za.mk hr0
 have HC0 := za.mk hc0
 clear hr0 hc0
 have HB := za.mk (Below.refl w.heap.size w)
 have H : (if (l0.length : Int) ≤ 5 then ((zc7.f l0).bind fun t293 => (some (!t293))) else (some false)) = some r := h
 clear h
 by_cases c2 : (l0.length : Int) ≤ 5
 ·rw [if_pos c2] at H
  have c2b0 : decide ((l0.length : Int) ≤ 5) = true := decide_eq_true c2
  have c2b1 : decide (l0.length ≤ 5) = true := decide_eq_true (by omega)
  clear c2
  replace H := Option.bind_eq_some_iff.mp H
  obtain ⟨t293, A30, H⟩ := H
  replace H : (some (!t293)) = some r := H
  have A3 := za.mk A30
  clear A30
  obtain rfl := Option.some.inj H
  go_enter Try.func76, Try.ntmps76
  go_wp2_with (first | (go_at_call 104; (with_reducible refine (zc7.calls _ _ l0  t293 _ ?side1 ?side2 A3.out).mono ?_); (case side1 => exact Zq6 HR0.out); (case side2 => exact HC0.out); rintro e w4 ⟨rfl, hb⟩; have n0_ := za.mk (zo (Zq3 HB.out) hb); clear HB; have HB := n0_; clear n0_; (try clear hb); (try clear hb2); (try clear hk); (try clear hi)))
  go_ret
  exact ⟨by first | rfl | (simp [zbc, zbd] <;> rfl) | (simp [*, zbc, zbd] <;> rfl), Zq3 HB.out⟩
 ·rw [if_neg c2] at H
  have c2b0 : decide ((l0.length : Int) ≤ 5) = false := decide_eq_false c2
  have c2b1 : decide (l0.length ≤ 5) = false := decide_eq_false (by omega)
  clear c2
  obtain rfl := Option.some.inj H
  go_enter Try.func76, Try.ntmps76
  go_wp2
  go_ret
  exact ⟨by first | rfl | (simp [zbc, zbd] <;> rfl) | (simp [*, zbc, zbd] <;> rfl), Zq3 HB.out⟩
def impl_release.f (a0_0 : Int) (a0_1 : Int) (a0_2 : Int) (a0_3 : Int) : Option (Int) := some a0_1
set_option maxHeartbeats 8000000 in
set_option maxRecDepth 100000 in
theorem impl_release.calls (a0_0 : Int) (a0_1 : Int) (a0_2 : Int) (a0_3 : Int) (r : Int) (w : World) (h : impl_release.f a0_0 a0_1 a0_2 a0_3 = some r) :
  Calls Try.prog 94 #[.agg #[.int .i64 a0_0, .int .i64 a0_1, .int .i64 a0_2, .int .i64 a0_3]] w fun e w' => e = .returned (.int .i64 r) ∧ Below w.heap.size w w' := by
 have hu34 := Try.underlying34
 have HB := za.mk (Below.refl w.heap.size w)
 have H : (some a0_1) = some r := h
 clear h
 obtain rfl := Option.some.inj H
 go_enter Try.func94, Try.ntmps94
 go_wp2_with (first | ((with_reducible refine zbp (N := 1) rfl ?_); refine zb1 ?hg (N := 1) ?hd (cs := #[.int .i64 a0_0, .int .i64 a0_1, .int .i64 a0_2, .int .i64 a0_3]) (t := 34) ?hr ?_; (case hd => rfl); (case hg => rfl); (case hr => first | (go_simp; done) | (go_simp; rfl)); intro gb294 hg w2 hbox hb; have n0_ := za.mk (zo (Zq3 HB.out) hb); have n1_ := za.mk (hbox); have n2_ := za.mk ((by rw [hg]; exact (zbb (Zq3 HB.out)) : w.heap.size ≤ gb294)); have n3_ := za.mk ((by rw [hg]; exact (zbb (Zq3 HB.out)) : w.heap.size ≤ gb294)); clear HB; have HB := n0_; have BK294 := n1_; have GW294 := n2_; have GE294 := n3_; clear n0_ n1_ n2_ n3_; clear hb hbox hg; have hcz3_0 : w2.cell? ⟨gb294, 0, none⟩ = some (.int .i64 a0_0) := (zh BK294.out 0).trans rfl; have hcz3_1 : w2.cell? ⟨gb294, 1, none⟩ = some (.int .i64 a0_1) := (zh BK294.out 1).trans rfl; have hcz3_2 : w2.cell? ⟨gb294, 2, none⟩ = some (.int .i64 a0_2) := (zh BK294.out 2).trans rfl; have hcz3_3 : w2.cell? ⟨gb294, 3, none⟩ = some (.int .i64 a0_3) := (zh BK294.out 3).trans rfl; have hfz3_0 := zg BK294.out 0; have hfz3_1 := zg BK294.out 1; have hfz3_2 := zg BK294.out 2; have hfz3_3 := zg BK294.out 3))
 go_ret
 exact ⟨by first | rfl | (simp [zbc, zbd] <;> rfl) | (simp [*, zbc, zbd] <;> rfl), Zq5 HB.out GE294.out⟩
def legB (l : List TaskT) (js : List JobT) : Bool := if ordB l js = true then (if spcB l js = true then !(js.any (lateB l)) else false) else false
theorem ordOk_at {l : List TaskT} {js : List JobT} (h : ordB l js = true) (i : Nat) (hi : i < js.length) : inRng l (jrd js i) = true ∧ relOk (jrd js i) = true := by
  unfold ordB at h
  rw [Bool.and_eq_true] at h
  have := allB_true h.1 i hi
  unfold ordOk at this
  rw [Bool.and_eq_true, Bool.and_eq_true, Bool.and_eq_true] at this
  exact ⟨this.1.1.1, this.1.1.2⟩
def zcp.f (l0 : List S88) (l1 : List S34) : Option Bool := (zc0.f l0).bind fun t => (if t = true then (if l0.length ≤ 1000000000 ∧ l1.length ≤ 1000000000 then (some (legB l0 l1)) else (none)) else (some false))
set_option maxHeartbeats 16000000 in
set_option maxRecDepth 100000 in
theorem zcp.calls (A0 : Option Addr) (c0 : Nat) (l0 : List S88) (A1 : Option Addr) (c1 : Nat) (l1 : List S34) (r : Bool) (w : World) (hr0 : Kd.C k88 w A0 l0.length l0) (hc0 : l0.length ≤ c0) (hr1 : Kd.C k34 w A1 l1.length l1) (hc1 : l1.length ≤ c1) (h : zcp.f l0 l1 = some r) :
    Calls Try.prog 48 #[.slice A0 l0.length c0, .slice A1 l1.length c1] w fun e w' => e = .returned (.bool r) ∧ Below w.heap.size w w' := by
  unfold zcp.f at h
  have hlen0 : l0.length ≤ 9223372036854775807 := hr0.2.1
  have HR0 := za.mk hr0
  have HC0 := za.mk hc0
  have HR1 := za.mk hr1
  clear hr0 hc0 hr1 hc1
  cases hs : zc0.f l0 with
  | none => rw [hs] at h; simp at h
  | some t =>
    rw [hs] at h
    have HS := za.mk hs
    clear hs
    have B0 := za.mk (zbn (Below.refl w.heap.size w) (.cells #[.slice A0 l0.length c0] 23))
    cases t with
    | false =>
      simp at h
      subst h
      go_enter Try.func48, Try.ntmps48
      go_wp2_with (go_at_call 76; refine (zc0.calls A0 c0 l0 false _ (Kd.zb8 HR0.out B0.out) HC0.out HS.out).mono ?_; rintro e w1 ⟨rfl, hb⟩; have HB := za.mk (zo B0.out hb); clear hb)
      go_ret
      exact ⟨rfl, HB.out⟩
    | true =>
      simp only [Option.bind_some, if_true] at h
      by_cases hl : l0.length ≤ 1000000000 ∧ l1.length ≤ 1000000000
      · rw [if_pos hl] at h
        obtain rfl := Option.some.inj h
        clear h
        obtain ⟨hl0, hl1⟩ := hl
        have cellB : ∀ W, Below (w.alloc (.cells #[.slice A0 l0.length c0] 23)).heap.size (w.alloc (.cells #[.slice A0 l0.length c0] 23)) W → W.cell? ⟨w.heap.size, 0, none⟩ = some (.slice A0 l0.length c0) := fun W hb => (hb.cell (p := ⟨w.heap.size, 0, none⟩) (by simp)).trans (by simp)
        have CB := za.mk cellB
        clear cellB
        have HO := za.mk (fun (W1 : World) (hb1 : Below (w.alloc (.cells #[.slice A0 l0.length c0] 23)).heap.size (w.alloc (.cells #[.slice A0 l0.length c0] 23)) W1) =>
          ordered_calls 92 #[.pointer (some ⟨w.heap.size, 0, none⟩)] (enters_of Try.func92 (by kernel_rfl) rfl) l0 A1 c1 l1 hl1 hl0 W1
            (fun W a hb h0 h1 => (jl1_calls A0 c0 l0 ⟨w.heap.size, 0, none⟩ a h0 h1 W (CB.out W (zb7 hb1 hb1.size hb)) (Kd.zb8 (Kd.zb8 HR0.out B0.out) (zb7 hb1 hb1.size hb))).mono fun e w' hh => ⟨hh.1, hh.2.out⟩) (Kd.zb8 (Kd.zb8 HR1.out B0.out) hb1))
        have HP := za.mk (fun (hord : ordB l0 l1 = true) (W1 : World) (hb1 : Below (w.alloc (.cells #[.slice A0 l0.length c0] 23)).heap.size (w.alloc (.cells #[.slice A0 l0.length c0] 23)) W1) =>
          spaced_calls 94 95 #[.pointer (some ⟨w.heap.size, 0, none⟩)] (enters_of Try.func94 (by kernel_rfl) rfl) (enters_of Try.func95 (by kernel_rfl) rfl) (by decide) l0 A1 c1 l1 hl1
            (fun i hi => by have h1 := (ordOk_at hord i hi).1; unfold inRng at h1; have h1 := of_decide_eq_true h1; omega) (fun i hi => by have h1 := (ordOk_at hord i hi).2; unfold relOk at h1; exact of_decide_eq_true h1) hl0 W1
            (fun W j _ => (impl_release.calls j.f0 j.f1 j.f2 j.f3 _ W rfl).mono fun e w' hh => ⟨hh.1, hh.2⟩)
            (fun W a hb h0 h1 => (jl2_calls A0 c0 l0 ⟨w.heap.size, 0, none⟩ a h0 h1 W (CB.out W (zb7 hb1 hb1.size hb)) (Kd.zb8 (Kd.zb8 HR0.out B0.out) (zb7 hb1 hb1.size hb))).mono fun e w' hh => ⟨hh.1, hh.2.out⟩) (Kd.zb8 (Kd.zb8 HR1.out B0.out) hb1))
        have HL := za.mk (fun (hord : ordB l0 l1 = true) (W1 : World) (hb1 : Below (w.alloc (.cells #[.slice A0 l0.length c0] 23)).heap.size (w.alloc (.cells #[.slice A0 l0.length c0] 23)) W1) =>
          anyJob_calls (lateB l0) 97 #[.pointer (some ⟨w.heap.size, 0, none⟩)] (enters_of Try.func97 (by kernel_rfl) rfl) A1 c1 l1 W1
            (fun W x hx hb => by
              obtain ⟨i, hi, rfl⟩ := List.getElem_of_mem hx
              have h1 := (ordOk_at hord i hi).1
              have e : jrd l1 i = l1[i] := by unfold jrd ze; rw [List.getD_eq_getElem?_getD, Int.toNat_natCast, List.getElem?_eq_getElem hi]; rfl
              rw [e] at h1
              unfold inRng at h1
              have h1 := of_decide_eq_true h1
              exact jl3_calls A0 c0 l0 ⟨w.heap.size, 0, none⟩ l1[i] h1.1 (by omega) W (CB.out W (zb7 hb1 hb1.size hb)) (Kd.zb8 (Kd.zb8 HR0.out B0.out) (zb7 hb1 hb1.size hb))) (Kd.zb8 (Kd.zb8 HR1.out B0.out) hb1))
        unfold legB
        cases ho : ordB l0 l1 with
        | false =>
          rw [ho] at HO
          rw [if_neg (by simp)]
          clear ho HP HL
          go_enter Try.func48, Try.ntmps48
          go_wp2_with (first
            | (go_at_call 76; refine (zc0.calls A0 c0 l0 true _ (Kd.zb8 HR0.out B0.out) HC0.out HS.out).mono ?_; rintro e w1 ⟨rfl, hb⟩; have HB := za.mk hb; have hcell := CB.out w1 hb; clear hb)
            | (go_at_call 91; refine (HO.out _ HB.out).mono ?_; rintro e w2 ⟨rfl, hb⟩; have HB2 := za.mk (zb7 HB.out HB.out.size hb); have hcell2 := CB.out w2 HB2.out; clear hb))
          go_ret
          exact ⟨rfl, zb7 B0.out B0.out.size HB2.out⟩
        | true =>
          rw [ho] at HO
          rw [if_pos rfl]
          have HP2 := za.mk (HP.out ho)
          have HL2 := za.mk (HL.out ho)
          clear ho HP HL
          cases hp : spcB l0 l1 with
          | false =>
            rw [hp] at HP2
            rw [if_neg (by simp)]
            clear hp
            go_enter Try.func48, Try.ntmps48
            go_wp2_with (first
              | (go_at_call 76; refine (zc0.calls A0 c0 l0 true _ (Kd.zb8 HR0.out B0.out) HC0.out HS.out).mono ?_; rintro e w1 ⟨rfl, hb⟩; have HB := za.mk hb; have hcell := CB.out w1 hb; clear hb)
              | (go_at_call 91; refine (HO.out _ HB.out).mono ?_; rintro e w2 ⟨rfl, hb⟩; have HB2 := za.mk (zb7 HB.out HB.out.size hb); have hcell2 := CB.out w2 HB2.out; clear hb)
              | (go_at_call 93; refine (HP2.out _ HB2.out).mono ?_; rintro e w3 ⟨rfl, hb⟩; have HB3 := za.mk (zb7 HB2.out HB2.out.size hb); have hcell3 := CB.out w3 HB3.out; clear hb))
            go_ret
            exact ⟨rfl, zb7 B0.out B0.out.size HB3.out⟩
          | true =>
            rw [hp] at HP2
            rw [if_pos rfl]
            clear hp
            obtain ⟨v, hv⟩ : ∃ v, l1.any (lateB l0) = v := ⟨_, rfl⟩
            rw [hv] at HL2 ⊢
            clear hv
            go_enter Try.func48, Try.ntmps48
            go_wp2_with (first
              | (go_at_call 76; refine (zc0.calls A0 c0 l0 true _ (Kd.zb8 HR0.out B0.out) HC0.out HS.out).mono ?_; rintro e w1 ⟨rfl, hb⟩; have HB := za.mk hb; have hcell := CB.out w1 hb; clear hb)
              | (go_at_call 91; refine (HO.out _ HB.out).mono ?_; rintro e w2 ⟨rfl, hb⟩; have HB2 := za.mk (zb7 HB.out HB.out.size hb); have hcell2 := CB.out w2 HB2.out; clear hb)
              | (go_at_call 93; refine (HP2.out _ HB2.out).mono ?_; rintro e w3 ⟨rfl, hb⟩; have HB3 := za.mk (zb7 HB2.out HB2.out.size hb); have hcell3 := CB.out w3 HB3.out; clear hb)
              | (go_at_call 96; refine (HL2.out _ HB3.out).mono ?_; rintro e w4 ⟨rfl, hb⟩; have HB4 := za.mk (zb7 HB3.out HB3.out.size hb); clear hb))
            go_ret
            exact ⟨rfl, zb7 B0.out B0.out.size HB4.out⟩
      · rw [if_neg hl] at h
        cases h
def zds.f (l0 : List S88) (l1 : List S34) : Option (List Int × List Int) := (zcp.f l0 l1).bind fun t => (if t = true then (if l1.length ≤ 1000 then (some (simR (edfD l1) l1)) else (none)) else (some ([], [])))
set_option maxHeartbeats 8000000 in
set_option maxRecDepth 100000 in
theorem zds.calls (A0 : Option Addr) (c0 : Nat) (l0 : List S88) (A1 : Option Addr) (c1 : Nat) (l1 : List S34) (r1 : List Int) (r2 : List Int) (w : World) (hr0 : Kd.C k88 w A0 l0.length l0) (hc0 : l0.length ≤ c0) (hr1 : Kd.C k34 w A1 l1.length l1) (hc1 : l1.length ≤ c1) (h : zds.f l0 l1 = some (r1, r2)) :
    Calls Try.prog 16 #[.slice A0 l0.length c0, .slice A1 l1.length c1] w fun e w' => ∃ v0_ v1_ : Value, e = .returned (.agg #[v0_, v1_]) ∧ Kd.R (Kd.int .i64) 3 w' w.heap.size (fun k_ => some k_ ≠ (v1_ : Value).ownBlock) v0_ r1 ∧ Kd.R (Kd.int .i64) 3 w' w.heap.size (fun k_ => some k_ ≠ (v0_ : Value).ownBlock) v1_ r2 ∧ Below w.heap.size w w' := by
  unfold zds.f at h
  have HR0 := za.mk hr0
  have HC0 := za.mk hc0
  have HR1 := za.mk hr1
  have HC1 := za.mk hc1
  clear hr0 hc0 hr1 hc1
  cases hs : zcp.f l0 l1 with
  | none => rw [hs] at h; simp at h
  | some t =>
    rw [hs] at h
    have HS := za.mk hs
    clear hs
    have B0 := za.mk (zbn (Below.refl w.heap.size w) (.cells #[.slice none 0 0, .slice none 0 0] 29))
    have K0 := za.mk (blk_new w (.cells #[.slice none 0 0, .slice none 0 0] 29))
    cases t with
    | false =>
      simp at h
      obtain ⟨rfl, rfl⟩ := h
      go_enter Try.func16, Try.ntmps16
      go_wp2_with (go_at_call 48; refine (zcp.calls A0 c0 l0 A1 c1 l1 false _ (Kd.zb8 HR0.out B0.out) HC0.out (Kd.zb8 HR1.out B0.out) HC1.out HS.out).mono ?_; rintro e w1 ⟨rfl, hb⟩; have BK1 := zbg K0.out hb; have r0 := (zh BK1 0); have r1 := (zh BK1 1); have f0 := zg BK1 0; have f1 := zg BK1 1; have BK := za.mk BK1; have HB := za.mk (zo B0.out hb); clear hb BK1)
      refine bodyPost_ret (results_cell_row rfl _ _ w.heap.size 29 #[.slice none 0 0, .slice none 0 0] (0, 0) _ rfl (by first | exact BK.out | (refine zbu (cs := #[.slice none 0 0, .slice none 0 0]) ?_ 1 _ rfl; refine zbu (cs := #[.slice none 0 0, .slice none 0 0]) ?_ 0 _ rfl; exact BK.out)) Try.underlying29 rfl (by kernel_rfl)) rfl ?_
      exact ⟨_, _, rfl, Kd.R_nil _ _ _ _ _, Kd.R_nil _ _ _ _ _, by first | exact HB.out | exact (HB.out.setCell (Nat.le_refl _) _).setCell (Nat.le_refl _) _⟩
    | true =>
      simp only [Option.bind_some, if_true] at h
      by_cases hl : l1.length ≤ 1000
      · rw [if_pos hl] at h
        have h := Option.some.inj h
        have e1 := congrArg Prod.fst h
        have e2 := congrArg Prod.snd h
        simp only at e1 e2
        subst e1 e2
        clear h
        have S0 := za.mk (show w.heap.size < (w.alloc (.cells #[.slice none 0 0, .slice none 0 0] 29)).heap.size by simp)
        have HSM := za.mk (fun (W : World) (hb1 : Below (w.alloc (.cells #[.slice none 0 0, .slice none 0 0] 29)).heap.size (w.alloc (.cells #[.slice none 0 0, .slice none 0 0] 29)) W) => simulate_calls (edfD l1) 54 #[] #[] (enters_of Try.func54 (by kernel_rfl) rfl) A1 c1 l1 W (Kd.zb8 (Kd.zb8 HR1.out B0.out) hb1) hl (edfD_rng l1)
          (fun W2 g D cd dn t htl hb hM => edf_calls g A1 c1 l1 D cd dn (t : Int) W2 hM))
        go_enter Try.func16, Try.ntmps16
        go_wp2_with (first
          | (go_at_call 48; refine (zcp.calls A0 c0 l0 A1 c1 l1 true _ (Kd.zb8 HR0.out B0.out) HC0.out (Kd.zb8 HR1.out B0.out) HC1.out HS.out).mono ?_; rintro e w1 ⟨rfl, hb⟩; have HB := za.mk hb; have BK1 := za.mk (zbg K0.out hb); clear hb)
          | (go_at_call 49; refine (HSM.out w1 HB.out).mono ?_; rintro e w2 ⟨v0, v1, rfl, hR0, hR1, hb⟩; obtain ⟨X0, y0, ev⟩ := Kd.zbs hR0; subst ev; obtain ⟨X1, y1, ev⟩ := Kd.zbs hR1; subst ev; have H0 := za.mk hR0; have H1 := za.mk hR1; have S1 := za.mk (Nat.lt_of_lt_of_le S0.out HB.out.size); have HB2 := za.mk (zb7 B0.out B0.out.size (zb7 HB.out HB.out.size hb)); have BK2 := zbg BK1.out hb; have r0 := (zh BK2 0); have r1 := (zh BK2 1); have f0 := zg BK2 0; have f1 := zg BK2 1; have BK := za.mk BK2; clear hR0 hR1 hb BK2))
        refine bodyPost_ret (results_cell_row rfl _ _ w.heap.size 29 #[.slice X0 (simR (edfD l1) l1).1.length y0, .slice X1 (simR (edfD l1) l1).2.length y1] (0, 0) _ rfl (by refine zbu (cs := #[.slice X0 (simR (edfD l1) l1).1.length y0, .slice none 0 0]) ?_ 1 _ rfl; refine zbu (cs := #[.slice none 0 0, .slice none 0 0]) ?_ 0 _ rfl; exact BK.out) Try.underlying29 rfl (by kernel_rfl)) rfl ?_
        exact ⟨_, _, rfl, Kd.zb2 (Kd.zy (R_cells2 S1.out H0.out _ _) (fun k hk => hk.2)) (Nat.le_of_lt S1.out), Kd.zb2 (Kd.zy (R_cells2 S1.out H1.out _ _) (fun k hk => hk.2)) (Nat.le_of_lt S1.out), (HB2.out.setCell (Nat.le_refl _) _).setCell (Nat.le_refl _) _⟩
      · rw [if_neg hl] at h
        cases h
def zf (w0 W : World) (g : Nat) (f0 : List Int) (f1 : Int) : Prop := ∃ A0 c0, W.heap[g]? = some (.cells #[.slice A0 f0.length c0, .int .i64 f1] 110 (0, 0)) ∧ w0.heap.size ≤ g ∧ Kd.C (Kd.int .u8) w0 A0 f0.length f0
theorem zf.grown {w0 W : World} {g : Nat} {f0 : List Int} {f1 : Int} {W1 : World} {row : Option Nat} (h : zf w0 W g f0 f1) (hw : W.grownBy W1 row) (hne : some g ≠ row) : zf w0 W1 g f0 f1 := by
 obtain ⟨A0, c0, hb, hg, hr0⟩ := h
 exact ⟨A0, c0, zbr hb hw hne, hg, hr0⟩
theorem zf.kept {w0 W : World} {g : Nat} {f0 : List Int} {f1 : Int} {W1 : World} {S : Nat → Prop} (h : zf w0 W g f0 f1) (hk : Kept W W1 S) (hne : ¬ S g) : zf w0 W1 g f0 f1 := by
 obtain ⟨A0, c0, hb, hg, hr0⟩ := h
 exact ⟨A0, c0, blk_kept hb hk hne, hg, hr0⟩
theorem zf.below {w0 W : World} {g : Nat} {f0 : List Int} {f1 : Int} {W1 : World} (h : zf w0 W g f0 f1) (hw : Below W.heap.size W W1) : zf w0 W1 g f0 f1 := h.grown (grown_of_below hw none) (by simp)
theorem zf.alloc {w0 W : World} {g : Nat} {f0 : List Int} {f1 : Int} (h : zf w0 W g f0 f1) (o : Obj) : zf w0 (W.alloc o) g f0 f1 := h.below (zbn (Below.refl _ _) o)
theorem zf.drewN {w0 W : World} {g : Nat} {f0 : List Int} {f1 : Int} (h : zf w0 W g f0 f1) (m : Nat) : zf w0 (W.drewN m) g f0 f1 := h
theorem zf.drew {w0 W : World} {g : Nat} {f0 : List Int} {f1 : Int} (h : zf w0 W g f0 f1) : zf w0 W.drew g f0 f1 := h
theorem zf.at_ {w0 W : World} {g : Nat} {f0 : List Int} {f1 : Int} {w' : World} {m : Nat} (hq : W.drewN m = w') (h : zf w0 W g f0 f1) : zf w0 w' g f0 f1 := by subst hq; exact zf.drewN h m
theorem zf.apart {w0 W : World} {g : Nat} {f0 : List Int} {f1 : Int} {α : Type} {d : Kd α} {e : Nat} {base : Nat} {ok : Nat → Prop} {v : Value} {xs : List α} (h : zf w0 W g f0 f1) (ho : d.R e W base ok v xs) (ht : ∀ q, q ∈ e :: d.E → q ≠ 110) : d.R e W base (fun k => ok k ∧ k ≠ g) v xs := by
 obtain ⟨A0, c0, hb, hg, hr0⟩ := h
 exact Kd.zb5 ho hb ht
theorem zf.own_ne {w0 W : World} {g : Nat} {f0 : List Int} {f1 : Int} {α : Type} {d : Kd α} {e : Nat} {base : Nat} {ok : Nat → Prop} {v : Value} {xs : List α} (h : zf w0 W g f0 f1) (ho : d.R e W base ok v xs) (ht : e ≠ 110) : some g ≠ v.ownBlock := by
 obtain ⟨A0, c0, hb, hg, hr0⟩ := h
 exact Kd.R_ne ho hb ht
theorem zf.lt {w0 W : World} {g : Nat} {f0 : List Int} {f1 : Int} (h : zf w0 W g f0 f1) : g < W.heap.size := by
 obtain ⟨A0, c0, hb, hg, hr0⟩ := h
 exact zcz hb
theorem zf.ge {w0 W : World} {g : Nat} {f0 : List Int} {f1 : Int} (h : zf w0 W g f0 f1) : w0.heap.size ≤ g := by
 obtain ⟨A0, c0, hb, hg, hr0⟩ := h
 exact hg
theorem zf.ne_blk {w0 W : World} {g : Nat} {f0 : List Int} {f1 : Int} {a : Nat} {cs : Array Value} {t : TypeId} {fr : Nat × Nat} (h : zf w0 W g f0 f1) (hb2 : W.heap[a]? = some (.cells cs t fr)) (ht : t ≠ 110) : g ≠ a := by
 obtain ⟨A0, c0, hb, hg, hr0⟩ := h
 rintro rfl
 rw [hb] at hb2
 injection hb2 with hb2
 injection hb2 with _ ht2
 exact ht ht2.symm
theorem zf.far {w0 W : World} {g : Nat} {f0 : List Int} {f1 : Int} {p : Addr} (h : zf w0 W g f0 f1) (hne : g ≠ p.block) (u : Value) : zf w0 (W.setCell p u) g f0 f1 := by
 obtain ⟨A0, c0, hb, hg, hr0⟩ := h
 exact ⟨A0, c0, zcl hb hne u, hg, hr0⟩
theorem cellS110_0 {W : World} {g : Nat} {A0 : Option Addr} {c0 : Nat} {f0 : List Int} {f1 : Int} (h : W.heap[g]? = some (.cells #[.slice A0 f0.length c0, .int .i64 f1] 110 (0, 0))) : W.cell? ⟨g, 0, none⟩ = some (.slice A0 f0.length c0) := (zh h 0).trans rfl
theorem cellS110_1 {W : World} {g : Nat} {A0 : Option Addr} {c0 : Nat} {f0 : List Int} {f1 : Int} (h : W.heap[g]? = some (.cells #[.slice A0 f0.length c0, .int .i64 f1] 110 (0, 0))) : W.cell? ⟨g, 1, none⟩ = some (.int .i64 f1) := (zh h 1).trans rfl
theorem zf.set_1 {w0 W : World} {g : Nat} {f0 : List Int} {f1 : Int} (h : zf w0 W g f0 f1) (x : Int) : zf w0 (W.setCell ⟨g, 1, none⟩ (.int .i64 x)) g f0 x := by
 obtain ⟨A0, c0, hb, hg, hr0⟩ := h
 exact ⟨A0, c0, by simpa using blk_set hb 1 (.int .i64 x), hg, hr0⟩
theorem zf.new (w0 W : World) (A0 : Option Addr) (c0 : Nat) (f0 : List Int) (f1 : Int) (hB : Below w0.heap.size w0 W) (hr0 : Kd.C (Kd.int .u8) w0 A0 f0.length f0) : zf w0 (W.alloc (.cells #[.slice A0 f0.length c0, .int .i64 f1] 110)) W.heap.size f0 f1 := ⟨A0, c0, by simpa using heap_alloc_new W _, hB.size, hr0⟩
def zdm.f (l0 : List Int) : Option (List Int × Int) := if (l0.length : Int) > 2000 then (if 2000 ≤ (l0.length : Int) then (some (l0.take 2000, 0)) else (none)) else (some (l0, 0))
set_option maxHeartbeats 8000000 in
set_option maxRecDepth 100000 in
theorem zdm.calls (A0 : Option Addr) (c0 : Nat) (l0 : List Int) (r1 : List Int) (r2 : Int) (w0 w : World) (hB : Below w0.heap.size w0 w) (hr0 : Kd.C (Kd.int .u8) w0 A0 l0.length l0) (hc0 : l0.length ≤ c0) (h : zdm.f l0 = some (r1, r2)) :
  Calls Try.prog 44 #[.slice A0 l0.length c0] w fun e w' => ∃ g_ : Nat, e = .returned (.pointer (some ⟨g_, 0, none⟩)) ∧ zf w0 w' g_ r1 r2 ∧ Below w0.heap.size w0 w' ∧ Below w.heap.size w w' := by
 have hu110 := Try.underlying110
 have HR0 := za.mk hr0
 have HC0 := za.mk hc0
 clear hr0 hc0
 have HBW := za.mk (Below.refl w.heap.size w)
 have HW0 := za.mk hB.size
 have HB := za.mk hB
 clear hB
 have H : (if (l0.length : Int) > 2000 then (if 2000 ≤ (l0.length : Int) then (some (l0.take 2000, 0)) else (none)) else (some (l0, 0))) = some (r1, r2) := h
 clear h
 by_cases c2 : (l0.length : Int) > 2000
 ·rw [if_pos c2] at H
  have c2b0 : decide (2000 < (l0.length : Int)) = true := decide_eq_true c2
  have c2b1 : decide (2000 < l0.length) = true := decide_eq_true (by omega)
  clear c2
  by_cases c3 : 2000 ≤ (l0.length : Int)
  ·rw [if_pos c3] at H
   have c3b0 := eq_true c3
   have c3b1 : decide (2000 ≤ (l0.length : Int)) = true := decide_eq_true c3
   clear c3
   simp only [Option.some.injEq, Prod.mk.injEq] at H
   obtain ⟨rfl, rfl⟩ := H
   obtain ⟨i04, hi04, _, hsz4, _⟩ := info_parts info5
   obtain ⟨hcut4, hA4, hC4⟩ := print_take_of (P := Try.prog) (Value.int .u8) 0 22 5 .i64 Try.underlying22 hi04 hsz4 A0 c0 l0 2000 (by omega) (of_decide_eq_true Zas) HC0.out
   have HR101 := za.mk (Kd.C_of_reads (h1 := fun _ => rfl) (hA4 _ (Kd.reads_of_C HR0.out)))
   have HC101 := za.mk hC4
   clear hA4 hC4 hi04 hsz4
   go_enter Try.func44, Try.ntmps44
   go_wp2_with (first | ((with_reducible refine zbp (N := 10) rfl ?_); refine zb1 ?hg (N := 10) ?hd (cs := #[.slice A0 (l0.take 2000).length c0, .int .i64 0]) (t := 110) ?hr ?_; (case hd => rfl); (case hg => rfl); (case hr => first | (go_simp; done) | (go_simp; rfl)); intro gb102 hg w5 hbox hb; have n0_ := za.mk (zo HBW.out hb); have n1_ := za.mk (zo (Zq3 HB.out) hb); have n2_ := za.mk (hbox); have n3_ := za.mk ((by rw [hg]; exact (zbb (Zq3 HBW.out)) : w.heap.size ≤ gb102)); have n4_ := za.mk ((Nat.le_trans HW0.out (by rw [hg]; exact (zbb (Zq3 HBW.out)) : w.heap.size ≤ gb102) : w0.heap.size ≤ gb102)); clear HBW; clear HB; have HBW := n0_; have HB := n1_; have BK102 := n2_; have GW102 := n3_; have GE102 := n4_; clear n0_ n1_ n2_ n3_ n4_; clear hb hbox hg))
   go_ret
   exact ⟨_, rfl, (show zf w0 _ gb102 (l0.take 2000) 0 from ⟨_, _, Zq4 BK102.out, GE102.out, HR101.out⟩), Zq5 HB.out GE102.out, Zq5 HBW.out GW102.out⟩
  ·rw [if_neg c3] at H
   exact absurd H (by simp)
 ·rw [if_neg c2] at H
  have c2b0 : decide (2000 < (l0.length : Int)) = false := decide_eq_false c2
  have c2b1 : decide (2000 < l0.length) = false := decide_eq_false (by omega)
  clear c2
  simp only [Option.some.injEq, Prod.mk.injEq] at H
  obtain ⟨rfl, rfl⟩ := H
  go_enter Try.func44, Try.ntmps44
  go_wp2_with (first | ((with_reducible refine zbp (N := 10) rfl ?_); refine zb1 ?hg (N := 10) ?hd (cs := #[.slice A0 l0.length c0, .int .i64 0]) (t := 110) ?hr ?_; (case hd => rfl); (case hg => rfl); (case hr => first | (go_simp; done) | (go_simp; rfl)); intro gb103 hg w6 hbox hb; have n0_ := za.mk (zo HBW.out hb); have n1_ := za.mk (zo (Zq3 HB.out) hb); have n2_ := za.mk (hbox); have n3_ := za.mk ((by rw [hg]; exact (zbb (Zq3 HBW.out)) : w.heap.size ≤ gb103)); have n4_ := za.mk ((Nat.le_trans HW0.out (by rw [hg]; exact (zbb (Zq3 HBW.out)) : w.heap.size ≤ gb103) : w0.heap.size ≤ gb103)); clear HBW; clear HB; have HBW := n0_; have HB := n1_; have BK103 := n2_; have GW103 := n3_; have GE103 := n4_; clear n0_ n1_ n2_ n3_ n4_; clear hb hbox hg))
  go_ret
  exact ⟨_, rfl, (show zf w0 _ gb103 l0 0 from ⟨_, _, Zq4 BK103.out, GE103.out, HR0.out⟩), Zq5 HB.out GE103.out, Zq5 HBW.out GW103.out⟩
theorem Zq8 {X0 P : Prop} (x0 : X0) (h : X0 → P := by intro x0; repeat (first | (with_reducible first | exact x0 | apply zf.alloc | apply zf.drewN | apply zf.drew | apply zf.set_1) | exact x0)) : P := h x0
theorem Zq9 {X0 P : Prop} (x0 : X0) (h : X0 → P := by intro x0; repeat (first | (with_reducible first | exact x0 | apply zi.set_ | apply keep_drewN | apply keep_drew | apply keep_alloc) | exact x0)) : P := h x0
def zb.j0 : Nat → Int → Bool → List Int → Int → Option (Int × Int)
 | 0, _, _, _, _ => none
 | k + 1, x1, x24, x1000, x1001 => if x24 = true then (some (0, x1001)) else (if (wrap64 (x1001 - 1)) < (x1000.length : Int) then (if 0 ≤ (wrap64 (x1001 - 1)) then (if x1 = 0 then (none) else (some (Int.tmod (wrap64 (rd x1000 (wrap64 (x1001 - 1)))) x1, x1001))) else (none)) else (if (x1000.length : Int) = 0 then (none) else (if 0 ≤ (Int.tmod (wrap64 (x1001 - 1)) (x1000.length : Int)) then (if (Int.tmod (wrap64 (x1001 - 1)) (x1000.length : Int)) < (x1000.length : Int) then (if 0 ≤ (Int.tmod (wrap64 ((wrap64 ((wrap64 (x1001 - 1)) * 7)) + 3)) (x1000.length : Int)) then (if (Int.tmod (wrap64 ((wrap64 ((wrap64 (x1001 - 1)) * 7)) + 3)) (x1000.length : Int)) < (x1000.length : Int) then (if x1 = 0 then (none) else (some (Int.tmod (Go.bits .xor .i64 (wrap64 ((wrap64 ((wrap64 ((wrap64 ((wrap64 (rd x1000 (Int.tmod (wrap64 (x1001 - 1)) (x1000.length : Int)))) * 131)) + (wrap64 ((wrap64 (rd x1000 (Int.tmod (wrap64 ((wrap64 ((wrap64 (x1001 - 1)) * 7)) + 3)) (x1000.length : Int)))) * 1117)))) + (wrap64 ((wrap64 (x1001 - 1)) * 29)))) + (wrap64 ((wrap64 (Int.tdiv (wrap64 (x1001 - 1)) (x1000.length : Int))) * 53)))) (wrap64 (Int.tdiv (wrap64 ((wrap64 ((wrap64 ((wrap64 ((wrap64 (rd x1000 (Int.tmod (wrap64 (x1001 - 1)) (x1000.length : Int)))) * 131)) + (wrap64 ((wrap64 (rd x1000 (Int.tmod (wrap64 ((wrap64 ((wrap64 (x1001 - 1)) * 7)) + 3)) (x1000.length : Int)))) * 1117)))) + (wrap64 ((wrap64 (x1001 - 1)) * 29)))) + (wrap64 ((wrap64 (Int.tdiv (wrap64 (x1001 - 1)) (x1000.length : Int))) * 53)))) 64))) x1, x1001))) else (none)) else (none)) else (none)) else (none))))
def zb.f (k : Nat) (s0_0 : List Int) (s0_1 : Int) (a1 : Int) : Option (Int × Int) := if a1 < 1 then (zb.j0 k a1 true s0_0 (wrap64 (s0_1 + 1))) else (zb.j0 k a1 ((s0_0.length : Int) == 0) s0_0 (wrap64 (s0_1 + 1)))
theorem zb.mono_l : ∀ k, (∀ y0 y1 y2 y3, LeO (zb.j0 k y0 y1 y2 y3) (zb.j0 (k + 1) y0 y1 y2 y3))
 | 0 => fun _ _ _ _ r h => by simp [zb.j0] at h
 | k + 1 => by
  have ih0 := zb.mono_l k
  ·intro y0 y1 y2 y3
   unfold zb.j0
   repeat' first
   | (with_reducible exact ih0 _ _ _ _)
   | (with_reducible exact LeO.refl _)
   | (with_reducible exact LeO.none _)
   | (with_reducible refine LeO.ite ?_ ?_)
   | (with_reducible refine LeO.bind ?_ (fun _ => ?_))
   | exact ih0 _ _ _ _
   | exact LeO.none _
   | refine LeO.ite ?_ ?_
   | refine LeO.bind ?_ (fun _ => ?_)
theorem zb.mono : ∀ a0 a1 a2 k, LeO (zb.f k a0 a1 a2) (zb.f (k + 1) a0 a1 a2) := by
 intro a0 a1 a2 k
 have ih0 := zb.mono_l k
 unfold zb.f
 repeat' first
   | (with_reducible exact ih0 _ _ _ _)
   | (with_reducible exact LeO.refl _)
   | (with_reducible exact LeO.none _)
   | (with_reducible refine LeO.ite ?_ ?_)
   | (with_reducible refine LeO.bind ?_ (fun _ => ?_))
   | exact ih0 _ _ _ _
   | exact LeO.none _
   | refine LeO.ite ?_ ?_
   | refine LeO.bind ?_ (fun _ => ?_)
set_option maxHeartbeats 8000000 in
set_option maxRecDepth 100000 in
theorem zb.calls (k : Nat) (g : Nat) (s0_0 : List Int) (s0_1 : Int) (a1 : Int) (r1 : Int) (r2 : Int) (w0 w : World) (hI : zf w0 w g s0_0 s0_1) (hB : Below w0.heap.size w0 w) (h : zb.f k s0_0 s0_1 a1 = some (r1, r2)) :
  Calls Try.prog 68 #[.pointer (some ⟨g, 0, none⟩), .int .i64 a1] w fun e w' => e = .returned (.int .i64 r1) ∧ zf w0 w' g s0_0 r2 ∧ Below w0.heap.size w0 w' ∧ zi w w' g none := by
 have HI0 := za.mk hI
 have HK := za.mk (zi.refl w g none)
 have HL := za.mk hB.size
 clear hI
 have HW0 := za.mk hB.size
 have HB := za.mk hB
 clear hB
 have H : (if a1 < 1 then (zb.j0 k a1 true s0_0 (wrap64 (s0_1 + 1))) else (zb.j0 k a1 ((s0_0.length : Int) == 0) s0_0 (wrap64 (s0_1 + 1)))) = some (r1, r2) := h
 clear h
 have HC3 := za.mk H
 clear H
 obtain ⟨ASz4_0, cSz4_0, HGz4, hgz4, HSz4_0⟩ := HI0.out
 have hcz4_0 := cellS110_0 HGz4
 have hcz4_1 := cellS110_1 HGz4
 have hfz4_1 := zg HGz4 1
 clear HGz4 hgz4
 go_enter Try.func68, Try.ntmps68
 go_upto_region 2 with (fail)
 repeat (go_quiet (fail); go_upto_region 2 with (fail))
 go_cut [24] (fun v24 wc => ∃ (kq : Nat) (x24_2 : Bool), v24 = .bool x24_2 ∧ za (zb.j0 kq a1 x24_2 s0_0 (wrap64 (s0_1 + 1)) = some (r1, r2)) ∧ za (kq ≤ k) ∧ za (zf w0 wc g s0_0 (wrap64 (s0_1 + 1))) ∧ za (zi w wc g none) ∧ za (Below w0.heap.size w0 wc))
 case first =>
  have H := HC3.out
  clear HC3
  by_cases c5 : a1 < 1
  ·rw [if_pos c5] at H
   have c5b0 : decide (a1 < 1) = true := decide_eq_true c5
   clear c5
   (first | rw [c5b0] | (simp only [zbq, zbt]; rw [c5b0]) | skip)
   have H' := za.mk H
   clear H
   go_wp2
   repeat (go_quiet (fail); try go_wp2)
   go_meet
   case rel => exact ⟨_, (true), Zrs, H', ⟨by first | omega | exact Nat.le_refl _⟩, ⟨Zq8 HI0.out⟩, ⟨Zq9 HK.out⟩, ⟨Zq5 HB.out (zf.ge HI0.out)⟩⟩
  ·rw [if_neg c5] at H
   have c5b0 : decide (a1 < 1) = false := decide_eq_false c5
   clear c5
   (first | rw [c5b0] | (simp only [zbq, zbt]; rw [c5b0]) | skip)
   have H' := za.mk H
   clear H
   obtain ⟨ASz6_0, cSz6_0, HGz6, hgz6, HSz6_0⟩ := HI0.out
   have hcz6_0 := cellS110_0 HGz6
   have hcz6_1 := cellS110_1 HGz6
   have hfz6_1 := zg HGz6 1
   clear HGz6 hgz6
   go_wp2
   repeat (go_quiet (fail); try go_wp2)
   go_meet
   case rel => exact ⟨_, (((s0_0.length : Int) == 0)), Zrs, H', ⟨by first | omega | exact Nat.le_refl _⟩, ⟨Zq8 HI0.out⟩, ⟨Zq9 HK.out⟩, ⟨Zq5 HB.out (zf.ge HI0.out)⟩⟩
 case rest =>
  clear HC3
  try clear p2
  try clear c5
  try clear c5b0
  try clear c6
  try clear p6
  try clear hcz4_0
  try clear hcz4_1
  try clear hcz6_0
  try clear hcz6_1
  try clear hfz4_1
  try clear hfz6_1
  obtain ⟨kq, x24_2, rfl, HA, HJ2, HI0, HK, HB⟩ := hcut
  cases kq with
  | zero => exact absurd HA.out (by simp [zb.j0])
  | succ kj2 =>
   have H := HA.out
   clear HA
   simp only [zb.j0] at H
   by_cases c7 : x24_2 = true
   ·subst c7
    have H1 : (some (0, (wrap64 (s0_1 + 1)))) = some (r1, r2) := by rw [if_pos rfl] at H; exact H
    clear H
    have H := H1
    clear H1
    simp only [Option.some.injEq, Prod.mk.injEq] at H
    obtain ⟨rfl, rfl⟩ := H
    go_wp2
    repeat (go_quiet (fail); try go_wp2)
    go_ret
    exact ⟨by first | rfl | (simp [zbc, zbd] <;> rfl) | (simp [*, zbc, zbd] <;> rfl), Zq8 HI0.out, Zq5 HB.out (zf.ge HI0.out), Zq9 HK.out⟩
   ·replace c7 := Bool.eq_false_iff.mpr c7
    subst c7
    have H1 : (if (wrap64 ((wrap64 (s0_1 + 1)) - 1)) < (s0_0.length : Int) then (if 0 ≤ (wrap64 ((wrap64 (s0_1 + 1)) - 1)) then (if a1 = 0 then (none) else (some (Int.tmod (wrap64 (rd s0_0 (wrap64 ((wrap64 (s0_1 + 1)) - 1)))) a1, (wrap64 (s0_1 + 1))))) else (none)) else (if (s0_0.length : Int) = 0 then (none) else (if 0 ≤ (Int.tmod (wrap64 ((wrap64 (s0_1 + 1)) - 1)) (s0_0.length : Int)) then (if (Int.tmod (wrap64 ((wrap64 (s0_1 + 1)) - 1)) (s0_0.length : Int)) < (s0_0.length : Int) then (if 0 ≤ (Int.tmod (wrap64 ((wrap64 ((wrap64 ((wrap64 (s0_1 + 1)) - 1)) * 7)) + 3)) (s0_0.length : Int)) then (if (Int.tmod (wrap64 ((wrap64 ((wrap64 ((wrap64 (s0_1 + 1)) - 1)) * 7)) + 3)) (s0_0.length : Int)) < (s0_0.length : Int) then (if a1 = 0 then (none) else (some (Int.tmod (Go.bits .xor .i64 (wrap64 ((wrap64 ((wrap64 ((wrap64 ((wrap64 (rd s0_0 (Int.tmod (wrap64 ((wrap64 (s0_1 + 1)) - 1)) (s0_0.length : Int)))) * 131)) + (wrap64 ((wrap64 (rd s0_0 (Int.tmod (wrap64 ((wrap64 ((wrap64 ((wrap64 (s0_1 + 1)) - 1)) * 7)) + 3)) (s0_0.length : Int)))) * 1117)))) + (wrap64 ((wrap64 ((wrap64 (s0_1 + 1)) - 1)) * 29)))) + (wrap64 ((wrap64 (Int.tdiv (wrap64 ((wrap64 (s0_1 + 1)) - 1)) (s0_0.length : Int))) * 53)))) (wrap64 (Int.tdiv (wrap64 ((wrap64 ((wrap64 ((wrap64 ((wrap64 (rd s0_0 (Int.tmod (wrap64 ((wrap64 (s0_1 + 1)) - 1)) (s0_0.length : Int)))) * 131)) + (wrap64 ((wrap64 (rd s0_0 (Int.tmod (wrap64 ((wrap64 ((wrap64 ((wrap64 (s0_1 + 1)) - 1)) * 7)) + 3)) (s0_0.length : Int)))) * 1117)))) + (wrap64 ((wrap64 ((wrap64 (s0_1 + 1)) - 1)) * 29)))) + (wrap64 ((wrap64 (Int.tdiv (wrap64 ((wrap64 (s0_1 + 1)) - 1)) (s0_0.length : Int))) * 53)))) 64))) a1, (wrap64 (s0_1 + 1))))) else (none)) else (none)) else (none)) else (none)))) = some (r1, r2) := by rw [if_neg (show ¬ (false = true) by decide)] at H; exact H
    clear H
    have H := H1
    clear H1
    by_cases c8 : (wrap64 ((wrap64 (s0_1 + 1)) - 1)) < (s0_0.length : Int)
    ·rw [if_pos c8] at H
     have c8b0 : decide ((wrap64 ((wrap64 (s0_1 + 1)) - 1)) < (s0_0.length : Int)) = true := decide_eq_true c8
     clear c8
     obtain ⟨ji9, hji9⟩ : ∃ j_ : Int, (wrap64 ((wrap64 (s0_1 + 1)) - 1)) = j_ := ⟨_, rfl⟩
     replace H : (if 0 ≤ (ji9) then (if a1 = 0 then (none) else (some (Int.tmod (wrap64 (rd s0_0 (ji9))) a1, (wrap64 (s0_1 + 1))))) else (none)) = some (r1, r2) := by first | (rw [hji9] at H; exact H) | (simp only [hji9] at H ⊢; exact H)
     (try rw [hji9] at c8b0)
     have hji9w : (IntKind.i64.wrap ((wrap64 (s0_1 + 1)) - 1)) = ji9 := (zbq _).trans hji9
     by_cases c10 : 0 ≤ (ji9)
     ·rw [if_pos c10] at H
      have c10b0 : decide (0 ≤ (ji9)) = true := decide_eq_true c10
      clear c10
      by_cases c11 : a1 = 0
      ·rw [if_pos c11] at H
       exact absurd H (by simp)
      ·rw [if_neg c11] at H
       have c11b0 : (a1 == 0) = false := beq_eq_false_iff_ne.mpr c11
       have c11b1 : (a1 != 0) = true := bne_iff_ne.mpr c11
       simp only [Option.some.injEq, Prod.mk.injEq] at H
       obtain ⟨rfl, rfl⟩ := H
       obtain ⟨ASz12_0, cSz12_0, HGz12, hgz12, HSz12_0⟩ := HI0.out
       have hcz12_0 := cellS110_0 HGz12
       have hcz12_1 := cellS110_1 HGz12
       have hfz12_1 := zg HGz12 1
       clear HGz12 hgz12
       have p104 : 0 ≤ ((ji9) : Int) := of_decide_eq_true Zas
       have q104 : (ji9) < (s0_0.length : Int) := of_decide_eq_true Zas
       obtain ⟨ad104, e104, hx104_0⟩ := Kd.zcn HSz12_0 (ji9) p104 q104
       cases e104
       replace hx104_0 := zdu HB.out hx104_0
       replace p104 := eq_true p104
       replace q104 := eq_true q104
       go_wp2
       repeat (go_quiet (fail); try go_wp2)
       go_ret
       exact ⟨by first | rfl | (simp [zbc, zbd] <;> rfl) | (simp only [← hji9]; first | rfl | (simp [zbc, zbd] <;> rfl)) | (simp [*, zbc, zbd] <;> rfl), Zq8 HI0.out, Zq5 HB.out (zf.ge HI0.out), Zq9 HK.out⟩
     ·rw [if_neg c10] at H
      exact absurd H (by simp)
    ·rw [if_neg c8] at H
     have c8b0 : decide ((wrap64 ((wrap64 (s0_1 + 1)) - 1)) < (s0_0.length : Int)) = false := decide_eq_false c8
     clear c8
     by_cases c13 : (s0_0.length : Int) = 0
     ·rw [if_pos c13] at H
      exact absurd H (by simp)
     ·rw [if_neg c13] at H
      have c13b0 : ((s0_0.length : Int) == 0) = false := beq_eq_false_iff_ne.mpr c13
      have c13b1 : ((s0_0.length : Int) != 0) = true := bne_iff_ne.mpr c13
      have c13b2 : ¬ (s0_0 = []) := fun h_ => c13 (by rw [h_]; rfl)
      obtain ⟨ji14, hji14⟩ : ∃ j_ : Int, (Int.tmod (wrap64 ((wrap64 (s0_1 + 1)) - 1)) (s0_0.length : Int)) = j_ := ⟨_, rfl⟩
      replace H : (if 0 ≤ (ji14) then (if (ji14) < (s0_0.length : Int) then (if 0 ≤ (Int.tmod (wrap64 ((wrap64 ((wrap64 ((wrap64 (s0_1 + 1)) - 1)) * 7)) + 3)) (s0_0.length : Int)) then (if (Int.tmod (wrap64 ((wrap64 ((wrap64 ((wrap64 (s0_1 + 1)) - 1)) * 7)) + 3)) (s0_0.length : Int)) < (s0_0.length : Int) then (if a1 = 0 then (none) else (some (Int.tmod (Go.bits .xor .i64 (wrap64 ((wrap64 ((wrap64 ((wrap64 ((wrap64 (rd s0_0 (ji14))) * 131)) + (wrap64 ((wrap64 (rd s0_0 (Int.tmod (wrap64 ((wrap64 ((wrap64 ((wrap64 (s0_1 + 1)) - 1)) * 7)) + 3)) (s0_0.length : Int)))) * 1117)))) + (wrap64 ((wrap64 ((wrap64 (s0_1 + 1)) - 1)) * 29)))) + (wrap64 ((wrap64 (Int.tdiv (wrap64 ((wrap64 (s0_1 + 1)) - 1)) (s0_0.length : Int))) * 53)))) (wrap64 (Int.tdiv (wrap64 ((wrap64 ((wrap64 ((wrap64 ((wrap64 (rd s0_0 (ji14))) * 131)) + (wrap64 ((wrap64 (rd s0_0 (Int.tmod (wrap64 ((wrap64 ((wrap64 ((wrap64 (s0_1 + 1)) - 1)) * 7)) + 3)) (s0_0.length : Int)))) * 1117)))) + (wrap64 ((wrap64 ((wrap64 (s0_1 + 1)) - 1)) * 29)))) + (wrap64 ((wrap64 (Int.tdiv (wrap64 ((wrap64 (s0_1 + 1)) - 1)) (s0_0.length : Int))) * 53)))) 64))) a1, (wrap64 (s0_1 + 1))))) else (none)) else (none)) else (none)) else (none)) = some (r1, r2) := by first | (rw [hji14] at H; exact H) | (simp only [hji14] at H ⊢; exact H)
      by_cases c15 : 0 ≤ (ji14)
      ·rw [if_pos c15] at H
       have c15b0 : decide (0 ≤ (ji14)) = true := decide_eq_true c15
       clear c15
       by_cases c16 : (ji14) < (s0_0.length : Int)
       ·rw [if_pos c16] at H
        have c16b0 : decide ((ji14) < (s0_0.length : Int)) = true := decide_eq_true c16
        clear c16
        obtain ⟨ji17, hji17⟩ : ∃ j_ : Int, (Int.tmod (wrap64 ((wrap64 ((wrap64 ((wrap64 (s0_1 + 1)) - 1)) * 7)) + 3)) (s0_0.length : Int)) = j_ := ⟨_, rfl⟩
        replace H : (if 0 ≤ (ji17) then (if (ji17) < (s0_0.length : Int) then (if a1 = 0 then (none) else (some (Int.tmod (Go.bits .xor .i64 (wrap64 ((wrap64 ((wrap64 ((wrap64 ((wrap64 (rd s0_0 (ji14))) * 131)) + (wrap64 ((wrap64 (rd s0_0 (ji17))) * 1117)))) + (wrap64 ((wrap64 ((wrap64 (s0_1 + 1)) - 1)) * 29)))) + (wrap64 ((wrap64 (Int.tdiv (wrap64 ((wrap64 (s0_1 + 1)) - 1)) (s0_0.length : Int))) * 53)))) (wrap64 (Int.tdiv (wrap64 ((wrap64 ((wrap64 ((wrap64 ((wrap64 (rd s0_0 (ji14))) * 131)) + (wrap64 ((wrap64 (rd s0_0 (ji17))) * 1117)))) + (wrap64 ((wrap64 ((wrap64 (s0_1 + 1)) - 1)) * 29)))) + (wrap64 ((wrap64 (Int.tdiv (wrap64 ((wrap64 (s0_1 + 1)) - 1)) (s0_0.length : Int))) * 53)))) 64))) a1, (wrap64 (s0_1 + 1))))) else (none)) else (none)) = some (r1, r2) := by first | (rw [hji17] at H; exact H) | (simp only [hji17] at H ⊢; exact H)
        by_cases c18 : 0 ≤ (ji17)
        ·rw [if_pos c18] at H
         have c18b0 : decide (0 ≤ (ji17)) = true := decide_eq_true c18
         clear c18
         by_cases c19 : (ji17) < (s0_0.length : Int)
         ·rw [if_pos c19] at H
          have c19b0 : decide ((ji17) < (s0_0.length : Int)) = true := decide_eq_true c19
          clear c19
          by_cases c20 : a1 = 0
          ·rw [if_pos c20] at H
           exact absurd H (by simp)
          ·rw [if_neg c20] at H
           have c20b0 : (a1 == 0) = false := beq_eq_false_iff_ne.mpr c20
           have c20b1 : (a1 != 0) = true := bne_iff_ne.mpr c20
           simp only [Option.some.injEq, Prod.mk.injEq] at H
           obtain ⟨rfl, rfl⟩ := H
           obtain ⟨ASz21_0, cSz21_0, HGz21, hgz21, HSz21_0⟩ := HI0.out
           have hcz21_0 := cellS110_0 HGz21
           have hcz21_1 := cellS110_1 HGz21
           have hfz21_1 := zg HGz21 1
           clear HGz21 hgz21
           have p105 : 0 ≤ ((ji14) : Int) := of_decide_eq_true Zas
           have q105 : (ji14) < (s0_0.length : Int) := of_decide_eq_true Zas
           obtain ⟨ad105, e105, hx105_0⟩ := Kd.zcn HSz21_0 (ji14) p105 q105
           cases e105
           replace hx105_0 := zdu HB.out hx105_0
           replace p105 := eq_true p105
           replace q105 := eq_true q105
           have p106 : 0 ≤ ((ji17) : Int) := of_decide_eq_true Zas
           have q106 : (ji17) < (s0_0.length : Int) := of_decide_eq_true Zas
           obtain ⟨ad106, e106, hx106_0⟩ := Kd.zcn HSz21_0 (ji17) p106 q106
           obtain rfl : ad105 = ad106 := (by injection e106)
           replace hx106_0 := zdu HB.out hx106_0
           replace p106 := eq_true p106
           replace q106 := eq_true q106
           go_wp2
           repeat (go_quiet (fail); try go_wp2)
           go_ret
           exact ⟨by first | rfl | (simp [zbc, zbd] <;> rfl) | (simp only [← hji14, ← hji17]; first | rfl | (simp [zbc, zbd] <;> rfl)) | (simp [*, zbc, zbd] <;> rfl), Zq8 HI0.out, Zq5 HB.out (zf.ge HI0.out), Zq9 HK.out⟩
         ·rw [if_neg c19] at H
          exact absurd H (by simp)
        ·rw [if_neg c18] at H
         exact absurd H (by simp)
       ·rw [if_neg c16] at H
        exact absurd H (by simp)
      ·rw [if_neg c15] at H
       exact absurd H (by simp)
def zbk.f (k : Nat) (s0_0 : List Int) (s0_1 : Int) (a1 : Int) : Option (Bool × Int) := if a1 > 0 then ((zb.f k s0_0 s0_1 a1).bind fun bt107 => (some ((bt107.1 == (wrap64 (a1 - 1))), bt107.2))) else (some (false, s0_1))
set_option maxHeartbeats 8000000 in
set_option maxRecDepth 100000 in
theorem zbk.calls (k : Nat) (g : Nat) (s0_0 : List Int) (s0_1 : Int) (a1 : Int) (r1 : Bool) (r2 : Int) (w0 w : World) (hI : zf w0 w g s0_0 s0_1) (hB : Below w0.heap.size w0 w) (h : zbk.f k s0_0 s0_1 a1 = some (r1, r2)) :
  Calls Try.prog 89 #[.pointer (some ⟨g, 0, none⟩), .int .i64 a1] w fun e w' => e = .returned (.bool r1) ∧ zf w0 w' g s0_0 r2 ∧ Below w0.heap.size w0 w' ∧ zi w w' g none := by
 have HI0 := za.mk hI
 have HK := za.mk (zi.refl w g none)
 have HL := za.mk hB.size
 clear hI
 have HW0 := za.mk hB.size
 have HB := za.mk hB
 clear hB
 have H : (if a1 > 0 then ((zb.f k s0_0 s0_1 a1).bind fun bt107 => (some ((bt107.1 == (wrap64 (a1 - 1))), bt107.2))) else (some (false, s0_1))) = some (r1, r2) := h
 clear h
 by_cases c3 : a1 > 0
 ·rw [if_pos c3] at H
  have c3b0 : decide (0 < a1) = true := decide_eq_true c3
  clear c3
  replace H := Option.bind_eq_some_iff.mp H
  obtain ⟨⟨t107, t108⟩, A40, H⟩ := H
  replace H : (some ((t107 == (wrap64 (a1 - 1))), t108)) = some (r1, r2) := H
  have A4 := za.mk A40
  clear A40
  simp only [Option.some.injEq, Prod.mk.injEq] at H
  obtain ⟨rfl, rfl⟩ := H
  go_enter Try.func89, Try.ntmps89
  go_wp2_with (first | (go_at_call 68; (with_reducible refine (zb.calls k g s0_0 s0_1 a1 t107 t108 w0 _ ?side1 ?side2 A4.out).mono ?_); (case side1 => exact Zq8 HI0.out); (case side2 => exact Zq5 HB.out (zf.ge HI0.out)); rintro e w5 ⟨rfl, hi, hb, hk⟩; have n0_ := za.mk (zi.trans (Zq9 HK.out) hk (.inl rfl)); have n1_ := za.mk (hb); have n2_ := za.mk (hi); clear HK; clear HB; clear HI0; have HK := n0_; have HB := n1_; have HI0 := n2_; clear n0_ n1_ n2_; (try clear hb); (try clear hb2); (try clear hk); (try clear hi)))
  go_ret
  exact ⟨by first | rfl | (simp [zbc, zbd] <;> rfl) | (simp [*, zbc, zbd] <;> rfl), Zq8 HI0.out, Zq5 HB.out (zf.ge HI0.out), Zq9 HK.out⟩
 ·rw [if_neg c3] at H
  have c3b0 : decide (0 < a1) = false := decide_eq_false c3
  clear c3
  simp only [Option.some.injEq, Prod.mk.injEq] at H
  obtain ⟨rfl, rfl⟩ := H
  go_enter Try.func89, Try.ntmps89
  go_wp2
  go_ret
  exact ⟨by first | rfl | (simp [zbc, zbd] <;> rfl) | (simp [*, zbc, zbd] <;> rfl), Zq8 HI0.out, Zq5 HB.out (zf.ge HI0.out), Zq9 HK.out⟩
theorem Zq10 {X0 X1 P : Prop} (x0 : X0) (x1 : X1) (h : X0 → X1 → P := by intro x0 x1; repeat (first | (with_reducible first | exact x0 | apply zf.alloc | apply zf.drewN | apply zf.drew | apply zf.set_1 | refine zf.far ?_ x1 _) | exact x0)) : P := h x0 x1
theorem Zq11 {X0 X1 P : Prop} (x0 : X0) (x1 : X1) (h : X0 → X1 → P := by intro x0 x1; repeat (first | (with_reducible first | exact x0 | apply zi.set_ | apply keep_drewN | apply keep_drew | apply keep_alloc | refine keep_far ?_ x1 _) | exact x0)) : P := h x0 x1
theorem Zq12 {X0 P : Prop} (x0 : X0) (h : X0 → P := by intro x0; (with_reducible repeat (first | apply Kd.zbi | apply Kd.zbh | apply Kd.zbj)); exact x0) : P := h x0
theorem Zq13 {X0 X1 X2 P : Prop} (x0 : X0) (x1 : X1) (x2 : X2) (h : X0 → X1 → X2 → P := by intro x0 x1 x2; repeat (first | (with_reducible first | exact x0 | apply zf.alloc | apply zf.drewN | apply zf.drew | apply zf.set_1 | refine zf.far ?_ x1 _ | refine zf.far ?_ x2 _) | exact x0)) : P := h x0 x1 x2
theorem Zq14 {X0 X1 X2 P : Prop} (x0 : X0) (x1 : X1) (x2 : X2) (h : X0 → X1 → X2 → P := by intro x0 x1 x2; repeat (first | (with_reducible first | exact x0 | apply zi.set_ | apply keep_drewN | apply keep_drew | apply keep_alloc | refine keep_far ?_ x1 _ | refine keep_far ?_ x2 _) | exact x0)) : P := h x0 x1 x2
theorem Zq15 {X0 X1 X2 X3 P : Prop} (x0 : X0) (x1 : X1) (x2 : X2) (x3 : X3) (h : X0 → X1 → X2 → X3 → P := by intro x0 x1 x2 x3; repeat (first | (with_reducible first | exact x0 | apply zbn | apply zbm | apply zb6 | refine zb3 ?_ x1 | refine zb3 ?_ x2 | refine zb3 ?_ x3) | exact x0)) : P := h x0 x1 x2 x3
def zk.j0 : Nat → List Int → Int → Int → Int → Int → Option (Int × Int × Int × Int)
 | 0, _, _, _, _, _ => none
 | k + 1, x1000, x1001, x119000, x119001, x119002 => some (x119000, x119001, x119002, x1001)
def zk.f (k : Nat) (s0_0 : List Int) (s0_1 : Int) (a1 : Int) : Option (Int × Int × Int × Int) := (zb.f k s0_0 s0_1 12).bind fun bt110 => ((some (([2, 3, 4, 6, 8, 12, wrap64 (1 + bt110.1), 5] : List Int) : List Int)).bind fun y112 => ((zb.f k s0_0 bt110.2 8).bind fun bt115 => (if 0 ≤ bt115.1 then (if bt115.1 < (y112.length : Int) then ((zb.f k s0_0 bt115.2 (rd y112 bt115.1)).bind fun bt119 => ((some (([rd y112 bt115.1, wrap64 (1 + bt119.1), mx 1 (wrap64 ((rd y112 bt115.1) - 1))] : List Int) : List Int)).bind fun y121 => ((zb.f k s0_0 bt119.2 3).bind fun bt124 => (if 0 ≤ bt124.1 then (if bt124.1 < (y121.length : Int) then ((some (([rd y121 bt124.1, mx 1 (wrap64 (Int.tdiv (rd y121 bt124.1) 2)), mx 1 (wrap64 (Int.tdiv (rd y121 bt124.1) 3))] : List Int) : List Int)).bind fun y127 => ((zb.f k s0_0 bt124.2 3).bind fun bt130 => (if 0 ≤ bt130.1 then (if bt130.1 < (y127.length : Int) then ((zb.f k s0_0 bt130.2 (mn 8 (rd y127 bt130.1))).bind fun bt133 => ((zbk.f k s0_0 bt133.2 a1).bind fun bt135 => (if bt135.1 = true then ((zb.f k s0_0 bt135.2 3).bind fun bt137 => (if bt137.1 = 0 then ((some (([0, (-1), 9, wrap64 ((rd y121 bt124.1) + 1)] : List Int) : List Int)).bind fun y139 => ((zb.f k s0_0 bt137.2 4).bind fun bt142 => (if 0 ≤ bt142.1 then (if bt142.1 < (y139.length : Int) then (zk.j0 k s0_0 bt142.2 (rd y139 bt142.1) (rd y121 bt124.1) (rd y112 bt115.1)) else (none)) else (none)))) else (if bt137.1 = 1 then ((some (([0, wrap64 ((rd y112 bt115.1) + 1), (-1)] : List Int) : List Int)).bind fun y145 => ((zb.f k s0_0 bt137.2 3).bind fun bt148 => (if 0 ≤ bt148.1 then (if bt148.1 < (y145.length : Int) then (zk.j0 k s0_0 bt148.2 (wrap64 (1 + bt133.1)) (rd y145 bt148.1) (rd y112 bt115.1)) else (none)) else (none)))) else ((some (([0, 13, (-1)] : List Int) : List Int)).bind fun y151 => ((zb.f k s0_0 bt137.2 3).bind fun bt154 => (if 0 ≤ bt154.1 then (if bt154.1 < (y151.length : Int) then (zk.j0 k s0_0 bt154.2 (wrap64 (1 + bt133.1)) (rd y121 bt124.1) (rd y151 bt154.1)) else (none)) else (none))))))) else (zk.j0 k s0_0 bt135.2 (wrap64 (1 + bt133.1)) (rd y121 bt124.1) (rd y112 bt115.1))))) else (none)) else (none)))) else (none)) else (none))))) else (none)) else (none))))
def zk.T2 : Bool × List (List Nat × List Nat) := (true, [([], []), ([0], [0]), ([], []), ([], []), ([3], [3]), ([2, 4], [2, 4]), ([5], [5]), ([], []), ([7], [7]), ([8], [8]), ([9], [9]), ([1, 6, 10], [1, 6, 10]), ([], []), ([12, 5], [12]), ([11, 13], [11, 13]), ([14], [14]), ([0, 1, 2, 3, 4, 5, 6, 7, 8, 9, 10, 11, 12, 13, 14, 15], []), ([16, 15, 13, 0, 1, 2, 3, 4, 5, 6, 7, 8, 9, 10, 11, 12, 13, 14, 15], [15, 16])])
def zk.B2 : List Nat := [0, 1, 0, 0, 8, 28, 60, 0, 128, 384, 896, 2047, 0, 4156, 16383, 32767, 65535, 131071]
theorem zk.tab2 : rtab .any (opsOf Try.f106 2) = zk.T2 := by kernel_rfl
theorem zk.bits2 : waitsOk zk.T2.2 zk.B2 = true := by kernel_rfl
def zk.T3 : Bool × List (List Nat × List Nat) := (true, [([], []), ([], []), ([1], [1]), ([], []), ([3], [3]), ([4], [4]), ([5], [5]), ([], []), ([7], [7]), ([8], [8]), ([9], [9]), ([2, 6, 10], [2, 6, 10]), ([], []), ([12], [12]), ([11, 13], [11, 13]), ([14], [14]), ([15], [15]), ([0, 16, 13], [0, 16]), ([17], [17]), ([0, 1, 2, 3, 4, 5, 6, 7, 8, 9, 10, 11, 12, 13, 14, 15, 16, 17, 18], []), ([19, 18, 17, 0, 1, 2, 3, 4, 5, 6, 7, 8, 9, 10, 11, 12, 13, 14, 15, 16, 17, 18], [18, 19])])
def zk.B3 : List Nat := [0, 0, 2, 0, 8, 24, 56, 0, 128, 384, 896, 2046, 0, 4096, 16382, 32766, 65534, 131071, 262143, 524287, 1048575]
theorem zk.tab3 : rtab .any (opsOf Try.f106 3) = zk.T3 := by kernel_rfl
theorem zk.bits3 : waitsOk zk.T3.2 zk.B3 = true := by kernel_rfl
def zk.T8 : Bool × List (List Nat × List Nat) := (true, [([], []), ([0], [0]), ([1], [1]), ([2], [2]), ([], []), ([4], [4]), ([3, 5], [3, 5]), ([6], [6]), ([0, 1, 2, 3, 4, 5, 6, 7], []), ([8, 7, 5, 0, 1, 2, 3, 4, 5, 6, 7], [7, 8])])
def zk.B8 : List Nat := [0, 1, 3, 7, 0, 16, 63, 127, 255, 511]
theorem zk.tab8 : rtab .any (opsOf Try.f106 8) = zk.T8 := by kernel_rfl
theorem zk.bits8 : waitsOk zk.T8.2 zk.B8 = true := by kernel_rfl
def zk.T10 : Bool × List (List Nat × List Nat) := (true, [([], []), ([0], [0]), ([1], [1]), ([2], [2]), ([], []), ([4], [4]), ([3, 5], [3, 5]), ([6], [6]), ([0, 1, 2, 3, 4, 5, 6, 7], []), ([8, 7, 5, 0, 1, 2, 3, 4, 5, 6, 7], [7, 8])])
def zk.B10 : List Nat := [0, 1, 3, 7, 0, 16, 63, 127, 255, 511]
theorem zk.tab10 : rtab .any (opsOf Try.f106 10) = zk.T10 := by kernel_rfl
theorem zk.bits10 : waitsOk zk.T10.2 zk.B10 = true := by kernel_rfl
set_option maxHeartbeats 8000000 in
set_option maxRecDepth 100000 in
theorem zk.calls (k : Nat) (g : Nat) (s0_0 : List Int) (s0_1 : Int) (a1 : Int) (r1 : Int) (r2 : Int) (r3 : Int) (r4 : Int) (w0 w : World) (hI : zf w0 w g s0_0 s0_1) (hB : Below w0.heap.size w0 w) (h : zk.f k s0_0 s0_1 a1 = some (r1, r2, r3, r4)) :
  Calls Try.prog 106 #[.pointer (some ⟨g, 0, none⟩), .int .i64 a1] w fun e w' => e = .returned (.agg #[.int .i64 r1, .int .i64 r2, .int .i64 r3]) ∧ zf w0 w' g s0_0 r4 ∧ Below w0.heap.size w0 w' ∧ zi w w' g none := by
 have hu88 := Try.underlying88
 have HI0 := za.mk hI
 have HK := za.mk (zi.refl w g none)
 have HL := za.mk hB.size
 clear hI
 have HW0 := za.mk hB.size
 have HB := za.mk hB
 clear hB
 have H : ((zb.f k s0_0 s0_1 12).bind fun bt110 => ((some (([2, 3, 4, 6, 8, 12, wrap64 (1 + bt110.1), 5] : List Int) : List Int)).bind fun y112 => ((zb.f k s0_0 bt110.2 8).bind fun bt115 => (if 0 ≤ bt115.1 then (if bt115.1 < (y112.length : Int) then ((zb.f k s0_0 bt115.2 (rd y112 bt115.1)).bind fun bt119 => ((some (([rd y112 bt115.1, wrap64 (1 + bt119.1), mx 1 (wrap64 ((rd y112 bt115.1) - 1))] : List Int) : List Int)).bind fun y121 => ((zb.f k s0_0 bt119.2 3).bind fun bt124 => (if 0 ≤ bt124.1 then (if bt124.1 < (y121.length : Int) then ((some (([rd y121 bt124.1, mx 1 (wrap64 (Int.tdiv (rd y121 bt124.1) 2)), mx 1 (wrap64 (Int.tdiv (rd y121 bt124.1) 3))] : List Int) : List Int)).bind fun y127 => ((zb.f k s0_0 bt124.2 3).bind fun bt130 => (if 0 ≤ bt130.1 then (if bt130.1 < (y127.length : Int) then ((zb.f k s0_0 bt130.2 (mn 8 (rd y127 bt130.1))).bind fun bt133 => ((zbk.f k s0_0 bt133.2 a1).bind fun bt135 => (if bt135.1 = true then ((zb.f k s0_0 bt135.2 3).bind fun bt137 => (if bt137.1 = 0 then ((some (([0, (-1), 9, wrap64 ((rd y121 bt124.1) + 1)] : List Int) : List Int)).bind fun y139 => ((zb.f k s0_0 bt137.2 4).bind fun bt142 => (if 0 ≤ bt142.1 then (if bt142.1 < (y139.length : Int) then (zk.j0 k s0_0 bt142.2 (rd y139 bt142.1) (rd y121 bt124.1) (rd y112 bt115.1)) else (none)) else (none)))) else (if bt137.1 = 1 then ((some (([0, wrap64 ((rd y112 bt115.1) + 1), (-1)] : List Int) : List Int)).bind fun y145 => ((zb.f k s0_0 bt137.2 3).bind fun bt148 => (if 0 ≤ bt148.1 then (if bt148.1 < (y145.length : Int) then (zk.j0 k s0_0 bt148.2 (wrap64 (1 + bt133.1)) (rd y145 bt148.1) (rd y112 bt115.1)) else (none)) else (none)))) else ((some (([0, 13, (-1)] : List Int) : List Int)).bind fun y151 => ((zb.f k s0_0 bt137.2 3).bind fun bt154 => (if 0 ≤ bt154.1 then (if bt154.1 < (y151.length : Int) then (zk.j0 k s0_0 bt154.2 (wrap64 (1 + bt133.1)) (rd y121 bt124.1) (rd y151 bt154.1)) else (none)) else (none))))))) else (zk.j0 k s0_0 bt135.2 (wrap64 (1 + bt133.1)) (rd y121 bt124.1) (rd y112 bt115.1))))) else (none)) else (none)))) else (none)) else (none))))) else (none)) else (none))))) = some (r1, r2, r3, r4) := h
 clear h
 replace H := Option.bind_eq_some_iff.mp H
 obtain ⟨⟨t110, t111⟩, A30, H⟩ := H
 replace H : ((some (([2, 3, 4, 6, 8, 12, wrap64 (1 + t110), 5] : List Int) : List Int)).bind fun y112 => ((zb.f k s0_0 t111 8).bind fun bt115 => (if 0 ≤ bt115.1 then (if bt115.1 < (y112.length : Int) then ((zb.f k s0_0 bt115.2 (rd y112 bt115.1)).bind fun bt119 => ((some (([rd y112 bt115.1, wrap64 (1 + bt119.1), mx 1 (wrap64 ((rd y112 bt115.1) - 1))] : List Int) : List Int)).bind fun y121 => ((zb.f k s0_0 bt119.2 3).bind fun bt124 => (if 0 ≤ bt124.1 then (if bt124.1 < (y121.length : Int) then ((some (([rd y121 bt124.1, mx 1 (wrap64 (Int.tdiv (rd y121 bt124.1) 2)), mx 1 (wrap64 (Int.tdiv (rd y121 bt124.1) 3))] : List Int) : List Int)).bind fun y127 => ((zb.f k s0_0 bt124.2 3).bind fun bt130 => (if 0 ≤ bt130.1 then (if bt130.1 < (y127.length : Int) then ((zb.f k s0_0 bt130.2 (mn 8 (rd y127 bt130.1))).bind fun bt133 => ((zbk.f k s0_0 bt133.2 a1).bind fun bt135 => (if bt135.1 = true then ((zb.f k s0_0 bt135.2 3).bind fun bt137 => (if bt137.1 = 0 then ((some (([0, (-1), 9, wrap64 ((rd y121 bt124.1) + 1)] : List Int) : List Int)).bind fun y139 => ((zb.f k s0_0 bt137.2 4).bind fun bt142 => (if 0 ≤ bt142.1 then (if bt142.1 < (y139.length : Int) then (zk.j0 k s0_0 bt142.2 (rd y139 bt142.1) (rd y121 bt124.1) (rd y112 bt115.1)) else (none)) else (none)))) else (if bt137.1 = 1 then ((some (([0, wrap64 ((rd y112 bt115.1) + 1), (-1)] : List Int) : List Int)).bind fun y145 => ((zb.f k s0_0 bt137.2 3).bind fun bt148 => (if 0 ≤ bt148.1 then (if bt148.1 < (y145.length : Int) then (zk.j0 k s0_0 bt148.2 (wrap64 (1 + bt133.1)) (rd y145 bt148.1) (rd y112 bt115.1)) else (none)) else (none)))) else ((some (([0, 13, (-1)] : List Int) : List Int)).bind fun y151 => ((zb.f k s0_0 bt137.2 3).bind fun bt154 => (if 0 ≤ bt154.1 then (if bt154.1 < (y151.length : Int) then (zk.j0 k s0_0 bt154.2 (wrap64 (1 + bt133.1)) (rd y121 bt124.1) (rd y151 bt154.1)) else (none)) else (none))))))) else (zk.j0 k s0_0 bt135.2 (wrap64 (1 + bt133.1)) (rd y121 bt124.1) (rd y112 bt115.1))))) else (none)) else (none)))) else (none)) else (none))))) else (none)) else (none)))) = some (r1, r2, r3, r4) := H
 have A3 := za.mk A30
 clear A30
 obtain ⟨y112, hy112⟩ : ∃ y_ : List Int, y_ = (([2, 3, 4, 6, 8, 12, wrap64 (1 + t110), 5] : List Int)) := ⟨_, rfl⟩
 replace H : ((zb.f k s0_0 t111 8).bind fun bt115 => (if 0 ≤ bt115.1 then (if bt115.1 < (y112.length : Int) then ((zb.f k s0_0 bt115.2 (rd y112 bt115.1)).bind fun bt119 => ((some (([rd y112 bt115.1, wrap64 (1 + bt119.1), mx 1 (wrap64 ((rd y112 bt115.1) - 1))] : List Int) : List Int)).bind fun y121 => ((zb.f k s0_0 bt119.2 3).bind fun bt124 => (if 0 ≤ bt124.1 then (if bt124.1 < (y121.length : Int) then ((some (([rd y121 bt124.1, mx 1 (wrap64 (Int.tdiv (rd y121 bt124.1) 2)), mx 1 (wrap64 (Int.tdiv (rd y121 bt124.1) 3))] : List Int) : List Int)).bind fun y127 => ((zb.f k s0_0 bt124.2 3).bind fun bt130 => (if 0 ≤ bt130.1 then (if bt130.1 < (y127.length : Int) then ((zb.f k s0_0 bt130.2 (mn 8 (rd y127 bt130.1))).bind fun bt133 => ((zbk.f k s0_0 bt133.2 a1).bind fun bt135 => (if bt135.1 = true then ((zb.f k s0_0 bt135.2 3).bind fun bt137 => (if bt137.1 = 0 then ((some (([0, (-1), 9, wrap64 ((rd y121 bt124.1) + 1)] : List Int) : List Int)).bind fun y139 => ((zb.f k s0_0 bt137.2 4).bind fun bt142 => (if 0 ≤ bt142.1 then (if bt142.1 < (y139.length : Int) then (zk.j0 k s0_0 bt142.2 (rd y139 bt142.1) (rd y121 bt124.1) (rd y112 bt115.1)) else (none)) else (none)))) else (if bt137.1 = 1 then ((some (([0, wrap64 ((rd y112 bt115.1) + 1), (-1)] : List Int) : List Int)).bind fun y145 => ((zb.f k s0_0 bt137.2 3).bind fun bt148 => (if 0 ≤ bt148.1 then (if bt148.1 < (y145.length : Int) then (zk.j0 k s0_0 bt148.2 (wrap64 (1 + bt133.1)) (rd y145 bt148.1) (rd y112 bt115.1)) else (none)) else (none)))) else ((some (([0, 13, (-1)] : List Int) : List Int)).bind fun y151 => ((zb.f k s0_0 bt137.2 3).bind fun bt154 => (if 0 ≤ bt154.1 then (if bt154.1 < (y151.length : Int) then (zk.j0 k s0_0 bt154.2 (wrap64 (1 + bt133.1)) (rd y121 bt124.1) (rd y151 bt154.1)) else (none)) else (none))))))) else (zk.j0 k s0_0 bt135.2 (wrap64 (1 + bt133.1)) (rd y121 bt124.1) (rd y112 bt115.1))))) else (none)) else (none)))) else (none)) else (none))))) else (none)) else (none))) = some (r1, r2, r3, r4) := by first | (rw [hy112]; with_reducible exact H) | (have H2_ := (Option.bind_some _ _).symm.trans H; rw [hy112]; with_reducible exact H2_) | (have H2_ := (Option.bind_some _ _).symm.trans H; with_reducible exact H2_) | with_reducible exact H | (rw [hy112]; exact H) | exact H
 have Ny112 := za.mk hy112
 clear hy112
 replace H := Option.bind_eq_some_iff.mp H
 obtain ⟨⟨t115, t116⟩, A40, H⟩ := H
 replace H : (if 0 ≤ t115 then (if t115 < (y112.length : Int) then ((zb.f k s0_0 t116 (rd y112 t115)).bind fun bt119 => ((some (([rd y112 t115, wrap64 (1 + bt119.1), mx 1 (wrap64 ((rd y112 t115) - 1))] : List Int) : List Int)).bind fun y121 => ((zb.f k s0_0 bt119.2 3).bind fun bt124 => (if 0 ≤ bt124.1 then (if bt124.1 < (y121.length : Int) then ((some (([rd y121 bt124.1, mx 1 (wrap64 (Int.tdiv (rd y121 bt124.1) 2)), mx 1 (wrap64 (Int.tdiv (rd y121 bt124.1) 3))] : List Int) : List Int)).bind fun y127 => ((zb.f k s0_0 bt124.2 3).bind fun bt130 => (if 0 ≤ bt130.1 then (if bt130.1 < (y127.length : Int) then ((zb.f k s0_0 bt130.2 (mn 8 (rd y127 bt130.1))).bind fun bt133 => ((zbk.f k s0_0 bt133.2 a1).bind fun bt135 => (if bt135.1 = true then ((zb.f k s0_0 bt135.2 3).bind fun bt137 => (if bt137.1 = 0 then ((some (([0, (-1), 9, wrap64 ((rd y121 bt124.1) + 1)] : List Int) : List Int)).bind fun y139 => ((zb.f k s0_0 bt137.2 4).bind fun bt142 => (if 0 ≤ bt142.1 then (if bt142.1 < (y139.length : Int) then (zk.j0 k s0_0 bt142.2 (rd y139 bt142.1) (rd y121 bt124.1) (rd y112 t115)) else (none)) else (none)))) else (if bt137.1 = 1 then ((some (([0, wrap64 ((rd y112 t115) + 1), (-1)] : List Int) : List Int)).bind fun y145 => ((zb.f k s0_0 bt137.2 3).bind fun bt148 => (if 0 ≤ bt148.1 then (if bt148.1 < (y145.length : Int) then (zk.j0 k s0_0 bt148.2 (wrap64 (1 + bt133.1)) (rd y145 bt148.1) (rd y112 t115)) else (none)) else (none)))) else ((some (([0, 13, (-1)] : List Int) : List Int)).bind fun y151 => ((zb.f k s0_0 bt137.2 3).bind fun bt154 => (if 0 ≤ bt154.1 then (if bt154.1 < (y151.length : Int) then (zk.j0 k s0_0 bt154.2 (wrap64 (1 + bt133.1)) (rd y121 bt124.1) (rd y151 bt154.1)) else (none)) else (none))))))) else (zk.j0 k s0_0 bt135.2 (wrap64 (1 + bt133.1)) (rd y121 bt124.1) (rd y112 t115))))) else (none)) else (none)))) else (none)) else (none))))) else (none)) else (none)) = some (r1, r2, r3, r4) := H
 have A4 := za.mk A40
 clear A40
 by_cases c5 : 0 ≤ t115
 ·rw [if_pos c5] at H
  have c5b0 : decide (0 ≤ t115) = true := decide_eq_true c5
  clear c5
  by_cases c6 : t115 < (y112.length : Int)
  ·rw [if_pos c6] at H
   have c6b0 : decide (t115 < (y112.length : Int)) = true := decide_eq_true c6
   clear c6
   replace H := Option.bind_eq_some_iff.mp H
   obtain ⟨⟨t119, t120⟩, A70, H⟩ := H
   replace H : ((some (([rd y112 t115, wrap64 (1 + t119), mx 1 (wrap64 ((rd y112 t115) - 1))] : List Int) : List Int)).bind fun y121 => ((zb.f k s0_0 t120 3).bind fun bt124 => (if 0 ≤ bt124.1 then (if bt124.1 < (y121.length : Int) then ((some (([rd y121 bt124.1, mx 1 (wrap64 (Int.tdiv (rd y121 bt124.1) 2)), mx 1 (wrap64 (Int.tdiv (rd y121 bt124.1) 3))] : List Int) : List Int)).bind fun y127 => ((zb.f k s0_0 bt124.2 3).bind fun bt130 => (if 0 ≤ bt130.1 then (if bt130.1 < (y127.length : Int) then ((zb.f k s0_0 bt130.2 (mn 8 (rd y127 bt130.1))).bind fun bt133 => ((zbk.f k s0_0 bt133.2 a1).bind fun bt135 => (if bt135.1 = true then ((zb.f k s0_0 bt135.2 3).bind fun bt137 => (if bt137.1 = 0 then ((some (([0, (-1), 9, wrap64 ((rd y121 bt124.1) + 1)] : List Int) : List Int)).bind fun y139 => ((zb.f k s0_0 bt137.2 4).bind fun bt142 => (if 0 ≤ bt142.1 then (if bt142.1 < (y139.length : Int) then (zk.j0 k s0_0 bt142.2 (rd y139 bt142.1) (rd y121 bt124.1) (rd y112 t115)) else (none)) else (none)))) else (if bt137.1 = 1 then ((some (([0, wrap64 ((rd y112 t115) + 1), (-1)] : List Int) : List Int)).bind fun y145 => ((zb.f k s0_0 bt137.2 3).bind fun bt148 => (if 0 ≤ bt148.1 then (if bt148.1 < (y145.length : Int) then (zk.j0 k s0_0 bt148.2 (wrap64 (1 + bt133.1)) (rd y145 bt148.1) (rd y112 t115)) else (none)) else (none)))) else ((some (([0, 13, (-1)] : List Int) : List Int)).bind fun y151 => ((zb.f k s0_0 bt137.2 3).bind fun bt154 => (if 0 ≤ bt154.1 then (if bt154.1 < (y151.length : Int) then (zk.j0 k s0_0 bt154.2 (wrap64 (1 + bt133.1)) (rd y121 bt124.1) (rd y151 bt154.1)) else (none)) else (none))))))) else (zk.j0 k s0_0 bt135.2 (wrap64 (1 + bt133.1)) (rd y121 bt124.1) (rd y112 t115))))) else (none)) else (none)))) else (none)) else (none)))) = some (r1, r2, r3, r4) := H
   have A7 := za.mk A70
   clear A70
   obtain ⟨ji8, hji8⟩ : ∃ j_ : Int, (mx 1 (wrap64 ((rd y112 t115) - 1))) = j_ := ⟨_, rfl⟩
   replace H : ((some (([rd y112 t115, wrap64 (1 + t119), ji8] : List Int) : List Int)).bind fun y121 => ((zb.f k s0_0 t120 3).bind fun bt124 => (if 0 ≤ bt124.1 then (if bt124.1 < (y121.length : Int) then ((some (([rd y121 bt124.1, mx 1 (wrap64 (Int.tdiv (rd y121 bt124.1) 2)), mx 1 (wrap64 (Int.tdiv (rd y121 bt124.1) 3))] : List Int) : List Int)).bind fun y127 => ((zb.f k s0_0 bt124.2 3).bind fun bt130 => (if 0 ≤ bt130.1 then (if bt130.1 < (y127.length : Int) then ((zb.f k s0_0 bt130.2 (mn 8 (rd y127 bt130.1))).bind fun bt133 => ((zbk.f k s0_0 bt133.2 a1).bind fun bt135 => (if bt135.1 = true then ((zb.f k s0_0 bt135.2 3).bind fun bt137 => (if bt137.1 = 0 then ((some (([0, (-1), 9, wrap64 ((rd y121 bt124.1) + 1)] : List Int) : List Int)).bind fun y139 => ((zb.f k s0_0 bt137.2 4).bind fun bt142 => (if 0 ≤ bt142.1 then (if bt142.1 < (y139.length : Int) then (zk.j0 k s0_0 bt142.2 (rd y139 bt142.1) (rd y121 bt124.1) (rd y112 t115)) else (none)) else (none)))) else (if bt137.1 = 1 then ((some (([0, wrap64 ((rd y112 t115) + 1), (-1)] : List Int) : List Int)).bind fun y145 => ((zb.f k s0_0 bt137.2 3).bind fun bt148 => (if 0 ≤ bt148.1 then (if bt148.1 < (y145.length : Int) then (zk.j0 k s0_0 bt148.2 (wrap64 (1 + bt133.1)) (rd y145 bt148.1) (rd y112 t115)) else (none)) else (none)))) else ((some (([0, 13, (-1)] : List Int) : List Int)).bind fun y151 => ((zb.f k s0_0 bt137.2 3).bind fun bt154 => (if 0 ≤ bt154.1 then (if bt154.1 < (y151.length : Int) then (zk.j0 k s0_0 bt154.2 (wrap64 (1 + bt133.1)) (rd y121 bt124.1) (rd y151 bt154.1)) else (none)) else (none))))))) else (zk.j0 k s0_0 bt135.2 (wrap64 (1 + bt133.1)) (rd y121 bt124.1) (rd y112 t115))))) else (none)) else (none)))) else (none)) else (none)))) = some (r1, r2, r3, r4) := by first | (rw [hji8] at H; exact H) | (simp only [hji8] at H ⊢; exact H)
   (try rw [hji8] at A3)
   (try rw [hji8] at A4)
   (try rw [hji8] at A7)
   (try (have hji8l : 1 ≤ ji8 := by (rw [← hji8]; unfold mx; (repeat' split) <;> omega)))
   (try (have hji8m : 0 ≤ ji8 := by omega))
   have hji8_ : (if 1 < (wrap64 ((rd y112 t115) - 1)) then (wrap64 ((rd y112 t115) - 1)) else 1) = ji8 := hji8
   obtain ⟨y121, hy121⟩ : ∃ y_ : List Int, y_ = (([rd y112 t115, wrap64 (1 + t119), ji8] : List Int)) := ⟨_, rfl⟩
   replace H : ((zb.f k s0_0 t120 3).bind fun bt124 => (if 0 ≤ bt124.1 then (if bt124.1 < (y121.length : Int) then ((some (([rd y121 bt124.1, mx 1 (wrap64 (Int.tdiv (rd y121 bt124.1) 2)), mx 1 (wrap64 (Int.tdiv (rd y121 bt124.1) 3))] : List Int) : List Int)).bind fun y127 => ((zb.f k s0_0 bt124.2 3).bind fun bt130 => (if 0 ≤ bt130.1 then (if bt130.1 < (y127.length : Int) then ((zb.f k s0_0 bt130.2 (mn 8 (rd y127 bt130.1))).bind fun bt133 => ((zbk.f k s0_0 bt133.2 a1).bind fun bt135 => (if bt135.1 = true then ((zb.f k s0_0 bt135.2 3).bind fun bt137 => (if bt137.1 = 0 then ((some (([0, (-1), 9, wrap64 ((rd y121 bt124.1) + 1)] : List Int) : List Int)).bind fun y139 => ((zb.f k s0_0 bt137.2 4).bind fun bt142 => (if 0 ≤ bt142.1 then (if bt142.1 < (y139.length : Int) then (zk.j0 k s0_0 bt142.2 (rd y139 bt142.1) (rd y121 bt124.1) (rd y112 t115)) else (none)) else (none)))) else (if bt137.1 = 1 then ((some (([0, wrap64 ((rd y112 t115) + 1), (-1)] : List Int) : List Int)).bind fun y145 => ((zb.f k s0_0 bt137.2 3).bind fun bt148 => (if 0 ≤ bt148.1 then (if bt148.1 < (y145.length : Int) then (zk.j0 k s0_0 bt148.2 (wrap64 (1 + bt133.1)) (rd y145 bt148.1) (rd y112 t115)) else (none)) else (none)))) else ((some (([0, 13, (-1)] : List Int) : List Int)).bind fun y151 => ((zb.f k s0_0 bt137.2 3).bind fun bt154 => (if 0 ≤ bt154.1 then (if bt154.1 < (y151.length : Int) then (zk.j0 k s0_0 bt154.2 (wrap64 (1 + bt133.1)) (rd y121 bt124.1) (rd y151 bt154.1)) else (none)) else (none))))))) else (zk.j0 k s0_0 bt135.2 (wrap64 (1 + bt133.1)) (rd y121 bt124.1) (rd y112 t115))))) else (none)) else (none)))) else (none)) else (none))) = some (r1, r2, r3, r4) := by first | (rw [hy121]; with_reducible exact H) | (have H2_ := (Option.bind_some _ _).symm.trans H; rw [hy121]; with_reducible exact H2_) | (have H2_ := (Option.bind_some _ _).symm.trans H; with_reducible exact H2_) | with_reducible exact H | (rw [hy121]; exact H) | exact H
   have Ny121 := za.mk hy121
   clear hy121
   replace H := Option.bind_eq_some_iff.mp H
   obtain ⟨⟨t124, t125⟩, A90, H⟩ := H
   replace H : (if 0 ≤ t124 then (if t124 < (y121.length : Int) then ((some (([rd y121 t124, mx 1 (wrap64 (Int.tdiv (rd y121 t124) 2)), mx 1 (wrap64 (Int.tdiv (rd y121 t124) 3))] : List Int) : List Int)).bind fun y127 => ((zb.f k s0_0 t125 3).bind fun bt130 => (if 0 ≤ bt130.1 then (if bt130.1 < (y127.length : Int) then ((zb.f k s0_0 bt130.2 (mn 8 (rd y127 bt130.1))).bind fun bt133 => ((zbk.f k s0_0 bt133.2 a1).bind fun bt135 => (if bt135.1 = true then ((zb.f k s0_0 bt135.2 3).bind fun bt137 => (if bt137.1 = 0 then ((some (([0, (-1), 9, wrap64 ((rd y121 t124) + 1)] : List Int) : List Int)).bind fun y139 => ((zb.f k s0_0 bt137.2 4).bind fun bt142 => (if 0 ≤ bt142.1 then (if bt142.1 < (y139.length : Int) then (zk.j0 k s0_0 bt142.2 (rd y139 bt142.1) (rd y121 t124) (rd y112 t115)) else (none)) else (none)))) else (if bt137.1 = 1 then ((some (([0, wrap64 ((rd y112 t115) + 1), (-1)] : List Int) : List Int)).bind fun y145 => ((zb.f k s0_0 bt137.2 3).bind fun bt148 => (if 0 ≤ bt148.1 then (if bt148.1 < (y145.length : Int) then (zk.j0 k s0_0 bt148.2 (wrap64 (1 + bt133.1)) (rd y145 bt148.1) (rd y112 t115)) else (none)) else (none)))) else ((some (([0, 13, (-1)] : List Int) : List Int)).bind fun y151 => ((zb.f k s0_0 bt137.2 3).bind fun bt154 => (if 0 ≤ bt154.1 then (if bt154.1 < (y151.length : Int) then (zk.j0 k s0_0 bt154.2 (wrap64 (1 + bt133.1)) (rd y121 t124) (rd y151 bt154.1)) else (none)) else (none))))))) else (zk.j0 k s0_0 bt135.2 (wrap64 (1 + bt133.1)) (rd y121 t124) (rd y112 t115))))) else (none)) else (none)))) else (none)) else (none)) = some (r1, r2, r3, r4) := H
   have A9 := za.mk A90
   clear A90
   by_cases c10 : 0 ≤ t124
   ·rw [if_pos c10] at H
    have c10b0 : decide (0 ≤ t124) = true := decide_eq_true c10
    clear c10
    by_cases c11 : t124 < (y121.length : Int)
    ·rw [if_pos c11] at H
     have c11b0 : decide (t124 < (y121.length : Int)) = true := decide_eq_true c11
     clear c11
     obtain ⟨ji12, hji12⟩ : ∃ j_ : Int, (mx 1 (wrap64 (Int.tdiv (rd y121 t124) 2))) = j_ := ⟨_, rfl⟩
     replace H : ((some (([rd y121 t124, ji12, mx 1 (wrap64 (Int.tdiv (rd y121 t124) 3))] : List Int) : List Int)).bind fun y127 => ((zb.f k s0_0 t125 3).bind fun bt130 => (if 0 ≤ bt130.1 then (if bt130.1 < (y127.length : Int) then ((zb.f k s0_0 bt130.2 (mn 8 (rd y127 bt130.1))).bind fun bt133 => ((zbk.f k s0_0 bt133.2 a1).bind fun bt135 => (if bt135.1 = true then ((zb.f k s0_0 bt135.2 3).bind fun bt137 => (if bt137.1 = 0 then ((some (([0, (-1), 9, wrap64 ((rd y121 t124) + 1)] : List Int) : List Int)).bind fun y139 => ((zb.f k s0_0 bt137.2 4).bind fun bt142 => (if 0 ≤ bt142.1 then (if bt142.1 < (y139.length : Int) then (zk.j0 k s0_0 bt142.2 (rd y139 bt142.1) (rd y121 t124) (rd y112 t115)) else (none)) else (none)))) else (if bt137.1 = 1 then ((some (([0, wrap64 ((rd y112 t115) + 1), (-1)] : List Int) : List Int)).bind fun y145 => ((zb.f k s0_0 bt137.2 3).bind fun bt148 => (if 0 ≤ bt148.1 then (if bt148.1 < (y145.length : Int) then (zk.j0 k s0_0 bt148.2 (wrap64 (1 + bt133.1)) (rd y145 bt148.1) (rd y112 t115)) else (none)) else (none)))) else ((some (([0, 13, (-1)] : List Int) : List Int)).bind fun y151 => ((zb.f k s0_0 bt137.2 3).bind fun bt154 => (if 0 ≤ bt154.1 then (if bt154.1 < (y151.length : Int) then (zk.j0 k s0_0 bt154.2 (wrap64 (1 + bt133.1)) (rd y121 t124) (rd y151 bt154.1)) else (none)) else (none))))))) else (zk.j0 k s0_0 bt135.2 (wrap64 (1 + bt133.1)) (rd y121 t124) (rd y112 t115))))) else (none)) else (none)))) = some (r1, r2, r3, r4) := by first | (rw [hji12] at H; exact H) | (simp only [hji12] at H ⊢; exact H)
     (try rw [hji12] at A3)
     (try rw [hji12] at A4)
     (try rw [hji12] at A7)
     (try rw [hji12] at A9)
     (try (have hji12l : 1 ≤ ji12 := by (rw [← hji12]; unfold mx; (repeat' split) <;> omega)))
     (try (have hji12m : 0 ≤ ji12 := by omega))
     have hji12_ : (if 1 < (wrap64 (Int.tdiv (rd y121 t124) 2)) then (wrap64 (Int.tdiv (rd y121 t124) 2)) else 1) = ji12 := hji12
     obtain ⟨ji13, hji13⟩ : ∃ j_ : Int, (mx 1 (wrap64 (Int.tdiv (rd y121 t124) 3))) = j_ := ⟨_, rfl⟩
     replace H : ((some (([rd y121 t124, ji12, ji13] : List Int) : List Int)).bind fun y127 => ((zb.f k s0_0 t125 3).bind fun bt130 => (if 0 ≤ bt130.1 then (if bt130.1 < (y127.length : Int) then ((zb.f k s0_0 bt130.2 (mn 8 (rd y127 bt130.1))).bind fun bt133 => ((zbk.f k s0_0 bt133.2 a1).bind fun bt135 => (if bt135.1 = true then ((zb.f k s0_0 bt135.2 3).bind fun bt137 => (if bt137.1 = 0 then ((some (([0, (-1), 9, wrap64 ((rd y121 t124) + 1)] : List Int) : List Int)).bind fun y139 => ((zb.f k s0_0 bt137.2 4).bind fun bt142 => (if 0 ≤ bt142.1 then (if bt142.1 < (y139.length : Int) then (zk.j0 k s0_0 bt142.2 (rd y139 bt142.1) (rd y121 t124) (rd y112 t115)) else (none)) else (none)))) else (if bt137.1 = 1 then ((some (([0, wrap64 ((rd y112 t115) + 1), (-1)] : List Int) : List Int)).bind fun y145 => ((zb.f k s0_0 bt137.2 3).bind fun bt148 => (if 0 ≤ bt148.1 then (if bt148.1 < (y145.length : Int) then (zk.j0 k s0_0 bt148.2 (wrap64 (1 + bt133.1)) (rd y145 bt148.1) (rd y112 t115)) else (none)) else (none)))) else ((some (([0, 13, (-1)] : List Int) : List Int)).bind fun y151 => ((zb.f k s0_0 bt137.2 3).bind fun bt154 => (if 0 ≤ bt154.1 then (if bt154.1 < (y151.length : Int) then (zk.j0 k s0_0 bt154.2 (wrap64 (1 + bt133.1)) (rd y121 t124) (rd y151 bt154.1)) else (none)) else (none))))))) else (zk.j0 k s0_0 bt135.2 (wrap64 (1 + bt133.1)) (rd y121 t124) (rd y112 t115))))) else (none)) else (none)))) = some (r1, r2, r3, r4) := by first | (rw [hji13] at H; exact H) | (simp only [hji13] at H ⊢; exact H)
     (try rw [hji13] at A3)
     (try rw [hji13] at A4)
     (try rw [hji13] at A7)
     (try rw [hji13] at A9)
     (try (have hji13l : 1 ≤ ji13 := by (rw [← hji13]; unfold mx; (repeat' split) <;> omega)))
     (try (have hji13m : 0 ≤ ji13 := by omega))
     have hji13_ : (if 1 < (wrap64 (Int.tdiv (rd y121 t124) 3)) then (wrap64 (Int.tdiv (rd y121 t124) 3)) else 1) = ji13 := hji13
     obtain ⟨y127, hy127⟩ : ∃ y_ : List Int, y_ = (([rd y121 t124, ji12, ji13] : List Int)) := ⟨_, rfl⟩
     replace H : ((zb.f k s0_0 t125 3).bind fun bt130 => (if 0 ≤ bt130.1 then (if bt130.1 < (y127.length : Int) then ((zb.f k s0_0 bt130.2 (mn 8 (rd y127 bt130.1))).bind fun bt133 => ((zbk.f k s0_0 bt133.2 a1).bind fun bt135 => (if bt135.1 = true then ((zb.f k s0_0 bt135.2 3).bind fun bt137 => (if bt137.1 = 0 then ((some (([0, (-1), 9, wrap64 ((rd y121 t124) + 1)] : List Int) : List Int)).bind fun y139 => ((zb.f k s0_0 bt137.2 4).bind fun bt142 => (if 0 ≤ bt142.1 then (if bt142.1 < (y139.length : Int) then (zk.j0 k s0_0 bt142.2 (rd y139 bt142.1) (rd y121 t124) (rd y112 t115)) else (none)) else (none)))) else (if bt137.1 = 1 then ((some (([0, wrap64 ((rd y112 t115) + 1), (-1)] : List Int) : List Int)).bind fun y145 => ((zb.f k s0_0 bt137.2 3).bind fun bt148 => (if 0 ≤ bt148.1 then (if bt148.1 < (y145.length : Int) then (zk.j0 k s0_0 bt148.2 (wrap64 (1 + bt133.1)) (rd y145 bt148.1) (rd y112 t115)) else (none)) else (none)))) else ((some (([0, 13, (-1)] : List Int) : List Int)).bind fun y151 => ((zb.f k s0_0 bt137.2 3).bind fun bt154 => (if 0 ≤ bt154.1 then (if bt154.1 < (y151.length : Int) then (zk.j0 k s0_0 bt154.2 (wrap64 (1 + bt133.1)) (rd y121 t124) (rd y151 bt154.1)) else (none)) else (none))))))) else (zk.j0 k s0_0 bt135.2 (wrap64 (1 + bt133.1)) (rd y121 t124) (rd y112 t115))))) else (none)) else (none))) = some (r1, r2, r3, r4) := by first | (rw [hy127]; with_reducible exact H) | (have H2_ := (Option.bind_some _ _).symm.trans H; rw [hy127]; with_reducible exact H2_) | (have H2_ := (Option.bind_some _ _).symm.trans H; with_reducible exact H2_) | with_reducible exact H | (rw [hy127]; exact H) | exact H
     have Ny127 := za.mk hy127
     clear hy127
     replace H := Option.bind_eq_some_iff.mp H
     obtain ⟨⟨t130, t131⟩, A140, H⟩ := H
     replace H : (if 0 ≤ t130 then (if t130 < (y127.length : Int) then ((zb.f k s0_0 t131 (mn 8 (rd y127 t130))).bind fun bt133 => ((zbk.f k s0_0 bt133.2 a1).bind fun bt135 => (if bt135.1 = true then ((zb.f k s0_0 bt135.2 3).bind fun bt137 => (if bt137.1 = 0 then ((some (([0, (-1), 9, wrap64 ((rd y121 t124) + 1)] : List Int) : List Int)).bind fun y139 => ((zb.f k s0_0 bt137.2 4).bind fun bt142 => (if 0 ≤ bt142.1 then (if bt142.1 < (y139.length : Int) then (zk.j0 k s0_0 bt142.2 (rd y139 bt142.1) (rd y121 t124) (rd y112 t115)) else (none)) else (none)))) else (if bt137.1 = 1 then ((some (([0, wrap64 ((rd y112 t115) + 1), (-1)] : List Int) : List Int)).bind fun y145 => ((zb.f k s0_0 bt137.2 3).bind fun bt148 => (if 0 ≤ bt148.1 then (if bt148.1 < (y145.length : Int) then (zk.j0 k s0_0 bt148.2 (wrap64 (1 + bt133.1)) (rd y145 bt148.1) (rd y112 t115)) else (none)) else (none)))) else ((some (([0, 13, (-1)] : List Int) : List Int)).bind fun y151 => ((zb.f k s0_0 bt137.2 3).bind fun bt154 => (if 0 ≤ bt154.1 then (if bt154.1 < (y151.length : Int) then (zk.j0 k s0_0 bt154.2 (wrap64 (1 + bt133.1)) (rd y121 t124) (rd y151 bt154.1)) else (none)) else (none))))))) else (zk.j0 k s0_0 bt135.2 (wrap64 (1 + bt133.1)) (rd y121 t124) (rd y112 t115))))) else (none)) else (none)) = some (r1, r2, r3, r4) := H
     have A14 := za.mk A140
     clear A140
     by_cases c15 : 0 ≤ t130
     ·rw [if_pos c15] at H
      have c15b0 : decide (0 ≤ t130) = true := decide_eq_true c15
      clear c15
      by_cases c16 : t130 < (y127.length : Int)
      ·rw [if_pos c16] at H
       have c16b0 : decide (t130 < (y127.length : Int)) = true := decide_eq_true c16
       clear c16
       obtain ⟨ji17, hji17⟩ : ∃ j_ : Int, (mn 8 (rd y127 t130)) = j_ := ⟨_, rfl⟩
       replace H : ((zb.f k s0_0 t131 (ji17)).bind fun bt133 => ((zbk.f k s0_0 bt133.2 a1).bind fun bt135 => (if bt135.1 = true then ((zb.f k s0_0 bt135.2 3).bind fun bt137 => (if bt137.1 = 0 then ((some (([0, (-1), 9, wrap64 ((rd y121 t124) + 1)] : List Int) : List Int)).bind fun y139 => ((zb.f k s0_0 bt137.2 4).bind fun bt142 => (if 0 ≤ bt142.1 then (if bt142.1 < (y139.length : Int) then (zk.j0 k s0_0 bt142.2 (rd y139 bt142.1) (rd y121 t124) (rd y112 t115)) else (none)) else (none)))) else (if bt137.1 = 1 then ((some (([0, wrap64 ((rd y112 t115) + 1), (-1)] : List Int) : List Int)).bind fun y145 => ((zb.f k s0_0 bt137.2 3).bind fun bt148 => (if 0 ≤ bt148.1 then (if bt148.1 < (y145.length : Int) then (zk.j0 k s0_0 bt148.2 (wrap64 (1 + bt133.1)) (rd y145 bt148.1) (rd y112 t115)) else (none)) else (none)))) else ((some (([0, 13, (-1)] : List Int) : List Int)).bind fun y151 => ((zb.f k s0_0 bt137.2 3).bind fun bt154 => (if 0 ≤ bt154.1 then (if bt154.1 < (y151.length : Int) then (zk.j0 k s0_0 bt154.2 (wrap64 (1 + bt133.1)) (rd y121 t124) (rd y151 bt154.1)) else (none)) else (none))))))) else (zk.j0 k s0_0 bt135.2 (wrap64 (1 + bt133.1)) (rd y121 t124) (rd y112 t115))))) = some (r1, r2, r3, r4) := by first | (rw [hji17] at H; exact H) | (simp only [hji17] at H ⊢; exact H)
       (try rw [hji17] at A3)
       (try rw [hji17] at A4)
       (try rw [hji17] at A7)
       (try rw [hji17] at A9)
       (try rw [hji17] at A14)
       (try (have hji17h : ji17 ≤ 8 := by (rw [← hji17]; unfold mn; (repeat' split) <;> omega)))
       (try (have hji17g : ji17 ≤ 64 := by omega))
       have hji17_ : (if (rd y127 t130) < 8 then (rd y127 t130) else 8) = ji17 := hji17
       replace H := Option.bind_eq_some_iff.mp H
       obtain ⟨⟨t133, t134⟩, A180, H⟩ := H
       replace H : ((zbk.f k s0_0 t134 a1).bind fun bt135 => (if bt135.1 = true then ((zb.f k s0_0 bt135.2 3).bind fun bt137 => (if bt137.1 = 0 then ((some (([0, (-1), 9, wrap64 ((rd y121 t124) + 1)] : List Int) : List Int)).bind fun y139 => ((zb.f k s0_0 bt137.2 4).bind fun bt142 => (if 0 ≤ bt142.1 then (if bt142.1 < (y139.length : Int) then (zk.j0 k s0_0 bt142.2 (rd y139 bt142.1) (rd y121 t124) (rd y112 t115)) else (none)) else (none)))) else (if bt137.1 = 1 then ((some (([0, wrap64 ((rd y112 t115) + 1), (-1)] : List Int) : List Int)).bind fun y145 => ((zb.f k s0_0 bt137.2 3).bind fun bt148 => (if 0 ≤ bt148.1 then (if bt148.1 < (y145.length : Int) then (zk.j0 k s0_0 bt148.2 (wrap64 (1 + t133)) (rd y145 bt148.1) (rd y112 t115)) else (none)) else (none)))) else ((some (([0, 13, (-1)] : List Int) : List Int)).bind fun y151 => ((zb.f k s0_0 bt137.2 3).bind fun bt154 => (if 0 ≤ bt154.1 then (if bt154.1 < (y151.length : Int) then (zk.j0 k s0_0 bt154.2 (wrap64 (1 + t133)) (rd y121 t124) (rd y151 bt154.1)) else (none)) else (none))))))) else (zk.j0 k s0_0 bt135.2 (wrap64 (1 + t133)) (rd y121 t124) (rd y112 t115)))) = some (r1, r2, r3, r4) := H
       have A18 := za.mk A180
       clear A180
       replace H := Option.bind_eq_some_iff.mp H
       obtain ⟨⟨t135, t136⟩, A190, H⟩ := H
       replace H : (if t135 = true then ((zb.f k s0_0 t136 3).bind fun bt137 => (if bt137.1 = 0 then ((some (([0, (-1), 9, wrap64 ((rd y121 t124) + 1)] : List Int) : List Int)).bind fun y139 => ((zb.f k s0_0 bt137.2 4).bind fun bt142 => (if 0 ≤ bt142.1 then (if bt142.1 < (y139.length : Int) then (zk.j0 k s0_0 bt142.2 (rd y139 bt142.1) (rd y121 t124) (rd y112 t115)) else (none)) else (none)))) else (if bt137.1 = 1 then ((some (([0, wrap64 ((rd y112 t115) + 1), (-1)] : List Int) : List Int)).bind fun y145 => ((zb.f k s0_0 bt137.2 3).bind fun bt148 => (if 0 ≤ bt148.1 then (if bt148.1 < (y145.length : Int) then (zk.j0 k s0_0 bt148.2 (wrap64 (1 + t133)) (rd y145 bt148.1) (rd y112 t115)) else (none)) else (none)))) else ((some (([0, 13, (-1)] : List Int) : List Int)).bind fun y151 => ((zb.f k s0_0 bt137.2 3).bind fun bt154 => (if 0 ≤ bt154.1 then (if bt154.1 < (y151.length : Int) then (zk.j0 k s0_0 bt154.2 (wrap64 (1 + t133)) (rd y121 t124) (rd y151 bt154.1)) else (none)) else (none))))))) else (zk.j0 k s0_0 t136 (wrap64 (1 + t133)) (rd y121 t124) (rd y112 t115))) = some (r1, r2, r3, r4) := H
       have A19 := za.mk A190
       clear A190
       have HC20 := za.mk H
       clear H
       go_enter Try.func106, Try.ntmps106
       try go_wp2_with (first | ((with_reducible refine zbp (N := 4) rfl ?_); refine zb1 ?hg (N := 4) ?hd (cs := #[.int .i64 0, .int .i64 0, .int .i64 0]) (t := 88) ?hr ?_; (case hd => rfl); (case hg => rfl); (case hr => first | (go_simp; done) | (go_simp; rfl)); intro gb109 hg w21 hbox hb; have n0_ := za.mk (zf.below (Zq8 HI0.out) hb); have n1_ := za.mk (zi.trans (Zq9 HK.out) (zi.of_below hb g none) (.inl rfl)); have n2_ := za.mk (zo (Zq5 HB.out (zf.ge HI0.out)) hb); have n3_ := za.mk (hbox); have n4_ := za.mk ((by rw [hg]; exact (zb4 (w := w) (g := g) (row := none) (Zq9 HK.out)) : w.heap.size ≤ gb109)); have n5_ := za.mk ((Nat.le_trans HW0.out (by rw [hg]; exact (zb4 (w := w) (g := g) (row := none) (Zq9 HK.out)) : w.heap.size ≤ gb109) : w0.heap.size ≤ gb109)); have n6_ := za.mk ((by rw [hg]; exact Nat.ne_of_lt (zf.lt (show zf w0 _ g s0_0 s0_1 from Zq8 HI0.out)) : g ≠ gb109)); have n7_ := za.mk ((by rw [hg]; exact Nat.ne_of_gt (zf.lt (show zf w0 _ g s0_0 s0_1 from Zq8 HI0.out)) : gb109 ≠ g)); clear HI0; clear HK; clear HB; have HI0 := n0_; have HK := n1_; have HB := n2_; have BK109 := n3_; have GW109 := n4_; have GE109 := n5_; have NB0_109 := n6_; have NB109_0 := n7_; clear n0_ n1_ n2_ n3_ n4_ n5_ n6_ n7_; clear hb hbox hg) | ((with_reducible refine zba (f := 68) rfl ?_); refine zbv (some 7) rfl rfl Try.func68 (by kernel_rfl) rfl #[.pointer (some ⟨g, 0, none⟩), .int .i64 12] rfl Zmt ?_; (with_reducible refine (zb.calls k g s0_0 s0_1 12 t110 t111 w0 _ ?side1 ?side2 A3.out).mono ?_); (case side1 => exact Zq10 HI0.out NB0_109.out); (case side2 => exact Zq7 HB.out (zf.ge HI0.out) GE109.out); rintro e w22 ⟨rfl, hi, hb, hk⟩; refine ⟨_, rfl, ?_⟩; have n0_ := za.mk (zi.blk hk (g' := gb109) (o := .cells #[.int .i64 0, .int .i64 0, .int .i64 0] 88 (0, 0)) (Zq4 BK109.out) NB109_0.out (by simp)); have n1_ := za.mk (zi.trans (Zq11 HK.out GW109.out) hk (.inl rfl)); have n2_ := za.mk (hb); have n3_ := za.mk (hi); clear BK109; clear HK; clear HB; clear HI0; have BK109 := n0_; have HK := n1_; have HB := n2_; have HI0 := n3_; clear n0_ n1_ n2_ n3_; (try clear hb); (try clear hb2); (try clear hk); (try clear hi)) | ((with_reducible refine zbp (N := 9) rfl ?_); refine Kd.R_lit (Kd.int .i64) _ 3 ?hg (N := 9) ?hd (xs := ([2, 3, 4, 6, 8, 12, wrap64 (1 + t110), 5] : List Int)) (inner := [.int .i64 2, .int .i64 3, .int .i64 4, .int .i64 6, .int .i64 8, .int .i64 12, .int .i64 (wrap64 (1 + t110)), .int .i64 5]) (ok := fun _ => True) (okp := fun _ => True) ?hr ?hp (fun _ hk => hk) trivial (Below.refl _ _) (Nat.le_refl _) (by simp) ?_; (case hd => rfl); (case hg => rfl); (case hr => first | (go_simp; done) | (go_simp; rfl)); (case hp => exact (Reps.one (show Kd.M (Kd.int .i64) _ _ _ 2 [.int .i64 2] from rfl) (Reps.one (show Kd.M (Kd.int .i64) _ _ _ 3 [.int .i64 3] from rfl) (Reps.one (show Kd.M (Kd.int .i64) _ _ _ 4 [.int .i64 4] from rfl) (Reps.one (show Kd.M (Kd.int .i64) _ _ _ 6 [.int .i64 6] from rfl) (Reps.one (show Kd.M (Kd.int .i64) _ _ _ 8 [.int .i64 8] from rfl) (Reps.one (show Kd.M (Kd.int .i64) _ _ _ 12 [.int .i64 12] from rfl) (Reps.one (show Kd.M (Kd.int .i64) _ _ _ (wrap64 (1 + t110)) [.int .i64 (wrap64 (1 + t110))] from rfl) (Reps.one (show Kd.M (Kd.int .i64) _ _ _ 5 [.int .i64 5] from rfl) (Reps.none _ _)))))))))); intro v113 w23 ho24 hb hg_ hnew_; clear hg_ hnew_; (first | rw [← Ny112.out] at ho24 | (simp only [Int.reduceToNat] at ho24; rw [← Ny112.out] at ho24)); have n0_ := za.mk (Kd.zb2 ho24 (zb4 (w := w) (g := g) (row := none) (Zq11 HK.out GW109.out))); have n1_ := za.mk (zf.below (Zq10 HI0.out NB0_109.out) hb); have n2_ := za.mk (zbg (g := gb109) (o := .cells #[.int .i64 0, .int .i64 0, .int .i64 0] 88 (0, 0)) (Zq4 BK109.out) hb); have n3_ := za.mk (zi.trans (Zq11 HK.out GW109.out) (zi.of_below hb g none) (.inl rfl)); have n4_ := za.mk (zo (Zq7 HB.out (zf.ge HI0.out) GE109.out) hb); clear HI0; clear BK109; clear HK; clear HB; have HO114 := n0_; have HI0 := n1_; have BK109 := n2_; have HK := n3_; have HB := n4_; clear n0_ n1_ n2_ n3_ n4_; clear hb ho24) | ((with_reducible refine zba (f := 68) rfl ?_); refine zbv (some 11) rfl rfl Try.func68 (by kernel_rfl) rfl #[.pointer (some ⟨g, 0, none⟩), .int .i64 8] rfl Zmt ?_; (with_reducible refine (zb.calls k g s0_0 t111 8 t115 t116 w0 _ ?side1 ?side2 A4.out).mono ?_); (case side1 => exact Zq10 HI0.out NB0_109.out); (case side2 => exact Zq7 HB.out (zf.ge HI0.out) GE109.out); rintro e w25 ⟨rfl, hi, hb, hk⟩; refine ⟨_, rfl, ?_⟩; have n0_ := za.mk (zi.blk hk (g' := gb109) (o := .cells #[.int .i64 0, .int .i64 0, .int .i64 0] 88 (0, 0)) (Zq4 BK109.out) NB109_0.out (by simp)); have n1_ := za.mk (Kd.zy (Kd.zbo (zf.apart (show zf w0 _ g s0_0 t111 from Zq10 HI0.out NB0_109.out) (Zq12 HO114.out) (by decide)) hk (fun _ h => h.2)) (fun _ h => h.1)); have n2_ := za.mk (zi.trans (Zq11 HK.out GW109.out) hk (.inl rfl)); have n3_ := za.mk (hb); have n4_ := za.mk (hi); clear BK109; clear HO114; clear HK; clear HB; clear HI0; have BK109 := n0_; have HO114 := n1_; have HK := n2_; have HB := n3_; have HI0 := n4_; clear n0_ n1_ n2_ n3_ n4_; (try clear hb); (try clear hb2); (try clear hk); (try clear hi); obtain ⟨Ao26, co26, eo26⟩ := Kd.zbs HO114.out; subst eo26; have p117 : 0 ≤ (t115 : Int) := of_decide_eq_true Zas; have q117 : t115 < (y112.length : Int) := of_decide_eq_true Zas; obtain ⟨ad117, e117, hx117_0⟩ := Kd.zcn (Kd.zbe HO114.out).2.2 t115 p117 q117; cases e117; replace p117 := eq_true p117; replace q117 := eq_true q117) | ((with_reducible refine zbp (N := 5) rfl ?_); refine zb1 ?hg (N := 5) ?hd (cs := #[.int .i64 0, .int .i64 0, .int .i64 0]) (t := 88) ?hr ?_; (case hd => rfl); (case hg => rfl); (case hr => first | (go_simp; done) | (go_simp; rfl)); intro gb118 hg w27 hbox hb; have n0_ := za.mk (Kd.zbl (Zq12 HO114.out) hb); have n1_ := za.mk (zf.below (Zq10 HI0.out NB0_109.out) hb); have n2_ := za.mk (zbg (g := gb109) (o := .cells #[.int .i64 0, .int .i64 0, .int .i64 0] 88 (0, 0)) (Zq4 BK109.out) hb); have n3_ := za.mk (zi.trans (Zq11 HK.out GW109.out) (zi.of_below hb g none) (.inl rfl)); have n4_ := za.mk (zo (Zq7 HB.out (zf.ge HI0.out) GE109.out) hb); have n5_ := za.mk (hbox); have n6_ := za.mk ((by rw [hg]; exact (zb4 (w := w) (g := g) (row := none) (Zq11 HK.out GW109.out)) : w.heap.size ≤ gb118)); have n7_ := za.mk ((Nat.le_trans HW0.out (by rw [hg]; exact (zb4 (w := w) (g := g) (row := none) (Zq11 HK.out GW109.out)) : w.heap.size ≤ gb118) : w0.heap.size ≤ gb118)); have n8_ := za.mk ((by rw [hg]; exact Nat.ne_of_lt (zcz (g := gb109) (o := .cells #[.int .i64 0, .int .i64 0, .int .i64 0] 88 (0, 0)) (Zq4 BK109.out)) : gb109 ≠ gb118)); have n9_ := za.mk ((by rw [hg]; exact Nat.ne_of_gt (zcz (g := gb109) (o := .cells #[.int .i64 0, .int .i64 0, .int .i64 0] 88 (0, 0)) (Zq4 BK109.out)) : gb118 ≠ gb109)); have n10_ := za.mk ((by rw [hg]; exact Nat.ne_of_lt (zf.lt (show zf w0 _ g s0_0 t116 from Zq10 HI0.out NB0_109.out)) : g ≠ gb118)); have n11_ := za.mk ((by rw [hg]; exact Nat.ne_of_gt (zf.lt (show zf w0 _ g s0_0 t116 from Zq10 HI0.out NB0_109.out)) : gb118 ≠ g)); clear HO114; clear HI0; clear BK109; clear HK; clear HB; have HO114 := n0_; have HI0 := n1_; have BK109 := n2_; have HK := n3_; have HB := n4_; have BK118 := n5_; have GW118 := n6_; have GE118 := n7_; have NB109_118 := n8_; have NB118_109 := n9_; have NB0_118 := n10_; have NB118_0 := n11_; clear n0_ n1_ n2_ n3_ n4_ n5_ n6_ n7_ n8_ n9_ n10_ n11_; clear hb hbox hg; have hnb28 := NB118_109.out; have hnc28 := NB109_118.out; have hnb29 := NB118_0.out; have hnc29 := NB0_118.out; have hcz30_0 : w27.cell? ⟨gb118, 0, none⟩ = some (.int .i64 0) := (zh BK118.out 0).trans rfl; have hcz30_1 : w27.cell? ⟨gb118, 1, none⟩ = some (.int .i64 0) := (zh BK118.out 1).trans rfl; have hcz30_2 : w27.cell? ⟨gb118, 2, none⟩ = some (.int .i64 0) := (zh BK118.out 2).trans rfl; have hfz30_0 := zg BK118.out 0; have hfz30_1 := zg BK118.out 1; have hfz30_2 := zg BK118.out 2))
       have pi126 : (0 ≤ (t124 : Int)) = True := eq_true (of_decide_eq_true Zas)
       have qi126 : (t124 < (y121.length : Int)) = True := eq_true (of_decide_eq_true Zas)
       have n0_ : za (Kd.R (Kd.int .i64) 3 (((w27.setCell ⟨gb118, 0, none⟩ (.int .i64 0)).setCell ⟨gb118, 1, none⟩ (.int .i64 0)).setCell ⟨gb118, 2, none⟩ (.int .i64 (rd y112 t115))) w.heap.size (fun _ => True) (.slice (some ad117) y112.length co26) y112) := ⟨by (with_reducible repeat (first | apply Kd.zbi | apply Kd.zbh | apply Kd.zbj)); exact Kd.zy (Kd.zb9 (p := ⟨gb118, 2, none⟩) (Kd.zb9 (p := ⟨gb118, 1, none⟩) (Kd.zb9 (p := ⟨gb118, 0, none⟩) (Kd.zb5 HO114.out BK118.out (by decide)) (fun _ hk => hk.2) (.int .i64 0)) (fun _ hk => hk.2) (.int .i64 0)) (fun _ hk => hk.2) (.int .i64 (rd y112 t115))) (fun _ hk => trivial)⟩
       have n1_ : za ((((w27.setCell ⟨gb118, 0, none⟩ (.int .i64 0)).setCell ⟨gb118, 1, none⟩ (.int .i64 0)).setCell ⟨gb118, 2, none⟩ (.int .i64 (rd y112 t115))).heap[gb109]? = some (.cells #[.int .i64 0, .int .i64 0, .int .i64 0] 88 (0, 0))) := ⟨by (with_reducible repeat (first | refine zn ?_ _ | refine zt ?_ | refine zm ?_ _)); refine zcl ?_ NB109_118.out _; (with_reducible repeat (first | refine zn ?_ _ | refine zt ?_ | refine zm ?_ _)); refine zcl ?_ NB109_118.out _; (with_reducible repeat (first | refine zn ?_ _ | refine zt ?_ | refine zm ?_ _)); refine zcl ?_ NB109_118.out _; (with_reducible repeat (first | refine zn ?_ _ | refine zt ?_ | refine zm ?_ _)); exact BK109.out⟩
       have n2_ : za ((((w27.setCell ⟨gb118, 0, none⟩ (.int .i64 0)).setCell ⟨gb118, 1, none⟩ (.int .i64 0)).setCell ⟨gb118, 2, none⟩ (.int .i64 (rd y112 t115))).heap[gb118]? = some (.cells #[.int .i64 0, .int .i64 0, .int .i64 (rd y112 t115)] 88 (0, 0))) := ⟨by (with_reducible repeat (first | refine zn ?_ _ | refine zt ?_ | refine zm ?_ _)); refine zbu (cs := #[.int .i64 0, .int .i64 0, .int .i64 0]) ?_ 2 _ rfl; (with_reducible repeat (first | refine zn ?_ _ | refine zt ?_ | refine zm ?_ _)); refine zbu (cs := #[.int .i64 0, .int .i64 0, .int .i64 0]) ?_ 1 _ rfl; (with_reducible repeat (first | refine zn ?_ _ | refine zt ?_ | refine zm ?_ _)); refine zbu (cs := #[.int .i64 0, .int .i64 0, .int .i64 0]) ?_ 0 _ rfl; (with_reducible repeat (first | refine zn ?_ _ | refine zt ?_ | refine zm ?_ _)); exact BK118.out⟩
       have n3_ : za (zf w0 (((w27.setCell ⟨gb118, 0, none⟩ (.int .i64 0)).setCell ⟨gb118, 1, none⟩ (.int .i64 0)).setCell ⟨gb118, 2, none⟩ (.int .i64 (rd y112 t115))) g s0_0 t116) := ⟨Zq13 HI0.out NB0_109.out NB0_118.out⟩
       have n4_ : za (zi w (((w27.setCell ⟨gb118, 0, none⟩ (.int .i64 0)).setCell ⟨gb118, 1, none⟩ (.int .i64 0)).setCell ⟨gb118, 2, none⟩ (.int .i64 (rd y112 t115))) g none) := ⟨Zq14 HK.out GW109.out GW118.out⟩
       have n5_ : za (Below w0.heap.size w0 (((w27.setCell ⟨gb118, 0, none⟩ (.int .i64 0)).setCell ⟨gb118, 1, none⟩ (.int .i64 0)).setCell ⟨gb118, 2, none⟩ (.int .i64 (rd y112 t115)))) := ⟨Zq15 HB.out (zf.ge HI0.out) GE109.out GE118.out⟩
       (try clear HO114)
       (try clear BK109)
       (try clear BK118)
       (try clear HI0)
       (try clear HK)
       (try clear HB)
       generalize (((w27.setCell ⟨gb118, 0, none⟩ (.int .i64 0)).setCell ⟨gb118, 1, none⟩ (.int .i64 0)).setCell ⟨gb118, 2, none⟩ (.int .i64 (rd y112 t115))) = w31 at n0_ n1_ n2_ n3_ n4_ n5_ ⊢
       have HO114 := n0_
       have BK109 := n1_
       have BK118 := n2_
       have HI0 := n3_
       have HK := n4_
       have HB := n5_
       clear n0_ n1_ n2_ n3_ n4_ n5_
       have n0_ := za.mk (Kd.zbj HO114.out)
       have n1_ := za.mk (zt BK109.out)
       have n2_ := za.mk (zt BK118.out)
       have n3_ := za.mk (zf.drew HI0.out)
       have n4_ := za.mk (keep_drew HK.out)
       have n5_ := za.mk (zb6 HB.out)
       clear HO114
       clear BK109
       clear BK118
       clear HI0
       clear HK
       clear HB
       have HO114 := n0_
       have BK109 := n1_
       have BK118 := n2_
       have HI0 := n3_
       have HK := n4_
       have HB := n5_
       clear n0_ n1_ n2_ n3_ n4_ n5_
       refine start_ (n := 18) (S := fun w' => w'.cell? ⟨gb118, 0, none⟩ = some (.int .i64 0) ∧ w'.cell? ⟨gb118, 1, none⟩ = some (.int .i64 0) ∧ w'.cell? ⟨gb118, 2, none⟩ = some (.int .i64 (rd y112 t115))) (ds := [17]) #[false, false, false, false, false, false, false, false, false, false, false, false, false, false, false, false, false, false] (by kernel_rfl) rfl rfl ⟨(zh BK118.out 0).trans rfl, (zh BK118.out 1).trans rfl, (zh BK118.out 2).trans rfl⟩ (fun hHeld => ?_); refine zdq zk.tab2 zk.bits2 (fun HT_ HW_ => ?_)
       generalize w31.drew = w32 at HO114 BK109 BK118 HI0 HK HB hHeld ⊢
       refine zce (i := 0) (N := some 15) (v := ?_) (a' := ?_) #[true, false, false, false, false, false, false, false, false, false, false, false, false, false, false, false, false, false] rfl rfl (zby HT_.out (by kernel_rfl)) (fun _ _ _ h => h) (Or.inl ⟨by rfl, ?_⟩) ?_ ?_
       rotate_left
       ·intro w'
        go_simp
        with_reducible rfl
       rotate_left
       ·simp only [Act.put, List.setIfInBounds_toArray, List.set_cons_zero, List.set_cons_succ, zbq, zbt]
        rfl
       refine zce (i := 2) (N := some 17) (v := ?_) (a' := ?_) #[true, false, true, false, false, false, false, false, false, false, false, false, false, false, false, false, false, false] rfl rfl (zby HT_.out (by kernel_rfl)) (fun _ _ _ h => h) (Or.inl ⟨by rfl, ?_⟩) ?_ ?_
       rotate_left
       ·intro w'
        go_simp
        with_reducible rfl
       rotate_left
       ·simp only [Act.put, List.setIfInBounds_toArray, List.set_cons_zero, List.set_cons_succ, zbq, zbt]
        rfl
       refine zce (i := 3) (N := some 18) (v := ?_) (a' := ?_) #[true, false, true, true, false, false, false, false, false, false, false, false, false, false, false, false, false, false] rfl rfl (zby HT_.out (by kernel_rfl)) (fun _ _ _ h => h) (Or.inl ⟨by rfl, ?_⟩) ?_ ?_
       rotate_left
       ·intro w'
        go_simp
        with_reducible rfl
       rotate_left
       ·simp only [Act.put, List.setIfInBounds_toArray, List.set_cons_zero, List.set_cons_succ, zbq, zbt]
        rfl
       refine zce (i := 7) (N := some 22) (v := ?_) (a' := ?_) #[true, false, true, true, false, false, false, true, false, false, false, false, false, false, false, false, false, false] rfl rfl (zby HT_.out (by kernel_rfl)) (fun _ _ _ h => h) (Or.inl ⟨by rfl, ?_⟩) ?_ ?_
       rotate_left
       ·intro w'
        go_simp
        with_reducible rfl
       rotate_left
       ·simp only [Act.put, List.setIfInBounds_toArray, List.set_cons_zero, List.set_cons_succ, zbq, zbt]
        rfl
       refine zce (i := 12) (N := some 27) (v := ?_) (a' := ?_) #[true, false, true, true, false, false, false, true, false, false, false, false, true, false, false, false, false, false] rfl rfl (zby HT_.out (by kernel_rfl)) (fun _ _ _ h => h) (Or.inl ⟨by rfl, ?_⟩) ?_ ?_
       rotate_left
       ·intro w'
        go_simp
        with_reducible rfl
       rotate_left
       ·simp only [Act.put, List.setIfInBounds_toArray, List.set_cons_zero, List.set_cons_succ, zbq, zbt]
        rfl
       refine take_ (i := 1) (N := some 16) (v := ?_) (a' := ?_) #[true, true, true, true, false, false, false, true, false, false, false, false, true, false, false, false, false, false] rfl rfl (zc5 HT_.out HW_.out (by kernel_rfl)) (fun _ _ _ h => h) (Or.inl ⟨by rfl, ?_⟩) hHeld ?_ ?_
       rotate_left
       ·rintro w' ⟨s0, s1, s2⟩
        go_simp
        with_reducible rfl
       rotate_left
       ·simp only [Act.put, List.setIfInBounds_toArray, List.set_cons_zero, List.set_cons_succ, zbq, zbt]
        rfl
       refine take_ (i := 4) (N := some 19) (v := ?_) (a' := ?_) #[true, true, true, true, true, false, false, true, false, false, false, false, true, false, false, false, false, false] rfl rfl (zc5 HT_.out HW_.out (by kernel_rfl)) (fun _ _ _ h => h) (Or.inl ⟨by rfl, ?_⟩) hHeld ?_ ?_
       rotate_left
       ·rintro w' ⟨s0, s1, s2⟩
        go_simp
        with_reducible rfl
       rotate_left
       ·simp only [Act.put, List.setIfInBounds_toArray, List.set_cons_zero, List.set_cons_succ, zbq, zbt]
        rfl
       refine take_ (i := 8) (N := some 23) (v := ?_) (a' := ?_) #[true, true, true, true, true, false, false, true, true, false, false, false, true, false, false, false, false, false] rfl rfl (zc5 HT_.out HW_.out (by kernel_rfl)) (fun _ _ _ h => h) (Or.inl ⟨by rfl, ?_⟩) hHeld ?_ ?_
       rotate_left
       ·rintro w' ⟨s0, s1, s2⟩
        go_simp
        with_reducible rfl
       rotate_left
       ·simp only [Act.put, List.setIfInBounds_toArray, List.set_cons_zero, List.set_cons_succ, zbq, zbt]
        rfl
       refine zce (i := 9) (N := some 24) (v := ?_) (a' := ?_) #[true, true, true, true, true, false, false, true, true, true, false, false, true, false, false, false, false, false] rfl rfl (zby HT_.out (by kernel_rfl)) (fun _ _ _ h => h) (Or.inl ⟨by rfl, ?_⟩) ?_ ?_
       rotate_left
       ·intro w'
        go_simp
        with_reducible rfl
       rotate_left
       ·simp only [Act.put, List.setIfInBounds_toArray, List.set_cons_zero, List.set_cons_succ, zbq, zbt]
        rfl
       refine zce (i := 10) (N := some 25) (v := ?_) (a' := ?_) #[true, true, true, true, true, false, false, true, true, true, true, false, true, false, false, false, false, false] rfl rfl (zby HT_.out (by kernel_rfl)) (fun _ _ _ h => h) (Or.inl ⟨by rfl, ?_⟩) ?_ ?_
       rotate_left
       ·intro w'
        go_simp
        with_reducible rfl
       rotate_left
       ·simp only [Act.put, List.setIfInBounds_toArray, List.set_cons_zero, List.set_cons_succ, zbq, zbt]
        rfl
       refine one_ (i := 5) (N := some 20) #[true, true, true, true, true, true, false, true, true, true, true, false, true, false, false, false, false, false] rfl rfl (zc8 HT_.out (by kernel_rfl)) (by decide) (fun K hK => ?_)
       refine goes_ Try.func68 (by kernel_rfl) rfl #[.pointer (some ⟨g, 0, none⟩), .int .i64 (rd y112 t115)] (by rfl) rfl rfl Zmt ?_
       with_reducible refine (zb.calls k g s0_0 t116 (rd y112 t115) t119 t120 w0 _ ?side1 ?side2 A7.out).mono ?_
       (case side1 => exact Zq13 HI0.out NB0_109.out NB0_118.out)
       (case side2 => exact Zq15 HB.out (zf.ge HI0.out) GE109.out GE118.out)
       rintro e w33 ⟨rfl, hi, hb, hk⟩
       refine ⟨_, rfl, ?_⟩
       have n0_ := za.mk (zi.blk hk (g' := gb109) (o := .cells #[.int .i64 0, .int .i64 0, .int .i64 0] 88 (0, 0)) (Zq4 BK109.out) NB109_0.out (by simp))
       have n1_ := za.mk (Kd.zy (Kd.zbo (zf.apart (show zf w0 _ g s0_0 t116 from Zq13 HI0.out NB0_109.out NB0_118.out) (Zq12 HO114.out) (by decide)) hk (fun _ h => h.2)) (fun _ h => h.1))
       have n2_ := za.mk (zi.blk hk (g' := gb118) (o := .cells #[.int .i64 0, .int .i64 0, .int .i64 (rd y112 t115)] 88 (0, 0)) (Zq4 BK118.out) NB118_0.out (by simp))
       have n3_ := za.mk (zi.trans (Zq14 HK.out GW109.out GW118.out) hk (.inl rfl))
       have n4_ := za.mk (hb)
       have n5_ := za.mk (hi)
       clear BK109
       clear HO114
       clear BK118
       clear HK
       clear HB
       clear HI0
       have BK109 := n0_
       have HO114 := n1_
       have BK118 := n2_
       have HK := n3_
       have HB := n4_
       have HI0 := n5_
       clear n0_ n1_ n2_ n3_ n4_ n5_
       (try clear hb)
       (try clear hb2)
       (try clear hk)
       (try clear hi)
       refine hK.out _ _ ⟨(zh BK118.out 0).trans rfl, (zh BK118.out 1).trans rfl, (zh BK118.out 2).trans rfl⟩ (fun hHeld => ?_)
       clear hK K
       refine zc6 (a' := ?_) ?_ ?_
       rotate_left
       ·show Act.put _ (some 20) _ = _
        simp only [Act.put, List.setIfInBounds_toArray, List.set_cons_zero, List.set_cons_succ, zbq, zbt]
        rfl
       refine zce (i := 6) (N := some 21) (v := ?_) (a' := ?_) #[true, true, true, true, true, true, true, true, true, true, true, false, true, false, false, false, false, false] rfl rfl (zby HT_.out (by kernel_rfl)) (fun _ _ _ h => h) (Or.inl ⟨by rfl, ?_⟩) ?_ ?_
       rotate_left
       ·intro w'
        go_simp
        with_reducible rfl
       rotate_left
       ·simp only [Act.put, List.setIfInBounds_toArray, List.set_cons_zero, List.set_cons_succ, zbq, zbt]
        rfl
       refine join_ (σ := Value × Addr) 4 #[true, true, true, true, true, true, true, true, true, true, true, true, true, true, false, false, false, false] (fun s_ => [(26, s_.1), (28, .int .i64 t124)]) (fun s_ w' => (w'.cell? ⟨gb118, 0, none⟩ = some (.int .i64 0) ∧ w'.cell? ⟨gb118, 1, none⟩ = some (.int .i64 0) ∧ w'.cell? ⟨gb118, 2, none⟩ = some (.int .i64 (rd y112 t115))) ∧ (Kd.R (Kd.int .i64) 3 w' w.heap.size (fun k_ => some k_ ≠ (s_.1 : Value).ownBlock) (.slice (some ad117) y112.length co26) y112) ∧ (Kd.R (Kd.int .i64) 3 w' w.heap.size (fun k_ => some k_ ≠ (.slice (some ad117) y112.length co26 : Value).ownBlock) s_.1 y121) ∧ (∃ c_, (s_.1 : Value) = .slice (some s_.2) y121.length c_) ∧ (w'.heap[gb109]? = some (.cells #[.int .i64 0, .int .i64 0, .int .i64 0] 88 (0, 0))) ∧ (w'.heap[gb118]? = some (.cells #[.int .i64 0, .int .i64 0, .int .i64 (rd y112 t115)] 88 (0, 0))) ∧ (zf w0 w' g s0_0 t125) ∧ (zi w w' g none) ∧ (Below w0.heap.size w0 w')) ?_ ?_
       rotate_left
       ·intro hCont
        refine two_ (i := 11) (j := 13) (Ni := some 26) (Nj := some 28) #[true, true, true, true, true, true, true, true, true, true, true, true, true, false, false, false, false, false] #[true, true, true, true, true, true, true, true, true, true, true, false, true, true, false, false, false, false] rfl rfl rfl rfl (two_of HT_.out (by kernel_rfl)) (by decide) (by decide) (fun K hK => ?_) (fun K hK => ?_)
        ·skip
         refine Kd.zdj (Kd.int .i64) _ 3 ?hg (N := 26) ?hd (xs := ([rd y112 t115, wrap64 (1 + t119), ji8] : List Int)) (inner := [.int .i64 (rd y112 t115), .int .i64 (wrap64 (1 + t119)), .int .i64 ji8]) (ok := fun _ => True) (okp := fun _ => True) ?hr ?hp (fun _ hk => hk) trivial (Below.refl _ _) (Nat.le_refl _) (by simp) ?_; (case hd => rfl); (case hg => rfl); (case hr => first | (go_simp; done) | (go_simp; rfl)); (case hp => exact (Reps.one (show Kd.M (Kd.int .i64) _ _ _ (rd y112 t115) [.int .i64 (rd y112 t115)] from rfl) (Reps.one (show Kd.M (Kd.int .i64) _ _ _ (wrap64 (1 + t119)) [.int .i64 (wrap64 (1 + t119))] from rfl) (Reps.one (show Kd.M (Kd.int .i64) _ _ _ ji8 [.int .i64 ji8] from rfl) (Reps.none _ _)))))
         intro v122 w34 ho35 hb hg_ hnew_
         clear hg_ hnew_
         (first | rw [← Ny121.out] at ho35 | (simp only [Int.reduceToNat] at ho35; rw [← Ny121.out] at ho35))
         have n0_ := za.mk (Kd.zcs (Zq12 HO114.out) (Kd.zch ho35) hb)
         have n1_ := za.mk (Kd.zb2 (Kd.zcm ho35 (Kd.R_lt (Zq12 HO114.out))) (zb4 (w := w) (g := g) (row := none) (Zq14 HK.out GW109.out GW118.out)))
         have n2_ := za.mk (zf.below (Zq13 HI0.out NB0_109.out NB0_118.out) hb)
         have n3_ := za.mk (zbg (g := gb109) (o := .cells #[.int .i64 0, .int .i64 0, .int .i64 0] 88 (0, 0)) (Zq4 BK109.out) hb)
         have n4_ := za.mk (zbg (g := gb118) (o := .cells #[.int .i64 0, .int .i64 0, .int .i64 (rd y112 t115)] 88 (0, 0)) (Zq4 BK118.out) hb)
         have n5_ := za.mk (zi.trans (Zq14 HK.out GW109.out GW118.out) (zi.of_below hb g none) (.inl rfl))
         have n6_ := za.mk (zo (Zq15 HB.out (zf.ge HI0.out) GE109.out GE118.out) hb)
         clear HO114
         clear HI0
         clear BK109
         clear BK118
         clear HK
         clear HB
         have HO114 := n0_
         have HO123 := n1_
         have HI0 := n2_
         have BK109 := n3_
         have BK118 := n4_
         have HK := n5_
         have HB := n6_
         clear n0_ n1_ n2_ n3_ n4_ n5_ n6_
         clear hb ho35
         obtain ⟨Ao36, co36, eo36⟩ := Kd.zbs HO123.out
         subst eo36
         obtain ⟨ado36, fo36, _⟩ := Kd.zcn (Kd.zbe HO123.out).2.2 0 (by decide) (by rw [Ny121.out]; simp)
         cases fo36
         refine hK.out _ _ ⟨(zh BK118.out 0).trans rfl, (zh BK118.out 1).trans rfl, (zh BK118.out 2).trans rfl⟩ (fun hHeld => ?_)
         clear hK K
         refine zc6 (a' := ?_) ?_ ?_
         rotate_left
         ·show Act.put _ (some 26) _ = _
          simp only [Act.put, List.setIfInBounds_toArray, List.set_cons_zero, List.set_cons_succ, zbq, zbt]
          rfl
         refine one_ (i := 13) (N := some 28) #[true, true, true, true, true, true, true, true, true, true, true, true, true, true, false, false, false, false] rfl rfl (zc8 HT_.out (by kernel_rfl)) (by decide) (fun K hK => ?_)
         refine goes_ Try.func68 (by kernel_rfl) rfl #[.pointer (some ⟨g, 0, none⟩), .int .i64 3] (by rfl) rfl rfl Zmt ?_
         with_reducible refine (zb.calls k g s0_0 t120 3 t124 t125 w0 _ ?side1 ?side2 A9.out).mono ?_
         (case side1 => exact Zq13 HI0.out NB0_109.out NB0_118.out)
         (case side2 => exact Zq15 HB.out (zf.ge HI0.out) GE109.out GE118.out)
         rintro e w37 ⟨rfl, hi, hb, hk⟩
         refine ⟨_, rfl, ?_⟩
         have n0_ := za.mk (zi.blk hk (g' := gb109) (o := .cells #[.int .i64 0, .int .i64 0, .int .i64 0] 88 (0, 0)) (Zq4 BK109.out) NB109_0.out (by simp))
         have n1_ := za.mk (Kd.zy (Kd.zbo (zf.apart (show zf w0 _ g s0_0 t120 from Zq13 HI0.out NB0_109.out NB0_118.out) (Zq12 HO114.out) (by decide)) hk (fun _ h => h.2)) (fun _ h => h.1))
         have n2_ := za.mk (zi.blk hk (g' := gb118) (o := .cells #[.int .i64 0, .int .i64 0, .int .i64 (rd y112 t115)] 88 (0, 0)) (Zq4 BK118.out) NB118_0.out (by simp))
         have n3_ := za.mk (Kd.zy (Kd.zbo (zf.apart (show zf w0 _ g s0_0 t120 from Zq13 HI0.out NB0_109.out NB0_118.out) (Zq12 HO123.out) (by decide)) hk (fun _ h => h.2)) (fun _ h => h.1))
         have n4_ := za.mk (zi.trans (Zq14 HK.out GW109.out GW118.out) hk (.inl rfl))
         have n5_ := za.mk (hb)
         have n6_ := za.mk (hi)
         clear BK109
         clear HO114
         clear BK118
         clear HO123
         clear HK
         clear HB
         clear HI0
         have BK109 := n0_
         have HO114 := n1_
         have BK118 := n2_
         have HO123 := n3_
         have HK := n4_
         have HB := n5_
         have HI0 := n6_
         clear n0_ n1_ n2_ n3_ n4_ n5_ n6_
         (try clear hb)
         (try clear hb2)
         (try clear hk)
         (try clear hi)
         refine hK.out _ _ ⟨(zh BK118.out 0).trans rfl, (zh BK118.out 1).trans rfl, (zh BK118.out 2).trans rfl⟩ (fun hHeld => ?_)
         clear hK K
         refine zc6 (a' := ?_) ?_ ?_
         rotate_left
         ·show Act.put _ (some 28) _ = _
          simp only [Act.put, List.setIfInBounds_toArray, List.set_cons_zero, List.set_cons_succ, zbq, zbt]
          rfl
         exact zc6 (by simp only [putAll, Act.put, List.setIfInBounds_toArray, List.set_cons_zero, List.set_cons_succ]) (hCont (.slice (some ado36) y121.length co36, ado36) _ ⟨hHeld, (by (with_reducible repeat (first | apply Kd.zbi | apply Kd.zbh | apply Kd.zbj)); exact Kd.zy HO114.out (fun _ hk => hk.2)), (by (with_reducible repeat (first | apply Kd.zbi | apply Kd.zbh | apply Kd.zbj)); exact Kd.zy HO123.out (fun _ hk => hk.2)), ⟨_, rfl⟩, (Zq4 BK109.out), (Zq4 BK118.out), (Zq13 HI0.out NB0_109.out NB0_118.out), (Zq14 HK.out GW109.out GW118.out), (Zq15 HB.out (zf.ge HI0.out) GE109.out GE118.out)⟩)
        ·skip
         refine goes_ Try.func68 (by kernel_rfl) rfl #[.pointer (some ⟨g, 0, none⟩), .int .i64 3] (by rfl) rfl rfl Zmt ?_
         with_reducible refine (zb.calls k g s0_0 t120 3 t124 t125 w0 _ ?side1 ?side2 A9.out).mono ?_
         (case side1 => exact Zq13 HI0.out NB0_109.out NB0_118.out)
         (case side2 => exact Zq15 HB.out (zf.ge HI0.out) GE109.out GE118.out)
         rintro e w34 ⟨rfl, hi, hb, hk⟩
         refine ⟨_, rfl, ?_⟩
         have n0_ := za.mk (zi.blk hk (g' := gb109) (o := .cells #[.int .i64 0, .int .i64 0, .int .i64 0] 88 (0, 0)) (Zq4 BK109.out) NB109_0.out (by simp))
         have n1_ := za.mk (Kd.zy (Kd.zbo (zf.apart (show zf w0 _ g s0_0 t120 from Zq13 HI0.out NB0_109.out NB0_118.out) (Zq12 HO114.out) (by decide)) hk (fun _ h => h.2)) (fun _ h => h.1))
         have n2_ := za.mk (zi.blk hk (g' := gb118) (o := .cells #[.int .i64 0, .int .i64 0, .int .i64 (rd y112 t115)] 88 (0, 0)) (Zq4 BK118.out) NB118_0.out (by simp))
         have n3_ := za.mk (zi.trans (Zq14 HK.out GW109.out GW118.out) hk (.inl rfl))
         have n4_ := za.mk (hb)
         have n5_ := za.mk (hi)
         clear BK109
         clear HO114
         clear BK118
         clear HK
         clear HB
         clear HI0
         have BK109 := n0_
         have HO114 := n1_
         have BK118 := n2_
         have HK := n3_
         have HB := n4_
         have HI0 := n5_
         clear n0_ n1_ n2_ n3_ n4_ n5_
         (try clear hb)
         (try clear hb2)
         (try clear hk)
         (try clear hi)
         refine hK.out _ _ ⟨(zh BK118.out 0).trans rfl, (zh BK118.out 1).trans rfl, (zh BK118.out 2).trans rfl⟩ (fun hHeld => ?_)
         clear hK K
         refine zc6 (a' := ?_) ?_ ?_
         rotate_left
         ·show Act.put _ (some 28) _ = _
          simp only [Act.put, List.setIfInBounds_toArray, List.set_cons_zero, List.set_cons_succ, zbq, zbt]
          rfl
         refine one_ (i := 11) (N := some 26) #[true, true, true, true, true, true, true, true, true, true, true, true, true, true, false, false, false, false] rfl rfl (zc8 HT_.out (by kernel_rfl)) (by decide) (fun K hK => ?_)
         refine Kd.zdj (Kd.int .i64) _ 3 ?hg (N := 26) ?hd (xs := ([rd y112 t115, wrap64 (1 + t119), ji8] : List Int)) (inner := [.int .i64 (rd y112 t115), .int .i64 (wrap64 (1 + t119)), .int .i64 ji8]) (ok := fun _ => True) (okp := fun _ => True) ?hr ?hp (fun _ hk => hk) trivial (Below.refl _ _) (Nat.le_refl _) (by simp) ?_; (case hd => rfl); (case hg => rfl); (case hr => first | (go_simp; done) | (go_simp; rfl)); (case hp => exact (Reps.one (show Kd.M (Kd.int .i64) _ _ _ (rd y112 t115) [.int .i64 (rd y112 t115)] from rfl) (Reps.one (show Kd.M (Kd.int .i64) _ _ _ (wrap64 (1 + t119)) [.int .i64 (wrap64 (1 + t119))] from rfl) (Reps.one (show Kd.M (Kd.int .i64) _ _ _ ji8 [.int .i64 ji8] from rfl) (Reps.none _ _)))))
         intro v122 w35 ho36 hb hg_ hnew_
         clear hg_ hnew_
         (first | rw [← Ny121.out] at ho36 | (simp only [Int.reduceToNat] at ho36; rw [← Ny121.out] at ho36))
         have n0_ := za.mk (Kd.zcs (Zq12 HO114.out) (Kd.zch ho36) hb)
         have n1_ := za.mk (Kd.zb2 (Kd.zcm ho36 (Kd.R_lt (Zq12 HO114.out))) (zb4 (w := w) (g := g) (row := none) (Zq14 HK.out GW109.out GW118.out)))
         have n2_ := za.mk (zf.below (Zq13 HI0.out NB0_109.out NB0_118.out) hb)
         have n3_ := za.mk (zbg (g := gb109) (o := .cells #[.int .i64 0, .int .i64 0, .int .i64 0] 88 (0, 0)) (Zq4 BK109.out) hb)
         have n4_ := za.mk (zbg (g := gb118) (o := .cells #[.int .i64 0, .int .i64 0, .int .i64 (rd y112 t115)] 88 (0, 0)) (Zq4 BK118.out) hb)
         have n5_ := za.mk (zi.trans (Zq14 HK.out GW109.out GW118.out) (zi.of_below hb g none) (.inl rfl))
         have n6_ := za.mk (zo (Zq15 HB.out (zf.ge HI0.out) GE109.out GE118.out) hb)
         clear HO114
         clear HI0
         clear BK109
         clear BK118
         clear HK
         clear HB
         have HO114 := n0_
         have HO123 := n1_
         have HI0 := n2_
         have BK109 := n3_
         have BK118 := n4_
         have HK := n5_
         have HB := n6_
         clear n0_ n1_ n2_ n3_ n4_ n5_ n6_
         clear hb ho36
         obtain ⟨Ao37, co37, eo37⟩ := Kd.zbs HO123.out
         subst eo37
         obtain ⟨ado37, fo37, _⟩ := Kd.zcn (Kd.zbe HO123.out).2.2 0 (by decide) (by rw [Ny121.out]; simp)
         cases fo37
         refine hK.out _ _ ⟨(zh BK118.out 0).trans rfl, (zh BK118.out 1).trans rfl, (zh BK118.out 2).trans rfl⟩ (fun hHeld => ?_)
         clear hK K
         refine zc6 (a' := ?_) ?_ ?_
         rotate_left
         ·show Act.put _ (some 26) _ = _
          simp only [Act.put, List.setIfInBounds_toArray, List.set_cons_zero, List.set_cons_succ, zbq, zbt]
          rfl
         exact zc6 (by simp only [putAll, Act.put, List.setIfInBounds_toArray, List.set_cons_zero, List.set_cons_succ]) (hCont (.slice (some ado37) y121.length co37, ado37) _ ⟨hHeld, (by (with_reducible repeat (first | apply Kd.zbi | apply Kd.zbh | apply Kd.zbj)); exact Kd.zy HO114.out (fun _ hk => hk.2)), (by (with_reducible repeat (first | apply Kd.zbi | apply Kd.zbh | apply Kd.zbj)); exact Kd.zy HO123.out (fun _ hk => hk.2)), ⟨_, rfl⟩, (Zq4 BK109.out), (Zq4 BK118.out), (Zq13 HI0.out NB0_109.out NB0_118.out), (Zq14 HK.out GW109.out GW118.out), (Zq15 HB.out (zf.ge HI0.out) GE109.out GE118.out)⟩)
       rintro ⟨v122, adz_v122⟩ w38 ⟨hS_, h0_, h1_, h2_, h3_, h4_, h5_, h6_, h7_⟩
       have n0_ : za (Kd.R (Kd.int .i64) 3 w38 w.heap.size (fun k_ => some k_ ≠ (v122 : Value).ownBlock) (.slice (some ad117) y112.length co26) y112) := ⟨h0_⟩
       have n1_ : za (Kd.R (Kd.int .i64) 3 w38 w.heap.size (fun k_ => some k_ ≠ (.slice (some ad117) y112.length co26 : Value).ownBlock) v122 y121) := ⟨h1_⟩
       have n2_ : za (∃ c_, (v122 : Value) = .slice (some adz_v122) y121.length c_) := ⟨h2_⟩
       have n3_ : za (w38.heap[gb109]? = some (.cells #[.int .i64 0, .int .i64 0, .int .i64 0] 88 (0, 0))) := ⟨h3_⟩
       have n4_ : za (w38.heap[gb118]? = some (.cells #[.int .i64 0, .int .i64 0, .int .i64 (rd y112 t115)] 88 (0, 0))) := ⟨h4_⟩
       have n5_ : za (zf w0 w38 g s0_0 t125) := ⟨h5_⟩
       have n6_ : za (zi w w38 g none) := ⟨h6_⟩
       have n7_ : za (Below w0.heap.size w0 w38) := ⟨h7_⟩
       clear HO114
       clear BK109
       clear BK118
       clear HI0
       clear HK
       clear HB
       clear h0_ h1_ h2_ h3_ h4_ h5_ h6_ h7_
       have HO114 := n0_
       have HO123 := n1_
       have HA_HO123 := n2_
       have BK109 := n3_
       have BK118 := n4_
       have HI0 := n5_
       have HK := n6_
       have HB := n7_
       clear n0_ n1_ n2_ n3_ n4_ n5_ n6_ n7_
       have hHeld : w38.cell? ⟨gb118, 0, none⟩ = some (.int .i64 0) ∧ w38.cell? ⟨gb118, 1, none⟩ = some (.int .i64 0) ∧ w38.cell? ⟨gb118, 2, none⟩ = some (.int .i64 (rd y112 t115)) := hS_
       obtain ⟨co39, eo39⟩ := HA_HO123.out
       clear HA_HO123
       subst eo39
       refine zc6 (a' := ?_) ?_ ?_
       rotate_left
       ·simp only [putAll, Act.put, List.setIfInBounds_toArray, List.set_cons_zero, List.set_cons_succ]
        rfl
       refine zce (i := 14) (N := some 29) (v := ?_) (a' := ?_) #[true, true, true, true, true, true, true, true, true, true, true, true, true, true, true, false, false, false] rfl rfl (zby HT_.out (by kernel_rfl)) (fun _ _ _ h => h) (Or.inl ⟨by rfl, ?_⟩) ?_ ?_
       rotate_left
       ·intro w'
        go_simp
        with_reducible rfl
       rotate_left
       ·simp only [Act.put, List.setIfInBounds_toArray, List.set_cons_zero, List.set_cons_succ, zbq, zbt]
        rfl
       refine one_ (i := 15) (N := some 30) #[true, true, true, true, true, true, true, true, true, true, true, true, true, true, true, true, false, false] rfl rfl (zc8 HT_.out (by kernel_rfl)) (by decide) (fun K hK => ?_)
       (have p126 : 0 ≤ (t124 : Int) := of_decide_eq_true Zas; have q126 : t124 < (y121.length : Int) := of_decide_eq_true Zas; obtain ⟨ad126, e126, hx126_0⟩ := Kd.zcn (Kd.zbe HO123.out).2.2 t124 p126 q126; obtain rfl : adz_v122 = ad126 := (by injection e126))
       refine value_ (w1 := ?_) (v := ?_) (by rfl) rfl ?_ ?_
       rotate_left 2
       ·go_simp
        constructor
        ·rfl
        ·rfl
       clear hx126_0
       refine hK.out _ _ ⟨(zh BK118.out 0).trans rfl, (zh BK118.out 1).trans rfl, (zh BK118.out 2).trans rfl⟩ (fun hHeld => ?_)
       clear hK K
       refine zc6 (a' := ?_) ?_ ?_
       rotate_left
       ·show Act.put _ (some 30) _ = _
        simp only [Act.put, List.setIfInBounds_toArray, List.set_cons_zero, List.set_cons_succ, zbq, zbt]
        rfl
       refine zce (i := 16) (N := some 31) (v := ?_) (a' := ?_) #[true, true, true, true, true, true, true, true, true, true, true, true, true, true, true, true, true, false] rfl rfl (zby HT_.out (by kernel_rfl)) (fun _ _ _ h => h) (Or.inl ⟨by rfl, ?_⟩) ?_ ?_
       rotate_left
       ·intro w'
        go_simp
        with_reducible rfl
       rotate_left
       ·simp only [Act.put, List.setIfInBounds_toArray, List.set_cons_zero, List.set_cons_succ, zbq, zbt]
        rfl
       refine last_ (i := 17) (N := none) #[true, true, true, true, true, true, true, true, true, true, true, true, true, true, true, true, true, true] rfl rfl (zc8 HT_.out (by kernel_rfl)) (by decide) (fun K hK => ?_)
       have hs40 : w38.cell? ⟨gb118, 1, none⟩ = some (.int .i64 0) := (zh BK118.out 1).trans rfl
       have hfs40 := zg BK118.out 1
       have hns40_0 := NB109_118.out
       have hms40_0 := NB118_109.out
       refine skip_ (w1 := ?_) (by rfl) rfl ?_ ?_
       rotate_left
       ·go_simp
        rfl
       refine hK.out _ _ ?_
       clear hK K
       refine done_ (done_of HT_.out (by kernel_rfl)) ?_
       try go_wp2
       have pi132 : (0 ≤ (t130 : Int)) = True := eq_true (of_decide_eq_true Zas)
       have qi132 : (t130 < (y127.length : Int)) = True := eq_true (of_decide_eq_true Zas)
       have n0_ : za (Kd.R (Kd.int .i64) 3 (w38.setCell ⟨gb118, 1, none⟩ (.int .i64 (rd y121 t124))) w.heap.size (fun k_ => some k_ ≠ (.slice (some adz_v122) y121.length co39 : Value).ownBlock) (.slice (some ad117) y112.length co26) y112) := ⟨by (with_reducible repeat (first | apply Kd.zbi | apply Kd.zbh | apply Kd.zbj)); exact Kd.zy (Kd.zb9 (p := ⟨gb118, 1, none⟩) (Kd.zb5 HO114.out BK118.out (by decide)) (fun _ hk => hk.2) (.int .i64 (rd y121 t124))) (fun _ hk => hk.1)⟩
       have n1_ : za (Kd.R (Kd.int .i64) 3 (w38.setCell ⟨gb118, 1, none⟩ (.int .i64 (rd y121 t124))) w.heap.size (fun k_ => some k_ ≠ (.slice (some ad117) y112.length co26 : Value).ownBlock) (.slice (some adz_v122) y121.length co39) y121) := ⟨by (with_reducible repeat (first | apply Kd.zbi | apply Kd.zbh | apply Kd.zbj)); exact Kd.zy (Kd.zb9 (p := ⟨gb118, 1, none⟩) (Kd.zb5 HO123.out BK118.out (by decide)) (fun _ hk => hk.2) (.int .i64 (rd y121 t124))) (fun _ hk => hk.1)⟩
       have n2_ : za ((w38.setCell ⟨gb118, 1, none⟩ (.int .i64 (rd y121 t124))).heap[gb109]? = some (.cells #[.int .i64 0, .int .i64 0, .int .i64 0] 88 (0, 0))) := ⟨by (with_reducible repeat (first | refine zn ?_ _ | refine zt ?_ | refine zm ?_ _)); refine zcl ?_ NB109_118.out _; (with_reducible repeat (first | refine zn ?_ _ | refine zt ?_ | refine zm ?_ _)); exact BK109.out⟩
       have n3_ : za ((w38.setCell ⟨gb118, 1, none⟩ (.int .i64 (rd y121 t124))).heap[gb118]? = some (.cells #[.int .i64 0, .int .i64 (rd y121 t124), .int .i64 (rd y112 t115)] 88 (0, 0))) := ⟨by (with_reducible repeat (first | refine zn ?_ _ | refine zt ?_ | refine zm ?_ _)); refine zbu (cs := #[.int .i64 0, .int .i64 0, .int .i64 (rd y112 t115)]) ?_ 1 _ rfl; (with_reducible repeat (first | refine zn ?_ _ | refine zt ?_ | refine zm ?_ _)); exact BK118.out⟩
       have n4_ : za (zf w0 (w38.setCell ⟨gb118, 1, none⟩ (.int .i64 (rd y121 t124))) g s0_0 t125) := ⟨Zq13 HI0.out NB0_109.out NB0_118.out⟩
       have n5_ : za (zi w (w38.setCell ⟨gb118, 1, none⟩ (.int .i64 (rd y121 t124))) g none) := ⟨Zq14 HK.out GW109.out GW118.out⟩
       have n6_ : za (Below w0.heap.size w0 (w38.setCell ⟨gb118, 1, none⟩ (.int .i64 (rd y121 t124)))) := ⟨Zq15 HB.out (zf.ge HI0.out) GE109.out GE118.out⟩
       (try clear HO114)
       (try clear HO123)
       (try clear BK109)
       (try clear BK118)
       (try clear HI0)
       (try clear HK)
       (try clear HB)
       generalize (w38.setCell ⟨gb118, 1, none⟩ (.int .i64 (rd y121 t124))) = w41 at n0_ n1_ n2_ n3_ n4_ n5_ n6_ ⊢
       have HO114 := n0_
       have HO123 := n1_
       have BK109 := n2_
       have BK118 := n3_
       have HI0 := n4_
       have HK := n5_
       have HB := n6_
       clear n0_ n1_ n2_ n3_ n4_ n5_ n6_
       have n0_ := za.mk (Kd.zbj HO114.out)
       have n1_ := za.mk (Kd.zbj HO123.out)
       have n2_ := za.mk (zt BK109.out)
       have n3_ := za.mk (zt BK118.out)
       have n4_ := za.mk (zf.drew HI0.out)
       have n5_ := za.mk (keep_drew HK.out)
       have n6_ := za.mk (zb6 HB.out)
       clear HO114
       clear HO123
       clear BK109
       clear BK118
       clear HI0
       clear HK
       clear HB
       have HO114 := n0_
       have HO123 := n1_
       have BK109 := n2_
       have BK118 := n3_
       have HI0 := n4_
       have HK := n5_
       have HB := n6_
       clear n0_ n1_ n2_ n3_ n4_ n5_ n6_
       refine start_ (n := 21) (S := fun w' => w'.cell? ⟨gb118, 0, none⟩ = some (.int .i64 0) ∧ w'.cell? ⟨gb118, 1, none⟩ = some (.int .i64 (rd y121 t124)) ∧ w'.cell? ⟨gb118, 2, none⟩ = some (.int .i64 (rd y112 t115))) (ds := [20]) #[false, false, false, false, false, false, false, false, false, false, false, false, false, false, false, false, false, false, false, false, false] (by kernel_rfl) rfl rfl ⟨(zh BK118.out 0).trans rfl, (zh BK118.out 1).trans rfl, (zh BK118.out 2).trans rfl⟩ (fun hHeld => ?_); refine zdq zk.tab3 zk.bits3 (fun HT_ HW_ => ?_)
       generalize w41.drew = w42 at HO114 HO123 BK109 BK118 HI0 HK HB hHeld ⊢
       refine zce (i := 0) (N := some 32) (v := ?_) (a' := ?_) #[true, false, false, false, false, false, false, false, false, false, false, false, false, false, false, false, false, false, false, false, false] rfl rfl (zby HT_.out (by kernel_rfl)) (fun _ _ _ h => h) (Or.inl ⟨by rfl, ?_⟩) ?_ ?_
       rotate_left
       ·intro w'
        go_simp
        with_reducible rfl
       rotate_left
       ·simp only [Act.put, List.setIfInBounds_toArray, List.set_cons_zero, List.set_cons_succ, zbq, zbt]
        rfl
       refine zce (i := 1) (N := some 33) (v := ?_) (a' := ?_) #[true, true, false, false, false, false, false, false, false, false, false, false, false, false, false, false, false, false, false, false, false] rfl rfl (zby HT_.out (by kernel_rfl)) (fun _ _ _ h => h) (Or.inl ⟨by rfl, ?_⟩) ?_ ?_
       rotate_left
       ·intro w'
        go_simp
        with_reducible rfl
       rotate_left
       ·simp only [Act.put, List.setIfInBounds_toArray, List.set_cons_zero, List.set_cons_succ, zbq, zbt]
        rfl
       refine zce (i := 3) (N := some 35) (v := ?_) (a' := ?_) #[true, true, false, true, false, false, false, false, false, false, false, false, false, false, false, false, false, false, false, false, false] rfl rfl (zby HT_.out (by kernel_rfl)) (fun _ _ _ h => h) (Or.inl ⟨by rfl, ?_⟩) ?_ ?_
       rotate_left
       ·intro w'
        go_simp
        with_reducible rfl
       rotate_left
       ·simp only [Act.put, List.setIfInBounds_toArray, List.set_cons_zero, List.set_cons_succ, zbq, zbt]
        rfl
       refine zce (i := 7) (N := some 39) (v := ?_) (a' := ?_) #[true, true, false, true, false, false, false, true, false, false, false, false, false, false, false, false, false, false, false, false, false] rfl rfl (zby HT_.out (by kernel_rfl)) (fun _ _ _ h => h) (Or.inl ⟨by rfl, ?_⟩) ?_ ?_
       rotate_left
       ·intro w'
        go_simp
        with_reducible rfl
       rotate_left
       ·simp only [Act.put, List.setIfInBounds_toArray, List.set_cons_zero, List.set_cons_succ, zbq, zbt]
        rfl
       refine zce (i := 12) (N := some 44) (v := ?_) (a' := ?_) #[true, true, false, true, false, false, false, true, false, false, false, false, true, false, false, false, false, false, false, false, false] rfl rfl (zby HT_.out (by kernel_rfl)) (fun _ _ _ h => h) (Or.inl ⟨by rfl, ?_⟩) ?_ ?_
       rotate_left
       ·intro w'
        go_simp
        with_reducible rfl
       rotate_left
       ·simp only [Act.put, List.setIfInBounds_toArray, List.set_cons_zero, List.set_cons_succ, zbq, zbt]
        rfl
       refine take_ (i := 2) (N := some 34) (v := ?_) (a' := ?_) #[true, true, true, true, false, false, false, true, false, false, false, false, true, false, false, false, false, false, false, false, false] rfl rfl (zc5 HT_.out HW_.out (by kernel_rfl)) (fun _ _ _ h => h) (Or.inl ⟨by rfl, ?_⟩) hHeld ?_ ?_
       rotate_left
       ·rintro w' ⟨s0, s1, s2⟩
        go_simp
        with_reducible rfl
       rotate_left
       ·simp only [Act.put, List.setIfInBounds_toArray, List.set_cons_zero, List.set_cons_succ, zbq, zbt]
        rfl
       refine take_ (i := 4) (N := some 36) (v := ?_) (a' := ?_) #[true, true, true, true, true, false, false, true, false, false, false, false, true, false, false, false, false, false, false, false, false] rfl rfl (zc5 HT_.out HW_.out (by kernel_rfl)) (fun _ _ _ h => h) (Or.inl ⟨by rfl, ?_⟩) hHeld ?_ ?_
       rotate_left
       ·rintro w' ⟨s0, s1, s2⟩
        go_simp
        with_reducible rfl
       rotate_left
       ·simp only [Act.put, List.setIfInBounds_toArray, List.set_cons_zero, List.set_cons_succ, zbq, zbt]
        rfl
       refine zce (i := 5) (N := some 37) (v := ?_) (a' := ?_) #[true, true, true, true, true, true, false, true, false, false, false, false, true, false, false, false, false, false, false, false, false] rfl rfl (zby HT_.out (by kernel_rfl)) (fun _ _ _ h => h) (Or.inl ⟨by rfl, ?_⟩) ?_ ?_
       rotate_left
       ·intro w'
        go_simp
        with_reducible rfl
       rotate_left
       ·simp only [Act.put, List.setIfInBounds_toArray, List.set_cons_zero, List.set_cons_succ, zbq, zbt]
        rfl
       refine zce (i := 6) (N := some 38) (v := ?_) (a' := ?_) #[true, true, true, true, true, true, true, true, false, false, false, false, true, false, false, false, false, false, false, false, false] rfl rfl (zby HT_.out (by kernel_rfl)) (fun _ _ _ h => h) (Or.inl ⟨by rfl, ?_⟩) ?_ ?_
       rotate_left
       ·intro w'
        go_simp
        with_reducible rfl
       rotate_left
       ·simp only [Act.put, List.setIfInBounds_toArray, List.set_cons_zero, List.set_cons_succ, zbq, zbt]
        rfl
       refine take_ (i := 8) (N := some 40) (v := ?_) (a' := ?_) #[true, true, true, true, true, true, true, true, true, false, false, false, true, false, false, false, false, false, false, false, false] rfl rfl (zc5 HT_.out HW_.out (by kernel_rfl)) (fun _ _ _ h => h) (Or.inl ⟨by rfl, ?_⟩) hHeld ?_ ?_
       rotate_left
       ·rintro w' ⟨s0, s1, s2⟩
        go_simp
        with_reducible rfl
       rotate_left
       ·simp only [Act.put, List.setIfInBounds_toArray, List.set_cons_zero, List.set_cons_succ, zbq, zbt]
        rfl
       refine zce (i := 9) (N := some 41) (v := ?_) (a' := ?_) #[true, true, true, true, true, true, true, true, true, true, false, false, true, false, false, false, false, false, false, false, false] rfl rfl (zby HT_.out (by kernel_rfl)) (fun _ _ _ h => h) (Or.inl ⟨by rfl, ?_⟩) ?_ ?_
       rotate_left
       ·intro w'
        go_simp
        with_reducible rfl
       rotate_left
       ·simp only [Act.put, List.setIfInBounds_toArray, List.set_cons_zero, List.set_cons_succ, zbq, zbt]
        rfl
       refine zce (i := 10) (N := some 42) (v := ?_) (a' := ?_) #[true, true, true, true, true, true, true, true, true, true, true, false, true, false, false, false, false, false, false, false, false] rfl rfl (zby HT_.out (by kernel_rfl)) (fun _ _ _ h => h) (Or.inl ⟨by rfl, ?_⟩) ?_ ?_
       rotate_left
       ·intro w'
        go_simp
        with_reducible rfl
       rotate_left
       ·simp only [Act.put, List.setIfInBounds_toArray, List.set_cons_zero, List.set_cons_succ, zbq, zbt]
        rfl
       refine join_ (σ := Value × Addr) 7 #[true, true, true, true, true, true, true, true, true, true, true, true, true, true, false, false, false, false, false, false, false] (fun s_ => [(43, s_.1), (45, .int .i64 t130)]) (fun s_ w' => (w'.cell? ⟨gb118, 0, none⟩ = some (.int .i64 0) ∧ w'.cell? ⟨gb118, 1, none⟩ = some (.int .i64 (rd y121 t124)) ∧ w'.cell? ⟨gb118, 2, none⟩ = some (.int .i64 (rd y112 t115))) ∧ (Kd.R (Kd.int .i64) 3 w' w.heap.size (fun k_ => some k_ ≠ (.slice (some adz_v122) y121.length co39 : Value).ownBlock ∧ some k_ ≠ (s_.1 : Value).ownBlock) (.slice (some ad117) y112.length co26) y112) ∧ (Kd.R (Kd.int .i64) 3 w' w.heap.size (fun k_ => some k_ ≠ (.slice (some ad117) y112.length co26 : Value).ownBlock ∧ some k_ ≠ (s_.1 : Value).ownBlock) (.slice (some adz_v122) y121.length co39) y121) ∧ (Kd.R (Kd.int .i64) 3 w' w.heap.size (fun k_ => some k_ ≠ (.slice (some ad117) y112.length co26 : Value).ownBlock ∧ some k_ ≠ (.slice (some adz_v122) y121.length co39 : Value).ownBlock) s_.1 y127) ∧ (∃ c_, (s_.1 : Value) = .slice (some s_.2) y127.length c_) ∧ (w'.heap[gb109]? = some (.cells #[.int .i64 0, .int .i64 0, .int .i64 0] 88 (0, 0))) ∧ (w'.heap[gb118]? = some (.cells #[.int .i64 0, .int .i64 (rd y121 t124), .int .i64 (rd y112 t115)] 88 (0, 0))) ∧ (zf w0 w' g s0_0 t131) ∧ (zi w w' g none) ∧ (Below w0.heap.size w0 w')) ?_ ?_
       rotate_left
       ·intro hCont
        refine two_ (i := 11) (j := 13) (Ni := some 43) (Nj := some 45) #[true, true, true, true, true, true, true, true, true, true, true, true, true, false, false, false, false, false, false, false, false] #[true, true, true, true, true, true, true, true, true, true, true, false, true, true, false, false, false, false, false, false, false] rfl rfl rfl rfl (two_of HT_.out (by kernel_rfl)) (by decide) (by decide) (fun K hK => ?_) (fun K hK => ?_)
        ·skip
         refine Kd.zdj (Kd.int .i64) _ 3 ?hg (N := 43) ?hd (xs := ([rd y121 t124, ji12, ji13] : List Int)) (inner := [.int .i64 (rd y121 t124), .int .i64 ji12, .int .i64 ji13]) (ok := fun _ => True) (okp := fun _ => True) ?hr ?hp (fun _ hk => hk) trivial (Below.refl _ _) (Nat.le_refl _) (by simp) ?_; (case hd => rfl); (case hg => rfl); (case hr => first | (go_simp; done) | (go_simp; rfl)); (case hp => exact (Reps.one (show Kd.M (Kd.int .i64) _ _ _ (rd y121 t124) [.int .i64 (rd y121 t124)] from rfl) (Reps.one (show Kd.M (Kd.int .i64) _ _ _ ji12 [.int .i64 ji12] from rfl) (Reps.one (show Kd.M (Kd.int .i64) _ _ _ ji13 [.int .i64 ji13] from rfl) (Reps.none _ _)))))
         intro v128 w43 ho44 hb hg_ hnew_
         clear hg_ hnew_
         (first | rw [← Ny127.out] at ho44 | (simp only [Int.reduceToNat] at ho44; rw [← Ny127.out] at ho44))
         have n0_ := za.mk (Kd.zcs (Zq12 HO114.out) (Kd.zch ho44) hb)
         have n1_ := za.mk (Kd.zcs (Zq12 HO123.out) (Kd.zch ho44) hb)
         have n2_ := za.mk (Kd.zb2 (Kd.zcm (Kd.zcm ho44 (Kd.R_lt (Zq12 HO114.out))) (Kd.R_lt (Zq12 HO123.out))) (zb4 (w := w) (g := g) (row := none) (Zq14 HK.out GW109.out GW118.out)))
         have n3_ := za.mk (zf.below (Zq13 HI0.out NB0_109.out NB0_118.out) hb)
         have n4_ := za.mk (zbg (g := gb109) (o := .cells #[.int .i64 0, .int .i64 0, .int .i64 0] 88 (0, 0)) (Zq4 BK109.out) hb)
         have n5_ := za.mk (zbg (g := gb118) (o := .cells #[.int .i64 0, .int .i64 (rd y121 t124), .int .i64 (rd y112 t115)] 88 (0, 0)) (Zq4 BK118.out) hb)
         have n6_ := za.mk (zi.trans (Zq14 HK.out GW109.out GW118.out) (zi.of_below hb g none) (.inl rfl))
         have n7_ := za.mk (zo (Zq15 HB.out (zf.ge HI0.out) GE109.out GE118.out) hb)
         clear HO114
         clear HO123
         clear HI0
         clear BK109
         clear BK118
         clear HK
         clear HB
         have HO114 := n0_
         have HO123 := n1_
         have HO129 := n2_
         have HI0 := n3_
         have BK109 := n4_
         have BK118 := n5_
         have HK := n6_
         have HB := n7_
         clear n0_ n1_ n2_ n3_ n4_ n5_ n6_ n7_
         clear hb ho44
         obtain ⟨Ao45, co45, eo45⟩ := Kd.zbs HO129.out
         subst eo45
         obtain ⟨ado45, fo45, _⟩ := Kd.zcn (Kd.zbe HO129.out).2.2 0 (by decide) (by rw [Ny127.out]; simp)
         cases fo45
         refine hK.out _ _ ⟨(zh BK118.out 0).trans rfl, (zh BK118.out 1).trans rfl, (zh BK118.out 2).trans rfl⟩ (fun hHeld => ?_)
         clear hK K
         refine zc6 (a' := ?_) ?_ ?_
         rotate_left
         ·show Act.put _ (some 43) _ = _
          simp only [Act.put, List.setIfInBounds_toArray, List.set_cons_zero, List.set_cons_succ, zbq, zbt]
          rfl
         refine one_ (i := 13) (N := some 45) #[true, true, true, true, true, true, true, true, true, true, true, true, true, true, false, false, false, false, false, false, false] rfl rfl (zc8 HT_.out (by kernel_rfl)) (by decide) (fun K hK => ?_)
         refine goes_ Try.func68 (by kernel_rfl) rfl #[.pointer (some ⟨g, 0, none⟩), .int .i64 3] (by rfl) rfl rfl Zmt ?_
         with_reducible refine (zb.calls k g s0_0 t125 3 t130 t131 w0 _ ?side1 ?side2 A14.out).mono ?_
         (case side1 => exact Zq13 HI0.out NB0_109.out NB0_118.out)
         (case side2 => exact Zq15 HB.out (zf.ge HI0.out) GE109.out GE118.out)
         rintro e w46 ⟨rfl, hi, hb, hk⟩
         refine ⟨_, rfl, ?_⟩
         have n0_ := za.mk (zi.blk hk (g' := gb109) (o := .cells #[.int .i64 0, .int .i64 0, .int .i64 0] 88 (0, 0)) (Zq4 BK109.out) NB109_0.out (by simp))
         have n1_ := za.mk (Kd.zy (Kd.zbo (zf.apart (show zf w0 _ g s0_0 t125 from Zq13 HI0.out NB0_109.out NB0_118.out) (Zq12 HO114.out) (by decide)) hk (fun _ h => h.2)) (fun _ h => h.1))
         have n2_ := za.mk (zi.blk hk (g' := gb118) (o := .cells #[.int .i64 0, .int .i64 (rd y121 t124), .int .i64 (rd y112 t115)] 88 (0, 0)) (Zq4 BK118.out) NB118_0.out (by simp))
         have n3_ := za.mk (Kd.zy (Kd.zbo (zf.apart (show zf w0 _ g s0_0 t125 from Zq13 HI0.out NB0_109.out NB0_118.out) (Zq12 HO123.out) (by decide)) hk (fun _ h => h.2)) (fun _ h => h.1))
         have n4_ := za.mk (Kd.zy (Kd.zbo (zf.apart (show zf w0 _ g s0_0 t125 from Zq13 HI0.out NB0_109.out NB0_118.out) (Zq12 HO129.out) (by decide)) hk (fun _ h => h.2)) (fun _ h => h.1))
         have n5_ := za.mk (zi.trans (Zq14 HK.out GW109.out GW118.out) hk (.inl rfl))
         have n6_ := za.mk (hb)
         have n7_ := za.mk (hi)
         clear BK109
         clear HO114
         clear BK118
         clear HO123
         clear HO129
         clear HK
         clear HB
         clear HI0
         have BK109 := n0_
         have HO114 := n1_
         have BK118 := n2_
         have HO123 := n3_
         have HO129 := n4_
         have HK := n5_
         have HB := n6_
         have HI0 := n7_
         clear n0_ n1_ n2_ n3_ n4_ n5_ n6_ n7_
         (try clear hb)
         (try clear hb2)
         (try clear hk)
         (try clear hi)
         refine hK.out _ _ ⟨(zh BK118.out 0).trans rfl, (zh BK118.out 1).trans rfl, (zh BK118.out 2).trans rfl⟩ (fun hHeld => ?_)
         clear hK K
         refine zc6 (a' := ?_) ?_ ?_
         rotate_left
         ·show Act.put _ (some 45) _ = _
          simp only [Act.put, List.setIfInBounds_toArray, List.set_cons_zero, List.set_cons_succ, zbq, zbt]
          rfl
         exact zc6 (by simp only [putAll, Act.put, List.setIfInBounds_toArray, List.set_cons_zero, List.set_cons_succ]) (hCont (.slice (some ado45) y127.length co45, ado45) _ ⟨hHeld, (Zq12 HO114.out), (Zq12 HO123.out), (by (with_reducible repeat (first | apply Kd.zbi | apply Kd.zbh | apply Kd.zbj)); exact Kd.zy HO129.out (fun _ hk => ⟨hk.1.2, hk.2⟩)), ⟨_, rfl⟩, (Zq4 BK109.out), (Zq4 BK118.out), (Zq13 HI0.out NB0_109.out NB0_118.out), (Zq14 HK.out GW109.out GW118.out), (Zq15 HB.out (zf.ge HI0.out) GE109.out GE118.out)⟩)
        ·skip
         refine goes_ Try.func68 (by kernel_rfl) rfl #[.pointer (some ⟨g, 0, none⟩), .int .i64 3] (by rfl) rfl rfl Zmt ?_
         with_reducible refine (zb.calls k g s0_0 t125 3 t130 t131 w0 _ ?side1 ?side2 A14.out).mono ?_
         (case side1 => exact Zq13 HI0.out NB0_109.out NB0_118.out)
         (case side2 => exact Zq15 HB.out (zf.ge HI0.out) GE109.out GE118.out)
         rintro e w43 ⟨rfl, hi, hb, hk⟩
         refine ⟨_, rfl, ?_⟩
         have n0_ := za.mk (zi.blk hk (g' := gb109) (o := .cells #[.int .i64 0, .int .i64 0, .int .i64 0] 88 (0, 0)) (Zq4 BK109.out) NB109_0.out (by simp))
         have n1_ := za.mk (Kd.zy (Kd.zbo (zf.apart (show zf w0 _ g s0_0 t125 from Zq13 HI0.out NB0_109.out NB0_118.out) (Zq12 HO114.out) (by decide)) hk (fun _ h => h.2)) (fun _ h => h.1))
         have n2_ := za.mk (zi.blk hk (g' := gb118) (o := .cells #[.int .i64 0, .int .i64 (rd y121 t124), .int .i64 (rd y112 t115)] 88 (0, 0)) (Zq4 BK118.out) NB118_0.out (by simp))
         have n3_ := za.mk (Kd.zy (Kd.zbo (zf.apart (show zf w0 _ g s0_0 t125 from Zq13 HI0.out NB0_109.out NB0_118.out) (Zq12 HO123.out) (by decide)) hk (fun _ h => h.2)) (fun _ h => h.1))
         have n4_ := za.mk (zi.trans (Zq14 HK.out GW109.out GW118.out) hk (.inl rfl))
         have n5_ := za.mk (hb)
         have n6_ := za.mk (hi)
         clear BK109
         clear HO114
         clear BK118
         clear HO123
         clear HK
         clear HB
         clear HI0
         have BK109 := n0_
         have HO114 := n1_
         have BK118 := n2_
         have HO123 := n3_
         have HK := n4_
         have HB := n5_
         have HI0 := n6_
         clear n0_ n1_ n2_ n3_ n4_ n5_ n6_
         (try clear hb)
         (try clear hb2)
         (try clear hk)
         (try clear hi)
         refine hK.out _ _ ⟨(zh BK118.out 0).trans rfl, (zh BK118.out 1).trans rfl, (zh BK118.out 2).trans rfl⟩ (fun hHeld => ?_)
         clear hK K
         refine zc6 (a' := ?_) ?_ ?_
         rotate_left
         ·show Act.put _ (some 45) _ = _
          simp only [Act.put, List.setIfInBounds_toArray, List.set_cons_zero, List.set_cons_succ, zbq, zbt]
          rfl
         refine one_ (i := 11) (N := some 43) #[true, true, true, true, true, true, true, true, true, true, true, true, true, true, false, false, false, false, false, false, false] rfl rfl (zc8 HT_.out (by kernel_rfl)) (by decide) (fun K hK => ?_)
         refine Kd.zdj (Kd.int .i64) _ 3 ?hg (N := 43) ?hd (xs := ([rd y121 t124, ji12, ji13] : List Int)) (inner := [.int .i64 (rd y121 t124), .int .i64 ji12, .int .i64 ji13]) (ok := fun _ => True) (okp := fun _ => True) ?hr ?hp (fun _ hk => hk) trivial (Below.refl _ _) (Nat.le_refl _) (by simp) ?_; (case hd => rfl); (case hg => rfl); (case hr => first | (go_simp; done) | (go_simp; rfl)); (case hp => exact (Reps.one (show Kd.M (Kd.int .i64) _ _ _ (rd y121 t124) [.int .i64 (rd y121 t124)] from rfl) (Reps.one (show Kd.M (Kd.int .i64) _ _ _ ji12 [.int .i64 ji12] from rfl) (Reps.one (show Kd.M (Kd.int .i64) _ _ _ ji13 [.int .i64 ji13] from rfl) (Reps.none _ _)))))
         intro v128 w44 ho45 hb hg_ hnew_
         clear hg_ hnew_
         (first | rw [← Ny127.out] at ho45 | (simp only [Int.reduceToNat] at ho45; rw [← Ny127.out] at ho45))
         have n0_ := za.mk (Kd.zcs (Zq12 HO114.out) (Kd.zch ho45) hb)
         have n1_ := za.mk (Kd.zcs (Zq12 HO123.out) (Kd.zch ho45) hb)
         have n2_ := za.mk (Kd.zb2 (Kd.zcm (Kd.zcm ho45 (Kd.R_lt (Zq12 HO114.out))) (Kd.R_lt (Zq12 HO123.out))) (zb4 (w := w) (g := g) (row := none) (Zq14 HK.out GW109.out GW118.out)))
         have n3_ := za.mk (zf.below (Zq13 HI0.out NB0_109.out NB0_118.out) hb)
         have n4_ := za.mk (zbg (g := gb109) (o := .cells #[.int .i64 0, .int .i64 0, .int .i64 0] 88 (0, 0)) (Zq4 BK109.out) hb)
         have n5_ := za.mk (zbg (g := gb118) (o := .cells #[.int .i64 0, .int .i64 (rd y121 t124), .int .i64 (rd y112 t115)] 88 (0, 0)) (Zq4 BK118.out) hb)
         have n6_ := za.mk (zi.trans (Zq14 HK.out GW109.out GW118.out) (zi.of_below hb g none) (.inl rfl))
         have n7_ := za.mk (zo (Zq15 HB.out (zf.ge HI0.out) GE109.out GE118.out) hb)
         clear HO114
         clear HO123
         clear HI0
         clear BK109
         clear BK118
         clear HK
         clear HB
         have HO114 := n0_
         have HO123 := n1_
         have HO129 := n2_
         have HI0 := n3_
         have BK109 := n4_
         have BK118 := n5_
         have HK := n6_
         have HB := n7_
         clear n0_ n1_ n2_ n3_ n4_ n5_ n6_ n7_
         clear hb ho45
         obtain ⟨Ao46, co46, eo46⟩ := Kd.zbs HO129.out
         subst eo46
         obtain ⟨ado46, fo46, _⟩ := Kd.zcn (Kd.zbe HO129.out).2.2 0 (by decide) (by rw [Ny127.out]; simp)
         cases fo46
         refine hK.out _ _ ⟨(zh BK118.out 0).trans rfl, (zh BK118.out 1).trans rfl, (zh BK118.out 2).trans rfl⟩ (fun hHeld => ?_)
         clear hK K
         refine zc6 (a' := ?_) ?_ ?_
         rotate_left
         ·show Act.put _ (some 43) _ = _
          simp only [Act.put, List.setIfInBounds_toArray, List.set_cons_zero, List.set_cons_succ, zbq, zbt]
          rfl
         exact zc6 (by simp only [putAll, Act.put, List.setIfInBounds_toArray, List.set_cons_zero, List.set_cons_succ]) (hCont (.slice (some ado46) y127.length co46, ado46) _ ⟨hHeld, (Zq12 HO114.out), (Zq12 HO123.out), (by (with_reducible repeat (first | apply Kd.zbi | apply Kd.zbh | apply Kd.zbj)); exact Kd.zy HO129.out (fun _ hk => ⟨hk.1.2, hk.2⟩)), ⟨_, rfl⟩, (Zq4 BK109.out), (Zq4 BK118.out), (Zq13 HI0.out NB0_109.out NB0_118.out), (Zq14 HK.out GW109.out GW118.out), (Zq15 HB.out (zf.ge HI0.out) GE109.out GE118.out)⟩)
       rintro ⟨v128, adz_v128⟩ w47 ⟨hS_, h0_, h1_, h2_, h3_, h4_, h5_, h6_, h7_, h8_⟩
       have n0_ : za (Kd.R (Kd.int .i64) 3 w47 w.heap.size (fun k_ => some k_ ≠ (.slice (some adz_v122) y121.length co39 : Value).ownBlock ∧ some k_ ≠ (v128 : Value).ownBlock) (.slice (some ad117) y112.length co26) y112) := ⟨h0_⟩
       have n1_ : za (Kd.R (Kd.int .i64) 3 w47 w.heap.size (fun k_ => some k_ ≠ (.slice (some ad117) y112.length co26 : Value).ownBlock ∧ some k_ ≠ (v128 : Value).ownBlock) (.slice (some adz_v122) y121.length co39) y121) := ⟨h1_⟩
       have n2_ : za (Kd.R (Kd.int .i64) 3 w47 w.heap.size (fun k_ => some k_ ≠ (.slice (some ad117) y112.length co26 : Value).ownBlock ∧ some k_ ≠ (.slice (some adz_v122) y121.length co39 : Value).ownBlock) v128 y127) := ⟨h2_⟩
       have n3_ : za (∃ c_, (v128 : Value) = .slice (some adz_v128) y127.length c_) := ⟨h3_⟩
       have n4_ : za (w47.heap[gb109]? = some (.cells #[.int .i64 0, .int .i64 0, .int .i64 0] 88 (0, 0))) := ⟨h4_⟩
       have n5_ : za (w47.heap[gb118]? = some (.cells #[.int .i64 0, .int .i64 (rd y121 t124), .int .i64 (rd y112 t115)] 88 (0, 0))) := ⟨h5_⟩
       have n6_ : za (zf w0 w47 g s0_0 t131) := ⟨h6_⟩
       have n7_ : za (zi w w47 g none) := ⟨h7_⟩
       have n8_ : za (Below w0.heap.size w0 w47) := ⟨h8_⟩
       clear HO114
       clear HO123
       clear BK109
       clear BK118
       clear HI0
       clear HK
       clear HB
       clear h0_ h1_ h2_ h3_ h4_ h5_ h6_ h7_ h8_
       have HO114 := n0_
       have HO123 := n1_
       have HO129 := n2_
       have HA_HO129 := n3_
       have BK109 := n4_
       have BK118 := n5_
       have HI0 := n6_
       have HK := n7_
       have HB := n8_
       clear n0_ n1_ n2_ n3_ n4_ n5_ n6_ n7_ n8_
       have hHeld : w47.cell? ⟨gb118, 0, none⟩ = some (.int .i64 0) ∧ w47.cell? ⟨gb118, 1, none⟩ = some (.int .i64 (rd y121 t124)) ∧ w47.cell? ⟨gb118, 2, none⟩ = some (.int .i64 (rd y112 t115)) := hS_
       obtain ⟨co48, eo48⟩ := HA_HO129.out
       clear HA_HO129
       subst eo48
       refine zc6 (a' := ?_) ?_ ?_
       rotate_left
       ·simp only [putAll, Act.put, List.setIfInBounds_toArray, List.set_cons_zero, List.set_cons_succ]
        rfl
       refine zce (i := 14) (N := some 46) (v := ?_) (a' := ?_) #[true, true, true, true, true, true, true, true, true, true, true, true, true, true, true, false, false, false, false, false, false] rfl rfl (zby HT_.out (by kernel_rfl)) (fun _ _ _ h => h) (Or.inl ⟨by rfl, ?_⟩) ?_ ?_
       rotate_left
       ·intro w'
        go_simp
        with_reducible rfl
       rotate_left
       ·simp only [Act.put, List.setIfInBounds_toArray, List.set_cons_zero, List.set_cons_succ, zbq, zbt]
        rfl
       refine one_ (i := 15) (N := some 47) #[true, true, true, true, true, true, true, true, true, true, true, true, true, true, true, true, false, false, false, false, false] rfl rfl (zc8 HT_.out (by kernel_rfl)) (by decide) (fun K hK => ?_)
       (have p132 : 0 ≤ (t130 : Int) := of_decide_eq_true Zas; have q132 : t130 < (y127.length : Int) := of_decide_eq_true Zas; obtain ⟨ad132, e132, hx132_0⟩ := Kd.zcn (Kd.zbe HO129.out).2.2 t130 p132 q132; obtain rfl : adz_v128 = ad132 := (by injection e132))
       refine value_ (w1 := ?_) (v := ?_) (by rfl) rfl ?_ ?_
       rotate_left 2
       ·go_simp
        constructor
        ·rfl
        ·rfl
       clear hx132_0
       refine hK.out _ _ ⟨(zh BK118.out 0).trans rfl, (zh BK118.out 1).trans rfl, (zh BK118.out 2).trans rfl⟩ (fun hHeld => ?_)
       clear hK K
       refine zc6 (a' := ?_) ?_ ?_
       rotate_left
       ·show Act.put _ (some 47) _ = _
        simp only [Act.put, List.setIfInBounds_toArray, List.set_cons_zero, List.set_cons_succ, zbq, zbt]
        rfl
       refine zce (i := 16) (N := some 48) (v := ?_) (a' := ?_) #[true, true, true, true, true, true, true, true, true, true, true, true, true, true, true, true, true, false, false, false, false] rfl rfl (zby HT_.out (by kernel_rfl)) (fun _ _ _ h => h) (Or.inl ⟨by rfl, ?_⟩) ?_ ?_
       rotate_left
       ·intro w'
        go_simp
        with_reducible rfl
       rotate_left
       ·simp only [Act.put, List.setIfInBounds_toArray, List.set_cons_zero, List.set_cons_succ, zbq, zbt]
        rfl
       refine one_ (i := 17) (N := some 49) #[true, true, true, true, true, true, true, true, true, true, true, true, true, true, true, true, true, true, false, false, false] rfl rfl (zc8 HT_.out (by kernel_rfl)) (by decide) (fun K hK => ?_)
       refine goes_ Try.func68 (by kernel_rfl) rfl #[.pointer (some ⟨g, 0, none⟩), .int .i64 ji17] (by rfl) rfl rfl (by (try simp only [List.map_toArray, List.map_cons, List.map_nil]); first | done | (simp only [hji17]; rfl) | rfl | (simp only [List.length_drop, List.length_take]; rfl)) ?_
       with_reducible refine (zb.calls k g s0_0 t131 ji17 t133 t134 w0 _ ?side1 ?side2 A18.out).mono ?_
       (case side1 => exact Zq13 HI0.out NB0_109.out NB0_118.out)
       (case side2 => exact Zq15 HB.out (zf.ge HI0.out) GE109.out GE118.out)
       rintro e w49 ⟨rfl, hi, hb, hk⟩
       refine ⟨_, rfl, ?_⟩
       have n0_ := za.mk (zi.blk hk (g' := gb109) (o := .cells #[.int .i64 0, .int .i64 0, .int .i64 0] 88 (0, 0)) (Zq4 BK109.out) NB109_0.out (by simp))
       have n1_ := za.mk (Kd.zy (Kd.zbo (zf.apart (show zf w0 _ g s0_0 t131 from Zq13 HI0.out NB0_109.out NB0_118.out) (Zq12 HO114.out) (by decide)) hk (fun _ h => h.2)) (fun _ h => h.1))
       have n2_ := za.mk (zi.blk hk (g' := gb118) (o := .cells #[.int .i64 0, .int .i64 (rd y121 t124), .int .i64 (rd y112 t115)] 88 (0, 0)) (Zq4 BK118.out) NB118_0.out (by simp))
       have n3_ := za.mk (Kd.zy (Kd.zbo (zf.apart (show zf w0 _ g s0_0 t131 from Zq13 HI0.out NB0_109.out NB0_118.out) (Zq12 HO123.out) (by decide)) hk (fun _ h => h.2)) (fun _ h => h.1))
       have n4_ := za.mk (Kd.zy (Kd.zbo (zf.apart (show zf w0 _ g s0_0 t131 from Zq13 HI0.out NB0_109.out NB0_118.out) (Zq12 HO129.out) (by decide)) hk (fun _ h => h.2)) (fun _ h => h.1))
       have n5_ := za.mk (zi.trans (Zq14 HK.out GW109.out GW118.out) hk (.inl rfl))
       have n6_ := za.mk (hb)
       have n7_ := za.mk (hi)
       clear BK109
       clear HO114
       clear BK118
       clear HO123
       clear HO129
       clear HK
       clear HB
       clear HI0
       have BK109 := n0_
       have HO114 := n1_
       have BK118 := n2_
       have HO123 := n3_
       have HO129 := n4_
       have HK := n5_
       have HB := n6_
       have HI0 := n7_
       clear n0_ n1_ n2_ n3_ n4_ n5_ n6_ n7_
       (try clear hb)
       (try clear hb2)
       (try clear hk)
       (try clear hi)
       refine hK.out _ _ ⟨(zh BK118.out 0).trans rfl, (zh BK118.out 1).trans rfl, (zh BK118.out 2).trans rfl⟩ (fun hHeld => ?_)
       clear hK K
       refine zc6 (a' := ?_) ?_ ?_
       rotate_left
       ·show Act.put _ (some 49) _ = _
        simp only [Act.put, List.setIfInBounds_toArray, List.set_cons_zero, List.set_cons_succ, zbq, zbt]
        rfl
       refine zce (i := 18) (N := some 50) (v := ?_) (a' := ?_) #[true, true, true, true, true, true, true, true, true, true, true, true, true, true, true, true, true, true, true, false, false] rfl rfl (zby HT_.out (by kernel_rfl)) (fun _ _ _ h => h) (Or.inl ⟨by rfl, ?_⟩) ?_ ?_
       rotate_left
       ·intro w'
        go_simp
        with_reducible rfl
       rotate_left
       ·simp only [Act.put, List.setIfInBounds_toArray, List.set_cons_zero, List.set_cons_succ, zbq, zbt]
        rfl
       refine zce (i := 19) (N := some 51) (v := ?_) (a' := ?_) #[true, true, true, true, true, true, true, true, true, true, true, true, true, true, true, true, true, true, true, true, false] rfl rfl (zby HT_.out (by kernel_rfl)) (fun _ _ _ h => h) (Or.inl ⟨by rfl, ?_⟩) ?_ ?_
       rotate_left
       ·intro w'
        go_simp
        with_reducible rfl
       rotate_left
       ·simp only [Act.put, List.setIfInBounds_toArray, List.set_cons_zero, List.set_cons_succ, zbq, zbt]
        rfl
       refine last_ (i := 20) (N := none) #[true, true, true, true, true, true, true, true, true, true, true, true, true, true, true, true, true, true, true, true, true] rfl rfl (zc8 HT_.out (by kernel_rfl)) (by decide) (fun K hK => ?_)
       have hs50 : w49.cell? ⟨gb118, 0, none⟩ = some (.int .i64 0) := (zh BK118.out 0).trans rfl
       have hfs50 := zg BK118.out 0
       have hns50_0 := NB109_118.out
       have hms50_0 := NB118_109.out
       refine skip_ (w1 := ?_) (by rfl) rfl ?_ ?_
       rotate_left
       ·go_simp
        rfl
       refine hK.out _ _ ?_
       clear hK K
       refine done_ (done_of HT_.out (by kernel_rfl)) ?_
       go_upto_if 54 with (first | ((with_reducible refine zba (f := 89) rfl ?_); refine zbv (some 54) rfl rfl Try.func89 (by kernel_rfl) rfl #[.pointer (some ⟨g, 0, none⟩), .int .i64 a1] rfl Zmt ?_; (with_reducible refine (zbk.calls k g s0_0 t134 a1 t135 t136 w0 _ ?side1 ?side2 A19.out).mono ?_); (case side1 => exact Zq13 HI0.out NB0_109.out NB0_118.out); (case side2 => exact Zq15 HB.out (zf.ge HI0.out) GE109.out GE118.out); rintro e w51 ⟨rfl, hi, hb, hk⟩; refine ⟨_, rfl, ?_⟩; have n0_ := za.mk (zi.blk hk (g' := gb109) (o := .cells #[.int .i64 0, .int .i64 0, .int .i64 0] 88 (0, 0)) (by (with_reducible repeat (first | refine zn ?_ _ | refine zt ?_ | refine zm ?_ _)); refine zcl ?_ NB109_118.out _; (with_reducible repeat (first | refine zn ?_ _ | refine zt ?_ | refine zm ?_ _)); exact BK109.out) NB109_0.out (by simp)); have n1_ := za.mk (Kd.zy (Kd.zbo (zf.apart (show zf w0 _ g s0_0 t134 from Zq13 HI0.out NB0_109.out NB0_118.out) (by (with_reducible repeat (first | apply Kd.zbi | apply Kd.zbh | apply Kd.zbj)); exact (Kd.zy (Kd.zb9 (p := ⟨gb118, 0, none⟩) (Kd.zb5 HO114.out BK118.out (by decide)) (fun _ hk => hk.2) (.int .i64 (wrap64 (1 + t133)))) (fun _ h_ => h_.1))) (by decide)) hk (fun _ h => h.2)) (fun _ h => h.1)); have n2_ := za.mk (zi.blk hk (g' := gb118) (o := .cells #[.int .i64 (wrap64 (1 + t133)), .int .i64 (rd y121 t124), .int .i64 (rd y112 t115)] 88 (0, 0)) (by (with_reducible repeat (first | refine zn ?_ _ | refine zt ?_ | refine zm ?_ _)); refine zbu (cs := #[.int .i64 0, .int .i64 (rd y121 t124), .int .i64 (rd y112 t115)]) ?_ 0 _ rfl; (with_reducible repeat (first | refine zn ?_ _ | refine zt ?_ | refine zm ?_ _)); exact BK118.out) NB118_0.out (by simp)); have n3_ := za.mk (Kd.zy (Kd.zbo (zf.apart (show zf w0 _ g s0_0 t134 from Zq13 HI0.out NB0_109.out NB0_118.out) (by (with_reducible repeat (first | apply Kd.zbi | apply Kd.zbh | apply Kd.zbj)); exact (Kd.zy (Kd.zb9 (p := ⟨gb118, 0, none⟩) (Kd.zb5 HO123.out BK118.out (by decide)) (fun _ hk => hk.2) (.int .i64 (wrap64 (1 + t133)))) (fun _ h_ => h_.1))) (by decide)) hk (fun _ h => h.2)) (fun _ h => h.1)); have n4_ := za.mk (Kd.zy (Kd.zbo (zf.apart (show zf w0 _ g s0_0 t134 from Zq13 HI0.out NB0_109.out NB0_118.out) (by (with_reducible repeat (first | apply Kd.zbi | apply Kd.zbh | apply Kd.zbj)); exact (Kd.zy (Kd.zb9 (p := ⟨gb118, 0, none⟩) (Kd.zb5 HO129.out BK118.out (by decide)) (fun _ hk => hk.2) (.int .i64 (wrap64 (1 + t133)))) (fun _ h_ => h_.1))) (by decide)) hk (fun _ h => h.2)) (fun _ h => h.1)); have n5_ := za.mk (zi.trans (Zq14 HK.out GW109.out GW118.out) hk (.inl rfl)); have n6_ := za.mk (hb); have n7_ := za.mk (hi); clear BK109; clear HO114; clear BK118; clear HO123; clear HO129; clear HK; clear HB; clear HI0; have BK109 := n0_; have HO114 := n1_; have BK118 := n2_; have HO123 := n3_; have HO129 := n4_; have HK := n5_; have HB := n6_; have HI0 := n7_; clear n0_ n1_ n2_ n3_ n4_ n5_ n6_ n7_; (try clear hb); (try clear hb2); (try clear hk); (try clear hi)))
       (try simp only [Act.put, List.setIfInBounds_toArray, List.set_cons_zero, List.set_cons_succ])
       go_cut [] (fun wc => ∃ (kq : Nat) (x1001_19 : Int) (x119000_19 : Int) (x119001_19 : Int) (x119002_19 : Int), za (zk.j0 kq s0_0 x1001_19 x119000_19 x119001_19 x119002_19 = some (r1, r2, r3, r4)) ∧ za (kq ≤ k) ∧ za (wc.heap[gb109]? = some (.cells #[.int .i64 0, .int .i64 0, .int .i64 0] 88 (0, 0))) ∧ za (wc.heap[gb118]? = some (.cells #[.int .i64 x119000_19, .int .i64 x119001_19, .int .i64 x119002_19] 88 (0, 0))) ∧ za (zf w0 wc g s0_0 x1001_19) ∧ za (zi w wc g none) ∧ za (Below w0.heap.size w0 wc))
       case first =>
        have H := HC20.out
        clear HC20
        by_cases c52 : t135 = true
        ·subst c52
         have H1 : ((zb.f k s0_0 t136 3).bind fun bt137 => (if bt137.1 = 0 then ((some (([0, (-1), 9, wrap64 ((rd y121 t124) + 1)] : List Int) : List Int)).bind fun y139 => ((zb.f k s0_0 bt137.2 4).bind fun bt142 => (if 0 ≤ bt142.1 then (if bt142.1 < (y139.length : Int) then (zk.j0 k s0_0 bt142.2 (rd y139 bt142.1) (rd y121 t124) (rd y112 t115)) else (none)) else (none)))) else (if bt137.1 = 1 then ((some (([0, wrap64 ((rd y112 t115) + 1), (-1)] : List Int) : List Int)).bind fun y145 => ((zb.f k s0_0 bt137.2 3).bind fun bt148 => (if 0 ≤ bt148.1 then (if bt148.1 < (y145.length : Int) then (zk.j0 k s0_0 bt148.2 (wrap64 (1 + t133)) (rd y145 bt148.1) (rd y112 t115)) else (none)) else (none)))) else ((some (([0, 13, (-1)] : List Int) : List Int)).bind fun y151 => ((zb.f k s0_0 bt137.2 3).bind fun bt154 => (if 0 ≤ bt154.1 then (if bt154.1 < (y151.length : Int) then (zk.j0 k s0_0 bt154.2 (wrap64 (1 + t133)) (rd y121 t124) (rd y151 bt154.1)) else (none)) else (none))))))) = some (r1, r2, r3, r4) := by rw [if_pos rfl] at H; exact H
         clear H
         have H := H1
         clear H1
         replace H := Option.bind_eq_some_iff.mp H
         obtain ⟨⟨t137, t138⟩, A530, H⟩ := H
         replace H : (if t137 = 0 then ((some (([0, (-1), 9, wrap64 ((rd y121 t124) + 1)] : List Int) : List Int)).bind fun y139 => ((zb.f k s0_0 t138 4).bind fun bt142 => (if 0 ≤ bt142.1 then (if bt142.1 < (y139.length : Int) then (zk.j0 k s0_0 bt142.2 (rd y139 bt142.1) (rd y121 t124) (rd y112 t115)) else (none)) else (none)))) else (if t137 = 1 then ((some (([0, wrap64 ((rd y112 t115) + 1), (-1)] : List Int) : List Int)).bind fun y145 => ((zb.f k s0_0 t138 3).bind fun bt148 => (if 0 ≤ bt148.1 then (if bt148.1 < (y145.length : Int) then (zk.j0 k s0_0 bt148.2 (wrap64 (1 + t133)) (rd y145 bt148.1) (rd y112 t115)) else (none)) else (none)))) else ((some (([0, 13, (-1)] : List Int) : List Int)).bind fun y151 => ((zb.f k s0_0 t138 3).bind fun bt154 => (if 0 ≤ bt154.1 then (if bt154.1 < (y151.length : Int) then (zk.j0 k s0_0 bt154.2 (wrap64 (1 + t133)) (rd y121 t124) (rd y151 bt154.1)) else (none)) else (none)))))) = some (r1, r2, r3, r4) := H
         have A53 := za.mk A530
         clear A530
         by_cases c54 : t137 = 0
         ·rw [if_pos c54] at H
          have c54b0 : (t137 == 0) = true := beq_iff_eq.mpr c54
          have c54b1 : (t137 != 0) = false := bne_eq_false_iff_eq.mpr c54
          clear c54
          (first | rw [c54b0] | (simp only [zbq, zbt]; rw [c54b0]) | skip)
          obtain ⟨y139, hy139⟩ : ∃ y_ : List Int, y_ = (([0, (-1), 9, wrap64 ((rd y121 t124) + 1)] : List Int)) := ⟨_, rfl⟩
          replace H : ((zb.f k s0_0 t138 4).bind fun bt142 => (if 0 ≤ bt142.1 then (if bt142.1 < (y139.length : Int) then (zk.j0 k s0_0 bt142.2 (rd y139 bt142.1) (rd y121 t124) (rd y112 t115)) else (none)) else (none))) = some (r1, r2, r3, r4) := by first | (rw [hy139]; with_reducible exact H) | (have H2_ := (Option.bind_some _ _).symm.trans H; rw [hy139]; with_reducible exact H2_) | (have H2_ := (Option.bind_some _ _).symm.trans H; with_reducible exact H2_) | with_reducible exact H | (rw [hy139]; exact H) | exact H
          have Ny139 := za.mk hy139
          clear hy139
          replace H := Option.bind_eq_some_iff.mp H
          obtain ⟨⟨t142, t143⟩, A550, H⟩ := H
          replace H : (if 0 ≤ t142 then (if t142 < (y139.length : Int) then (zk.j0 k s0_0 t143 (rd y139 t142) (rd y121 t124) (rd y112 t115)) else (none)) else (none)) = some (r1, r2, r3, r4) := H
          have A55 := za.mk A550
          clear A550
          by_cases c56 : 0 ≤ t142
          ·rw [if_pos c56] at H
           have c56b0 : decide (0 ≤ t142) = true := decide_eq_true c56
           clear c56
           by_cases c57 : t142 < (y139.length : Int)
           ·rw [if_pos c57] at H
            have c57b0 : decide (t142 < (y139.length : Int)) = true := decide_eq_true c57
            clear c57
            have H' := za.mk H
            clear H
            try go_wp2_with (first | ((with_reducible refine zba (f := 68) rfl ?_); refine zbv (some 56) rfl rfl Try.func68 (by kernel_rfl) rfl #[.pointer (some ⟨g, 0, none⟩), .int .i64 3] rfl Zmt ?_; (with_reducible refine (zb.calls k g s0_0 t136 3 t137 t138 w0 _ ?side1 ?side2 A53.out).mono ?_); (case side1 => exact Zq13 HI0.out NB0_109.out NB0_118.out); (case side2 => exact Zq15 HB.out (zf.ge HI0.out) GE109.out GE118.out); rintro e w58 ⟨rfl, hi, hb, hk⟩; refine ⟨_, rfl, ?_⟩; have n0_ := za.mk (zi.blk hk (g' := gb109) (o := .cells #[.int .i64 0, .int .i64 0, .int .i64 0] 88 (0, 0)) (Zq4 BK109.out) NB109_0.out (by simp)); have n1_ := za.mk (Kd.zy (Kd.zbo (zf.apart (show zf w0 _ g s0_0 t136 from Zq13 HI0.out NB0_109.out NB0_118.out) (Zq12 HO114.out) (by decide)) hk (fun _ h => h.2)) (fun _ h => h.1)); have n2_ := za.mk (zi.blk hk (g' := gb118) (o := .cells #[.int .i64 (wrap64 (1 + t133)), .int .i64 (rd y121 t124), .int .i64 (rd y112 t115)] 88 (0, 0)) (Zq4 BK118.out) NB118_0.out (by simp)); have n3_ := za.mk (Kd.zy (Kd.zbo (zf.apart (show zf w0 _ g s0_0 t136 from Zq13 HI0.out NB0_109.out NB0_118.out) (Zq12 HO123.out) (by decide)) hk (fun _ h => h.2)) (fun _ h => h.1)); have n4_ := za.mk (Kd.zy (Kd.zbo (zf.apart (show zf w0 _ g s0_0 t136 from Zq13 HI0.out NB0_109.out NB0_118.out) (Zq12 HO129.out) (by decide)) hk (fun _ h => h.2)) (fun _ h => h.1)); have n5_ := za.mk (zi.trans (Zq14 HK.out GW109.out GW118.out) hk (.inl rfl)); have n6_ := za.mk (hb); have n7_ := za.mk (hi); clear BK109; clear HO114; clear BK118; clear HO123; clear HO129; clear HK; clear HB; clear HI0; have BK109 := n0_; have HO114 := n1_; have BK118 := n2_; have HO123 := n3_; have HO129 := n4_; have HK := n5_; have HB := n6_; have HI0 := n7_; clear n0_ n1_ n2_ n3_ n4_ n5_ n6_ n7_; (try clear hb); (try clear hb2); (try clear hk); (try clear hi)))
            have pi144 : (0 ≤ (t142 : Int)) = True := eq_true (of_decide_eq_true Zas)
            have qi144 : (t142 < (y139.length : Int)) = True := eq_true (of_decide_eq_true Zas)
            have n0_ := za.mk (Kd.zbj HO114.out)
            have n1_ := za.mk (Kd.zbj HO123.out)
            have n2_ := za.mk (Kd.zbj HO129.out)
            have n3_ := za.mk (zt BK109.out)
            have n4_ := za.mk (zt BK118.out)
            have n5_ := za.mk (zf.drew HI0.out)
            have n6_ := za.mk (keep_drew HK.out)
            have n7_ := za.mk (zb6 HB.out)
            clear HO114
            clear HO123
            clear HO129
            clear BK109
            clear BK118
            clear HI0
            clear HK
            clear HB
            have HO114 := n0_
            have HO123 := n1_
            have HO129 := n2_
            have BK109 := n3_
            have BK118 := n4_
            have HI0 := n5_
            have HK := n6_
            have HB := n7_
            clear n0_ n1_ n2_ n3_ n4_ n5_ n6_ n7_
            refine start_ (n := 10) (S := fun w' => w'.cell? ⟨gb118, 0, none⟩ = some (.int .i64 (wrap64 (1 + t133))) ∧ w'.cell? ⟨gb118, 1, none⟩ = some (.int .i64 (rd y121 t124)) ∧ w'.cell? ⟨gb118, 2, none⟩ = some (.int .i64 (rd y112 t115))) (ds := [9]) #[false, false, false, false, false, false, false, false, false, false] (by kernel_rfl) rfl rfl ⟨(zh BK118.out 0).trans rfl, (zh BK118.out 1).trans rfl, (zh BK118.out 2).trans rfl⟩ (fun hHeld => ?_); refine zdq zk.tab8 zk.bits8 (fun HT_ HW_ => ?_)
            generalize w58.drew = w59 at HO114 HO123 HO129 BK109 BK118 HI0 HK HB hHeld ⊢
            refine zce (i := 0) (N := some 65) (v := ?_) (a' := ?_) #[true, false, false, false, false, false, false, false, false, false] rfl rfl (zby HT_.out (by kernel_rfl)) (fun _ _ _ h => h) (Or.inl ⟨by rfl, ?_⟩) ?_ ?_
            rotate_left
            ·intro w'
             go_simp
             with_reducible rfl
            rotate_left
            ·simp only [Act.put, List.setIfInBounds_toArray, List.set_cons_zero, List.set_cons_succ, zbq, zbt]
             rfl
            refine zce (i := 4) (N := some 69) (v := ?_) (a' := ?_) #[true, false, false, false, true, false, false, false, false, false] rfl rfl (zby HT_.out (by kernel_rfl)) (fun _ _ _ h => h) (Or.inl ⟨by rfl, ?_⟩) ?_ ?_
            rotate_left
            ·intro w'
             go_simp
             with_reducible rfl
            rotate_left
            ·simp only [Act.put, List.setIfInBounds_toArray, List.set_cons_zero, List.set_cons_succ, zbq, zbt]
             rfl
            refine take_ (i := 1) (N := some 66) (v := ?_) (a' := ?_) #[true, true, false, false, true, false, false, false, false, false] rfl rfl (zc5 HT_.out HW_.out (by kernel_rfl)) (fun _ _ _ h => h) (Or.inl ⟨by rfl, ?_⟩) hHeld ?_ ?_
            rotate_left
            ·rintro w' ⟨s0, s1, s2⟩
             go_simp
             with_reducible rfl
            rotate_left
            ·simp only [Act.put, List.setIfInBounds_toArray, List.set_cons_zero, List.set_cons_succ, zbq, zbt]
             rfl
            refine zce (i := 2) (N := some 67) (v := ?_) (a' := ?_) #[true, true, true, false, true, false, false, false, false, false] rfl rfl (zby HT_.out (by kernel_rfl)) (fun _ _ _ h => h) (Or.inl ⟨by rfl, ?_⟩) ?_ ?_
            rotate_left
            ·intro w'
             go_simp
             with_reducible rfl
            rotate_left
            ·simp only [Act.put, List.setIfInBounds_toArray, List.set_cons_zero, List.set_cons_succ, zbq, zbt]
             rfl
            refine join_ (σ := Value × Addr) 4 #[true, true, true, true, true, true, false, false, false, false] (fun s_ => [(68, s_.1), (70, .int .i64 t142)]) (fun s_ w' => (w'.cell? ⟨gb118, 0, none⟩ = some (.int .i64 (wrap64 (1 + t133))) ∧ w'.cell? ⟨gb118, 1, none⟩ = some (.int .i64 (rd y121 t124)) ∧ w'.cell? ⟨gb118, 2, none⟩ = some (.int .i64 (rd y112 t115))) ∧ (Kd.R (Kd.int .i64) 3 w' w.heap.size (fun k_ => some k_ ≠ (.slice (some adz_v122) y121.length co39 : Value).ownBlock ∧ some k_ ≠ (.slice (some adz_v128) y127.length co48 : Value).ownBlock ∧ some k_ ≠ (s_.1 : Value).ownBlock) (.slice (some ad117) y112.length co26) y112) ∧ (Kd.R (Kd.int .i64) 3 w' w.heap.size (fun k_ => some k_ ≠ (.slice (some ad117) y112.length co26 : Value).ownBlock ∧ some k_ ≠ (.slice (some adz_v128) y127.length co48 : Value).ownBlock ∧ some k_ ≠ (s_.1 : Value).ownBlock) (.slice (some adz_v122) y121.length co39) y121) ∧ (Kd.R (Kd.int .i64) 3 w' w.heap.size (fun k_ => some k_ ≠ (.slice (some ad117) y112.length co26 : Value).ownBlock ∧ some k_ ≠ (.slice (some adz_v122) y121.length co39 : Value).ownBlock ∧ some k_ ≠ (s_.1 : Value).ownBlock) (.slice (some adz_v128) y127.length co48) y127) ∧ (Kd.R (Kd.int .i64) 3 w' w.heap.size (fun k_ => some k_ ≠ (.slice (some ad117) y112.length co26 : Value).ownBlock ∧ some k_ ≠ (.slice (some adz_v122) y121.length co39 : Value).ownBlock ∧ some k_ ≠ (.slice (some adz_v128) y127.length co48 : Value).ownBlock) s_.1 y139) ∧ (∃ c_, (s_.1 : Value) = .slice (some s_.2) y139.length c_) ∧ (w'.heap[gb109]? = some (.cells #[.int .i64 0, .int .i64 0, .int .i64 0] 88 (0, 0))) ∧ (w'.heap[gb118]? = some (.cells #[.int .i64 (wrap64 (1 + t133)), .int .i64 (rd y121 t124), .int .i64 (rd y112 t115)] 88 (0, 0))) ∧ (zf w0 w' g s0_0 t143) ∧ (zi w w' g none) ∧ (Below w0.heap.size w0 w')) ?_ ?_
            rotate_left
            ·intro hCont
             refine two_ (i := 3) (j := 5) (Ni := some 68) (Nj := some 70) #[true, true, true, true, true, false, false, false, false, false] #[true, true, true, false, true, true, false, false, false, false] rfl rfl rfl rfl (two_of HT_.out (by kernel_rfl)) (by decide) (by decide) (fun K hK => ?_) (fun K hK => ?_)
             ·skip
              refine Kd.zdj (Kd.int .i64) _ 3 ?hg (N := 68) ?hd (xs := ([0, (-1), 9, wrap64 ((rd y121 t124) + 1)] : List Int)) (inner := [.int .i64 0, .int .i64 (-1), .int .i64 9, .int .i64 (wrap64 ((rd y121 t124) + 1))]) (ok := fun _ => True) (okp := fun _ => True) ?hr ?hp (fun _ hk => hk) trivial (Below.refl _ _) (Nat.le_refl _) (by simp) ?_; (case hd => rfl); (case hg => rfl); (case hr => first | (go_simp; done) | (go_simp; rfl)); (case hp => exact (Reps.one (show Kd.M (Kd.int .i64) _ _ _ 0 [.int .i64 0] from rfl) (Reps.one (show Kd.M (Kd.int .i64) _ _ _ (-1) [.int .i64 (-1)] from rfl) (Reps.one (show Kd.M (Kd.int .i64) _ _ _ 9 [.int .i64 9] from rfl) (Reps.one (show Kd.M (Kd.int .i64) _ _ _ (wrap64 ((rd y121 t124) + 1)) [.int .i64 (wrap64 ((rd y121 t124) + 1))] from rfl) (Reps.none _ _))))))
              intro v140 w60 ho61 hb hg_ hnew_
              clear hg_ hnew_
              (first | rw [← Ny139.out] at ho61 | (simp only [Int.reduceToNat] at ho61; rw [← Ny139.out] at ho61))
              have n0_ := za.mk (Kd.zcs (Zq12 HO114.out) (Kd.zch ho61) hb)
              have n1_ := za.mk (Kd.zcs (Zq12 HO123.out) (Kd.zch ho61) hb)
              have n2_ := za.mk (Kd.zcs (Zq12 HO129.out) (Kd.zch ho61) hb)
              have n3_ := za.mk (Kd.zb2 (Kd.zcm (Kd.zcm (Kd.zcm ho61 (Kd.R_lt (Zq12 HO114.out))) (Kd.R_lt (Zq12 HO123.out))) (Kd.R_lt (Zq12 HO129.out))) (zb4 (w := w) (g := g) (row := none) (Zq14 HK.out GW109.out GW118.out)))
              have n4_ := za.mk (zf.below (Zq13 HI0.out NB0_109.out NB0_118.out) hb)
              have n5_ := za.mk (zbg (g := gb109) (o := .cells #[.int .i64 0, .int .i64 0, .int .i64 0] 88 (0, 0)) (Zq4 BK109.out) hb)
              have n6_ := za.mk (zbg (g := gb118) (o := .cells #[.int .i64 (wrap64 (1 + t133)), .int .i64 (rd y121 t124), .int .i64 (rd y112 t115)] 88 (0, 0)) (Zq4 BK118.out) hb)
              have n7_ := za.mk (zi.trans (Zq14 HK.out GW109.out GW118.out) (zi.of_below hb g none) (.inl rfl))
              have n8_ := za.mk (zo (Zq15 HB.out (zf.ge HI0.out) GE109.out GE118.out) hb)
              clear HO114
              clear HO123
              clear HO129
              clear HI0
              clear BK109
              clear BK118
              clear HK
              clear HB
              have HO114 := n0_
              have HO123 := n1_
              have HO129 := n2_
              have HO141 := n3_
              have HI0 := n4_
              have BK109 := n5_
              have BK118 := n6_
              have HK := n7_
              have HB := n8_
              clear n0_ n1_ n2_ n3_ n4_ n5_ n6_ n7_ n8_
              clear hb ho61
              obtain ⟨Ao62, co62, eo62⟩ := Kd.zbs HO141.out
              subst eo62
              obtain ⟨ado62, fo62, _⟩ := Kd.zcn (Kd.zbe HO141.out).2.2 0 (by decide) (by rw [Ny139.out]; simp)
              cases fo62
              refine hK.out _ _ ⟨(zh BK118.out 0).trans rfl, (zh BK118.out 1).trans rfl, (zh BK118.out 2).trans rfl⟩ (fun hHeld => ?_)
              clear hK K
              refine zc6 (a' := ?_) ?_ ?_
              rotate_left
              ·show Act.put _ (some 68) _ = _
               simp only [Act.put, List.setIfInBounds_toArray, List.set_cons_zero, List.set_cons_succ, zbq, zbt]
               rfl
              refine one_ (i := 5) (N := some 70) #[true, true, true, true, true, true, false, false, false, false] rfl rfl (zc8 HT_.out (by kernel_rfl)) (by decide) (fun K hK => ?_)
              refine goes_ Try.func68 (by kernel_rfl) rfl #[.pointer (some ⟨g, 0, none⟩), .int .i64 4] (by rfl) rfl rfl Zmt ?_
              with_reducible refine (zb.calls k g s0_0 t138 4 t142 t143 w0 _ ?side1 ?side2 A55.out).mono ?_
              (case side1 => exact Zq13 HI0.out NB0_109.out NB0_118.out)
              (case side2 => exact Zq15 HB.out (zf.ge HI0.out) GE109.out GE118.out)
              rintro e w63 ⟨rfl, hi, hb, hk⟩
              refine ⟨_, rfl, ?_⟩
              have n0_ := za.mk (zi.blk hk (g' := gb109) (o := .cells #[.int .i64 0, .int .i64 0, .int .i64 0] 88 (0, 0)) (Zq4 BK109.out) NB109_0.out (by simp))
              have n1_ := za.mk (Kd.zy (Kd.zbo (zf.apart (show zf w0 _ g s0_0 t138 from Zq13 HI0.out NB0_109.out NB0_118.out) (Zq12 HO114.out) (by decide)) hk (fun _ h => h.2)) (fun _ h => h.1))
              have n2_ := za.mk (zi.blk hk (g' := gb118) (o := .cells #[.int .i64 (wrap64 (1 + t133)), .int .i64 (rd y121 t124), .int .i64 (rd y112 t115)] 88 (0, 0)) (Zq4 BK118.out) NB118_0.out (by simp))
              have n3_ := za.mk (Kd.zy (Kd.zbo (zf.apart (show zf w0 _ g s0_0 t138 from Zq13 HI0.out NB0_109.out NB0_118.out) (Zq12 HO123.out) (by decide)) hk (fun _ h => h.2)) (fun _ h => h.1))
              have n4_ := za.mk (Kd.zy (Kd.zbo (zf.apart (show zf w0 _ g s0_0 t138 from Zq13 HI0.out NB0_109.out NB0_118.out) (Zq12 HO129.out) (by decide)) hk (fun _ h => h.2)) (fun _ h => h.1))
              have n5_ := za.mk (Kd.zy (Kd.zbo (zf.apart (show zf w0 _ g s0_0 t138 from Zq13 HI0.out NB0_109.out NB0_118.out) (Zq12 HO141.out) (by decide)) hk (fun _ h => h.2)) (fun _ h => h.1))
              have n6_ := za.mk (zi.trans (Zq14 HK.out GW109.out GW118.out) hk (.inl rfl))
              have n7_ := za.mk (hb)
              have n8_ := za.mk (hi)
              clear BK109
              clear HO114
              clear BK118
              clear HO123
              clear HO129
              clear HO141
              clear HK
              clear HB
              clear HI0
              have BK109 := n0_
              have HO114 := n1_
              have BK118 := n2_
              have HO123 := n3_
              have HO129 := n4_
              have HO141 := n5_
              have HK := n6_
              have HB := n7_
              have HI0 := n8_
              clear n0_ n1_ n2_ n3_ n4_ n5_ n6_ n7_ n8_
              (try clear hb)
              (try clear hb2)
              (try clear hk)
              (try clear hi)
              refine hK.out _ _ ⟨(zh BK118.out 0).trans rfl, (zh BK118.out 1).trans rfl, (zh BK118.out 2).trans rfl⟩ (fun hHeld => ?_)
              clear hK K
              refine zc6 (a' := ?_) ?_ ?_
              rotate_left
              ·show Act.put _ (some 70) _ = _
               simp only [Act.put, List.setIfInBounds_toArray, List.set_cons_zero, List.set_cons_succ, zbq, zbt]
               rfl
              exact zc6 (by simp only [putAll, Act.put, List.setIfInBounds_toArray, List.set_cons_zero, List.set_cons_succ]) (hCont (.slice (some ado62) y139.length co62, ado62) _ ⟨hHeld, (by (with_reducible repeat (first | apply Kd.zbi | apply Kd.zbh | apply Kd.zbj)); exact Kd.zy HO114.out (fun _ hk => ⟨hk.1.1, ⟨hk.1.2, hk.2⟩⟩)), (by (with_reducible repeat (first | apply Kd.zbi | apply Kd.zbh | apply Kd.zbj)); exact Kd.zy HO123.out (fun _ hk => ⟨hk.1.1, ⟨hk.1.2, hk.2⟩⟩)), (by (with_reducible repeat (first | apply Kd.zbi | apply Kd.zbh | apply Kd.zbj)); exact Kd.zy HO129.out (fun _ hk => ⟨hk.1.1, ⟨hk.1.2, hk.2⟩⟩)), (by (with_reducible repeat (first | apply Kd.zbi | apply Kd.zbh | apply Kd.zbj)); exact Kd.zy HO141.out (fun _ hk => ⟨hk.1.1.2, ⟨hk.1.2, hk.2⟩⟩)), ⟨_, rfl⟩, (Zq4 BK109.out), (Zq4 BK118.out), (Zq13 HI0.out NB0_109.out NB0_118.out), (Zq14 HK.out GW109.out GW118.out), (Zq15 HB.out (zf.ge HI0.out) GE109.out GE118.out)⟩)
             ·skip
              refine goes_ Try.func68 (by kernel_rfl) rfl #[.pointer (some ⟨g, 0, none⟩), .int .i64 4] (by rfl) rfl rfl Zmt ?_
              with_reducible refine (zb.calls k g s0_0 t138 4 t142 t143 w0 _ ?side1 ?side2 A55.out).mono ?_
              (case side1 => exact Zq13 HI0.out NB0_109.out NB0_118.out)
              (case side2 => exact Zq15 HB.out (zf.ge HI0.out) GE109.out GE118.out)
              rintro e w60 ⟨rfl, hi, hb, hk⟩
              refine ⟨_, rfl, ?_⟩
              have n0_ := za.mk (zi.blk hk (g' := gb109) (o := .cells #[.int .i64 0, .int .i64 0, .int .i64 0] 88 (0, 0)) (Zq4 BK109.out) NB109_0.out (by simp))
              have n1_ := za.mk (Kd.zy (Kd.zbo (zf.apart (show zf w0 _ g s0_0 t138 from Zq13 HI0.out NB0_109.out NB0_118.out) (Zq12 HO114.out) (by decide)) hk (fun _ h => h.2)) (fun _ h => h.1))
              have n2_ := za.mk (zi.blk hk (g' := gb118) (o := .cells #[.int .i64 (wrap64 (1 + t133)), .int .i64 (rd y121 t124), .int .i64 (rd y112 t115)] 88 (0, 0)) (Zq4 BK118.out) NB118_0.out (by simp))
              have n3_ := za.mk (Kd.zy (Kd.zbo (zf.apart (show zf w0 _ g s0_0 t138 from Zq13 HI0.out NB0_109.out NB0_118.out) (Zq12 HO123.out) (by decide)) hk (fun _ h => h.2)) (fun _ h => h.1))
              have n4_ := za.mk (Kd.zy (Kd.zbo (zf.apart (show zf w0 _ g s0_0 t138 from Zq13 HI0.out NB0_109.out NB0_118.out) (Zq12 HO129.out) (by decide)) hk (fun _ h => h.2)) (fun _ h => h.1))
              have n5_ := za.mk (zi.trans (Zq14 HK.out GW109.out GW118.out) hk (.inl rfl))
              have n6_ := za.mk (hb)
              have n7_ := za.mk (hi)
              clear BK109
              clear HO114
              clear BK118
              clear HO123
              clear HO129
              clear HK
              clear HB
              clear HI0
              have BK109 := n0_
              have HO114 := n1_
              have BK118 := n2_
              have HO123 := n3_
              have HO129 := n4_
              have HK := n5_
              have HB := n6_
              have HI0 := n7_
              clear n0_ n1_ n2_ n3_ n4_ n5_ n6_ n7_
              (try clear hb)
              (try clear hb2)
              (try clear hk)
              (try clear hi)
              refine hK.out _ _ ⟨(zh BK118.out 0).trans rfl, (zh BK118.out 1).trans rfl, (zh BK118.out 2).trans rfl⟩ (fun hHeld => ?_)
              clear hK K
              refine zc6 (a' := ?_) ?_ ?_
              rotate_left
              ·show Act.put _ (some 70) _ = _
               simp only [Act.put, List.setIfInBounds_toArray, List.set_cons_zero, List.set_cons_succ, zbq, zbt]
               rfl
              refine one_ (i := 3) (N := some 68) #[true, true, true, true, true, true, false, false, false, false] rfl rfl (zc8 HT_.out (by kernel_rfl)) (by decide) (fun K hK => ?_)
              refine Kd.zdj (Kd.int .i64) _ 3 ?hg (N := 68) ?hd (xs := ([0, (-1), 9, wrap64 ((rd y121 t124) + 1)] : List Int)) (inner := [.int .i64 0, .int .i64 (-1), .int .i64 9, .int .i64 (wrap64 ((rd y121 t124) + 1))]) (ok := fun _ => True) (okp := fun _ => True) ?hr ?hp (fun _ hk => hk) trivial (Below.refl _ _) (Nat.le_refl _) (by simp) ?_; (case hd => rfl); (case hg => rfl); (case hr => first | (go_simp; done) | (go_simp; rfl)); (case hp => exact (Reps.one (show Kd.M (Kd.int .i64) _ _ _ 0 [.int .i64 0] from rfl) (Reps.one (show Kd.M (Kd.int .i64) _ _ _ (-1) [.int .i64 (-1)] from rfl) (Reps.one (show Kd.M (Kd.int .i64) _ _ _ 9 [.int .i64 9] from rfl) (Reps.one (show Kd.M (Kd.int .i64) _ _ _ (wrap64 ((rd y121 t124) + 1)) [.int .i64 (wrap64 ((rd y121 t124) + 1))] from rfl) (Reps.none _ _))))))
              intro v140 w61 ho62 hb hg_ hnew_
              clear hg_ hnew_
              (first | rw [← Ny139.out] at ho62 | (simp only [Int.reduceToNat] at ho62; rw [← Ny139.out] at ho62))
              have n0_ := za.mk (Kd.zcs (Zq12 HO114.out) (Kd.zch ho62) hb)
              have n1_ := za.mk (Kd.zcs (Zq12 HO123.out) (Kd.zch ho62) hb)
              have n2_ := za.mk (Kd.zcs (Zq12 HO129.out) (Kd.zch ho62) hb)
              have n3_ := za.mk (Kd.zb2 (Kd.zcm (Kd.zcm (Kd.zcm ho62 (Kd.R_lt (Zq12 HO114.out))) (Kd.R_lt (Zq12 HO123.out))) (Kd.R_lt (Zq12 HO129.out))) (zb4 (w := w) (g := g) (row := none) (Zq14 HK.out GW109.out GW118.out)))
              have n4_ := za.mk (zf.below (Zq13 HI0.out NB0_109.out NB0_118.out) hb)
              have n5_ := za.mk (zbg (g := gb109) (o := .cells #[.int .i64 0, .int .i64 0, .int .i64 0] 88 (0, 0)) (Zq4 BK109.out) hb)
              have n6_ := za.mk (zbg (g := gb118) (o := .cells #[.int .i64 (wrap64 (1 + t133)), .int .i64 (rd y121 t124), .int .i64 (rd y112 t115)] 88 (0, 0)) (Zq4 BK118.out) hb)
              have n7_ := za.mk (zi.trans (Zq14 HK.out GW109.out GW118.out) (zi.of_below hb g none) (.inl rfl))
              have n8_ := za.mk (zo (Zq15 HB.out (zf.ge HI0.out) GE109.out GE118.out) hb)
              clear HO114
              clear HO123
              clear HO129
              clear HI0
              clear BK109
              clear BK118
              clear HK
              clear HB
              have HO114 := n0_
              have HO123 := n1_
              have HO129 := n2_
              have HO141 := n3_
              have HI0 := n4_
              have BK109 := n5_
              have BK118 := n6_
              have HK := n7_
              have HB := n8_
              clear n0_ n1_ n2_ n3_ n4_ n5_ n6_ n7_ n8_
              clear hb ho62
              obtain ⟨Ao63, co63, eo63⟩ := Kd.zbs HO141.out
              subst eo63
              obtain ⟨ado63, fo63, _⟩ := Kd.zcn (Kd.zbe HO141.out).2.2 0 (by decide) (by rw [Ny139.out]; simp)
              cases fo63
              refine hK.out _ _ ⟨(zh BK118.out 0).trans rfl, (zh BK118.out 1).trans rfl, (zh BK118.out 2).trans rfl⟩ (fun hHeld => ?_)
              clear hK K
              refine zc6 (a' := ?_) ?_ ?_
              rotate_left
              ·show Act.put _ (some 68) _ = _
               simp only [Act.put, List.setIfInBounds_toArray, List.set_cons_zero, List.set_cons_succ, zbq, zbt]
               rfl
              exact zc6 (by simp only [putAll, Act.put, List.setIfInBounds_toArray, List.set_cons_zero, List.set_cons_succ]) (hCont (.slice (some ado63) y139.length co63, ado63) _ ⟨hHeld, (by (with_reducible repeat (first | apply Kd.zbi | apply Kd.zbh | apply Kd.zbj)); exact Kd.zy HO114.out (fun _ hk => ⟨hk.1.1, ⟨hk.1.2, hk.2⟩⟩)), (by (with_reducible repeat (first | apply Kd.zbi | apply Kd.zbh | apply Kd.zbj)); exact Kd.zy HO123.out (fun _ hk => ⟨hk.1.1, ⟨hk.1.2, hk.2⟩⟩)), (by (with_reducible repeat (first | apply Kd.zbi | apply Kd.zbh | apply Kd.zbj)); exact Kd.zy HO129.out (fun _ hk => ⟨hk.1.1, ⟨hk.1.2, hk.2⟩⟩)), (by (with_reducible repeat (first | apply Kd.zbi | apply Kd.zbh | apply Kd.zbj)); exact Kd.zy HO141.out (fun _ hk => ⟨hk.1.1.2, ⟨hk.1.2, hk.2⟩⟩)), ⟨_, rfl⟩, (Zq4 BK109.out), (Zq4 BK118.out), (Zq13 HI0.out NB0_109.out NB0_118.out), (Zq14 HK.out GW109.out GW118.out), (Zq15 HB.out (zf.ge HI0.out) GE109.out GE118.out)⟩)
            rintro ⟨v140, adz_v140⟩ w64 ⟨hS_, h0_, h1_, h2_, h3_, h4_, h5_, h6_, h7_, h8_, h9_⟩
            have n0_ : za (Kd.R (Kd.int .i64) 3 w64 w.heap.size (fun k_ => some k_ ≠ (.slice (some adz_v122) y121.length co39 : Value).ownBlock ∧ some k_ ≠ (.slice (some adz_v128) y127.length co48 : Value).ownBlock ∧ some k_ ≠ (v140 : Value).ownBlock) (.slice (some ad117) y112.length co26) y112) := ⟨h0_⟩
            have n1_ : za (Kd.R (Kd.int .i64) 3 w64 w.heap.size (fun k_ => some k_ ≠ (.slice (some ad117) y112.length co26 : Value).ownBlock ∧ some k_ ≠ (.slice (some adz_v128) y127.length co48 : Value).ownBlock ∧ some k_ ≠ (v140 : Value).ownBlock) (.slice (some adz_v122) y121.length co39) y121) := ⟨h1_⟩
            have n2_ : za (Kd.R (Kd.int .i64) 3 w64 w.heap.size (fun k_ => some k_ ≠ (.slice (some ad117) y112.length co26 : Value).ownBlock ∧ some k_ ≠ (.slice (some adz_v122) y121.length co39 : Value).ownBlock ∧ some k_ ≠ (v140 : Value).ownBlock) (.slice (some adz_v128) y127.length co48) y127) := ⟨h2_⟩
            have n3_ : za (Kd.R (Kd.int .i64) 3 w64 w.heap.size (fun k_ => some k_ ≠ (.slice (some ad117) y112.length co26 : Value).ownBlock ∧ some k_ ≠ (.slice (some adz_v122) y121.length co39 : Value).ownBlock ∧ some k_ ≠ (.slice (some adz_v128) y127.length co48 : Value).ownBlock) v140 y139) := ⟨h3_⟩
            have n4_ : za (∃ c_, (v140 : Value) = .slice (some adz_v140) y139.length c_) := ⟨h4_⟩
            have n5_ : za (w64.heap[gb109]? = some (.cells #[.int .i64 0, .int .i64 0, .int .i64 0] 88 (0, 0))) := ⟨h5_⟩
            have n6_ : za (w64.heap[gb118]? = some (.cells #[.int .i64 (wrap64 (1 + t133)), .int .i64 (rd y121 t124), .int .i64 (rd y112 t115)] 88 (0, 0))) := ⟨h6_⟩
            have n7_ : za (zf w0 w64 g s0_0 t143) := ⟨h7_⟩
            have n8_ : za (zi w w64 g none) := ⟨h8_⟩
            have n9_ : za (Below w0.heap.size w0 w64) := ⟨h9_⟩
            clear HO114
            clear HO123
            clear HO129
            clear BK109
            clear BK118
            clear HI0
            clear HK
            clear HB
            clear h0_ h1_ h2_ h3_ h4_ h5_ h6_ h7_ h8_ h9_
            have HO114 := n0_
            have HO123 := n1_
            have HO129 := n2_
            have HO141 := n3_
            have HA_HO141 := n4_
            have BK109 := n5_
            have BK118 := n6_
            have HI0 := n7_
            have HK := n8_
            have HB := n9_
            clear n0_ n1_ n2_ n3_ n4_ n5_ n6_ n7_ n8_ n9_
            have hHeld : w64.cell? ⟨gb118, 0, none⟩ = some (.int .i64 (wrap64 (1 + t133))) ∧ w64.cell? ⟨gb118, 1, none⟩ = some (.int .i64 (rd y121 t124)) ∧ w64.cell? ⟨gb118, 2, none⟩ = some (.int .i64 (rd y112 t115)) := hS_
            obtain ⟨co65, eo65⟩ := HA_HO141.out
            clear HA_HO141
            subst eo65
            refine zc6 (a' := ?_) ?_ ?_
            rotate_left
            ·simp only [putAll, Act.put, List.setIfInBounds_toArray, List.set_cons_zero, List.set_cons_succ]
             rfl
            refine zce (i := 6) (N := some 71) (v := ?_) (a' := ?_) #[true, true, true, true, true, true, true, false, false, false] rfl rfl (zby HT_.out (by kernel_rfl)) (fun _ _ _ h => h) (Or.inl ⟨by rfl, ?_⟩) ?_ ?_
            rotate_left
            ·intro w'
             go_simp
             with_reducible rfl
            rotate_left
            ·simp only [Act.put, List.setIfInBounds_toArray, List.set_cons_zero, List.set_cons_succ, zbq, zbt]
             rfl
            refine one_ (i := 7) (N := some 72) #[true, true, true, true, true, true, true, true, false, false] rfl rfl (zc8 HT_.out (by kernel_rfl)) (by decide) (fun K hK => ?_)
            (have p144 : 0 ≤ (t142 : Int) := of_decide_eq_true Zas; have q144 : t142 < (y139.length : Int) := of_decide_eq_true Zas; obtain ⟨ad144, e144, hx144_0⟩ := Kd.zcn (Kd.zbe HO141.out).2.2 t142 p144 q144; obtain rfl : adz_v140 = ad144 := (by injection e144))
            refine value_ (w1 := ?_) (v := ?_) (by rfl) rfl ?_ ?_
            rotate_left 2
            ·go_simp
             constructor
             ·rfl
             ·rfl
            clear hx144_0
            refine hK.out _ _ ⟨(zh BK118.out 0).trans rfl, (zh BK118.out 1).trans rfl, (zh BK118.out 2).trans rfl⟩ (fun hHeld => ?_)
            clear hK K
            refine zc6 (a' := ?_) ?_ ?_
            rotate_left
            ·show Act.put _ (some 72) _ = _
             simp only [Act.put, List.setIfInBounds_toArray, List.set_cons_zero, List.set_cons_succ, zbq, zbt]
             rfl
            refine zce (i := 8) (N := some 73) (v := ?_) (a' := ?_) #[true, true, true, true, true, true, true, true, true, false] rfl rfl (zby HT_.out (by kernel_rfl)) (fun _ _ _ h => h) (Or.inl ⟨by rfl, ?_⟩) ?_ ?_
            rotate_left
            ·intro w'
             go_simp
             with_reducible rfl
            rotate_left
            ·simp only [Act.put, List.setIfInBounds_toArray, List.set_cons_zero, List.set_cons_succ, zbq, zbt]
             rfl
            refine last_ (i := 9) (N := none) #[true, true, true, true, true, true, true, true, true, true] rfl rfl (zc8 HT_.out (by kernel_rfl)) (by decide) (fun K hK => ?_)
            have hs66 : w64.cell? ⟨gb118, 0, none⟩ = some (.int .i64 (wrap64 (1 + t133))) := (zh BK118.out 0).trans rfl
            have hfs66 := zg BK118.out 0
            have hns66_0 := NB109_118.out
            have hms66_0 := NB118_109.out
            refine skip_ (w1 := ?_) (by rfl) rfl ?_ ?_
            rotate_left
            ·go_simp
             rfl
            refine hK.out _ _ ?_
            clear hK K
            refine done_ (done_of HT_.out (by kernel_rfl)) ?_
            try go_wp2
            go_meet
            case rel => exact ⟨_, (t143), (rd y139 t142), (rd y121 t124), (rd y112 t115), H', ⟨by first | omega | exact Nat.le_refl _⟩, ⟨by (with_reducible repeat (first | refine zn ?_ _ | refine zt ?_ | refine zm ?_ _)); refine zcl ?_ NB109_118.out _; (with_reducible repeat (first | refine zn ?_ _ | refine zt ?_ | refine zm ?_ _)); exact BK109.out⟩, ⟨by (with_reducible repeat (first | refine zn ?_ _ | refine zt ?_ | refine zm ?_ _)); refine zbu (cs := #[.int .i64 (wrap64 (1 + t133)), .int .i64 (rd y121 t124), .int .i64 (rd y112 t115)]) ?_ 0 _ rfl; (with_reducible repeat (first | refine zn ?_ _ | refine zt ?_ | refine zm ?_ _)); exact BK118.out⟩, ⟨Zq13 HI0.out NB0_109.out NB0_118.out⟩, ⟨Zq14 HK.out GW109.out GW118.out⟩, ⟨Zq15 HB.out (zf.ge HI0.out) GE109.out GE118.out⟩⟩
           ·rw [if_neg c57] at H
            exact absurd H (by simp)
          ·rw [if_neg c56] at H
           exact absurd H (by simp)
         ·rw [if_neg c54] at H
          have c54b0 : (t137 == 0) = false := beq_eq_false_iff_ne.mpr c54
          have c54b1 : (t137 != 0) = true := bne_iff_ne.mpr c54
          (first | rw [c54b0] | (simp only [zbq, zbt]; rw [c54b0]) | skip)
          by_cases c67 : t137 = 1
          ·rw [if_pos c67] at H
           have c67b0 : (t137 == 1) = true := beq_iff_eq.mpr c67
           have c67b1 : (t137 != 1) = false := bne_eq_false_iff_eq.mpr c67
           clear c67
           obtain ⟨y145, hy145⟩ : ∃ y_ : List Int, y_ = (([0, wrap64 ((rd y112 t115) + 1), (-1)] : List Int)) := ⟨_, rfl⟩
           replace H : ((zb.f k s0_0 t138 3).bind fun bt148 => (if 0 ≤ bt148.1 then (if bt148.1 < (y145.length : Int) then (zk.j0 k s0_0 bt148.2 (wrap64 (1 + t133)) (rd y145 bt148.1) (rd y112 t115)) else (none)) else (none))) = some (r1, r2, r3, r4) := by first | (rw [hy145]; with_reducible exact H) | (have H2_ := (Option.bind_some _ _).symm.trans H; rw [hy145]; with_reducible exact H2_) | (have H2_ := (Option.bind_some _ _).symm.trans H; with_reducible exact H2_) | with_reducible exact H | (rw [hy145]; exact H) | exact H
           have Ny145 := za.mk hy145
           clear hy145
           replace H := Option.bind_eq_some_iff.mp H
           obtain ⟨⟨t148, t149⟩, A680, H⟩ := H
           replace H : (if 0 ≤ t148 then (if t148 < (y145.length : Int) then (zk.j0 k s0_0 t149 (wrap64 (1 + t133)) (rd y145 t148) (rd y112 t115)) else (none)) else (none)) = some (r1, r2, r3, r4) := H
           have A68 := za.mk A680
           clear A680
           by_cases c69 : 0 ≤ t148
           ·rw [if_pos c69] at H
            have c69b0 : decide (0 ≤ t148) = true := decide_eq_true c69
            clear c69
            by_cases c70 : t148 < (y145.length : Int)
            ·rw [if_pos c70] at H
             have c70b0 : decide (t148 < (y145.length : Int)) = true := decide_eq_true c70
             clear c70
             have H' := za.mk H
             clear H
             try go_wp2_with (first | ((with_reducible refine zba (f := 68) rfl ?_); refine zbv (some 56) rfl rfl Try.func68 (by kernel_rfl) rfl #[.pointer (some ⟨g, 0, none⟩), .int .i64 3] rfl Zmt ?_; (with_reducible refine (zb.calls k g s0_0 t136 3 t137 t138 w0 _ ?side1 ?side2 A53.out).mono ?_); (case side1 => exact Zq13 HI0.out NB0_109.out NB0_118.out); (case side2 => exact Zq15 HB.out (zf.ge HI0.out) GE109.out GE118.out); rintro e w71 ⟨rfl, hi, hb, hk⟩; refine ⟨_, rfl, ?_⟩; have n0_ := za.mk (zi.blk hk (g' := gb109) (o := .cells #[.int .i64 0, .int .i64 0, .int .i64 0] 88 (0, 0)) (Zq4 BK109.out) NB109_0.out (by simp)); have n1_ := za.mk (Kd.zy (Kd.zbo (zf.apart (show zf w0 _ g s0_0 t136 from Zq13 HI0.out NB0_109.out NB0_118.out) (Zq12 HO114.out) (by decide)) hk (fun _ h => h.2)) (fun _ h => h.1)); have n2_ := za.mk (zi.blk hk (g' := gb118) (o := .cells #[.int .i64 (wrap64 (1 + t133)), .int .i64 (rd y121 t124), .int .i64 (rd y112 t115)] 88 (0, 0)) (Zq4 BK118.out) NB118_0.out (by simp)); have n3_ := za.mk (Kd.zy (Kd.zbo (zf.apart (show zf w0 _ g s0_0 t136 from Zq13 HI0.out NB0_109.out NB0_118.out) (Zq12 HO123.out) (by decide)) hk (fun _ h => h.2)) (fun _ h => h.1)); have n4_ := za.mk (Kd.zy (Kd.zbo (zf.apart (show zf w0 _ g s0_0 t136 from Zq13 HI0.out NB0_109.out NB0_118.out) (Zq12 HO129.out) (by decide)) hk (fun _ h => h.2)) (fun _ h => h.1)); have n5_ := za.mk (zi.trans (Zq14 HK.out GW109.out GW118.out) hk (.inl rfl)); have n6_ := za.mk (hb); have n7_ := za.mk (hi); clear BK109; clear HO114; clear BK118; clear HO123; clear HO129; clear HK; clear HB; clear HI0; have BK109 := n0_; have HO114 := n1_; have BK118 := n2_; have HO123 := n3_; have HO129 := n4_; have HK := n5_; have HB := n6_; have HI0 := n7_; clear n0_ n1_ n2_ n3_ n4_ n5_ n6_ n7_; (try clear hb); (try clear hb2); (try clear hk); (try clear hi)))
             have pi150 : (0 ≤ (t148 : Int)) = True := eq_true (of_decide_eq_true Zas)
             have qi150 : (t148 < (y145.length : Int)) = True := eq_true (of_decide_eq_true Zas)
             have n0_ := za.mk (Kd.zbj HO114.out)
             have n1_ := za.mk (Kd.zbj HO123.out)
             have n2_ := za.mk (Kd.zbj HO129.out)
             have n3_ := za.mk (zt BK109.out)
             have n4_ := za.mk (zt BK118.out)
             have n5_ := za.mk (zf.drew HI0.out)
             have n6_ := za.mk (keep_drew HK.out)
             have n7_ := za.mk (zb6 HB.out)
             clear HO114
             clear HO123
             clear HO129
             clear BK109
             clear BK118
             clear HI0
             clear HK
             clear HB
             have HO114 := n0_
             have HO123 := n1_
             have HO129 := n2_
             have BK109 := n3_
             have BK118 := n4_
             have HI0 := n5_
             have HK := n6_
             have HB := n7_
             clear n0_ n1_ n2_ n3_ n4_ n5_ n6_ n7_
             refine start_ (n := 10) (S := fun w' => w'.cell? ⟨gb118, 0, none⟩ = some (.int .i64 (wrap64 (1 + t133))) ∧ w'.cell? ⟨gb118, 1, none⟩ = some (.int .i64 (rd y121 t124)) ∧ w'.cell? ⟨gb118, 2, none⟩ = some (.int .i64 (rd y112 t115))) (ds := [9]) #[false, false, false, false, false, false, false, false, false, false] (by kernel_rfl) rfl rfl ⟨(zh BK118.out 0).trans rfl, (zh BK118.out 1).trans rfl, (zh BK118.out 2).trans rfl⟩ (fun hHeld => ?_); refine zdq zk.tab10 zk.bits10 (fun HT_ HW_ => ?_)
             generalize w71.drew = w72 at HO114 HO123 HO129 BK109 BK118 HI0 HK HB hHeld ⊢
             refine zce (i := 0) (N := some 76) (v := ?_) (a' := ?_) #[true, false, false, false, false, false, false, false, false, false] rfl rfl (zby HT_.out (by kernel_rfl)) (fun _ _ _ h => h) (Or.inl ⟨by rfl, ?_⟩) ?_ ?_
             rotate_left
             ·intro w'
              go_simp
              with_reducible rfl
             rotate_left
             ·simp only [Act.put, List.setIfInBounds_toArray, List.set_cons_zero, List.set_cons_succ, zbq, zbt]
              rfl
             refine zce (i := 4) (N := some 80) (v := ?_) (a' := ?_) #[true, false, false, false, true, false, false, false, false, false] rfl rfl (zby HT_.out (by kernel_rfl)) (fun _ _ _ h => h) (Or.inl ⟨by rfl, ?_⟩) ?_ ?_
             rotate_left
             ·intro w'
              go_simp
              with_reducible rfl
             rotate_left
             ·simp only [Act.put, List.setIfInBounds_toArray, List.set_cons_zero, List.set_cons_succ, zbq, zbt]
              rfl
             refine take_ (i := 1) (N := some 77) (v := ?_) (a' := ?_) #[true, true, false, false, true, false, false, false, false, false] rfl rfl (zc5 HT_.out HW_.out (by kernel_rfl)) (fun _ _ _ h => h) (Or.inl ⟨by rfl, ?_⟩) hHeld ?_ ?_
             rotate_left
             ·rintro w' ⟨s0, s1, s2⟩
              go_simp
              with_reducible rfl
             rotate_left
             ·simp only [Act.put, List.setIfInBounds_toArray, List.set_cons_zero, List.set_cons_succ, zbq, zbt]
              rfl
             refine zce (i := 2) (N := some 78) (v := ?_) (a' := ?_) #[true, true, true, false, true, false, false, false, false, false] rfl rfl (zby HT_.out (by kernel_rfl)) (fun _ _ _ h => h) (Or.inl ⟨by rfl, ?_⟩) ?_ ?_
             rotate_left
             ·intro w'
              go_simp
              with_reducible rfl
             rotate_left
             ·simp only [Act.put, List.setIfInBounds_toArray, List.set_cons_zero, List.set_cons_succ, zbq, zbt]
              rfl
             refine join_ (σ := Value × Addr) 4 #[true, true, true, true, true, true, false, false, false, false] (fun s_ => [(79, s_.1), (81, .int .i64 t148)]) (fun s_ w' => (w'.cell? ⟨gb118, 0, none⟩ = some (.int .i64 (wrap64 (1 + t133))) ∧ w'.cell? ⟨gb118, 1, none⟩ = some (.int .i64 (rd y121 t124)) ∧ w'.cell? ⟨gb118, 2, none⟩ = some (.int .i64 (rd y112 t115))) ∧ (Kd.R (Kd.int .i64) 3 w' w.heap.size (fun k_ => some k_ ≠ (.slice (some adz_v122) y121.length co39 : Value).ownBlock ∧ some k_ ≠ (.slice (some adz_v128) y127.length co48 : Value).ownBlock ∧ some k_ ≠ (s_.1 : Value).ownBlock) (.slice (some ad117) y112.length co26) y112) ∧ (Kd.R (Kd.int .i64) 3 w' w.heap.size (fun k_ => some k_ ≠ (.slice (some ad117) y112.length co26 : Value).ownBlock ∧ some k_ ≠ (.slice (some adz_v128) y127.length co48 : Value).ownBlock ∧ some k_ ≠ (s_.1 : Value).ownBlock) (.slice (some adz_v122) y121.length co39) y121) ∧ (Kd.R (Kd.int .i64) 3 w' w.heap.size (fun k_ => some k_ ≠ (.slice (some ad117) y112.length co26 : Value).ownBlock ∧ some k_ ≠ (.slice (some adz_v122) y121.length co39 : Value).ownBlock ∧ some k_ ≠ (s_.1 : Value).ownBlock) (.slice (some adz_v128) y127.length co48) y127) ∧ (Kd.R (Kd.int .i64) 3 w' w.heap.size (fun k_ => some k_ ≠ (.slice (some ad117) y112.length co26 : Value).ownBlock ∧ some k_ ≠ (.slice (some adz_v122) y121.length co39 : Value).ownBlock ∧ some k_ ≠ (.slice (some adz_v128) y127.length co48 : Value).ownBlock) s_.1 y145) ∧ (∃ c_, (s_.1 : Value) = .slice (some s_.2) y145.length c_) ∧ (w'.heap[gb109]? = some (.cells #[.int .i64 0, .int .i64 0, .int .i64 0] 88 (0, 0))) ∧ (w'.heap[gb118]? = some (.cells #[.int .i64 (wrap64 (1 + t133)), .int .i64 (rd y121 t124), .int .i64 (rd y112 t115)] 88 (0, 0))) ∧ (zf w0 w' g s0_0 t149) ∧ (zi w w' g none) ∧ (Below w0.heap.size w0 w')) ?_ ?_
             rotate_left
             ·intro hCont
              refine two_ (i := 3) (j := 5) (Ni := some 79) (Nj := some 81) #[true, true, true, true, true, false, false, false, false, false] #[true, true, true, false, true, true, false, false, false, false] rfl rfl rfl rfl (two_of HT_.out (by kernel_rfl)) (by decide) (by decide) (fun K hK => ?_) (fun K hK => ?_)
              ·skip
               refine Kd.zdj (Kd.int .i64) _ 3 ?hg (N := 79) ?hd (xs := ([0, wrap64 ((rd y112 t115) + 1), (-1)] : List Int)) (inner := [.int .i64 0, .int .i64 (wrap64 ((rd y112 t115) + 1)), .int .i64 (-1)]) (ok := fun _ => True) (okp := fun _ => True) ?hr ?hp (fun _ hk => hk) trivial (Below.refl _ _) (Nat.le_refl _) (by simp) ?_; (case hd => rfl); (case hg => rfl); (case hr => first | (go_simp; done) | (go_simp; rfl)); (case hp => exact (Reps.one (show Kd.M (Kd.int .i64) _ _ _ 0 [.int .i64 0] from rfl) (Reps.one (show Kd.M (Kd.int .i64) _ _ _ (wrap64 ((rd y112 t115) + 1)) [.int .i64 (wrap64 ((rd y112 t115) + 1))] from rfl) (Reps.one (show Kd.M (Kd.int .i64) _ _ _ (-1) [.int .i64 (-1)] from rfl) (Reps.none _ _)))))
               intro v146 w73 ho74 hb hg_ hnew_
               clear hg_ hnew_
               (first | rw [← Ny145.out] at ho74 | (simp only [Int.reduceToNat] at ho74; rw [← Ny145.out] at ho74))
               have n0_ := za.mk (Kd.zcs (Zq12 HO114.out) (Kd.zch ho74) hb)
               have n1_ := za.mk (Kd.zcs (Zq12 HO123.out) (Kd.zch ho74) hb)
               have n2_ := za.mk (Kd.zcs (Zq12 HO129.out) (Kd.zch ho74) hb)
               have n3_ := za.mk (Kd.zb2 (Kd.zcm (Kd.zcm (Kd.zcm ho74 (Kd.R_lt (Zq12 HO114.out))) (Kd.R_lt (Zq12 HO123.out))) (Kd.R_lt (Zq12 HO129.out))) (zb4 (w := w) (g := g) (row := none) (Zq14 HK.out GW109.out GW118.out)))
               have n4_ := za.mk (zf.below (Zq13 HI0.out NB0_109.out NB0_118.out) hb)
               have n5_ := za.mk (zbg (g := gb109) (o := .cells #[.int .i64 0, .int .i64 0, .int .i64 0] 88 (0, 0)) (Zq4 BK109.out) hb)
               have n6_ := za.mk (zbg (g := gb118) (o := .cells #[.int .i64 (wrap64 (1 + t133)), .int .i64 (rd y121 t124), .int .i64 (rd y112 t115)] 88 (0, 0)) (Zq4 BK118.out) hb)
               have n7_ := za.mk (zi.trans (Zq14 HK.out GW109.out GW118.out) (zi.of_below hb g none) (.inl rfl))
               have n8_ := za.mk (zo (Zq15 HB.out (zf.ge HI0.out) GE109.out GE118.out) hb)
               clear HO114
               clear HO123
               clear HO129
               clear HI0
               clear BK109
               clear BK118
               clear HK
               clear HB
               have HO114 := n0_
               have HO123 := n1_
               have HO129 := n2_
               have HO147 := n3_
               have HI0 := n4_
               have BK109 := n5_
               have BK118 := n6_
               have HK := n7_
               have HB := n8_
               clear n0_ n1_ n2_ n3_ n4_ n5_ n6_ n7_ n8_
               clear hb ho74
               obtain ⟨Ao75, co75, eo75⟩ := Kd.zbs HO147.out
               subst eo75
               obtain ⟨ado75, fo75, _⟩ := Kd.zcn (Kd.zbe HO147.out).2.2 0 (by decide) (by rw [Ny145.out]; simp)
               cases fo75
               refine hK.out _ _ ⟨(zh BK118.out 0).trans rfl, (zh BK118.out 1).trans rfl, (zh BK118.out 2).trans rfl⟩ (fun hHeld => ?_)
               clear hK K
               refine zc6 (a' := ?_) ?_ ?_
               rotate_left
               ·show Act.put _ (some 79) _ = _
                simp only [Act.put, List.setIfInBounds_toArray, List.set_cons_zero, List.set_cons_succ, zbq, zbt]
                rfl
               refine one_ (i := 5) (N := some 81) #[true, true, true, true, true, true, false, false, false, false] rfl rfl (zc8 HT_.out (by kernel_rfl)) (by decide) (fun K hK => ?_)
               refine goes_ Try.func68 (by kernel_rfl) rfl #[.pointer (some ⟨g, 0, none⟩), .int .i64 3] (by rfl) rfl rfl Zmt ?_
               with_reducible refine (zb.calls k g s0_0 t138 3 t148 t149 w0 _ ?side1 ?side2 A68.out).mono ?_
               (case side1 => exact Zq13 HI0.out NB0_109.out NB0_118.out)
               (case side2 => exact Zq15 HB.out (zf.ge HI0.out) GE109.out GE118.out)
               rintro e w76 ⟨rfl, hi, hb, hk⟩
               refine ⟨_, rfl, ?_⟩
               have n0_ := za.mk (zi.blk hk (g' := gb109) (o := .cells #[.int .i64 0, .int .i64 0, .int .i64 0] 88 (0, 0)) (Zq4 BK109.out) NB109_0.out (by simp))
               have n1_ := za.mk (Kd.zy (Kd.zbo (zf.apart (show zf w0 _ g s0_0 t138 from Zq13 HI0.out NB0_109.out NB0_118.out) (Zq12 HO114.out) (by decide)) hk (fun _ h => h.2)) (fun _ h => h.1))
               have n2_ := za.mk (zi.blk hk (g' := gb118) (o := .cells #[.int .i64 (wrap64 (1 + t133)), .int .i64 (rd y121 t124), .int .i64 (rd y112 t115)] 88 (0, 0)) (Zq4 BK118.out) NB118_0.out (by simp))
               have n3_ := za.mk (Kd.zy (Kd.zbo (zf.apart (show zf w0 _ g s0_0 t138 from Zq13 HI0.out NB0_109.out NB0_118.out) (Zq12 HO123.out) (by decide)) hk (fun _ h => h.2)) (fun _ h => h.1))
               have n4_ := za.mk (Kd.zy (Kd.zbo (zf.apart (show zf w0 _ g s0_0 t138 from Zq13 HI0.out NB0_109.out NB0_118.out) (Zq12 HO129.out) (by decide)) hk (fun _ h => h.2)) (fun _ h => h.1))
               have n5_ := za.mk (Kd.zy (Kd.zbo (zf.apart (show zf w0 _ g s0_0 t138 from Zq13 HI0.out NB0_109.out NB0_118.out) (Zq12 HO147.out) (by decide)) hk (fun _ h => h.2)) (fun _ h => h.1))
               have n6_ := za.mk (zi.trans (Zq14 HK.out GW109.out GW118.out) hk (.inl rfl))
               have n7_ := za.mk (hb)
               have n8_ := za.mk (hi)
               clear BK109
               clear HO114
               clear BK118
               clear HO123
               clear HO129
               clear HO147
               clear HK
               clear HB
               clear HI0
               have BK109 := n0_
               have HO114 := n1_
               have BK118 := n2_
               have HO123 := n3_
               have HO129 := n4_
               have HO147 := n5_
               have HK := n6_
               have HB := n7_
               have HI0 := n8_
               clear n0_ n1_ n2_ n3_ n4_ n5_ n6_ n7_ n8_
               (try clear hb)
               (try clear hb2)
               (try clear hk)
               (try clear hi)
               refine hK.out _ _ ⟨(zh BK118.out 0).trans rfl, (zh BK118.out 1).trans rfl, (zh BK118.out 2).trans rfl⟩ (fun hHeld => ?_)
               clear hK K
               refine zc6 (a' := ?_) ?_ ?_
               rotate_left
               ·show Act.put _ (some 81) _ = _
                simp only [Act.put, List.setIfInBounds_toArray, List.set_cons_zero, List.set_cons_succ, zbq, zbt]
                rfl
               exact zc6 (by simp only [putAll, Act.put, List.setIfInBounds_toArray, List.set_cons_zero, List.set_cons_succ]) (hCont (.slice (some ado75) y145.length co75, ado75) _ ⟨hHeld, (by (with_reducible repeat (first | apply Kd.zbi | apply Kd.zbh | apply Kd.zbj)); exact Kd.zy HO114.out (fun _ hk => ⟨hk.1.1, ⟨hk.1.2, hk.2⟩⟩)), (by (with_reducible repeat (first | apply Kd.zbi | apply Kd.zbh | apply Kd.zbj)); exact Kd.zy HO123.out (fun _ hk => ⟨hk.1.1, ⟨hk.1.2, hk.2⟩⟩)), (by (with_reducible repeat (first | apply Kd.zbi | apply Kd.zbh | apply Kd.zbj)); exact Kd.zy HO129.out (fun _ hk => ⟨hk.1.1, ⟨hk.1.2, hk.2⟩⟩)), (by (with_reducible repeat (first | apply Kd.zbi | apply Kd.zbh | apply Kd.zbj)); exact Kd.zy HO147.out (fun _ hk => ⟨hk.1.1.2, ⟨hk.1.2, hk.2⟩⟩)), ⟨_, rfl⟩, (Zq4 BK109.out), (Zq4 BK118.out), (Zq13 HI0.out NB0_109.out NB0_118.out), (Zq14 HK.out GW109.out GW118.out), (Zq15 HB.out (zf.ge HI0.out) GE109.out GE118.out)⟩)
              ·skip
               refine goes_ Try.func68 (by kernel_rfl) rfl #[.pointer (some ⟨g, 0, none⟩), .int .i64 3] (by rfl) rfl rfl Zmt ?_
               with_reducible refine (zb.calls k g s0_0 t138 3 t148 t149 w0 _ ?side1 ?side2 A68.out).mono ?_
               (case side1 => exact Zq13 HI0.out NB0_109.out NB0_118.out)
               (case side2 => exact Zq15 HB.out (zf.ge HI0.out) GE109.out GE118.out)
               rintro e w73 ⟨rfl, hi, hb, hk⟩
               refine ⟨_, rfl, ?_⟩
               have n0_ := za.mk (zi.blk hk (g' := gb109) (o := .cells #[.int .i64 0, .int .i64 0, .int .i64 0] 88 (0, 0)) (Zq4 BK109.out) NB109_0.out (by simp))
               have n1_ := za.mk (Kd.zy (Kd.zbo (zf.apart (show zf w0 _ g s0_0 t138 from Zq13 HI0.out NB0_109.out NB0_118.out) (Zq12 HO114.out) (by decide)) hk (fun _ h => h.2)) (fun _ h => h.1))
               have n2_ := za.mk (zi.blk hk (g' := gb118) (o := .cells #[.int .i64 (wrap64 (1 + t133)), .int .i64 (rd y121 t124), .int .i64 (rd y112 t115)] 88 (0, 0)) (Zq4 BK118.out) NB118_0.out (by simp))
               have n3_ := za.mk (Kd.zy (Kd.zbo (zf.apart (show zf w0 _ g s0_0 t138 from Zq13 HI0.out NB0_109.out NB0_118.out) (Zq12 HO123.out) (by decide)) hk (fun _ h => h.2)) (fun _ h => h.1))
               have n4_ := za.mk (Kd.zy (Kd.zbo (zf.apart (show zf w0 _ g s0_0 t138 from Zq13 HI0.out NB0_109.out NB0_118.out) (Zq12 HO129.out) (by decide)) hk (fun _ h => h.2)) (fun _ h => h.1))
               have n5_ := za.mk (zi.trans (Zq14 HK.out GW109.out GW118.out) hk (.inl rfl))
               have n6_ := za.mk (hb)
               have n7_ := za.mk (hi)
               clear BK109
               clear HO114
               clear BK118
               clear HO123
               clear HO129
               clear HK
               clear HB
               clear HI0
               have BK109 := n0_
               have HO114 := n1_
               have BK118 := n2_
               have HO123 := n3_
               have HO129 := n4_
               have HK := n5_
               have HB := n6_
               have HI0 := n7_
               clear n0_ n1_ n2_ n3_ n4_ n5_ n6_ n7_
               (try clear hb)
               (try clear hb2)
               (try clear hk)
               (try clear hi)
               refine hK.out _ _ ⟨(zh BK118.out 0).trans rfl, (zh BK118.out 1).trans rfl, (zh BK118.out 2).trans rfl⟩ (fun hHeld => ?_)
               clear hK K
               refine zc6 (a' := ?_) ?_ ?_
               rotate_left
               ·show Act.put _ (some 81) _ = _
                simp only [Act.put, List.setIfInBounds_toArray, List.set_cons_zero, List.set_cons_succ, zbq, zbt]
                rfl
               refine one_ (i := 3) (N := some 79) #[true, true, true, true, true, true, false, false, false, false] rfl rfl (zc8 HT_.out (by kernel_rfl)) (by decide) (fun K hK => ?_)
               refine Kd.zdj (Kd.int .i64) _ 3 ?hg (N := 79) ?hd (xs := ([0, wrap64 ((rd y112 t115) + 1), (-1)] : List Int)) (inner := [.int .i64 0, .int .i64 (wrap64 ((rd y112 t115) + 1)), .int .i64 (-1)]) (ok := fun _ => True) (okp := fun _ => True) ?hr ?hp (fun _ hk => hk) trivial (Below.refl _ _) (Nat.le_refl _) (by simp) ?_; (case hd => rfl); (case hg => rfl); (case hr => first | (go_simp; done) | (go_simp; rfl)); (case hp => exact (Reps.one (show Kd.M (Kd.int .i64) _ _ _ 0 [.int .i64 0] from rfl) (Reps.one (show Kd.M (Kd.int .i64) _ _ _ (wrap64 ((rd y112 t115) + 1)) [.int .i64 (wrap64 ((rd y112 t115) + 1))] from rfl) (Reps.one (show Kd.M (Kd.int .i64) _ _ _ (-1) [.int .i64 (-1)] from rfl) (Reps.none _ _)))))
               intro v146 w74 ho75 hb hg_ hnew_
               clear hg_ hnew_
               (first | rw [← Ny145.out] at ho75 | (simp only [Int.reduceToNat] at ho75; rw [← Ny145.out] at ho75))
               have n0_ := za.mk (Kd.zcs (Zq12 HO114.out) (Kd.zch ho75) hb)
               have n1_ := za.mk (Kd.zcs (Zq12 HO123.out) (Kd.zch ho75) hb)
               have n2_ := za.mk (Kd.zcs (Zq12 HO129.out) (Kd.zch ho75) hb)
               have n3_ := za.mk (Kd.zb2 (Kd.zcm (Kd.zcm (Kd.zcm ho75 (Kd.R_lt (Zq12 HO114.out))) (Kd.R_lt (Zq12 HO123.out))) (Kd.R_lt (Zq12 HO129.out))) (zb4 (w := w) (g := g) (row := none) (Zq14 HK.out GW109.out GW118.out)))
               have n4_ := za.mk (zf.below (Zq13 HI0.out NB0_109.out NB0_118.out) hb)
               have n5_ := za.mk (zbg (g := gb109) (o := .cells #[.int .i64 0, .int .i64 0, .int .i64 0] 88 (0, 0)) (Zq4 BK109.out) hb)
               have n6_ := za.mk (zbg (g := gb118) (o := .cells #[.int .i64 (wrap64 (1 + t133)), .int .i64 (rd y121 t124), .int .i64 (rd y112 t115)] 88 (0, 0)) (Zq4 BK118.out) hb)
               have n7_ := za.mk (zi.trans (Zq14 HK.out GW109.out GW118.out) (zi.of_below hb g none) (.inl rfl))
               have n8_ := za.mk (zo (Zq15 HB.out (zf.ge HI0.out) GE109.out GE118.out) hb)
               clear HO114
               clear HO123
               clear HO129
               clear HI0
               clear BK109
               clear BK118
               clear HK
               clear HB
               have HO114 := n0_
               have HO123 := n1_
               have HO129 := n2_
               have HO147 := n3_
               have HI0 := n4_
               have BK109 := n5_
               have BK118 := n6_
               have HK := n7_
               have HB := n8_
               clear n0_ n1_ n2_ n3_ n4_ n5_ n6_ n7_ n8_
               clear hb ho75
               obtain ⟨Ao76, co76, eo76⟩ := Kd.zbs HO147.out
               subst eo76
               obtain ⟨ado76, fo76, _⟩ := Kd.zcn (Kd.zbe HO147.out).2.2 0 (by decide) (by rw [Ny145.out]; simp)
               cases fo76
               refine hK.out _ _ ⟨(zh BK118.out 0).trans rfl, (zh BK118.out 1).trans rfl, (zh BK118.out 2).trans rfl⟩ (fun hHeld => ?_)
               clear hK K
               refine zc6 (a' := ?_) ?_ ?_
               rotate_left
               ·show Act.put _ (some 79) _ = _
                simp only [Act.put, List.setIfInBounds_toArray, List.set_cons_zero, List.set_cons_succ, zbq, zbt]
                rfl
               exact zc6 (by simp only [putAll, Act.put, List.setIfInBounds_toArray, List.set_cons_zero, List.set_cons_succ]) (hCont (.slice (some ado76) y145.length co76, ado76) _ ⟨hHeld, (by (with_reducible repeat (first | apply Kd.zbi | apply Kd.zbh | apply Kd.zbj)); exact Kd.zy HO114.out (fun _ hk => ⟨hk.1.1, ⟨hk.1.2, hk.2⟩⟩)), (by (with_reducible repeat (first | apply Kd.zbi | apply Kd.zbh | apply Kd.zbj)); exact Kd.zy HO123.out (fun _ hk => ⟨hk.1.1, ⟨hk.1.2, hk.2⟩⟩)), (by (with_reducible repeat (first | apply Kd.zbi | apply Kd.zbh | apply Kd.zbj)); exact Kd.zy HO129.out (fun _ hk => ⟨hk.1.1, ⟨hk.1.2, hk.2⟩⟩)), (by (with_reducible repeat (first | apply Kd.zbi | apply Kd.zbh | apply Kd.zbj)); exact Kd.zy HO147.out (fun _ hk => ⟨hk.1.1.2, ⟨hk.1.2, hk.2⟩⟩)), ⟨_, rfl⟩, (Zq4 BK109.out), (Zq4 BK118.out), (Zq13 HI0.out NB0_109.out NB0_118.out), (Zq14 HK.out GW109.out GW118.out), (Zq15 HB.out (zf.ge HI0.out) GE109.out GE118.out)⟩)
             rintro ⟨v146, adz_v146⟩ w77 ⟨hS_, h0_, h1_, h2_, h3_, h4_, h5_, h6_, h7_, h8_, h9_⟩
             have n0_ : za (Kd.R (Kd.int .i64) 3 w77 w.heap.size (fun k_ => some k_ ≠ (.slice (some adz_v122) y121.length co39 : Value).ownBlock ∧ some k_ ≠ (.slice (some adz_v128) y127.length co48 : Value).ownBlock ∧ some k_ ≠ (v146 : Value).ownBlock) (.slice (some ad117) y112.length co26) y112) := ⟨h0_⟩
             have n1_ : za (Kd.R (Kd.int .i64) 3 w77 w.heap.size (fun k_ => some k_ ≠ (.slice (some ad117) y112.length co26 : Value).ownBlock ∧ some k_ ≠ (.slice (some adz_v128) y127.length co48 : Value).ownBlock ∧ some k_ ≠ (v146 : Value).ownBlock) (.slice (some adz_v122) y121.length co39) y121) := ⟨h1_⟩
             have n2_ : za (Kd.R (Kd.int .i64) 3 w77 w.heap.size (fun k_ => some k_ ≠ (.slice (some ad117) y112.length co26 : Value).ownBlock ∧ some k_ ≠ (.slice (some adz_v122) y121.length co39 : Value).ownBlock ∧ some k_ ≠ (v146 : Value).ownBlock) (.slice (some adz_v128) y127.length co48) y127) := ⟨h2_⟩
             have n3_ : za (Kd.R (Kd.int .i64) 3 w77 w.heap.size (fun k_ => some k_ ≠ (.slice (some ad117) y112.length co26 : Value).ownBlock ∧ some k_ ≠ (.slice (some adz_v122) y121.length co39 : Value).ownBlock ∧ some k_ ≠ (.slice (some adz_v128) y127.length co48 : Value).ownBlock) v146 y145) := ⟨h3_⟩
             have n4_ : za (∃ c_, (v146 : Value) = .slice (some adz_v146) y145.length c_) := ⟨h4_⟩
             have n5_ : za (w77.heap[gb109]? = some (.cells #[.int .i64 0, .int .i64 0, .int .i64 0] 88 (0, 0))) := ⟨h5_⟩
             have n6_ : za (w77.heap[gb118]? = some (.cells #[.int .i64 (wrap64 (1 + t133)), .int .i64 (rd y121 t124), .int .i64 (rd y112 t115)] 88 (0, 0))) := ⟨h6_⟩
             have n7_ : za (zf w0 w77 g s0_0 t149) := ⟨h7_⟩
             have n8_ : za (zi w w77 g none) := ⟨h8_⟩
             have n9_ : za (Below w0.heap.size w0 w77) := ⟨h9_⟩
             clear HO114
             clear HO123
             clear HO129
             clear BK109
             clear BK118
             clear HI0
             clear HK
             clear HB
             clear h0_ h1_ h2_ h3_ h4_ h5_ h6_ h7_ h8_ h9_
             have HO114 := n0_
             have HO123 := n1_
             have HO129 := n2_
             have HO147 := n3_
             have HA_HO147 := n4_
             have BK109 := n5_
             have BK118 := n6_
             have HI0 := n7_
             have HK := n8_
             have HB := n9_
             clear n0_ n1_ n2_ n3_ n4_ n5_ n6_ n7_ n8_ n9_
             have hHeld : w77.cell? ⟨gb118, 0, none⟩ = some (.int .i64 (wrap64 (1 + t133))) ∧ w77.cell? ⟨gb118, 1, none⟩ = some (.int .i64 (rd y121 t124)) ∧ w77.cell? ⟨gb118, 2, none⟩ = some (.int .i64 (rd y112 t115)) := hS_
             obtain ⟨co78, eo78⟩ := HA_HO147.out
             clear HA_HO147
             subst eo78
             refine zc6 (a' := ?_) ?_ ?_
             rotate_left
             ·simp only [putAll, Act.put, List.setIfInBounds_toArray, List.set_cons_zero, List.set_cons_succ]
              rfl
             refine zce (i := 6) (N := some 82) (v := ?_) (a' := ?_) #[true, true, true, true, true, true, true, false, false, false] rfl rfl (zby HT_.out (by kernel_rfl)) (fun _ _ _ h => h) (Or.inl ⟨by rfl, ?_⟩) ?_ ?_
             rotate_left
             ·intro w'
              go_simp
              with_reducible rfl
             rotate_left
             ·simp only [Act.put, List.setIfInBounds_toArray, List.set_cons_zero, List.set_cons_succ, zbq, zbt]
              rfl
             refine one_ (i := 7) (N := some 83) #[true, true, true, true, true, true, true, true, false, false] rfl rfl (zc8 HT_.out (by kernel_rfl)) (by decide) (fun K hK => ?_)
             (have p150 : 0 ≤ (t148 : Int) := of_decide_eq_true Zas; have q150 : t148 < (y145.length : Int) := of_decide_eq_true Zas; obtain ⟨ad150, e150, hx150_0⟩ := Kd.zcn (Kd.zbe HO147.out).2.2 t148 p150 q150; obtain rfl : adz_v146 = ad150 := (by injection e150))
             refine value_ (w1 := ?_) (v := ?_) (by rfl) rfl ?_ ?_
             rotate_left 2
             ·go_simp
              constructor
              ·rfl
              ·rfl
             clear hx150_0
             refine hK.out _ _ ⟨(zh BK118.out 0).trans rfl, (zh BK118.out 1).trans rfl, (zh BK118.out 2).trans rfl⟩ (fun hHeld => ?_)
             clear hK K
             refine zc6 (a' := ?_) ?_ ?_
             rotate_left
             ·show Act.put _ (some 83) _ = _
              simp only [Act.put, List.setIfInBounds_toArray, List.set_cons_zero, List.set_cons_succ, zbq, zbt]
              rfl
             refine zce (i := 8) (N := some 84) (v := ?_) (a' := ?_) #[true, true, true, true, true, true, true, true, true, false] rfl rfl (zby HT_.out (by kernel_rfl)) (fun _ _ _ h => h) (Or.inl ⟨by rfl, ?_⟩) ?_ ?_
             rotate_left
             ·intro w'
              go_simp
              with_reducible rfl
             rotate_left
             ·simp only [Act.put, List.setIfInBounds_toArray, List.set_cons_zero, List.set_cons_succ, zbq, zbt]
              rfl
             refine last_ (i := 9) (N := none) #[true, true, true, true, true, true, true, true, true, true] rfl rfl (zc8 HT_.out (by kernel_rfl)) (by decide) (fun K hK => ?_)
             have hs79 : w77.cell? ⟨gb118, 1, none⟩ = some (.int .i64 (rd y121 t124)) := (zh BK118.out 1).trans rfl
             have hfs79 := zg BK118.out 1
             have hns79_0 := NB109_118.out
             have hms79_0 := NB118_109.out
             refine skip_ (w1 := ?_) (by rfl) rfl ?_ ?_
             rotate_left
             ·go_simp
              rfl
             refine hK.out _ _ ?_
             clear hK K
             refine done_ (done_of HT_.out (by kernel_rfl)) ?_
             try go_wp2
             go_meet
             case rel => exact ⟨_, (t149), (wrap64 (1 + t133)), (rd y145 t148), (rd y112 t115), H', ⟨by first | omega | exact Nat.le_refl _⟩, ⟨by (with_reducible repeat (first | refine zn ?_ _ | refine zt ?_ | refine zm ?_ _)); refine zcl ?_ NB109_118.out _; (with_reducible repeat (first | refine zn ?_ _ | refine zt ?_ | refine zm ?_ _)); exact BK109.out⟩, ⟨by (with_reducible repeat (first | refine zn ?_ _ | refine zt ?_ | refine zm ?_ _)); refine zbu (cs := #[.int .i64 (wrap64 (1 + t133)), .int .i64 (rd y121 t124), .int .i64 (rd y112 t115)]) ?_ 1 _ rfl; (with_reducible repeat (first | refine zn ?_ _ | refine zt ?_ | refine zm ?_ _)); exact BK118.out⟩, ⟨Zq13 HI0.out NB0_109.out NB0_118.out⟩, ⟨Zq14 HK.out GW109.out GW118.out⟩, ⟨Zq15 HB.out (zf.ge HI0.out) GE109.out GE118.out⟩⟩
            ·rw [if_neg c70] at H
             exact absurd H (by simp)
           ·rw [if_neg c69] at H
            exact absurd H (by simp)
          ·rw [if_neg c67] at H
           have c67b0 : (t137 == 1) = false := beq_eq_false_iff_ne.mpr c67
           have c67b1 : (t137 != 1) = true := bne_iff_ne.mpr c67
           obtain ⟨y151, hy151⟩ : ∃ y_ : List Int, y_ = (([0, 13, (-1)] : List Int)) := ⟨_, rfl⟩
           replace H : ((zb.f k s0_0 t138 3).bind fun bt154 => (if 0 ≤ bt154.1 then (if bt154.1 < (y151.length : Int) then (zk.j0 k s0_0 bt154.2 (wrap64 (1 + t133)) (rd y121 t124) (rd y151 bt154.1)) else (none)) else (none))) = some (r1, r2, r3, r4) := by first | (rw [hy151]; with_reducible exact H) | (have H2_ := (Option.bind_some _ _).symm.trans H; rw [hy151]; with_reducible exact H2_) | (have H2_ := (Option.bind_some _ _).symm.trans H; with_reducible exact H2_) | with_reducible exact H | (rw [hy151]; exact H) | exact H
           have Ny151 := za.mk hy151
           clear hy151
           replace H := Option.bind_eq_some_iff.mp H
           obtain ⟨⟨t154, t155⟩, A800, H⟩ := H
           replace H : (if 0 ≤ t154 then (if t154 < (y151.length : Int) then (zk.j0 k s0_0 t155 (wrap64 (1 + t133)) (rd y121 t124) (rd y151 t154)) else (none)) else (none)) = some (r1, r2, r3, r4) := H
           have A80 := za.mk A800
           clear A800
           by_cases c81 : 0 ≤ t154
           ·rw [if_pos c81] at H
            have c81b0 : decide (0 ≤ t154) = true := decide_eq_true c81
            clear c81
            by_cases c82 : t154 < (y151.length : Int)
            ·rw [if_pos c82] at H
             have c82b0 : decide (t154 < (y151.length : Int)) = true := decide_eq_true c82
             clear c82
             have H' := za.mk H
             clear H
             go_wp2_with (first | ((with_reducible refine zba (f := 68) rfl ?_); refine zbv (some 56) rfl rfl Try.func68 (by kernel_rfl) rfl #[.pointer (some ⟨g, 0, none⟩), .int .i64 3] rfl Zmt ?_; (with_reducible refine (zb.calls k g s0_0 t136 3 t137 t138 w0 _ ?side1 ?side2 A53.out).mono ?_); (case side1 => exact Zq13 HI0.out NB0_109.out NB0_118.out); (case side2 => exact Zq15 HB.out (zf.ge HI0.out) GE109.out GE118.out); rintro e w83 ⟨rfl, hi, hb, hk⟩; refine ⟨_, rfl, ?_⟩; have n0_ := za.mk (zi.blk hk (g' := gb109) (o := .cells #[.int .i64 0, .int .i64 0, .int .i64 0] 88 (0, 0)) (Zq4 BK109.out) NB109_0.out (by simp)); have n1_ := za.mk (Kd.zy (Kd.zbo (zf.apart (show zf w0 _ g s0_0 t136 from Zq13 HI0.out NB0_109.out NB0_118.out) (Zq12 HO114.out) (by decide)) hk (fun _ h => h.2)) (fun _ h => h.1)); have n2_ := za.mk (zi.blk hk (g' := gb118) (o := .cells #[.int .i64 (wrap64 (1 + t133)), .int .i64 (rd y121 t124), .int .i64 (rd y112 t115)] 88 (0, 0)) (Zq4 BK118.out) NB118_0.out (by simp)); have n3_ := za.mk (Kd.zy (Kd.zbo (zf.apart (show zf w0 _ g s0_0 t136 from Zq13 HI0.out NB0_109.out NB0_118.out) (Zq12 HO123.out) (by decide)) hk (fun _ h => h.2)) (fun _ h => h.1)); have n4_ := za.mk (Kd.zy (Kd.zbo (zf.apart (show zf w0 _ g s0_0 t136 from Zq13 HI0.out NB0_109.out NB0_118.out) (Zq12 HO129.out) (by decide)) hk (fun _ h => h.2)) (fun _ h => h.1)); have n5_ := za.mk (zi.trans (Zq14 HK.out GW109.out GW118.out) hk (.inl rfl)); have n6_ := za.mk (hb); have n7_ := za.mk (hi); clear BK109; clear HO114; clear BK118; clear HO123; clear HO129; clear HK; clear HB; clear HI0; have BK109 := n0_; have HO114 := n1_; have BK118 := n2_; have HO123 := n3_; have HO129 := n4_; have HK := n5_; have HB := n6_; have HI0 := n7_; clear n0_ n1_ n2_ n3_ n4_ n5_ n6_ n7_; (try clear hb); (try clear hb2); (try clear hk); (try clear hi)) | ((with_reducible refine zbp (N := 57) rfl ?_); refine Kd.R_lit (Kd.int .i64) _ 3 ?hg (N := 57) ?hd (xs := ([0, 13, (-1)] : List Int)) (inner := [.int .i64 0, .int .i64 13, .int .i64 (-1)]) (ok := fun _ => True) (okp := fun _ => True) ?hr ?hp (fun _ hk => hk) trivial (Below.refl _ _) (Nat.le_refl _) (by simp) ?_; (case hd => rfl); (case hg => rfl); (case hr => first | (go_simp; done) | (go_simp; rfl)); (case hp => exact (Reps.one (show Kd.M (Kd.int .i64) _ _ _ 0 [.int .i64 0] from rfl) (Reps.one (show Kd.M (Kd.int .i64) _ _ _ 13 [.int .i64 13] from rfl) (Reps.one (show Kd.M (Kd.int .i64) _ _ _ (-1) [.int .i64 (-1)] from rfl) (Reps.none _ _))))); intro v152 w84 ho85 hb hg_ hnew_; clear hg_ hnew_; (first | rw [← Ny151.out] at ho85 | (simp only [Int.reduceToNat] at ho85; rw [← Ny151.out] at ho85)); have n0_ := za.mk (Kd.zcs (Zq12 HO114.out) (Kd.zch ho85) hb); have n1_ := za.mk (Kd.zcs (Zq12 HO123.out) (Kd.zch ho85) hb); have n2_ := za.mk (Kd.zcs (Zq12 HO129.out) (Kd.zch ho85) hb); have n3_ := za.mk (Kd.zb2 (Kd.zcm (Kd.zcm (Kd.zcm ho85 (Kd.R_lt (Zq12 HO114.out))) (Kd.R_lt (Zq12 HO123.out))) (Kd.R_lt (Zq12 HO129.out))) (zb4 (w := w) (g := g) (row := none) (Zq14 HK.out GW109.out GW118.out))); have n4_ := za.mk (zf.below (Zq13 HI0.out NB0_109.out NB0_118.out) hb); have n5_ := za.mk (zbg (g := gb109) (o := .cells #[.int .i64 0, .int .i64 0, .int .i64 0] 88 (0, 0)) (Zq4 BK109.out) hb); have n6_ := za.mk (zbg (g := gb118) (o := .cells #[.int .i64 (wrap64 (1 + t133)), .int .i64 (rd y121 t124), .int .i64 (rd y112 t115)] 88 (0, 0)) (Zq4 BK118.out) hb); have n7_ := za.mk (zi.trans (Zq14 HK.out GW109.out GW118.out) (zi.of_below hb g none) (.inl rfl)); have n8_ := za.mk (zo (Zq15 HB.out (zf.ge HI0.out) GE109.out GE118.out) hb); clear HO114; clear HO123; clear HO129; clear HI0; clear BK109; clear BK118; clear HK; clear HB; have HO114 := n0_; have HO123 := n1_; have HO129 := n2_; have HO153 := n3_; have HI0 := n4_; have BK109 := n5_; have BK118 := n6_; have HK := n7_; have HB := n8_; clear n0_ n1_ n2_ n3_ n4_ n5_ n6_ n7_ n8_; clear hb ho85) | ((with_reducible refine zba (f := 68) rfl ?_); refine zbv (some 59) rfl rfl Try.func68 (by kernel_rfl) rfl #[.pointer (some ⟨g, 0, none⟩), .int .i64 3] rfl Zmt ?_; (with_reducible refine (zb.calls k g s0_0 t138 3 t154 t155 w0 _ ?side1 ?side2 A80.out).mono ?_); (case side1 => exact Zq13 HI0.out NB0_109.out NB0_118.out); (case side2 => exact Zq15 HB.out (zf.ge HI0.out) GE109.out GE118.out); rintro e w86 ⟨rfl, hi, hb, hk⟩; refine ⟨_, rfl, ?_⟩; have n0_ := za.mk (zi.blk hk (g' := gb109) (o := .cells #[.int .i64 0, .int .i64 0, .int .i64 0] 88 (0, 0)) (Zq4 BK109.out) NB109_0.out (by simp)); have n1_ := za.mk (Kd.zy (Kd.zbo (zf.apart (show zf w0 _ g s0_0 t138 from Zq13 HI0.out NB0_109.out NB0_118.out) (Zq12 HO114.out) (by decide)) hk (fun _ h => h.2)) (fun _ h => h.1)); have n2_ := za.mk (zi.blk hk (g' := gb118) (o := .cells #[.int .i64 (wrap64 (1 + t133)), .int .i64 (rd y121 t124), .int .i64 (rd y112 t115)] 88 (0, 0)) (Zq4 BK118.out) NB118_0.out (by simp)); have n3_ := za.mk (Kd.zy (Kd.zbo (zf.apart (show zf w0 _ g s0_0 t138 from Zq13 HI0.out NB0_109.out NB0_118.out) (Zq12 HO123.out) (by decide)) hk (fun _ h => h.2)) (fun _ h => h.1)); have n4_ := za.mk (Kd.zy (Kd.zbo (zf.apart (show zf w0 _ g s0_0 t138 from Zq13 HI0.out NB0_109.out NB0_118.out) (Zq12 HO129.out) (by decide)) hk (fun _ h => h.2)) (fun _ h => h.1)); have n5_ := za.mk (Kd.zy (Kd.zbo (zf.apart (show zf w0 _ g s0_0 t138 from Zq13 HI0.out NB0_109.out NB0_118.out) (Zq12 HO153.out) (by decide)) hk (fun _ h => h.2)) (fun _ h => h.1)); have n6_ := za.mk (zi.trans (Zq14 HK.out GW109.out GW118.out) hk (.inl rfl)); have n7_ := za.mk (hb); have n8_ := za.mk (hi); clear BK109; clear HO114; clear BK118; clear HO123; clear HO129; clear HO153; clear HK; clear HB; clear HI0; have BK109 := n0_; have HO114 := n1_; have BK118 := n2_; have HO123 := n3_; have HO129 := n4_; have HO153 := n5_; have HK := n6_; have HB := n7_; have HI0 := n8_; clear n0_ n1_ n2_ n3_ n4_ n5_ n6_ n7_ n8_; (try clear hb); (try clear hb2); (try clear hk); (try clear hi); obtain ⟨Ao87, co87, eo87⟩ := Kd.zbs HO153.out; subst eo87; have p156 : 0 ≤ (t154 : Int) := of_decide_eq_true Zas; have q156 : t154 < (y151.length : Int) := of_decide_eq_true Zas; obtain ⟨ad156, e156, hx156_0⟩ := Kd.zcn (Kd.zbe HO153.out).2.2 t154 p156 q156; cases e156; replace p156 := eq_true p156; replace q156 := eq_true q156; have hnb88 := NB118_109.out; have hnc88 := NB109_118.out; have hnb89 := NB118_0.out; have hnc89 := NB0_118.out; have hcz90_0 : w86.cell? ⟨gb118, 0, none⟩ = some (.int .i64 (wrap64 (1 + t133))) := (zh BK118.out 0).trans rfl; have hcz90_1 : w86.cell? ⟨gb118, 1, none⟩ = some (.int .i64 (rd y121 t124)) := (zh BK118.out 1).trans rfl; have hcz90_2 : w86.cell? ⟨gb118, 2, none⟩ = some (.int .i64 (rd y112 t115)) := (zh BK118.out 2).trans rfl; have hfz90_0 := zg BK118.out 0; have hfz90_1 := zg BK118.out 1; have hfz90_2 := zg BK118.out 2))
             go_meet
             case rel => exact ⟨_, (t155), (wrap64 (1 + t133)), (rd y121 t124), (rd y151 t154), H', ⟨by first | omega | exact Nat.le_refl _⟩, ⟨by (with_reducible repeat (first | refine zn ?_ _ | refine zt ?_ | refine zm ?_ _)); refine zcl ?_ NB109_118.out _; (with_reducible repeat (first | refine zn ?_ _ | refine zt ?_ | refine zm ?_ _)); exact BK109.out⟩, ⟨by (with_reducible repeat (first | refine zn ?_ _ | refine zt ?_ | refine zm ?_ _)); refine zbu (cs := #[.int .i64 (wrap64 (1 + t133)), .int .i64 (rd y121 t124), .int .i64 (rd y112 t115)]) ?_ 2 _ rfl; (with_reducible repeat (first | refine zn ?_ _ | refine zt ?_ | refine zm ?_ _)); exact BK118.out⟩, ⟨Zq13 HI0.out NB0_109.out NB0_118.out⟩, ⟨Zq14 HK.out GW109.out GW118.out⟩, ⟨Zq15 HB.out (zf.ge HI0.out) GE109.out GE118.out⟩⟩
            ·rw [if_neg c82] at H
             exact absurd H (by simp)
           ·rw [if_neg c81] at H
            exact absurd H (by simp)
        ·replace c52 := Bool.eq_false_iff.mpr c52
         subst c52
         have H1 : (zk.j0 k s0_0 t136 (wrap64 (1 + t133)) (rd y121 t124) (rd y112 t115)) = some (r1, r2, r3, r4) := by rw [if_neg (show ¬ (false = true) by decide)] at H; exact H
         clear H
         have H := H1
         clear H1
         have H' := za.mk H
         clear H
         go_wp2
         go_meet
         case rel => exact ⟨_, (t136), (wrap64 (1 + t133)), (rd y121 t124), (rd y112 t115), H', ⟨by first | omega | exact Nat.le_refl _⟩, ⟨Zq4 BK109.out⟩, ⟨Zq4 BK118.out⟩, ⟨Zq13 HI0.out NB0_109.out NB0_118.out⟩, ⟨Zq14 HK.out GW109.out GW118.out⟩, ⟨Zq15 HB.out (zf.ge HI0.out) GE109.out GE118.out⟩⟩
       case rest =>
        clear HC20
        try clear p1
        try clear q1
        try clear hx1
        try clear qi1
        try clear p2
        try clear c5
        try clear c6
        try clear p6
        try clear c7
        try clear c8
        try clear p14
        try clear q14
        try clear hx14
        try clear p15
        try clear q15
        try clear hx15
        try clear qi15
        try clear c52
        try clear c54
        try clear c54b0
        try clear c54b1
        try clear c56
        try clear c57
        try clear p64
        try clear c67
        try clear c67b0
        try clear c67b1
        try clear c68
        try clear c69
        try clear c69b0
        try clear c70
        try clear c70b0
        try clear c81
        try clear c81b0
        try clear c82
        try clear c82b0
        try clear c88
        try clear c89
        try clear hcz90_0
        try clear hcz90_1
        try clear hcz90_2
        try clear hfz90_0
        try clear hfz90_1
        try clear hfz90_2
        try clear hx144_0
        try clear hx150_0
        try clear hx156_0
        try clear p144
        try clear p150
        try clear p156
        try clear q144
        try clear q150
        try clear q156
        obtain ⟨kq, x1001_19, x119000_19, x119001_19, x119002_19, HA, HJ19, BK109, BK118, HI0, HK, HB⟩ := hcut
        cases kq with
        | zero => exact absurd HA.out (by simp [zk.j0])
        | succ kj19 =>
         have H := HA.out
         clear HA
         simp only [zk.j0] at H
         simp only [Option.some.injEq, Prod.mk.injEq] at H
         obtain ⟨rfl, rfl, rfl, rfl⟩ := H
         have hnb91 := NB118_109.out
         have hnc91 := NB109_118.out
         have hnb92 := NB118_0.out
         have hnc92 := NB0_118.out
         have hcz93_0 : wc.cell? ⟨gb118, 0, none⟩ = some (.int .i64 x119000_19) := (zh BK118.out 0).trans rfl
         have hcz93_1 : wc.cell? ⟨gb118, 1, none⟩ = some (.int .i64 x119001_19) := (zh BK118.out 1).trans rfl
         have hcz93_2 : wc.cell? ⟨gb118, 2, none⟩ = some (.int .i64 x119002_19) := (zh BK118.out 2).trans rfl
         have hfz93_0 := zg BK118.out 0
         have hfz93_1 := zg BK118.out 1
         have hfz93_2 := zg BK118.out 2
         have hnb94 := NB109_0.out
         have hnc94 := NB0_109.out
         have hcz95_0 : wc.cell? ⟨gb109, 0, none⟩ = some (.int .i64 0) := (zh BK109.out 0).trans rfl
         have hcz95_1 : wc.cell? ⟨gb109, 1, none⟩ = some (.int .i64 0) := (zh BK109.out 1).trans rfl
         have hcz95_2 : wc.cell? ⟨gb109, 2, none⟩ = some (.int .i64 0) := (zh BK109.out 2).trans rfl
         have hfz95_0 := zg BK109.out 0
         have hfz95_1 := zg BK109.out 1
         have hfz95_2 := zg BK109.out 2
         go_wp2
         refine bodyPost_ret (results_cell_row rfl _ _ gb109 88 #[.int .i64 x119000_19, .int .i64 x119001_19, .int .i64 x119002_19] (0, 0) _ rfl (by (with_reducible repeat (first | refine zn ?_ _ | refine zt ?_ | refine zm ?_ _)); refine zbu (cs := #[.int .i64 x119000_19, .int .i64 x119001_19, .int .i64 0]) ?_ 2 _ rfl; (with_reducible repeat (first | refine zn ?_ _ | refine zt ?_ | refine zm ?_ _)); refine zbu (cs := #[.int .i64 x119000_19, .int .i64 0, .int .i64 0]) ?_ 1 _ rfl; (with_reducible repeat (first | refine zn ?_ _ | refine zt ?_ | refine zm ?_ _)); refine zbu (cs := #[.int .i64 0, .int .i64 0, .int .i64 0]) ?_ 0 _ rfl; (with_reducible repeat (first | refine zn ?_ _ | refine zt ?_ | refine zm ?_ _)); exact BK109.out) Try.underlying88 rfl (by kernel_rfl)) rfl ?_
         exact ⟨by first | rfl | (simp [zbc, zbd] <;> rfl) | (simp only [← hji8, ← hji12, ← hji13, ← hji17]; first | rfl | (simp [zbc, zbd] <;> rfl)) | (simp [*, zbc, zbd] <;> rfl), Zq13 HI0.out NB0_109.out NB0_118.out, Zq15 HB.out (zf.ge HI0.out) GE109.out GE118.out, Zq14 HK.out GW109.out GW118.out⟩
      ·rw [if_neg c16] at H
       exact absurd H (by simp)
     ·rw [if_neg c15] at H
      exact absurd H (by simp)
    ·rw [if_neg c11] at H
     exact absurd H (by simp)
   ·rw [if_neg c10] at H
    exact absurd H (by simp)
  ·rw [if_neg c6] at H
   exact absurd H (by simp)
 ·rw [if_neg c5] at H
  exact absurd H (by simp)
end Go.Proofs.Ytkdfjomhichkoaa.P
