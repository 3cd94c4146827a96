/- The law FnHyperbolic for every input, part 3 of its proof: what the program's functions answer, and the plain law. No condition. -/
import Derived.Test.YtgcjadhmkhpbnaaMFnHyperbolic1
import Derived.Test.YtgcjadhmkhpbnaaMFnHyperbolic2
import Derived.Laws.BitsLemmas
-- Laid by a program of this work.
namespace Go.Proofs.Ytgcjadhmkhpbnaa.P
open Go.RowKit Go.Proofs.YtgcjadhmkhpbnaaW.PrintWords Go.Proofs.YtgcjadhmkhpbnaaW.PrintLast Go.Proofs.YtgcjadhmkhpbnaaW.PrintMore
attribute [local go_sem] max2_int min2_int max_two min_two max_three min_three max_four min_four   -- for this text's walks alone
set_option linter.unusedVariables false
set_option linter.unusedSimpArgs false

/-! ### spec_l20Set: function 76 -/
mutual
def spec_l20Set.l0 : Nat → Int → List (S56) → Int → List Int → Int → Option ((List (S56)) × Int)
  | 0, _, _, _, _, _ => none
  | k + 1, x1, x5, x6, x1000, x1001 => if x6 > 0 then ((spec_l20Task.f k x1000 x1001 0).bind fun bt289 => (if x5.length < 5864062014805 then (spec_l20Set.l0 k x1 (x5 ++ [(⟨bt289.1, bt289.2.1, bt289.2.2.1⟩ : S56)]) (wrap64 (x6 - 1)) x1000 bt289.2.2.2) else (none))) else ((spec_l20Rd_odd.f k x1000 x1001 x1).bind fun bt296 => (if bt296.1 = true then ((spec_l20Rd_pick.f k x1000 bt296.2 3).bind fun bt298 => (if bt298.1 = 0 then (spec_l20Set.l1 k x5 x1000 bt298.2) else ((spec_l20Task.f k x1000 bt298.2 2).bind fun bt314 => (if x5.length < 5864062014805 then (some ((x5 ++ [(⟨bt314.1, bt314.2.1, bt314.2.2.1⟩ : S56)]), bt314.2.2.2)) else (none))))) else (some (x5, bt296.2))))
def spec_l20Set.l1 : Nat → List (S56) → List Int → Int → Option ((List (S56)) × Int)
  | 0, _, _, _ => none
  | k + 1, x5, x1000, x1001 => if (x5.length : Int) ≤ 5 then ((spec_l20Task.f k x1000 x1001 0).bind fun bt300 => (if x5.length < 5864062014805 then (spec_l20Set.l1 k (x5 ++ [(⟨bt300.1, bt300.2.1, bt300.2.2.1⟩ : S56)]) x1000 bt300.2.2.2) else (none))) else ((spec_l20Task.f k x1000 x1001 2).bind fun bt307 => (if x5.length < 5864062014805 then (some ((x5 ++ [(⟨bt307.1, bt307.2.1, bt307.2.2.1⟩ : S56)]), bt307.2.2.2)) else (none)))
end
def spec_l20Set.f (k : Nat) (s0_0 : List Int) (s0_1 : Int) (a1 : Int) : Option ((List (S56)) × Int) := (spec_l20Rd_pick.f k s0_0 s0_1 6).bind fun bt287 => (spec_l20Set.l0 k a1 (([] : List (S56))) bt287.1 s0_0 bt287.2)
theorem spec_l20Set.mono_l : ∀ k, (∀ y0 y1 y2 y3 y4, LeO (spec_l20Set.l0 k y0 y1 y2 y3 y4) (spec_l20Set.l0 (k + 1) y0 y1 y2 y3 y4)) ∧ (∀ y0 y1 y2, LeO (spec_l20Set.l1 k y0 y1 y2) (spec_l20Set.l1 (k + 1) y0 y1 y2))
  | 0 => ⟨fun _ _ _ _ _ r h => by simp [spec_l20Set.l0] at h, fun _ _ _ r h => by simp [spec_l20Set.l1] at h⟩
  | k + 1 => by
    obtain ⟨ih0, ih1⟩ := spec_l20Set.mono_l k
    refine ⟨?_, ?_⟩
    · intro y0 y1 y2 y3 y4
      unfold spec_l20Set.l0
      repeat' first
      | (with_reducible exact ih0 _ _ _ _ _)
      | (with_reducible exact ih1 _ _ _)
      | (with_reducible exact spec_l20Rd_odd.mono _ _ _ _)
      | (with_reducible exact spec_l20Rd_pick.mono _ _ _ _)
      | (with_reducible exact spec_l20Task.mono _ _ _ _)
      | (with_reducible exact LeO.refl _)
      | (with_reducible exact LeO.none _)
      | (with_reducible refine LeO.ite ?_ ?_)
      | (with_reducible refine LeO.bind ?_ (fun _ => ?_))
      | exact ih0 _ _ _ _ _
      | exact ih1 _ _ _
      | exact spec_l20Rd_odd.mono _ _ _ _
      | exact spec_l20Rd_pick.mono _ _ _ _
      | exact spec_l20Task.mono _ _ _ _
      | exact LeO.none _
      | refine LeO.ite ?_ ?_
      | refine LeO.bind ?_ (fun _ => ?_)
    · intro y0 y1 y2
      unfold spec_l20Set.l1
      repeat' first
      | (with_reducible exact ih0 _ _ _ _ _)
      | (with_reducible exact ih1 _ _ _)
      | (with_reducible exact spec_l20Rd_odd.mono _ _ _ _)
      | (with_reducible exact spec_l20Rd_pick.mono _ _ _ _)
      | (with_reducible exact spec_l20Task.mono _ _ _ _)
      | (with_reducible exact LeO.refl _)
      | (with_reducible exact LeO.none _)
      | (with_reducible refine LeO.ite ?_ ?_)
      | (with_reducible refine LeO.bind ?_ (fun _ => ?_))
      | exact ih0 _ _ _ _ _
      | exact ih1 _ _ _
      | exact spec_l20Rd_odd.mono _ _ _ _
      | exact spec_l20Rd_pick.mono _ _ _ _
      | exact spec_l20Task.mono _ _ _ _
      | exact LeO.none _
      | refine LeO.ite ?_ ?_
      | refine LeO.bind ?_ (fun _ => ?_)
theorem spec_l20Set.mono : ∀ a0 a1 a2 k, LeO (spec_l20Set.f k a0 a1 a2) (spec_l20Set.f (k + 1) a0 a1 a2) := by
  intro a0 a1 a2 k
  obtain ⟨ih0, ih1⟩ := spec_l20Set.mono_l k
  unfold spec_l20Set.f
  repeat' first
      | (with_reducible exact ih0 _ _ _ _ _)
      | (with_reducible exact ih1 _ _ _)
      | (with_reducible exact spec_l20Rd_odd.mono _ _ _ _)
      | (with_reducible exact spec_l20Rd_pick.mono _ _ _ _)
      | (with_reducible exact spec_l20Task.mono _ _ _ _)
      | (with_reducible exact LeO.refl _)
      | (with_reducible exact LeO.none _)
      | (with_reducible refine LeO.ite ?_ ?_)
      | (with_reducible refine LeO.bind ?_ (fun _ => ?_))
      | exact ih0 _ _ _ _ _
      | exact ih1 _ _ _
      | exact spec_l20Rd_odd.mono _ _ _ _
      | exact spec_l20Rd_pick.mono _ _ _ _
      | exact spec_l20Task.mono _ _ _ _
      | exact LeO.none _
      | refine LeO.ite ?_ ?_
      | refine LeO.bind ?_ (fun _ => ?_)
set_option maxHeartbeats 8000000 in
set_option maxRecDepth 100000 in
theorem spec_l20Set.calls (k : Nat) (g : Nat) (s0_0 : List Int) (s0_1 : Int) (a1 : Int) (r1 : List (S56)) (r2 : Int) (w0 w : World) (hI : IsS94 w0 w g s0_0 s0_1) (hB : Below w0.heap.size w0 w) (h : spec_l20Set.f k s0_0 s0_1 a1 = some (r1, r2)) :
    Calls Try.prog 76 #[.pointer (some ⟨g, 0, none⟩), .int .i64 a1] w fun e w' => ∃ v0_ : Value, e = .returned (v0_) ∧ Kd.R k56 56 w' w.heap.size (fun _ => True) v0_ r1 ∧ IsS94 w0 w' g s0_0 r2 ∧ Below w0.heap.size w0 w' ∧ KeepBut w w' g none := by
  have HI0 := Aside0.mk hI
  have HK := Aside0.mk (KeepBut.refl w g none)
  have HL := Aside0.mk hB.size
  clear hI
  have HW0 := Aside0.mk hB.size
  have HB := Aside0.mk hB
  clear hB
  have H : ((spec_l20Rd_pick.f k s0_0 s0_1 6).bind fun bt287 => (spec_l20Set.l0 k a1 (([] : List (S56))) bt287.1 s0_0 bt287.2)) = some (r1, r2) := h
  clear h
  obtain ⟨y284, hy284⟩ : ∃ y_ : List (S56), y_ = (([] : List (S56))) := ⟨_, rfl⟩
  replace H : ((spec_l20Rd_pick.f k s0_0 s0_1 6).bind fun bt287 => (spec_l20Set.l0 k a1 y284 bt287.1 s0_0 bt287.2)) = some (r1, r2) := by first | (rw [hy284]; with_reducible exact H) | (have H2_ := (Option.bind_some _ _).symm.trans H; rw [hy284]; with_reducible exact H2_) | (have H2_ := (Option.bind_some _ _).symm.trans H; with_reducible exact H2_) | with_reducible exact H | (rw [hy284]; exact H) | exact H
  have Ny284 := Aside0.mk hy284
  clear hy284
  replace H := Option.bind_eq_some_iff.mp H
  obtain ⟨⟨t287, t288⟩, A30, H⟩ := H
  replace H : (spec_l20Set.l0 k a1 y284 t287 s0_0 t288) = some (r1, r2) := H
  have A3 := Aside0.mk A30
  clear A30
  have H' := Aside0.mk H
  clear H
  go_enter Try.func76, Try.ntmps76
  go_wp2_with (first | ((with_reducible refine gate_dst (N := 7) rfl ?_); refine Kd.R_lit k56 _ 56 ?hg (N := 7) ?hd (xs := ([] : List (S56))) (inner := []) (ok := fun _ => True) (okp := fun _ => True) ?hr ?hp (fun _ hk => hk) trivial (Below.refl _ _) (Nat.le_refl _) (by simp) ?_; (case hd => rfl); (case hg => rfl); (case hr => first | (go_simp; done) | (go_simp; rfl)); (case hp => exact (Reps.none _ _)); intro v285 w4 ho5 hb hg_ hnew_; clear hg_ hnew_; (first | rw [← Ny284.out] at ho5 | (simp only [Int.reduceToNat] at ho5; rw [← Ny284.out] at ho5)); have n0_ := Aside0.mk (Kd.R_lower ho5 (keep_size (w := w) (g := g) (row := none) (by repeat (first | (with_reducible first | exact HK.out | apply KeepBut.set_ | apply keep_drewN | apply keep_drew | apply keep_alloc) | exact HK.out)))); have n1_ := Aside0.mk (IsS94.below (by repeat (first | (with_reducible first | exact HI0.out | apply IsS94.alloc | apply IsS94.drewN | apply IsS94.drew | apply IsS94.set_1) | exact HI0.out)) hb); have n2_ := Aside0.mk (KeepBut.trans (by repeat (first | (with_reducible first | exact HK.out | apply KeepBut.set_ | apply keep_drewN | apply keep_drew | apply keep_alloc) | exact HK.out)) (KeepBut.of_below hb g none) (.inl rfl)); have n3_ := Aside0.mk (below_step (by repeat (first | (with_reducible first | exact HB.out | apply below_alloc | apply pw_below_drewN | apply below_drew1 | refine below_set ?_ (IsS94.ge HI0.out)) | exact HB.out)) hb); clear HI0; clear HK; clear HB; have HO286 := n0_; have HI0 := n1_; have HK := n2_; have HB := n3_; clear n0_ n1_ n2_ n3_; clear hb ho5) | ((with_reducible refine gate_callee (f := 61) rfl ?_); refine goesL_ (some 9) rfl rfl Try.func61 (by kernel_rfl) rfl #[.pointer (some ⟨g, 0, none⟩), .int .i64 6] rfl (by (try simp only [List.map_toArray, List.map_cons, List.map_nil]); first | done | rfl | (simp only [List.length_drop, List.length_take]; rfl)) ?_; (with_reducible refine (spec_l20Rd_pick.calls k g s0_0 s0_1 6 t287 t288 w0 _ ?side1 ?side2 A3.out).mono ?_); (case side1 => repeat (first | (with_reducible first | exact HI0.out | apply IsS94.alloc | apply IsS94.drewN | apply IsS94.drew | apply IsS94.set_1) | exact HI0.out)); (case side2 => repeat (first | (with_reducible first | exact HB.out | apply below_alloc | apply pw_below_drewN | apply below_drew1 | refine below_set ?_ (IsS94.ge HI0.out)) | exact HB.out)); rintro e w6 ⟨rfl, hi, hb, hk⟩; refine ⟨_, rfl, ?_⟩; have n0_ := Aside0.mk (Kd.R_mono (Kd.R_keep (IsS94.apart (show IsS94 w0 _ g s0_0 s0_1 from by repeat (first | (with_reducible first | exact HI0.out | apply IsS94.alloc | apply IsS94.drewN | apply IsS94.drew | apply IsS94.set_1) | exact HI0.out)) (by (with_reducible repeat (first | apply Kd.R_alloc | apply Kd.R_drewN | apply Kd.R_drew)); exact HO286.out) (by decide)) hk (fun _ h => h.2)) (fun _ h => h.1)); have n1_ := Aside0.mk (KeepBut.trans (by repeat (first | (with_reducible first | exact HK.out | apply KeepBut.set_ | apply keep_drewN | apply keep_drew | apply keep_alloc) | exact HK.out)) hk (.inl rfl)); have n2_ := Aside0.mk (hb); have n3_ := Aside0.mk (hi); clear HO286; clear HK; clear HB; clear HI0; have HO286 := n0_; have HK := n1_; have HB := n2_; have HI0 := n3_; clear n0_ n1_ n2_ n3_; (try clear hb); (try clear hb2); (try clear hk); (try clear hi)))
  go_loopg [5, 6] k (fun kq v5 v6 w' => ∃ (x5_1 : List (S56)) (x6_1 : Int) (x1001_1 : Int), v6 = .int .i64 x6_1 ∧ Aside0 (spec_l20Set.l0 kq a1 x5_1 x6_1 s0_0 x1001_1 = some (r1, r2)) ∧ Aside0 (kq ≤ k) ∧ Aside0 (Kd.R k56 56 w' w.heap.size (fun _ => True) v5 x5_1) ∧ Aside0 (IsS94 w0 w' g s0_0 x1001_1) ∧ Aside0 (KeepBut w w' g none) ∧ Aside0 (Below w0.heap.size w0 w'))
  case atStart => exact ⟨(y284), (t287), (t288), (by first | rfl | (simp; done) | (simp [*]; done)), H', ⟨Nat.le_refl _⟩, ⟨by (with_reducible repeat (first | apply Kd.R_alloc | apply Kd.R_drewN | apply Kd.R_drew)); exact HO286.out⟩, ⟨by repeat (first | (with_reducible first | exact HI0.out | apply IsS94.alloc | apply IsS94.drewN | apply IsS94.drew | apply IsS94.set_1) | exact HI0.out)⟩, ⟨by repeat (first | (with_reducible first | exact HK.out | apply KeepBut.set_ | apply keep_drewN | apply keep_drew | apply keep_alloc) | exact HK.out)⟩, ⟨by repeat (first | (with_reducible first | exact HB.out | apply below_alloc | apply pw_below_drewN | apply below_drew1 | refine below_set ?_ (IsS94.ge HI0.out)) | exact HB.out)⟩⟩
  case round =>
    clear H'
    try clear p2
    try clear c6
    obtain ⟨x5_1, x6_1, x1001_1, rfl, HA, HK1, HO_5, HI0, HK, HB⟩ := hrel
    cases gk with
    | zero => exact absurd HA.out (by simp [spec_l20Set.l0])
    | succ k1 =>
      have H := HA.out
      clear HA
      simp only [spec_l20Set.l0] at H
      by_cases c7 : x6_1 > 0
      · rw [if_pos c7] at H
        have c7b0 : decide (0 < x6_1) = true := decide_eq_true c7
        clear c7
        replace H := Option.bind_eq_some_iff.mp H
        obtain ⟨⟨t289, t290, t291, t292⟩, A80, H⟩ := H
        replace H : (if x5_1.length < 5864062014805 then (spec_l20Set.l0 k1 a1 (x5_1 ++ [(⟨t289, t290, t291⟩ : S56)]) (wrap64 (x6_1 - 1)) s0_0 t292) else (none)) = some (r1, r2) := H
        have A8 := Aside0.mk A80
        clear A80
        by_cases c9 : x5_1.length < 5864062014805
        · rw [if_pos c9] at H
          have LMc9 := Aside0.mk c9
          clear c9
          obtain ⟨y293, hy293⟩ : ∃ y_ : List (S56), y_ = (x5_1 ++ [(⟨t289, t290, t291⟩ : S56)]) := ⟨_, rfl⟩
          replace H : (spec_l20Set.l0 k1 a1 y293 (wrap64 (x6_1 - 1)) s0_0 t292) = some (r1, r2) := by first | (rw [hy293]; with_reducible exact H) | (have H2_ := (Option.bind_some _ _).symm.trans H; rw [hy293]; with_reducible exact H2_) | (have H2_ := (Option.bind_some _ _).symm.trans H; with_reducible exact H2_) | with_reducible exact H | (rw [hy293]; exact H) | exact H
          have Ny293 := Aside0.mk hy293
          clear hy293
          have H' := Aside0.mk H
          clear H
          go_wp2_with (first | ((with_reducible refine gate_callee (f := 102) rfl ?_); refine goesL_ (some 16) rfl rfl Try.func102 (by kernel_rfl) rfl #[.pointer (some ⟨g, 0, none⟩), .int .i64 0] rfl (by (try simp only [List.map_toArray, List.map_cons, List.map_nil]); first | done | rfl | (simp only [List.length_drop, List.length_take]; rfl)) ?_; (with_reducible refine (spec_l20Task.calls k1 g s0_0 x1001_1 0 t289 t290 t291 t292 w0 _ ?side1 ?side2 A8.out).mono ?_); (case side1 => repeat (first | (with_reducible first | exact HI0.out | apply IsS94.alloc | apply IsS94.drewN | apply IsS94.drew | apply IsS94.set_1) | exact HI0.out)); (case side2 => repeat (first | (with_reducible first | exact HB.out | apply below_alloc | apply pw_below_drewN | apply below_drew1 | refine below_set ?_ (IsS94.ge HI0.out)) | exact HB.out)); rintro e w10 ⟨rfl, hi, hb, hk⟩; refine ⟨_, rfl, ?_⟩; have n0_ := Aside0.mk (Kd.R_mono (Kd.R_keep (IsS94.apart (show IsS94 w0 _ g s0_0 x1001_1 from by repeat (first | (with_reducible first | exact HI0.out | apply IsS94.alloc | apply IsS94.drewN | apply IsS94.drew | apply IsS94.set_1) | exact HI0.out)) (by (with_reducible repeat (first | apply Kd.R_alloc | apply Kd.R_drewN | apply Kd.R_drew)); exact HO_5.out) (by decide)) hk (fun _ h => h.2)) (fun _ h => h.1)); have n1_ := Aside0.mk (KeepBut.trans (by repeat (first | (with_reducible first | exact HK.out | apply KeepBut.set_ | apply keep_drewN | apply keep_drew | apply keep_alloc) | exact HK.out)) hk (.inl rfl)); have n2_ := Aside0.mk (hb); have n3_ := Aside0.mk (hi); clear HO_5; clear HK; clear HB; clear HI0; have HO_5 := n0_; have HK := n1_; have HB := n2_; have HI0 := n3_; clear n0_ n1_ n2_ n3_; (try clear hb); (try clear hb2); (try clear hk); (try clear hi)) | ((with_reducible refine gate_builtin (b := .append) (xs := #[.tmp 14, .tmp 17]) rfl ?_); at_builtin; refine Kd.R_append k56 w.heap.size rfl (.tmp 14) (.tmp 17) 25 56 (.agg #[(.int .i64 0), (.int .i64 0), (.int .i64 0)]) 24 rfl Try.underlying25 info56 rfl (by decide) (by omega) u5 x5_1 (⟨t289, t290, t291⟩ : S56) [.int .i64 t289, .int .i64 t290, .int .i64 t291] (fun _ => True) (fun _ => False) rfl rfl ?aP (fun _ hk => hk.elim) ?aF ?aO (Below.refl _ _) ?aS ?aL ?_; (case aP => exact k56_mkM _ _ _ (⟨t289, t290, t291⟩ : S56)); (case aF => exact (fun _ _ => trivial)); (case aO => exact (by (with_reducible repeat (first | apply Kd.R_alloc | apply Kd.R_drewN | apply Kd.R_drew)); exact HO_5.out)); (case aS => exact (keep_size (w := w) (g := g) (row := none) (by repeat (first | (with_reducible first | exact HK.out | apply KeepBut.set_ | apply keep_drewN | apply keep_drew | apply keep_alloc) | exact HK.out)))); (case aL => have := LMc9.out; omega); intro v294 w11 ho hb hg hat; rw [← Ny293.out] at ho; have n0_ := Aside0.mk (IsS94.grown (by repeat (first | (with_reducible first | exact HI0.out | apply IsS94.alloc | apply IsS94.drewN | apply IsS94.drew | apply IsS94.set_1) | exact HI0.out)) hg (IsS94.own_ne HI0.out HO_5.out (by decide))); have n1_ := Aside0.mk (below_weaken (by repeat (first | (with_reducible first | exact HB.out | apply below_alloc | apply pw_below_drewN | apply below_drew1 | refine below_set ?_ (IsS94.ge HI0.out)) | exact HB.out)) HL.out hb); have n2_ := Aside0.mk (KeepBut.trans (by repeat (first | (with_reducible first | exact HK.out | apply KeepBut.set_ | apply keep_drewN | apply keep_drew | apply keep_alloc) | exact HK.out)) (KeepBut.of_grown hg g) (Kd.R_base2 HO_5.out)); have n3_ := Aside0.mk (ho); clear HI0; clear HB; clear HK; clear HO_5; have HI0 := n0_; have HB := n1_; have HK := n2_; have HO295 := n3_; clear n0_ n1_ n2_ n3_; clear ho hb hg hat))
          go_roundg k1
          case measure => have := HK1.out; omega
          case rel => exact ⟨(y293), (wrap64 (x6_1 - 1)), (t292), (by first | rfl | (simp; done) | (simp [*]; done)), H', ⟨by have := HK1.out; omega⟩, ⟨by (with_reducible repeat (first | apply Kd.R_alloc | apply Kd.R_drewN | apply Kd.R_drew)); exact HO295.out⟩, ⟨by repeat (first | (with_reducible first | exact HI0.out | apply IsS94.alloc | apply IsS94.drewN | apply IsS94.drew | apply IsS94.set_1) | exact HI0.out)⟩, ⟨by repeat (first | (with_reducible first | exact HK.out | apply KeepBut.set_ | apply keep_drewN | apply keep_drew | apply keep_alloc) | exact HK.out)⟩, ⟨by repeat (first | (with_reducible first | exact HB.out | apply below_alloc | apply pw_below_drewN | apply below_drew1 | refine below_set ?_ (IsS94.ge HI0.out)) | exact HB.out)⟩⟩
        · rw [if_neg c9] at H
          exact absurd H (by simp)
      · rw [if_neg c7] at H
        have c7b0 : decide (0 < x6_1) = false := decide_eq_false c7
        clear c7
        replace H := Option.bind_eq_some_iff.mp H
        obtain ⟨⟨t296, t297⟩, A120, H⟩ := H
        replace H : (if t296 = true then ((spec_l20Rd_pick.f k1 s0_0 t297 3).bind fun bt298 => (if bt298.1 = 0 then (spec_l20Set.l1 k1 x5_1 s0_0 bt298.2) else ((spec_l20Task.f k1 s0_0 bt298.2 2).bind fun bt314 => (if x5_1.length < 5864062014805 then (some ((x5_1 ++ [(⟨bt314.1, bt314.2.1, bt314.2.2.1⟩ : S56)]), bt314.2.2.2)) else (none))))) else (some (x5_1, t297))) = some (r1, r2) := H
        have A12 := Aside0.mk A120
        clear A120
        by_cases c13 : t296 = true
        · subst c13
          have H1 : ((spec_l20Rd_pick.f k1 s0_0 t297 3).bind fun bt298 => (if bt298.1 = 0 then (spec_l20Set.l1 k1 x5_1 s0_0 bt298.2) else ((spec_l20Task.f k1 s0_0 bt298.2 2).bind fun bt314 => (if x5_1.length < 5864062014805 then (some ((x5_1 ++ [(⟨bt314.1, bt314.2.1, bt314.2.2.1⟩ : S56)]), bt314.2.2.2)) else (none))))) = some (r1, r2) := by rw [if_pos rfl] at H; exact H
          clear H
          have H := H1
          clear H1
          replace H := Option.bind_eq_some_iff.mp H
          obtain ⟨⟨t298, t299⟩, A140, H⟩ := H
          replace H : (if t298 = 0 then (spec_l20Set.l1 k1 x5_1 s0_0 t299) else ((spec_l20Task.f k1 s0_0 t299 2).bind fun bt314 => (if x5_1.length < 5864062014805 then (some ((x5_1 ++ [(⟨bt314.1, bt314.2.1, bt314.2.2.1⟩ : S56)]), bt314.2.2.2)) else (none)))) = some (r1, r2) := H
          have A14 := Aside0.mk A140
          clear A140
          by_cases c15 : t298 = 0
          · rw [if_pos c15] at H
            have c15b0 : (t298 == 0) = true := beq_iff_eq.mpr c15
            have c15b1 : (t298 != 0) = false := bne_eq_false_iff_eq.mpr c15
            clear c15
            have H' := Aside0.mk H
            clear H
            go_wp2_with (first | ((with_reducible refine gate_callee (f := 103) rfl ?_); refine goesL_ (some 21) rfl rfl Try.func103 (by kernel_rfl) rfl #[.pointer (some ⟨g, 0, none⟩), .int .i64 a1] rfl (by (try simp only [List.map_toArray, List.map_cons, List.map_nil]); first | done | rfl | (simp only [List.length_drop, List.length_take]; rfl)) ?_; (with_reducible refine (spec_l20Rd_odd.calls k1 g s0_0 x1001_1 a1 true t297 w0 _ ?side1 ?side2 A12.out).mono ?_); (case side1 => repeat (first | (with_reducible first | exact HI0.out | apply IsS94.alloc | apply IsS94.drewN | apply IsS94.drew | apply IsS94.set_1) | exact HI0.out)); (case side2 => repeat (first | (with_reducible first | exact HB.out | apply below_alloc | apply pw_below_drewN | apply below_drew1 | refine below_set ?_ (IsS94.ge HI0.out)) | exact HB.out)); rintro e w16 ⟨rfl, hi, hb, hk⟩; refine ⟨_, rfl, ?_⟩; have n0_ := Aside0.mk (Kd.R_mono (Kd.R_keep (IsS94.apart (show IsS94 w0 _ g s0_0 x1001_1 from by repeat (first | (with_reducible first | exact HI0.out | apply IsS94.alloc | apply IsS94.drewN | apply IsS94.drew | apply IsS94.set_1) | exact HI0.out)) (by (with_reducible repeat (first | apply Kd.R_alloc | apply Kd.R_drewN | apply Kd.R_drew)); exact HO_5.out) (by decide)) hk (fun _ h => h.2)) (fun _ h => h.1)); have n1_ := Aside0.mk (KeepBut.trans (by repeat (first | (with_reducible first | exact HK.out | apply KeepBut.set_ | apply keep_drewN | apply keep_drew | apply keep_alloc) | exact HK.out)) hk (.inl rfl)); have n2_ := Aside0.mk (hb); have n3_ := Aside0.mk (hi); clear HO_5; clear HK; clear HB; clear HI0; have HO_5 := n0_; have HK := n1_; have HB := n2_; have HI0 := n3_; clear n0_ n1_ n2_ n3_; (try clear hb); (try clear hb2); (try clear hk); (try clear hi)) | ((with_reducible refine gate_callee (f := 61) rfl ?_); refine goesL_ (some 23) rfl rfl Try.func61 (by kernel_rfl) rfl #[.pointer (some ⟨g, 0, none⟩), .int .i64 3] rfl (by (try simp only [List.map_toArray, List.map_cons, List.map_nil]); first | done | rfl | (simp only [List.length_drop, List.length_take]; rfl)) ?_; (with_reducible refine (spec_l20Rd_pick.calls k1 g s0_0 t297 3 t298 t299 w0 _ ?side1 ?side2 A14.out).mono ?_); (case side1 => repeat (first | (with_reducible first | exact HI0.out | apply IsS94.alloc | apply IsS94.drewN | apply IsS94.drew | apply IsS94.set_1) | exact HI0.out)); (case side2 => repeat (first | (with_reducible first | exact HB.out | apply below_alloc | apply pw_below_drewN | apply below_drew1 | refine below_set ?_ (IsS94.ge HI0.out)) | exact HB.out)); rintro e w17 ⟨rfl, hi, hb, hk⟩; refine ⟨_, rfl, ?_⟩; have n0_ := Aside0.mk (Kd.R_mono (Kd.R_keep (IsS94.apart (show IsS94 w0 _ g s0_0 t297 from by repeat (first | (with_reducible first | exact HI0.out | apply IsS94.alloc | apply IsS94.drewN | apply IsS94.drew | apply IsS94.set_1) | exact HI0.out)) (by (with_reducible repeat (first | apply Kd.R_alloc | apply Kd.R_drewN | apply Kd.R_drew)); exact HO_5.out) (by decide)) hk (fun _ h => h.2)) (fun _ h => h.1)); have n1_ := Aside0.mk (KeepBut.trans (by repeat (first | (with_reducible first | exact HK.out | apply KeepBut.set_ | apply keep_drewN | apply keep_drew | apply keep_alloc) | exact HK.out)) hk (.inl rfl)); have n2_ := Aside0.mk (hb); have n3_ := Aside0.mk (hi); clear HO_5; clear HK; clear HB; clear HI0; have HO_5 := n0_; have HK := n1_; have HB := n2_; have HI0 := n3_; clear n0_ n1_ n2_ n3_; (try clear hb); (try clear hb2); (try clear hk); (try clear hi)))
            go_loopg [5] k1 (fun kq v5 w' => ∃ (x5_2 : List (S56)) (x1001_2 : Int), Aside0 (spec_l20Set.l1 kq x5_2 s0_0 x1001_2 = some (r1, r2)) ∧ Aside0 (kq ≤ k1) ∧ Aside0 (Kd.R k56 56 w' w.heap.size (fun _ => True) v5 x5_2) ∧ Aside0 (IsS94 w0 w' g s0_0 x1001_2) ∧ Aside0 (KeepBut w w' g none) ∧ Aside0 (Below w0.heap.size w0 w'))
            case atStart => exact ⟨(x5_1), (t299), H', ⟨Nat.le_refl _⟩, ⟨by (with_reducible repeat (first | apply Kd.R_alloc | apply Kd.R_drewN | apply Kd.R_drew)); exact HO_5.out⟩, ⟨by repeat (first | (with_reducible first | exact HI0.out | apply IsS94.alloc | apply IsS94.drewN | apply IsS94.drew | apply IsS94.set_1) | exact HI0.out)⟩, ⟨by repeat (first | (with_reducible first | exact HK.out | apply KeepBut.set_ | apply keep_drewN | apply keep_drew | apply keep_alloc) | exact HK.out)⟩, ⟨by repeat (first | (with_reducible first | exact HB.out | apply below_alloc | apply pw_below_drewN | apply below_drew1 | refine below_set ?_ (IsS94.ge HI0.out)) | exact HB.out)⟩⟩
            case round =>
              clear H'
              try clear c1
              try clear p2
              try clear c6
              try clear p6
              try clear c7
              try clear c7b0
              try clear c9
              try clear c10
              try clear c13
              try clear c15
              try clear c15b0
              try clear c15b1
              try clear p2
              obtain ⟨x5_2, x1001_2, HA, HK2, HO_5, HI0, HK, HB⟩ := hrel
              cases gk with
              | zero => exact absurd HA.out (by simp [spec_l20Set.l1])
              | succ k2 =>
                have H := HA.out
                clear HA
                simp only [spec_l20Set.l1] at H
                by_cases c18 : (x5_2.length : Int) ≤ 5
                · rw [if_pos c18] at H
                  have c18b0 : decide ((x5_2.length : Int) ≤ 5) = true := decide_eq_true c18
                  have c18b1 : decide (x5_2.length ≤ 5) = true := decide_eq_true (by omega)
                  clear c18
                  replace H := Option.bind_eq_some_iff.mp H
                  obtain ⟨⟨t300, t301, t302, t303⟩, A190, H⟩ := H
                  replace H : (if x5_2.length < 5864062014805 then (spec_l20Set.l1 k2 (x5_2 ++ [(⟨t300, t301, t302⟩ : S56)]) s0_0 t303) else (none)) = some (r1, r2) := H
                  have A19 := Aside0.mk A190
                  clear A190
                  by_cases c20 : x5_2.length < 5864062014805
                  · rw [if_pos c20] at H
                    have LMc20 := Aside0.mk c20
                    clear c20
                    obtain ⟨y304, hy304⟩ : ∃ y_ : List (S56), y_ = (x5_2 ++ [(⟨t300, t301, t302⟩ : S56)]) := ⟨_, rfl⟩
                    replace H : (spec_l20Set.l1 k2 y304 s0_0 t303) = some (r1, r2) := by first | (rw [hy304]; with_reducible exact H) | (have H2_ := (Option.bind_some _ _).symm.trans H; rw [hy304]; with_reducible exact H2_) | (have H2_ := (Option.bind_some _ _).symm.trans H; with_reducible exact H2_) | with_reducible exact H | (rw [hy304]; exact H) | exact H
                    have Ny304 := Aside0.mk hy304
                    clear hy304
                    have H' := Aside0.mk H
                    clear H
                    obtain ⟨Ao21, co21, eo21⟩ := Kd.R_slice HO_5.out
                    subst eo21
                    go_wp2_with (first | ((with_reducible refine gate_callee (f := 102) rfl ?_); refine goesL_ (some 30) rfl rfl Try.func102 (by kernel_rfl) rfl #[.pointer (some ⟨g, 0, none⟩), .int .i64 0] rfl (by (try simp only [List.map_toArray, List.map_cons, List.map_nil]); first | done | rfl | (simp only [List.length_drop, List.length_take]; rfl)) ?_; (with_reducible refine (spec_l20Task.calls k2 g s0_0 x1001_2 0 t300 t301 t302 t303 w0 _ ?side1 ?side2 A19.out).mono ?_); (case side1 => repeat (first | (with_reducible first | exact HI0.out | apply IsS94.alloc | apply IsS94.drewN | apply IsS94.drew | apply IsS94.set_1) | exact HI0.out)); (case side2 => repeat (first | (with_reducible first | exact HB.out | apply below_alloc | apply pw_below_drewN | apply below_drew1 | refine below_set ?_ (IsS94.ge HI0.out)) | exact HB.out)); rintro e w22 ⟨rfl, hi, hb, hk⟩; refine ⟨_, rfl, ?_⟩; have n0_ := Aside0.mk (Kd.R_mono (Kd.R_keep (IsS94.apart (show IsS94 w0 _ g s0_0 x1001_2 from by repeat (first | (with_reducible first | exact HI0.out | apply IsS94.alloc | apply IsS94.drewN | apply IsS94.drew | apply IsS94.set_1) | exact HI0.out)) (by (with_reducible repeat (first | apply Kd.R_alloc | apply Kd.R_drewN | apply Kd.R_drew)); exact HO_5.out) (by decide)) hk (fun _ h => h.2)) (fun _ h => h.1)); have n1_ := Aside0.mk (KeepBut.trans (by repeat (first | (with_reducible first | exact HK.out | apply KeepBut.set_ | apply keep_drewN | apply keep_drew | apply keep_alloc) | exact HK.out)) hk (.inl rfl)); have n2_ := Aside0.mk (hb); have n3_ := Aside0.mk (hi); clear HO_5; clear HK; clear HB; clear HI0; have HO_5 := n0_; have HK := n1_; have HB := n2_; have HI0 := n3_; clear n0_ n1_ n2_ n3_; (try clear hb); (try clear hb2); (try clear hk); (try clear hi)) | ((with_reducible refine gate_builtin (b := .append) (xs := #[.tmp 28, .tmp 31]) rfl ?_); at_builtin; refine Kd.R_append k56 w.heap.size rfl (.tmp 28) (.tmp 31) 25 56 (.agg #[(.int .i64 0), (.int .i64 0), (.int .i64 0)]) 24 rfl Try.underlying25 info56 rfl (by decide) (by omega) (.slice Ao21 x5_2.length co21) x5_2 (⟨t300, t301, t302⟩ : S56) [.int .i64 t300, .int .i64 t301, .int .i64 t302] (fun _ => True) (fun _ => False) rfl rfl ?aP (fun _ hk => hk.elim) ?aF ?aO (Below.refl _ _) ?aS ?aL ?_; (case aP => exact k56_mkM _ _ _ (⟨t300, t301, t302⟩ : S56)); (case aF => exact (fun _ _ => trivial)); (case aO => exact (by (with_reducible repeat (first | apply Kd.R_alloc | apply Kd.R_drewN | apply Kd.R_drew)); exact HO_5.out)); (case aS => exact (keep_size (w := w) (g := g) (row := none) (by repeat (first | (with_reducible first | exact HK.out | apply KeepBut.set_ | apply keep_drewN | apply keep_drew | apply keep_alloc) | exact HK.out)))); (case aL => have := LMc20.out; omega); intro v305 w23 ho hb hg hat; rw [← Ny304.out] at ho; have n0_ := Aside0.mk (IsS94.grown (by repeat (first | (with_reducible first | exact HI0.out | apply IsS94.alloc | apply IsS94.drewN | apply IsS94.drew | apply IsS94.set_1) | exact HI0.out)) hg (IsS94.own_ne HI0.out HO_5.out (by decide))); have n1_ := Aside0.mk (below_weaken (by repeat (first | (with_reducible first | exact HB.out | apply below_alloc | apply pw_below_drewN | apply below_drew1 | refine below_set ?_ (IsS94.ge HI0.out)) | exact HB.out)) HL.out hb); have n2_ := Aside0.mk (KeepBut.trans (by repeat (first | (with_reducible first | exact HK.out | apply KeepBut.set_ | apply keep_drewN | apply keep_drew | apply keep_alloc) | exact HK.out)) (KeepBut.of_grown hg g) (Kd.R_base2 HO_5.out)); have n3_ := Aside0.mk (ho); clear HI0; clear HB; clear HK; clear HO_5; have HI0 := n0_; have HB := n1_; have HK := n2_; have HO306 := n3_; clear n0_ n1_ n2_ n3_; clear ho hb hg hat))
                    go_roundg k2
                    case measure => have := HK1.out; have := HK2.out; omega
                    case rel => exact ⟨(y304), (t303), H', ⟨by have := HK1.out; have := HK2.out; omega⟩, ⟨by (with_reducible repeat (first | apply Kd.R_alloc | apply Kd.R_drewN | apply Kd.R_drew)); exact HO306.out⟩, ⟨by repeat (first | (with_reducible first | exact HI0.out | apply IsS94.alloc | apply IsS94.drewN | apply IsS94.drew | apply IsS94.set_1) | exact HI0.out)⟩, ⟨by repeat (first | (with_reducible first | exact HK.out | apply KeepBut.set_ | apply keep_drewN | apply keep_drew | apply keep_alloc) | exact HK.out)⟩, ⟨by repeat (first | (with_reducible first | exact HB.out | apply below_alloc | apply pw_below_drewN | apply below_drew1 | refine below_set ?_ (IsS94.ge HI0.out)) | exact HB.out)⟩⟩
                  · rw [if_neg c20] at H
                    exact absurd H (by simp)
                · rw [if_neg c18] at H
                  have c18b0 : decide ((x5_2.length : Int) ≤ 5) = false := decide_eq_false c18
                  have c18b1 : decide (x5_2.length ≤ 5) = false := decide_eq_false (by omega)
                  clear c18
                  replace H := Option.bind_eq_some_iff.mp H
                  obtain ⟨⟨t307, t308, t309, t310⟩, A240, H⟩ := H
                  replace H : (if x5_2.length < 5864062014805 then (some ((x5_2 ++ [(⟨t307, t308, t309⟩ : S56)]), t310)) else (none)) = some (r1, r2) := H
                  have A24 := Aside0.mk A240
                  clear A240
                  by_cases c25 : x5_2.length < 5864062014805
                  · rw [if_pos c25] at H
                    have LMc25 := Aside0.mk c25
                    clear c25
                    obtain ⟨y311, hy311⟩ : ∃ y_ : List (S56), y_ = (x5_2 ++ [(⟨t307, t308, t309⟩ : S56)]) := ⟨_, rfl⟩
                    replace H : (some (y311, t310)) = some (r1, r2) := by first | (rw [hy311]; with_reducible exact H) | (have H2_ := (Option.bind_some _ _).symm.trans H; rw [hy311]; with_reducible exact H2_) | (have H2_ := (Option.bind_some _ _).symm.trans H; with_reducible exact H2_) | with_reducible exact H | (rw [hy311]; exact H) | exact H
                    have Ny311 := Aside0.mk hy311
                    clear hy311
                    simp only [Option.some.injEq, Prod.mk.injEq] at H
                    obtain ⟨rfl, rfl⟩ := H
                    obtain ⟨Ao26, co26, eo26⟩ := Kd.R_slice HO_5.out
                    subst eo26
                    go_wp2_with (first | ((with_reducible refine gate_callee (f := 102) rfl ?_); refine goesL_ (some 35) rfl rfl Try.func102 (by kernel_rfl) rfl #[.pointer (some ⟨g, 0, none⟩), .int .i64 2] rfl (by (try simp only [List.map_toArray, List.map_cons, List.map_nil]); first | done | rfl | (simp only [List.length_drop, List.length_take]; rfl)) ?_; (with_reducible refine (spec_l20Task.calls k2 g s0_0 x1001_2 2 t307 t308 t309 t310 w0 _ ?side1 ?side2 A24.out).mono ?_); (case side1 => repeat (first | (with_reducible first | exact HI0.out | apply IsS94.alloc | apply IsS94.drewN | apply IsS94.drew | apply IsS94.set_1) | exact HI0.out)); (case side2 => repeat (first | (with_reducible first | exact HB.out | apply below_alloc | apply pw_below_drewN | apply below_drew1 | refine below_set ?_ (IsS94.ge HI0.out)) | exact HB.out)); rintro e w27 ⟨rfl, hi, hb, hk⟩; refine ⟨_, rfl, ?_⟩; have n0_ := Aside0.mk (Kd.R_mono (Kd.R_keep (IsS94.apart (show IsS94 w0 _ g s0_0 x1001_2 from by repeat (first | (with_reducible first | exact HI0.out | apply IsS94.alloc | apply IsS94.drewN | apply IsS94.drew | apply IsS94.set_1) | exact HI0.out)) (by (with_reducible repeat (first | apply Kd.R_alloc | apply Kd.R_drewN | apply Kd.R_drew)); exact HO_5.out) (by decide)) hk (fun _ h => h.2)) (fun _ h => h.1)); have n1_ := Aside0.mk (KeepBut.trans (by repeat (first | (with_reducible first | exact HK.out | apply KeepBut.set_ | apply keep_drewN | apply keep_drew | apply keep_alloc) | exact HK.out)) hk (.inl rfl)); have n2_ := Aside0.mk (hb); have n3_ := Aside0.mk (hi); clear HO_5; clear HK; clear HB; clear HI0; have HO_5 := n0_; have HK := n1_; have HB := n2_; have HI0 := n3_; clear n0_ n1_ n2_ n3_; (try clear hb); (try clear hb2); (try clear hk); (try clear hi)) | ((with_reducible refine gate_builtin (b := .append) (xs := #[.tmp 33, .tmp 36]) rfl ?_); at_builtin; refine Kd.R_append k56 w.heap.size rfl (.tmp 33) (.tmp 36) 25 56 (.agg #[(.int .i64 0), (.int .i64 0), (.int .i64 0)]) 24 rfl Try.underlying25 info56 rfl (by decide) (by omega) (.slice Ao26 x5_2.length co26) x5_2 (⟨t307, t308, t309⟩ : S56) [.int .i64 t307, .int .i64 t308, .int .i64 t309] (fun _ => True) (fun _ => False) rfl rfl ?aP (fun _ hk => hk.elim) ?aF ?aO (Below.refl _ _) ?aS ?aL ?_; (case aP => exact k56_mkM _ _ _ (⟨t307, t308, t309⟩ : S56)); (case aF => exact (fun _ _ => trivial)); (case aO => exact (by (with_reducible repeat (first | apply Kd.R_alloc | apply Kd.R_drewN | apply Kd.R_drew)); exact HO_5.out)); (case aS => exact (keep_size (w := w) (g := g) (row := none) (by repeat (first | (with_reducible first | exact HK.out | apply KeepBut.set_ | apply keep_drewN | apply keep_drew | apply keep_alloc) | exact HK.out)))); (case aL => have := LMc25.out; omega); intro v312 w28 ho hb hg hat; rw [← Ny311.out] at ho; have n0_ := Aside0.mk (IsS94.grown (by repeat (first | (with_reducible first | exact HI0.out | apply IsS94.alloc | apply IsS94.drewN | apply IsS94.drew | apply IsS94.set_1) | exact HI0.out)) hg (IsS94.own_ne HI0.out HO_5.out (by decide))); have n1_ := Aside0.mk (below_weaken (by repeat (first | (with_reducible first | exact HB.out | apply below_alloc | apply pw_below_drewN | apply below_drew1 | refine below_set ?_ (IsS94.ge HI0.out)) | exact HB.out)) HL.out hb); have n2_ := Aside0.mk (KeepBut.trans (by repeat (first | (with_reducible first | exact HK.out | apply KeepBut.set_ | apply keep_drewN | apply keep_drew | apply keep_alloc) | exact HK.out)) (KeepBut.of_grown hg g) (Kd.R_base2 HO_5.out)); have n3_ := Aside0.mk (ho); clear HI0; clear HB; clear HK; clear HO_5; have HI0 := n0_; have HB := n1_; have HK := n2_; have HO313 := n3_; clear n0_ n1_ n2_ n3_; clear ho hb hg hat))
                    go_ret
                    exact ⟨_, by first | rfl | (simp [errW_none, errW_some] <;> rfl) | (simp [*, errW_none, errW_some] <;> rfl), by (with_reducible repeat (first | apply Kd.R_alloc | apply Kd.R_drewN | apply Kd.R_drew)); exact HO313.out, by repeat (first | (with_reducible first | exact HI0.out | apply IsS94.alloc | apply IsS94.drewN | apply IsS94.drew | apply IsS94.set_1) | exact HI0.out), by repeat (first | (with_reducible first | exact HB.out | apply below_alloc | apply pw_below_drewN | apply below_drew1 | refine below_set ?_ (IsS94.ge HI0.out)) | exact HB.out), by repeat (first | (with_reducible first | exact HK.out | apply KeepBut.set_ | apply keep_drewN | apply keep_drew | apply keep_alloc) | exact HK.out)⟩
                  · rw [if_neg c25] at H
                    exact absurd H (by simp)
          · rw [if_neg c15] at H
            have c15b0 : (t298 == 0) = false := beq_eq_false_iff_ne.mpr c15
            have c15b1 : (t298 != 0) = true := bne_iff_ne.mpr c15
            replace H := Option.bind_eq_some_iff.mp H
            obtain ⟨⟨t314, t315, t316, t317⟩, A290, H⟩ := H
            replace H : (if x5_1.length < 5864062014805 then (some ((x5_1 ++ [(⟨t314, t315, t316⟩ : S56)]), t317)) else (none)) = some (r1, r2) := H
            have A29 := Aside0.mk A290
            clear A290
            by_cases c30 : x5_1.length < 5864062014805
            · rw [if_pos c30] at H
              have LMc30 := Aside0.mk c30
              clear c30
              obtain ⟨y318, hy318⟩ : ∃ y_ : List (S56), y_ = (x5_1 ++ [(⟨t314, t315, t316⟩ : S56)]) := ⟨_, rfl⟩
              replace H : (some (y318, t317)) = some (r1, r2) := by first | (rw [hy318]; with_reducible exact H) | (have H2_ := (Option.bind_some _ _).symm.trans H; rw [hy318]; with_reducible exact H2_) | (have H2_ := (Option.bind_some _ _).symm.trans H; with_reducible exact H2_) | with_reducible exact H | (rw [hy318]; exact H) | exact H
              have Ny318 := Aside0.mk hy318
              clear hy318
              simp only [Option.some.injEq, Prod.mk.injEq] at H
              obtain ⟨rfl, rfl⟩ := H
              go_wp2_with (first | ((with_reducible refine gate_callee (f := 103) rfl ?_); refine goesL_ (some 21) rfl rfl Try.func103 (by kernel_rfl) rfl #[.pointer (some ⟨g, 0, none⟩), .int .i64 a1] rfl (by (try simp only [List.map_toArray, List.map_cons, List.map_nil]); first | done | rfl | (simp only [List.length_drop, List.length_take]; rfl)) ?_; (with_reducible refine (spec_l20Rd_odd.calls k1 g s0_0 x1001_1 a1 true t297 w0 _ ?side1 ?side2 A12.out).mono ?_); (case side1 => repeat (first | (with_reducible first | exact HI0.out | apply IsS94.alloc | apply IsS94.drewN | apply IsS94.drew | apply IsS94.set_1) | exact HI0.out)); (case side2 => repeat (first | (with_reducible first | exact HB.out | apply below_alloc | apply pw_below_drewN | apply below_drew1 | refine below_set ?_ (IsS94.ge HI0.out)) | exact HB.out)); rintro e w31 ⟨rfl, hi, hb, hk⟩; refine ⟨_, rfl, ?_⟩; have n0_ := Aside0.mk (Kd.R_mono (Kd.R_keep (IsS94.apart (show IsS94 w0 _ g s0_0 x1001_1 from by repeat (first | (with_reducible first | exact HI0.out | apply IsS94.alloc | apply IsS94.drewN | apply IsS94.drew | apply IsS94.set_1) | exact HI0.out)) (by (with_reducible repeat (first | apply Kd.R_alloc | apply Kd.R_drewN | apply Kd.R_drew)); exact HO_5.out) (by decide)) hk (fun _ h => h.2)) (fun _ h => h.1)); have n1_ := Aside0.mk (KeepBut.trans (by repeat (first | (with_reducible first | exact HK.out | apply KeepBut.set_ | apply keep_drewN | apply keep_drew | apply keep_alloc) | exact HK.out)) hk (.inl rfl)); have n2_ := Aside0.mk (hb); have n3_ := Aside0.mk (hi); clear HO_5; clear HK; clear HB; clear HI0; have HO_5 := n0_; have HK := n1_; have HB := n2_; have HI0 := n3_; clear n0_ n1_ n2_ n3_; (try clear hb); (try clear hb2); (try clear hk); (try clear hi)) | ((with_reducible refine gate_callee (f := 61) rfl ?_); refine goesL_ (some 23) rfl rfl Try.func61 (by kernel_rfl) rfl #[.pointer (some ⟨g, 0, none⟩), .int .i64 3] rfl (by (try simp only [List.map_toArray, List.map_cons, List.map_nil]); first | done | rfl | (simp only [List.length_drop, List.length_take]; rfl)) ?_; (with_reducible refine (spec_l20Rd_pick.calls k1 g s0_0 t297 3 t298 t299 w0 _ ?side1 ?side2 A14.out).mono ?_); (case side1 => repeat (first | (with_reducible first | exact HI0.out | apply IsS94.alloc | apply IsS94.drewN | apply IsS94.drew | apply IsS94.set_1) | exact HI0.out)); (case side2 => repeat (first | (with_reducible first | exact HB.out | apply below_alloc | apply pw_below_drewN | apply below_drew1 | refine below_set ?_ (IsS94.ge HI0.out)) | exact HB.out)); rintro e w32 ⟨rfl, hi, hb, hk⟩; refine ⟨_, rfl, ?_⟩; have n0_ := Aside0.mk (Kd.R_mono (Kd.R_keep (IsS94.apart (show IsS94 w0 _ g s0_0 t297 from by repeat (first | (with_reducible first | exact HI0.out | apply IsS94.alloc | apply IsS94.drewN | apply IsS94.drew | apply IsS94.set_1) | exact HI0.out)) (by (with_reducible repeat (first | apply Kd.R_alloc | apply Kd.R_drewN | apply Kd.R_drew)); exact HO_5.out) (by decide)) hk (fun _ h => h.2)) (fun _ h => h.1)); have n1_ := Aside0.mk (KeepBut.trans (by repeat (first | (with_reducible first | exact HK.out | apply KeepBut.set_ | apply keep_drewN | apply keep_drew | apply keep_alloc) | exact HK.out)) hk (.inl rfl)); have n2_ := Aside0.mk (hb); have n3_ := Aside0.mk (hi); clear HO_5; clear HK; clear HB; clear HI0; have HO_5 := n0_; have HK := n1_; have HB := n2_; have HI0 := n3_; clear n0_ n1_ n2_ n3_; (try clear hb); (try clear hb2); (try clear hk); (try clear hi)) | ((with_reducible refine gate_callee (f := 102) rfl ?_); refine goesL_ (some 35) rfl rfl Try.func102 (by kernel_rfl) rfl #[.pointer (some ⟨g, 0, none⟩), .int .i64 2] rfl (by (try simp only [List.map_toArray, List.map_cons, List.map_nil]); first | done | rfl | (simp only [List.length_drop, List.length_take]; rfl)) ?_; (with_reducible refine (spec_l20Task.calls k1 g s0_0 t299 2 t314 t315 t316 t317 w0 _ ?side1 ?side2 A29.out).mono ?_); (case side1 => repeat (first | (with_reducible first | exact HI0.out | apply IsS94.alloc | apply IsS94.drewN | apply IsS94.drew | apply IsS94.set_1) | exact HI0.out)); (case side2 => repeat (first | (with_reducible first | exact HB.out | apply below_alloc | apply pw_below_drewN | apply below_drew1 | refine below_set ?_ (IsS94.ge HI0.out)) | exact HB.out)); rintro e w33 ⟨rfl, hi, hb, hk⟩; refine ⟨_, rfl, ?_⟩; have n0_ := Aside0.mk (Kd.R_mono (Kd.R_keep (IsS94.apart (show IsS94 w0 _ g s0_0 t299 from by repeat (first | (with_reducible first | exact HI0.out | apply IsS94.alloc | apply IsS94.drewN | apply IsS94.drew | apply IsS94.set_1) | exact HI0.out)) (by (with_reducible repeat (first | apply Kd.R_alloc | apply Kd.R_drewN | apply Kd.R_drew)); exact HO_5.out) (by decide)) hk (fun _ h => h.2)) (fun _ h => h.1)); have n1_ := Aside0.mk (KeepBut.trans (by repeat (first | (with_reducible first | exact HK.out | apply KeepBut.set_ | apply keep_drewN | apply keep_drew | apply keep_alloc) | exact HK.out)) hk (.inl rfl)); have n2_ := Aside0.mk (hb); have n3_ := Aside0.mk (hi); clear HO_5; clear HK; clear HB; clear HI0; have HO_5 := n0_; have HK := n1_; have HB := n2_; have HI0 := n3_; clear n0_ n1_ n2_ n3_; (try clear hb); (try clear hb2); (try clear hk); (try clear hi)) | ((with_reducible refine gate_builtin (b := .append) (xs := #[.tmp 33, .tmp 36]) rfl ?_); at_builtin; refine Kd.R_append k56 w.heap.size rfl (.tmp 33) (.tmp 36) 25 56 (.agg #[(.int .i64 0), (.int .i64 0), (.int .i64 0)]) 24 rfl Try.underlying25 info56 rfl (by decide) (by omega) u5 x5_1 (⟨t314, t315, t316⟩ : S56) [.int .i64 t314, .int .i64 t315, .int .i64 t316] (fun _ => True) (fun _ => False) rfl rfl ?aP (fun _ hk => hk.elim) ?aF ?aO (Below.refl _ _) ?aS ?aL ?_; (case aP => exact k56_mkM _ _ _ (⟨t314, t315, t316⟩ : S56)); (case aF => exact (fun _ _ => trivial)); (case aO => exact (by (with_reducible repeat (first | apply Kd.R_alloc | apply Kd.R_drewN | apply Kd.R_drew)); exact HO_5.out)); (case aS => exact (keep_size (w := w) (g := g) (row := none) (by repeat (first | (with_reducible first | exact HK.out | apply KeepBut.set_ | apply keep_drewN | apply keep_drew | apply keep_alloc) | exact HK.out)))); (case aL => have := LMc30.out; omega); intro v319 w34 ho hb hg hat; rw [← Ny318.out] at ho; have n0_ := Aside0.mk (IsS94.grown (by repeat (first | (with_reducible first | exact HI0.out | apply IsS94.alloc | apply IsS94.drewN | apply IsS94.drew | apply IsS94.set_1) | exact HI0.out)) hg (IsS94.own_ne HI0.out HO_5.out (by decide))); have n1_ := Aside0.mk (below_weaken (by repeat (first | (with_reducible first | exact HB.out | apply below_alloc | apply pw_below_drewN | apply below_drew1 | refine below_set ?_ (IsS94.ge HI0.out)) | exact HB.out)) HL.out hb); have n2_ := Aside0.mk (KeepBut.trans (by repeat (first | (with_reducible first | exact HK.out | apply KeepBut.set_ | apply keep_drewN | apply keep_drew | apply keep_alloc) | exact HK.out)) (KeepBut.of_grown hg g) (Kd.R_base2 HO_5.out)); have n3_ := Aside0.mk (ho); clear HI0; clear HB; clear HK; clear HO_5; have HI0 := n0_; have HB := n1_; have HK := n2_; have HO320 := n3_; clear n0_ n1_ n2_ n3_; clear ho hb hg hat))
              go_ret
              exact ⟨_, by first | rfl | (simp [errW_none, errW_some] <;> rfl) | (simp [*, errW_none, errW_some] <;> rfl), by (with_reducible repeat (first | apply Kd.R_alloc | apply Kd.R_drewN | apply Kd.R_drew)); exact HO320.out, by repeat (first | (with_reducible first | exact HI0.out | apply IsS94.alloc | apply IsS94.drewN | apply IsS94.drew | apply IsS94.set_1) | exact HI0.out), by repeat (first | (with_reducible first | exact HB.out | apply below_alloc | apply pw_below_drewN | apply below_drew1 | refine below_set ?_ (IsS94.ge HI0.out)) | exact HB.out), by repeat (first | (with_reducible first | exact HK.out | apply KeepBut.set_ | apply keep_drewN | apply keep_drew | apply keep_alloc) | exact HK.out)⟩
            · rw [if_neg c30] at H
              exact absurd H (by simp)
        · replace c13 := Bool.eq_false_iff.mpr c13
          subst c13
          have H1 : (some (x5_1, t297)) = some (r1, r2) := by rw [if_neg (show ¬ (false = true) by decide)] at H; exact H
          clear H
          have H := H1
          clear H1
          simp only [Option.some.injEq, Prod.mk.injEq] at H
          obtain ⟨rfl, rfl⟩ := H
          go_wp2_with (first | ((with_reducible refine gate_callee (f := 103) rfl ?_); refine goesL_ (some 21) rfl rfl Try.func103 (by kernel_rfl) rfl #[.pointer (some ⟨g, 0, none⟩), .int .i64 a1] rfl (by (try simp only [List.map_toArray, List.map_cons, List.map_nil]); first | done | rfl | (simp only [List.length_drop, List.length_take]; rfl)) ?_; (with_reducible refine (spec_l20Rd_odd.calls k1 g s0_0 x1001_1 a1 false t297 w0 _ ?side1 ?side2 A12.out).mono ?_); (case side1 => repeat (first | (with_reducible first | exact HI0.out | apply IsS94.alloc | apply IsS94.drewN | apply IsS94.drew | apply IsS94.set_1) | exact HI0.out)); (case side2 => repeat (first | (with_reducible first | exact HB.out | apply below_alloc | apply pw_below_drewN | apply below_drew1 | refine below_set ?_ (IsS94.ge HI0.out)) | exact HB.out)); rintro e w35 ⟨rfl, hi, hb, hk⟩; refine ⟨_, rfl, ?_⟩; have n0_ := Aside0.mk (Kd.R_mono (Kd.R_keep (IsS94.apart (show IsS94 w0 _ g s0_0 x1001_1 from by repeat (first | (with_reducible first | exact HI0.out | apply IsS94.alloc | apply IsS94.drewN | apply IsS94.drew | apply IsS94.set_1) | exact HI0.out)) (by (with_reducible repeat (first | apply Kd.R_alloc | apply Kd.R_drewN | apply Kd.R_drew)); exact HO_5.out) (by decide)) hk (fun _ h => h.2)) (fun _ h => h.1)); have n1_ := Aside0.mk (KeepBut.trans (by repeat (first | (with_reducible first | exact HK.out | apply KeepBut.set_ | apply keep_drewN | apply keep_drew | apply keep_alloc) | exact HK.out)) hk (.inl rfl)); have n2_ := Aside0.mk (hb); have n3_ := Aside0.mk (hi); clear HO_5; clear HK; clear HB; clear HI0; have HO_5 := n0_; have HK := n1_; have HB := n2_; have HI0 := n3_; clear n0_ n1_ n2_ n3_; (try clear hb); (try clear hb2); (try clear hk); (try clear hi)))
          go_ret
          exact ⟨_, by first | rfl | (simp [errW_none, errW_some] <;> rfl) | (simp [*, errW_none, errW_some] <;> rfl), by (with_reducible repeat (first | apply Kd.R_alloc | apply Kd.R_drewN | apply Kd.R_drew)); exact HO_5.out, by repeat (first | (with_reducible first | exact HI0.out | apply IsS94.alloc | apply IsS94.drewN | apply IsS94.drew | apply IsS94.set_1) | exact HI0.out), by repeat (first | (with_reducible first | exact HB.out | apply below_alloc | apply pw_below_drewN | apply below_drew1 | refine below_set ?_ (IsS94.ge HI0.out)) | exact HB.out), by repeat (first | (with_reducible first | exact HK.out | apply KeepBut.set_ | apply keep_drewN | apply keep_drew | apply keep_alloc) | exact HK.out)⟩

end Go.Proofs.Ytgcjadhmkhpbnaa.P
-- Laid by a program of this work.
namespace Go.Proofs.Ytgcjadhmkhpbnaa.P
open Go.RowKit Go.Proofs.YtgcjadhmkhpbnaaW.PrintWords Go.Proofs.YtgcjadhmkhpbnaaW.PrintLast Go.Proofs.YtgcjadhmkhpbnaaW.PrintMore
attribute [local go_sem] max2_int min2_int max_two min_two max_three min_three max_four min_four   -- for this text's walks alone
set_option linter.unusedVariables false
set_option linter.unusedSimpArgs false

/-! ### spec_l20Implicit: function 80 -/
def spec_l20Implicit.l0 : Nat → List (S56) → Int → List Int → Int → Option ((List (S56)) × Int)
  | 0, _, _, _, _ => none
  | k + 1, x5, x6, x1000, x1001 => if x6 < (x5.length : Int) then (if 0 ≤ x6 then (spec_l20Implicit.l0 k (x5.set (x6 : Int).toNat (⟨(rd_T56 x5 x6).f0, (rd_T56 x5 x6).f2, (rd_T56 x5 x6).f2⟩ : S56)) (wrap64 (x6 + 1)) x1000 x1001) else (none)) else (some (x5, x1001))
def spec_l20Implicit.f (k : Nat) (s0_0 : List Int) (s0_1 : Int) (a1 : Int) : Option ((List (S56)) × Int) := (spec_l20Set.f k s0_0 s0_1 a1).bind fun bt547 => ((spec_l20Rd_odd.f k s0_0 bt547.2 a1).bind fun bt551 => (if bt551.1 = true then (some (bt547.1, bt551.2)) else (spec_l20Implicit.l0 k bt547.1 0 s0_0 bt551.2)))
theorem spec_l20Implicit.mono_l : ∀ k, (∀ y0 y1 y2 y3, LeO (spec_l20Implicit.l0 k y0 y1 y2 y3) (spec_l20Implicit.l0 (k + 1) y0 y1 y2 y3))
  | 0 => fun _ _ _ _ r h => by simp [spec_l20Implicit.l0] at h
  | k + 1 => by
    have ih0 := spec_l20Implicit.mono_l k
    · intro y0 y1 y2 y3
      unfold spec_l20Implicit.l0
      repeat' first
      | (with_reducible exact ih0 _ _ _ _)
      | (with_reducible exact spec_l20Rd_odd.mono _ _ _ _)
      | (with_reducible exact spec_l20Set.mono _ _ _ _)
      | (with_reducible exact LeO.refl _)
      | (with_reducible exact LeO.none _)
      | (with_reducible refine LeO.ite ?_ ?_)
      | (with_reducible refine LeO.bind ?_ (fun _ => ?_))
      | exact ih0 _ _ _ _
      | exact spec_l20Rd_odd.mono _ _ _ _
      | exact spec_l20Set.mono _ _ _ _
      | exact LeO.none _
      | refine LeO.ite ?_ ?_
      | refine LeO.bind ?_ (fun _ => ?_)
theorem spec_l20Implicit.mono : ∀ a0 a1 a2 k, LeO (spec_l20Implicit.f k a0 a1 a2) (spec_l20Implicit.f (k + 1) a0 a1 a2) := by
  intro a0 a1 a2 k
  have ih0 := spec_l20Implicit.mono_l k
  unfold spec_l20Implicit.f
  repeat' first
      | (with_reducible exact ih0 _ _ _ _)
      | (with_reducible exact spec_l20Rd_odd.mono _ _ _ _)
      | (with_reducible exact spec_l20Set.mono _ _ _ _)
      | (with_reducible exact LeO.refl _)
      | (with_reducible exact LeO.none _)
      | (with_reducible refine LeO.ite ?_ ?_)
      | (with_reducible refine LeO.bind ?_ (fun _ => ?_))
      | exact ih0 _ _ _ _
      | exact spec_l20Rd_odd.mono _ _ _ _
      | exact spec_l20Set.mono _ _ _ _
      | exact LeO.none _
      | refine LeO.ite ?_ ?_
      | refine LeO.bind ?_ (fun _ => ?_)
set_option maxHeartbeats 8000000 in
set_option maxRecDepth 100000 in
theorem spec_l20Implicit.calls (k : Nat) (g : Nat) (s0_0 : List Int) (s0_1 : Int) (a1 : Int) (r1 : List (S56)) (r2 : Int) (w0 w : World) (hI : IsS94 w0 w g s0_0 s0_1) (hB : Below w0.heap.size w0 w) (h : spec_l20Implicit.f k s0_0 s0_1 a1 = some (r1, r2)) :
    Calls Try.prog 80 #[.pointer (some ⟨g, 0, none⟩), .int .i64 a1] w fun e w' => ∃ v0_ : Value, e = .returned (v0_) ∧ Kd.R k56 56 w' w.heap.size (fun _ => True) v0_ r1 ∧ IsS94 w0 w' g s0_0 r2 ∧ Below w0.heap.size w0 w' ∧ KeepBut w w' g none := by
  have HI0 := Aside0.mk hI
  have HK := Aside0.mk (KeepBut.refl w g none)
  have HL := Aside0.mk hB.size
  clear hI
  have HW0 := Aside0.mk hB.size
  have HB := Aside0.mk hB
  clear hB
  have H : ((spec_l20Set.f k s0_0 s0_1 a1).bind fun bt547 => ((spec_l20Rd_odd.f k s0_0 bt547.2 a1).bind fun bt551 => (if bt551.1 = true then (some (bt547.1, bt551.2)) else (spec_l20Implicit.l0 k bt547.1 0 s0_0 bt551.2)))) = some (r1, r2) := h
  clear h
  replace H := Option.bind_eq_some_iff.mp H
  obtain ⟨⟨t547, t550⟩, A30, H⟩ := H
  replace H : ((spec_l20Rd_odd.f k s0_0 t550 a1).bind fun bt551 => (if bt551.1 = true then (some (t547, bt551.2)) else (spec_l20Implicit.l0 k t547 0 s0_0 bt551.2))) = some (r1, r2) := H
  have A3 := Aside0.mk A30
  clear A30
  replace H := Option.bind_eq_some_iff.mp H
  obtain ⟨⟨t551, t552⟩, A40, H⟩ := H
  replace H : (if t551 = true then (some (t547, t552)) else (spec_l20Implicit.l0 k t547 0 s0_0 t552)) = some (r1, r2) := H
  have A4 := Aside0.mk A40
  clear A40
  by_cases c5 : t551 = true
  · subst c5
    have H1 : (some (t547, t552)) = some (r1, r2) := by rw [if_pos rfl] at H; exact H
    clear H
    have H := H1
    clear H1
    simp only [Option.some.injEq, Prod.mk.injEq] at H
    obtain ⟨rfl, rfl⟩ := H
    go_enter Try.func80, Try.ntmps80
    go_wp2_with (first | ((with_reducible refine gate_callee (f := 76) rfl ?_); refine goesL_ (some 9) rfl rfl Try.func76 (by kernel_rfl) rfl #[.pointer (some ⟨g, 0, none⟩), .int .i64 a1] rfl (by (try simp only [List.map_toArray, List.map_cons, List.map_nil]); first | done | rfl | (simp only [List.length_drop, List.length_take]; rfl)) ?_; (with_reducible refine (spec_l20Set.calls k g s0_0 s0_1 a1 t547 t550 w0 _ ?side1 ?side2 A3.out).mono ?_); (case side1 => repeat (first | (with_reducible first | exact HI0.out | apply IsS94.alloc | apply IsS94.drewN | apply IsS94.drew | apply IsS94.set_1) | exact HI0.out)); (case side2 => repeat (first | (with_reducible first | exact HB.out | apply below_alloc | apply pw_below_drewN | apply below_drew1 | refine below_set ?_ (IsS94.ge HI0.out)) | exact HB.out)); rintro e w6 ⟨v548, rfl, ho0, hi, hb, hk⟩; refine ⟨_, rfl, ?_⟩; have n0_ := Aside0.mk (Kd.R_lower ho0 (keep_size (w := w) (g := g) (row := none) (by repeat (first | (with_reducible first | exact HK.out | apply KeepBut.set_ | apply keep_drewN | apply keep_drew | apply keep_alloc) | exact HK.out)))); have n1_ := Aside0.mk (KeepBut.trans (by repeat (first | (with_reducible first | exact HK.out | apply KeepBut.set_ | apply keep_drewN | apply keep_drew | apply keep_alloc) | exact HK.out)) hk (.inl rfl)); have n2_ := Aside0.mk (hb); have n3_ := Aside0.mk (hi); clear HK; clear HB; clear HI0; have HO549 := n0_; have HK := n1_; have HB := n2_; have HI0 := n3_; clear n0_ n1_ n2_ n3_; (try clear hb); (try clear hb2); (try clear hk); (try clear hi); (try clear ho0)) | ((with_reducible refine gate_callee (f := 103) rfl ?_); refine goesL_ (some 12) rfl rfl Try.func103 (by kernel_rfl) rfl #[.pointer (some ⟨g, 0, none⟩), .int .i64 a1] rfl (by (try simp only [List.map_toArray, List.map_cons, List.map_nil]); first | done | rfl | (simp only [List.length_drop, List.length_take]; rfl)) ?_; (with_reducible refine (spec_l20Rd_odd.calls k g s0_0 t550 a1 true t552 w0 _ ?side1 ?side2 A4.out).mono ?_); (case side1 => repeat (first | (with_reducible first | exact HI0.out | apply IsS94.alloc | apply IsS94.drewN | apply IsS94.drew | apply IsS94.set_1) | exact HI0.out)); (case side2 => repeat (first | (with_reducible first | exact HB.out | apply below_alloc | apply pw_below_drewN | apply below_drew1 | refine below_set ?_ (IsS94.ge HI0.out)) | exact HB.out)); rintro e w7 ⟨rfl, hi, hb, hk⟩; refine ⟨_, rfl, ?_⟩; have n0_ := Aside0.mk (Kd.R_mono (Kd.R_keep (IsS94.apart (show IsS94 w0 _ g s0_0 t550 from by repeat (first | (with_reducible first | exact HI0.out | apply IsS94.alloc | apply IsS94.drewN | apply IsS94.drew | apply IsS94.set_1) | exact HI0.out)) (by (with_reducible repeat (first | apply Kd.R_alloc | apply Kd.R_drewN | apply Kd.R_drew)); exact HO549.out) (by decide)) hk (fun _ h => h.2)) (fun _ h => h.1)); have n1_ := Aside0.mk (KeepBut.trans (by repeat (first | (with_reducible first | exact HK.out | apply KeepBut.set_ | apply keep_drewN | apply keep_drew | apply keep_alloc) | exact HK.out)) hk (.inl rfl)); have n2_ := Aside0.mk (hb); have n3_ := Aside0.mk (hi); clear HO549; clear HK; clear HB; clear HI0; have HO549 := n0_; have HK := n1_; have HB := n2_; have HI0 := n3_; clear n0_ n1_ n2_ n3_; (try clear hb); (try clear hb2); (try clear hk); (try clear hi)))
    go_ret
    exact ⟨_, by first | rfl | (simp [errW_none, errW_some] <;> rfl) | (simp [*, errW_none, errW_some] <;> rfl), by (with_reducible repeat (first | apply Kd.R_alloc | apply Kd.R_drewN | apply Kd.R_drew)); exact HO549.out, by repeat (first | (with_reducible first | exact HI0.out | apply IsS94.alloc | apply IsS94.drewN | apply IsS94.drew | apply IsS94.set_1) | exact HI0.out), by repeat (first | (with_reducible first | exact HB.out | apply below_alloc | apply pw_below_drewN | apply below_drew1 | refine below_set ?_ (IsS94.ge HI0.out)) | exact HB.out), by repeat (first | (with_reducible first | exact HK.out | apply KeepBut.set_ | apply keep_drewN | apply keep_drew | apply keep_alloc) | exact HK.out)⟩
  · replace c5 := Bool.eq_false_iff.mpr c5
    subst c5
    have H1 : (spec_l20Implicit.l0 k t547 0 s0_0 t552) = some (r1, r2) := by rw [if_neg (show ¬ (false = true) by decide)] at H; exact H
    clear H
    have H := H1
    clear H1
    have H' := Aside0.mk H
    clear H
    go_enter Try.func80, Try.ntmps80
    go_wp2_with (first | ((with_reducible refine gate_callee (f := 76) rfl ?_); refine goesL_ (some 9) rfl rfl Try.func76 (by kernel_rfl) rfl #[.pointer (some ⟨g, 0, none⟩), .int .i64 a1] rfl (by (try simp only [List.map_toArray, List.map_cons, List.map_nil]); first | done | rfl | (simp only [List.length_drop, List.length_take]; rfl)) ?_; (with_reducible refine (spec_l20Set.calls k g s0_0 s0_1 a1 t547 t550 w0 _ ?side1 ?side2 A3.out).mono ?_); (case side1 => repeat (first | (with_reducible first | exact HI0.out | apply IsS94.alloc | apply IsS94.drewN | apply IsS94.drew | apply IsS94.set_1) | exact HI0.out)); (case side2 => repeat (first | (with_reducible first | exact HB.out | apply below_alloc | apply pw_below_drewN | apply below_drew1 | refine below_set ?_ (IsS94.ge HI0.out)) | exact HB.out)); rintro e w8 ⟨v548, rfl, ho0, hi, hb, hk⟩; refine ⟨_, rfl, ?_⟩; have n0_ := Aside0.mk (Kd.R_lower ho0 (keep_size (w := w) (g := g) (row := none) (by repeat (first | (with_reducible first | exact HK.out | apply KeepBut.set_ | apply keep_drewN | apply keep_drew | apply keep_alloc) | exact HK.out)))); have n1_ := Aside0.mk (KeepBut.trans (by repeat (first | (with_reducible first | exact HK.out | apply KeepBut.set_ | apply keep_drewN | apply keep_drew | apply keep_alloc) | exact HK.out)) hk (.inl rfl)); have n2_ := Aside0.mk (hb); have n3_ := Aside0.mk (hi); clear HK; clear HB; clear HI0; have HO549 := n0_; have HK := n1_; have HB := n2_; have HI0 := n3_; clear n0_ n1_ n2_ n3_; (try clear hb); (try clear hb2); (try clear hk); (try clear hi); (try clear ho0)) | ((with_reducible refine gate_callee (f := 103) rfl ?_); refine goesL_ (some 12) rfl rfl Try.func103 (by kernel_rfl) rfl #[.pointer (some ⟨g, 0, none⟩), .int .i64 a1] rfl (by (try simp only [List.map_toArray, List.map_cons, List.map_nil]); first | done | rfl | (simp only [List.length_drop, List.length_take]; rfl)) ?_; (with_reducible refine (spec_l20Rd_odd.calls k g s0_0 t550 a1 false t552 w0 _ ?side1 ?side2 A4.out).mono ?_); (case side1 => repeat (first | (with_reducible first | exact HI0.out | apply IsS94.alloc | apply IsS94.drewN | apply IsS94.drew | apply IsS94.set_1) | exact HI0.out)); (case side2 => repeat (first | (with_reducible first | exact HB.out | apply below_alloc | apply pw_below_drewN | apply below_drew1 | refine below_set ?_ (IsS94.ge HI0.out)) | exact HB.out)); rintro e w9 ⟨rfl, hi, hb, hk⟩; refine ⟨_, rfl, ?_⟩; have n0_ := Aside0.mk (Kd.R_mono (Kd.R_keep (IsS94.apart (show IsS94 w0 _ g s0_0 t550 from by repeat (first | (with_reducible first | exact HI0.out | apply IsS94.alloc | apply IsS94.drewN | apply IsS94.drew | apply IsS94.set_1) | exact HI0.out)) (by (with_reducible repeat (first | apply Kd.R_alloc | apply Kd.R_drewN | apply Kd.R_drew)); exact HO549.out) (by decide)) hk (fun _ h => h.2)) (fun _ h => h.1)); have n1_ := Aside0.mk (KeepBut.trans (by repeat (first | (with_reducible first | exact HK.out | apply KeepBut.set_ | apply keep_drewN | apply keep_drew | apply keep_alloc) | exact HK.out)) hk (.inl rfl)); have n2_ := Aside0.mk (hb); have n3_ := Aside0.mk (hi); clear HO549; clear HK; clear HB; clear HI0; have HO549 := n0_; have HK := n1_; have HB := n2_; have HI0 := n3_; clear n0_ n1_ n2_ n3_; (try clear hb); (try clear hb2); (try clear hk); (try clear hi)))
    go_loopg [6] k (fun kq v6 w' => ∃ (x5_1 : List (S56)) (x6_1 : Int), v6 = .int .i64 x6_1 ∧ Aside0 (spec_l20Implicit.l0 kq x5_1 x6_1 s0_0 t552 = some (r1, r2)) ∧ Aside0 (kq ≤ k) ∧ Aside0 (Kd.R k56 56 w' w.heap.size (fun _ => True) v548 x5_1) ∧ Aside0 (IsS94 w0 w' g s0_0 t552) ∧ Aside0 (KeepBut w w' g none) ∧ Aside0 (Below w0.heap.size w0 w'))
    case atStart => exact ⟨(t547), (0), (by first | rfl | (simp; done) | (simp [*]; done)), H', ⟨Nat.le_refl _⟩, ⟨by (with_reducible repeat (first | apply Kd.R_alloc | apply Kd.R_drewN | apply Kd.R_drew)); exact HO549.out⟩, ⟨by repeat (first | (with_reducible first | exact HI0.out | apply IsS94.alloc | apply IsS94.drewN | apply IsS94.drew | apply IsS94.set_1) | exact HI0.out)⟩, ⟨by repeat (first | (with_reducible first | exact HK.out | apply KeepBut.set_ | apply keep_drewN | apply keep_drew | apply keep_alloc) | exact HK.out)⟩, ⟨by repeat (first | (with_reducible first | exact HB.out | apply below_alloc | apply pw_below_drewN | apply below_drew1 | refine below_set ?_ (IsS94.ge HI0.out)) | exact HB.out)⟩⟩
    case round =>
      clear H'
      try clear c1
      try clear p2
      try clear c5
      try clear c7
      try clear c8
      obtain ⟨x5_1, x6_1, rfl, HA, HK1, HO_5, HI0, HK, HB⟩ := hrel
      cases gk with
      | zero => exact absurd HA.out (by simp [spec_l20Implicit.l0])
      | succ k1 =>
        have H := HA.out
        clear HA
        simp only [spec_l20Implicit.l0] at H
        by_cases c10 : x6_1 < (x5_1.length : Int)
        · rw [if_pos c10] at H
          have c10b0 : decide (x6_1 < (x5_1.length : Int)) = true := decide_eq_true c10
          clear c10
          by_cases c11 : 0 ≤ x6_1
          · rw [if_pos c11] at H
            have c11b0 : decide (0 ≤ x6_1) = true := decide_eq_true c11
            clear c11
            obtain ⟨y554, hy554⟩ : ∃ y_ : List (S56), y_ = (x5_1.set (x6_1 : Int).toNat (⟨(rd_T56 x5_1 x6_1).f0, (rd_T56 x5_1 x6_1).f2, (rd_T56 x5_1 x6_1).f2⟩ : S56)) := ⟨_, rfl⟩
            replace H : (spec_l20Implicit.l0 k1 y554 (wrap64 (x6_1 + 1)) s0_0 t552) = some (r1, r2) := by first | (rw [hy554]; with_reducible exact H) | (have H2_ := (Option.bind_some _ _).symm.trans H; rw [hy554]; with_reducible exact H2_) | (have H2_ := (Option.bind_some _ _).symm.trans H; with_reducible exact H2_) | with_reducible exact H | (rw [hy554]; exact H) | exact H
            have Ny554 := Aside0.mk hy554
            clear hy554
            have H' := Aside0.mk H
            clear H
            obtain ⟨Ao13, co13, eo13⟩ := Kd.R_slice HO_5.out
            subst eo13
            have p553 : 0 ≤ (x6_1 : Int) := of_decide_eq_true (by first | (with_reducible assumption) | assumption)
            have q553 : x6_1 < (x5_1.length : Int) := of_decide_eq_true (by first | (with_reducible assumption) | assumption)
            obtain ⟨ad553, e553, hx553_0, hx553_1, hx553_2⟩ := at_T56 (Kd.R_reads' HO_5.out).2.2 x6_1 p553 q553
            cases e553
            replace p553 := eq_true p553
            replace q553 := eq_true q553
            have p12 : 0 ≤ (x6_1 : Int) := of_decide_eq_true (by first | (with_reducible assumption) | assumption)
            have q12 : (x6_1 : Int) < ((x5_1.length : Int) : Int) := of_decide_eq_true (by first | (with_reducible assumption) | assumption)
            obtain ⟨go12, co12, eo12, gb12, gl12, cl12, HG12⟩ := Kd.R_form HO_5.out (by omega)
            (first | cases eo12 | (injection eo12 with ea_ en_ ec_; (first | subst ea_ | (injection ea_ with ea_; subst ea_)); subst ec_; clear en_))
            have GB12 := Aside0.mk gb12
            have GG12 := Aside0.mk HG12
            clear gb12 gl12 HG12
            (first | simp only [add_plain] at hx553_0 | skip)
            (first | simp only [add_plain] at hx553_1 | skip)
            (first | simp only [add_plain] at hx553_2 | skip)
            obtain ⟨ce12, hcl12, hM12, hcc12, hfr12⟩ := Kd.R_elem HO_5.out z56 (x6_1 : Int) p12 q12
            obtain rfl := k56_openM hM12
            have hx12_0 : wr.cell? ⟨go12, (x6_1 : Int).toNat * 3, none⟩ = some (.int .i64 ((rd_T56 x5_1 x6_1).f0)) := hcc12 0 _ rfl
            have hx12_1 : wr.cell? ⟨go12, (x6_1 : Int).toNat * 3 + 1, none⟩ = some (.int .i64 ((rd_T56 x5_1 x6_1).f1)) := hcc12 1 _ rfl
            have hx12_2 : wr.cell? ⟨go12, (x6_1 : Int).toNat * 3 + 2, none⟩ = some (.int .i64 ((rd_T56 x5_1 x6_1).f2)) := hcc12 2 _ rfl
            have hf12_0 : wr.frozen? ⟨go12, (x6_1 : Int).toNat * 3, none⟩ = false := hfr12 0
            have hf12_1 : wr.frozen? ⟨go12, (x6_1 : Int).toNat * 3 + 1, none⟩ = false := hfr12 1
            have hf12_2 : wr.frozen? ⟨go12, (x6_1 : Int).toNat * 3 + 2, none⟩ = false := hfr12 2
            clear hcl12 hcc12 hfr12 hM12
            replace p12 := eq_true p12
            replace q12 := eq_true q12
            have HX14 := Aside0.mk (show Kd.R k56 56 wr w.heap.size (fun _ => True) (.slice (some ⟨go12, 0, none⟩) x5_1.length co13) x5_1 from (by (with_reducible repeat (first | apply Kd.R_alloc | apply Kd.R_drewN | apply Kd.R_drew)); exact HO_5.out))
            obtain ⟨ce14, hcl14, hM14, hcc14, hfr14⟩ := Kd.R_elem HX14.out z56 (x6_1 : Int) (of_decide_eq_true (by first | (with_reducible assumption) | assumption)) (by have h_ : (x6_1 : Int) < ((x5_1.length : Int) : Int) := of_decide_eq_true (by first | (with_reducible assumption) | assumption); first | exact h_ | (have e_ := (Kd.R_reads' HO_5.out).1; omega) | simpa using h_)
            obtain rfl := k56_openM hM14
            have HP14 := Kd.R_seg HX14.out (x6_1 : Int) (of_decide_eq_true (by first | (with_reducible assumption) | assumption)) (by have h_ : (x6_1 : Int) < ((x5_1.length : Int) : Int) := of_decide_eq_true (by first | (with_reducible assumption) | assumption); first | exact h_ | (have e_ := (Kd.R_reads' HO_5.out).1; omega) | simpa using h_) (seg := [.int .i64 ((rd_T56 x5_1 x6_1).f2)]) (j := 1) hcl14 hcc14 (show 2 ≤ 3 from by decide) (x' := (⟨(rd_T56 x5_1 x6_1).f0, (rd_T56 x5_1 x6_1).f2, (rd_T56 x5_1 x6_1).f2⟩ : S56)) (k56_mkM _ _ _ (⟨(rd_T56 x5_1 x6_1).f0, (rd_T56 x5_1 x6_1).f2, (rd_T56 x5_1 x6_1).f2⟩ : S56) ) (fun _ hk => hk)
            have hx14_1 := hcc14 1 _ rfl
            (try simp only [show (k56).sz = 3 from rfl, Nat.mul_one, Nat.add_zero] at hx14_1)
            have hf14_1 := hfr14 1
            (try simp only [show (k56).sz = 3 from rfl, Nat.mul_one, Nat.add_zero] at hf14_1)
            clear hcl14 hcc14 hfr14 hM14
            go_wp2_with (first | ((with_reducible refine gate_store (t := 3) (p := 28) rfl ?_); refine store_event (t := 3) (p := 28) (v := ?vo_w15) (w1 := (wr.setCell ⟨go12, (x6_1 : Int).toNat * 3 + 1, none⟩ (.int .i64 ((rd_T56 x5_1 x6_1).f2)))) ?hg ?ho ?hn ?hr ?_; (case ho => rfl); (case hg => rfl); (case hn => rfl); (case hr => first | (go_simp; done) | (go_simp; rfl)); intro w15 hw; have hg : wr.grownBy w15 (some go12) := (by rw [hw]; exact HP14.2); have hp_ : Kd.R k56 56 w15 w.heap.size (fun _ => True) (.slice (some ⟨go12, 0, none⟩) x5_1.length co13) y554 := (by rw [hw, Ny554.out]; exact HP14.1); clear HP14; have n0_ := Aside0.mk (hp_); have n1_ := Aside0.mk (IsS94.grown (by repeat (first | (with_reducible first | exact HI0.out | apply IsS94.alloc | apply IsS94.drewN | apply IsS94.drew | apply IsS94.set_1) | exact HI0.out)) hg (IsS94.own_ne HI0.out HO_5.out (by decide))); have n2_ := Aside0.mk ((by rw [hw]; exact below_set (HB.out) (Nat.le_trans HL.out GB12.out) : Below w0.heap.size w0 w15)); have n3_ := Aside0.mk (KeepBut.trans (by repeat (first | (with_reducible first | exact HK.out | apply KeepBut.set_ | apply keep_drewN | apply keep_drew | apply keep_alloc) | exact HK.out)) (KeepBut.of_grown hg g) (Kd.R_base2 HO_5.out)); clear HO_5; clear HI0; clear HB; clear HK; have HO_5 := n0_; have HI0 := n1_; have HB := n2_; have HK := n3_; clear n0_ n1_ n2_ n3_; clear hg hw hp_))
            go_roundg k1
            case measure => have := HK1.out; omega
            case rel => exact ⟨(y554), (wrap64 (x6_1 + 1)), (by first | rfl | (simp; done) | (simp [*]; done)), H', ⟨by have := HK1.out; omega⟩, ⟨by (with_reducible repeat (first | apply Kd.R_alloc | apply Kd.R_drewN | apply Kd.R_drew)); exact HO_5.out⟩, ⟨by repeat (first | (with_reducible first | exact HI0.out | apply IsS94.alloc | apply IsS94.drewN | apply IsS94.drew | apply IsS94.set_1) | exact HI0.out)⟩, ⟨by repeat (first | (with_reducible first | exact HK.out | apply KeepBut.set_ | apply keep_drewN | apply keep_drew | apply keep_alloc) | exact HK.out)⟩, ⟨by repeat (first | (with_reducible first | exact HB.out | apply below_alloc | apply pw_below_drewN | apply below_drew1 | refine below_set ?_ (IsS94.ge HI0.out)) | exact HB.out)⟩⟩
          · rw [if_neg c11] at H
            exact absurd H (by simp)
        · rw [if_neg c10] at H
          have c10b0 : decide (x6_1 < (x5_1.length : Int)) = false := decide_eq_false c10
          clear c10
          simp only [Option.some.injEq, Prod.mk.injEq] at H
          obtain ⟨rfl, rfl⟩ := H
          obtain ⟨Ao16, co16, eo16⟩ := Kd.R_slice HO_5.out
          subst eo16
          go_wp2
          go_ret
          exact ⟨_, by first | rfl | (simp [errW_none, errW_some] <;> rfl) | (simp [*, errW_none, errW_some] <;> rfl), by (with_reducible repeat (first | apply Kd.R_alloc | apply Kd.R_drewN | apply Kd.R_drew)); exact HO_5.out, by repeat (first | (with_reducible first | exact HI0.out | apply IsS94.alloc | apply IsS94.drewN | apply IsS94.drew | apply IsS94.set_1) | exact HI0.out), by repeat (first | (with_reducible first | exact HB.out | apply below_alloc | apply pw_below_drewN | apply below_drew1 | refine below_set ?_ (IsS94.ge HI0.out)) | exact HB.out), by repeat (first | (with_reducible first | exact HK.out | apply KeepBut.set_ | apply keep_drewN | apply keep_drew | apply keep_alloc) | exact HK.out)⟩

end Go.Proofs.Ytgcjadhmkhpbnaa.P
-- Laid by a program of this work.
namespace Go.Proofs.Ytgcjadhmkhpbnaa.P
open Go.RowKit Go.Proofs.YtgcjadhmkhpbnaaW.PrintWords Go.Proofs.YtgcjadhmkhpbnaaW.PrintLast Go.Proofs.YtgcjadhmkhpbnaaW.PrintMore
attribute [local go_sem] max2_int min2_int max_two min_two max_three min_three max_four min_four   -- for this text's walks alone
set_option linter.unusedVariables false
set_option linter.unusedSimpArgs false

/-! ### spec_DrawHyperbolicBound: function 40 -/
def spec_DrawHyperbolicBound.f (k : Nat) (l0 : List Int) : Option ((List (S56))) := (spec_l20Open.f l0).bind fun bt555 => ((spec_l20Implicit.f k bt555.1 bt555.2 12).bind fun bt558 => (some bt558.1))
theorem spec_DrawHyperbolicBound.mono : ∀ a0 k, LeO (spec_DrawHyperbolicBound.f k a0) (spec_DrawHyperbolicBound.f (k + 1) a0) := by
  intro a0 k
  unfold spec_DrawHyperbolicBound.f
  repeat' first
      | (with_reducible exact spec_l20Implicit.mono _ _ _ _)
      | (with_reducible exact LeO.refl _)
      | (with_reducible exact LeO.none _)
      | (with_reducible refine LeO.ite ?_ ?_)
      | (with_reducible refine LeO.bind ?_ (fun _ => ?_))
      | exact spec_l20Implicit.mono _ _ _ _
      | exact LeO.none _
      | refine LeO.ite ?_ ?_
      | refine LeO.bind ?_ (fun _ => ?_)
set_option maxHeartbeats 8000000 in
set_option maxRecDepth 100000 in
theorem spec_DrawHyperbolicBound.calls (k : Nat) (A0 : Option Addr) (c0 : Nat) (l0 : List Int) (r : List (S56)) (w : World) (hr0 : Kd.C (Kd.int .u8) w A0 l0.length l0) (hc0 : l0.length ≤ c0) (h : spec_DrawHyperbolicBound.f k l0 = some r) :
    Calls Try.prog 40 #[.slice A0 l0.length c0] w fun e w' => ∃ v0_ : Value, e = .returned (v0_) ∧ Kd.R k56 56 w' w.heap.size (fun _ => True) v0_ r ∧ Below w.heap.size w w' := by
  have HR0 := Aside0.mk hr0
  have HC0 := Aside0.mk hc0
  clear hr0 hc0
  have HB := Aside0.mk (Below.refl w.heap.size w)
  have H : ((spec_l20Open.f l0).bind fun bt555 => ((spec_l20Implicit.f k bt555.1 bt555.2 12).bind fun bt558 => (some bt558.1))) = some r := h
  clear h
  replace H := Option.bind_eq_some_iff.mp H
  obtain ⟨⟨t555, t556⟩, A20, H⟩ := H
  replace H : ((spec_l20Implicit.f k t555 t556 12).bind fun bt558 => (some bt558.1)) = some r := H
  have A2 := Aside0.mk A20
  clear A20
  replace H := Option.bind_eq_some_iff.mp H
  obtain ⟨⟨t558, t561⟩, A30, H⟩ := H
  replace H : (some t558) = some r := H
  have A3 := Aside0.mk A30
  clear A30
  obtain rfl := Option.some.inj H
  go_enter Try.func40, Try.ntmps40
  go_wp2_with (first | ((with_reducible refine gate_callee (f := 60) rfl ?_); refine goesL_ (some 4) rfl rfl Try.func60 (by kernel_rfl) rfl #[.slice A0 l0.length c0] rfl (by (try simp only [List.map_toArray, List.map_cons, List.map_nil]); first | done | rfl | (simp only [List.length_drop, List.length_take]; rfl)) ?_; (with_reducible refine (spec_l20Open.calls _ _ l0 t555 t556 w _ ?side1 ?side2 ?side3 A2.out).mono ?_); (case side1 => repeat (first | (with_reducible first | exact HB.out | apply below_alloc | apply pw_below_drewN | apply below_drew1) | exact HB.out)); (case side2 => exact HR0.out); (case side3 => exact HC0.out); rintro e w4 ⟨g557, rfl, hi, hb, hb2⟩; refine ⟨_, rfl, ?_⟩; have n0_ := Aside0.mk (hb); have n1_ := Aside0.mk (hi); clear HB; have HB := n0_; have HI557 := n1_; clear n0_ n1_; (try clear hb); (try clear hb2); (try clear hk); (try clear hi)) | ((with_reducible refine gate_callee (f := 80) rfl ?_); refine goesL_ (some 5) rfl rfl Try.func80 (by kernel_rfl) rfl #[.pointer (some ⟨g557, 0, none⟩), .int .i64 12] rfl (by (try simp only [List.map_toArray, List.map_cons, List.map_nil]); first | done | rfl | (simp only [List.length_drop, List.length_take]; rfl)) ?_; (with_reducible refine (spec_l20Implicit.calls k g557 t555 t556 12 t558 t561 w _ ?side1 ?side2 A3.out).mono ?_); (case side1 => repeat (first | (with_reducible first | exact HI557.out | apply IsS94.alloc | apply IsS94.drewN | apply IsS94.drew | apply IsS94.set_1) | exact HI557.out)); (case side2 => repeat (first | (with_reducible first | exact HB.out | apply below_alloc | apply pw_below_drewN | apply below_drew1 | refine below_set ?_ (IsS94.ge HI557.out)) | exact HB.out)); rintro e w5 ⟨v559, rfl, ho0, hi, hb, hk⟩; refine ⟨_, rfl, ?_⟩; have n0_ := Aside0.mk (Kd.R_lower ho0 (below_size (by repeat (first | (with_reducible first | exact HB.out | apply below_alloc | apply pw_below_drewN | apply below_drew1 | refine below_set ?_ (IsS94.ge HI557.out)) | exact HB.out)))); have n1_ := Aside0.mk (hb); have n2_ := Aside0.mk (hi); clear HB; clear HI557; have HO560 := n0_; have HB := n1_; have HI557 := n2_; clear n0_ n1_ n2_; (try clear hb); (try clear hb2); (try clear hk); (try clear hi); (try clear ho0)))
  go_ret
  exact ⟨_, by first | rfl | (simp [errW_none, errW_some] <;> rfl) | (simp [*, errW_none, errW_some] <;> rfl), by (with_reducible repeat (first | apply Kd.R_alloc | apply Kd.R_drewN | apply Kd.R_drew)); exact HO560.out, by repeat (first | (with_reducible first | exact HB.out | apply below_alloc | apply pw_below_drewN | apply below_drew1 | refine below_set ?_ (IsS94.ge HI557.out)) | exact HB.out)⟩

end Go.Proofs.Ytgcjadhmkhpbnaa.P
-- Laid by a program of this work.
namespace Go.Proofs.Ytgcjadhmkhpbnaa.P
open Go.RowKit Go.Proofs.YtgcjadhmkhpbnaaW.PrintWords Go.Proofs.YtgcjadhmkhpbnaaW.PrintLast Go.Proofs.YtgcjadhmkhpbnaaW.PrintMore
attribute [local go_sem] max2_int min2_int max_two min_two max_three min_three max_four min_four   -- for this text's walks alone
set_option linter.unusedVariables false
set_option linter.unusedSimpArgs false

/-! ### laws_without: function 41 -/
def laws_without.f (l0 : List (S56)) (a1 : Int) : Option ((List (S56))) := (some (([] : List (S56)) : List (S56))).bind fun y562 => (if 0 ≤ a1 then (if a1 ≤ (l0.length : Int) then ((some (l0.take (a1 : Int).toNat : List (S56))).bind fun y565 => (if y562.length + y565.length < 5864062014805 then ((some (y562 ++ y565 : List (S56))).bind fun y569 => (if 0 ≤ (wrap64 (a1 + 1)) then (if (wrap64 (a1 + 1)) ≤ (l0.length : Int) then ((some (l0.drop ((wrap64 (a1 + 1)) : Int).toNat : List (S56))).bind fun y572 => (if y569.length + y572.length < 5864062014805 then (some (y569 ++ y572)) else (none))) else (none)) else (none))) else (none))) else (none)) else (none))
def laws_without.T1 : Bool × List (List Nat × List Nat) := (true, [([], []), ([], []), ([], []), ([1, 2], [1, 2]), ([0, 3], [0, 3]), ([], []), ([], []), ([6], [6]), ([5, 7], [5, 7]), ([4, 8, 4], [4, 8]), ([9, 9, 0, 1, 2, 3, 4, 5, 6, 7, 8, 9], [9])])
def laws_without.B1 : List Nat := [0, 0, 0, 6, 15, 0, 0, 64, 224, 511, 1023]
theorem laws_without.tab1 : rtab .any (opsOf Try.f41 1) = laws_without.T1 := by kernel_rfl
theorem laws_without.bits1 : waitsOk laws_without.T1.2 laws_without.B1 = true := by kernel_rfl
set_option maxHeartbeats 8000000 in
set_option maxRecDepth 100000 in
theorem laws_without.calls (A0 : Option Addr) (c0 : Nat) (l0 : List (S56)) (a1 : Int) (r : List (S56)) (w : World) (hr0 : Kd.C k56 w A0 l0.length l0) (hc0 : l0.length ≤ c0) (h : laws_without.f l0 a1 = some r) :
    Calls Try.prog 41 #[.slice A0 l0.length c0, .int .i64 a1] w fun e w' => ∃ v0_ : Value, e = .returned (v0_) ∧ Kd.R k56 56 w' w.heap.size (fun _ => True) v0_ r ∧ Below w.heap.size w w' := by
  have HR0 := Aside0.mk hr0
  have HC0 := Aside0.mk hc0
  clear hr0 hc0
  have HB := Aside0.mk (Below.refl w.heap.size w)
  have H : ((some (([] : List (S56)) : List (S56))).bind fun y562 => (if 0 ≤ a1 then (if a1 ≤ (l0.length : Int) then ((some (l0.take (a1 : Int).toNat : List (S56))).bind fun y565 => (if y562.length + y565.length < 5864062014805 then ((some (y562 ++ y565 : List (S56))).bind fun y569 => (if 0 ≤ (wrap64 (a1 + 1)) then (if (wrap64 (a1 + 1)) ≤ (l0.length : Int) then ((some (l0.drop ((wrap64 (a1 + 1)) : Int).toNat : List (S56))).bind fun y572 => (if y569.length + y572.length < 5864062014805 then (some (y569 ++ y572)) else (none))) else (none)) else (none))) else (none))) else (none)) else (none))) = some r := h
  clear h
  obtain ⟨y562, hy562⟩ : ∃ y_ : List (S56), y_ = (([] : List (S56))) := ⟨_, rfl⟩
  replace H : (if 0 ≤ a1 then (if a1 ≤ (l0.length : Int) then ((some (l0.take (a1 : Int).toNat : List (S56))).bind fun y565 => (if y562.length + y565.length < 5864062014805 then ((some (y562 ++ y565 : List (S56))).bind fun y569 => (if 0 ≤ (wrap64 (a1 + 1)) then (if (wrap64 (a1 + 1)) ≤ (l0.length : Int) then ((some (l0.drop ((wrap64 (a1 + 1)) : Int).toNat : List (S56))).bind fun y572 => (if y569.length + y572.length < 5864062014805 then (some (y569 ++ y572)) else (none))) else (none)) else (none))) else (none))) else (none)) else (none)) = some r := by first | (rw [hy562]; with_reducible exact H) | (have H2_ := (Option.bind_some _ _).symm.trans H; rw [hy562]; with_reducible exact H2_) | (have H2_ := (Option.bind_some _ _).symm.trans H; with_reducible exact H2_) | with_reducible exact H | (rw [hy562]; exact H) | exact H
  have Ny562 := Aside0.mk hy562
  clear hy562
  by_cases c3 : 0 ≤ a1
  · rw [if_pos c3] at H
    have c3b0 := eq_true c3
    have c3b1 : decide (0 ≤ a1) = true := decide_eq_true c3
    clear c3
    by_cases c4 : a1 ≤ (l0.length : Int)
    · rw [if_pos c4] at H
      have c4b0 := eq_true c4
      have c4b1 : decide (a1 ≤ (l0.length : Int)) = true := decide_eq_true c4
      clear c4
      obtain ⟨y565, hy565⟩ : ∃ y_ : List (S56), y_ = (l0.take (a1 : Int).toNat) := ⟨_, rfl⟩
      replace H : (if y562.length + y565.length < 5864062014805 then ((some (y562 ++ y565 : List (S56))).bind fun y569 => (if 0 ≤ (wrap64 (a1 + 1)) then (if (wrap64 (a1 + 1)) ≤ (l0.length : Int) then ((some (l0.drop ((wrap64 (a1 + 1)) : Int).toNat : List (S56))).bind fun y572 => (if y569.length + y572.length < 5864062014805 then (some (y569 ++ y572)) else (none))) else (none)) else (none))) else (none)) = some r := by first | (rw [hy565]; with_reducible exact H) | (have H2_ := (Option.bind_some _ _).symm.trans H; rw [hy565]; with_reducible exact H2_) | (have H2_ := (Option.bind_some _ _).symm.trans H; with_reducible exact H2_) | with_reducible exact H | (rw [hy565]; exact H) | exact H
      have Ny565 := Aside0.mk hy565
      clear hy565
      by_cases c5 : y562.length + y565.length < 5864062014805
      · rw [if_pos c5] at H
        have LMc5 := Aside0.mk c5
        clear c5
        obtain ⟨y569, hy569⟩ : ∃ y_ : List (S56), y_ = (y562 ++ y565) := ⟨_, rfl⟩
        replace H : (if 0 ≤ (wrap64 (a1 + 1)) then (if (wrap64 (a1 + 1)) ≤ (l0.length : Int) then ((some (l0.drop ((wrap64 (a1 + 1)) : Int).toNat : List (S56))).bind fun y572 => (if y569.length + y572.length < 5864062014805 then (some (y569 ++ y572)) else (none))) else (none)) else (none)) = some r := by first | (rw [hy569]; with_reducible exact H) | (have H2_ := (Option.bind_some _ _).symm.trans H; rw [hy569]; with_reducible exact H2_) | (have H2_ := (Option.bind_some _ _).symm.trans H; with_reducible exact H2_) | with_reducible exact H | (rw [hy569]; exact H) | exact H
        have Ny569 := Aside0.mk hy569
        clear hy569
        obtain ⟨ji6, hji6⟩ : ∃ j_ : Int, (wrap64 (a1 + 1)) = j_ := ⟨_, rfl⟩
        replace H : (if 0 ≤ (ji6) then (if (ji6) ≤ (l0.length : Int) then ((some (l0.drop ((ji6) : Int).toNat : List (S56))).bind fun y572 => (if y569.length + y572.length < 5864062014805 then (some (y569 ++ y572)) else (none))) else (none)) else (none)) = some r := by first | (rw [hji6] at H; exact H) | (simp only [hji6] at H ⊢; exact H)
        have hji6w : (IntKind.i64.wrap (a1 + 1)) = ji6 := (i64_w _).trans hji6
        by_cases c7 : 0 ≤ (ji6)
        · rw [if_pos c7] at H
          have c7b0 := eq_true c7
          have c7b1 : decide (0 ≤ (ji6)) = true := decide_eq_true c7
          clear c7
          by_cases c8 : (ji6) ≤ (l0.length : Int)
          · rw [if_pos c8] at H
            have c8b0 := eq_true c8
            have c8b1 : decide ((ji6) ≤ (l0.length : Int)) = true := decide_eq_true c8
            clear c8
            obtain ⟨y572, hy572⟩ : ∃ y_ : List (S56), y_ = (l0.drop ((ji6) : Int).toNat) := ⟨_, rfl⟩
            replace H : (if y569.length + y572.length < 5864062014805 then (some (y569 ++ y572)) else (none)) = some r := by first | (rw [hy572]; with_reducible exact H) | (have H2_ := (Option.bind_some _ _).symm.trans H; rw [hy572]; with_reducible exact H2_) | (have H2_ := (Option.bind_some _ _).symm.trans H; with_reducible exact H2_) | with_reducible exact H | (rw [hy572]; exact H) | exact H
            have Ny572 := Aside0.mk hy572
            clear hy572
            by_cases c9 : y569.length + y572.length < 5864062014805
            · rw [if_pos c9] at H
              have LMc9 := Aside0.mk c9
              clear c9
              obtain ⟨y576, hy576⟩ : ∃ y_ : List (S56), y_ = (y569 ++ y572) := ⟨_, rfl⟩
              replace H : (some y576) = some r := by first | (rw [hy576]; with_reducible exact H) | (have H2_ := (Option.bind_some _ _).symm.trans H; rw [hy576]; with_reducible exact H2_) | (have H2_ := (Option.bind_some _ _).symm.trans H; with_reducible exact H2_) | with_reducible exact H | (rw [hy576]; exact H) | exact H
              have Ny576 := Aside0.mk hy576
              clear hy576
              obtain rfl := Option.some.inj H
              go_enter Try.func41, Try.ntmps41
              try go_wp2
              have n0_ := Aside0.mk (below_drew1 HB.out)
              clear HB
              have HB := n0_
              clear n0_
              have q11 : (a1 : Int) ≤ ((l0.length : Int) : Int) := of_decide_eq_true (by first | (with_reducible assumption) | assumption)
              obtain ⟨i011, hi011, _, hsz11, _⟩ := info_parts info56
              have hroom11 : l0.length ≤ c0 := HC0.out
              have hC11 : Kd.C k56 _ A0 l0.length l0 := HR0.out
              have hcut11 := cut_to (P := Try.prog) 25 56 .i64 Try.underlying25 hi011 A0 l0.length c0 a1 (of_decide_eq_true (by first | (with_reducible assumption) | assumption)) q11 hroom11
              have hr11 := Kd.C_take (m := (a1 : Int).toNat) hC11 (by omega)
              have hy11 : y565.length = (a1 : Int).toNat := (by rw [Ny565.out, List.length_take]; omega)
              rw [← Ny565.out] at hr11
              rw [← hy11] at hcut11
              have HR568 := Aside0.mk hr11
              have HC568 := Aside0.mk (show y565.length ≤ c0 from by omega)
              clear hr11 hC11 hroom11 hi011 hsz11
              have KY11 := Aside0.mk hy11
              clear hy11
              replace q11 := eq_true q11
              have q12 : ((ji6) : Int) ≤ ((l0.length : Int) : Int) := of_decide_eq_true (by first | (with_reducible assumption) | assumption)
              obtain ⟨i012, hi012, _, hsz12, _⟩ := info_parts info56
              have hroom12 : l0.length ≤ c0 := HC0.out
              have hC12 : Kd.C k56 _ A0 l0.length l0 := HR0.out
              have q012 : (0 : Int) ≤ ((ji6) : Int) := of_decide_eq_true (by first | (with_reducible assumption) | assumption)
              have hcut12 := cut_from (P := Try.prog) 25 56 .i64 Try.underlying25 hi012 3 hsz12 A0 l0.length c0 (ji6) q012 q12
              have hr12 := Kd.C_drop (m := ((ji6) : Int).toNat) (c := c0) hC12 (by omega) hroom12
              obtain ⟨A12, hA12⟩ : ∃ A1, A1 = (if c0 = ((ji6) : Int).toNat then A0 else (A0 : Option Addr).map (·.add (((ji6) : Int).toNat * 3))) := ⟨_, rfl⟩
              obtain ⟨c12, hc12⟩ : ∃ c1, c1 = c0 - ((ji6) : Int).toNat := ⟨_, rfl⟩
              have hy12 : y572.length = l0.length - ((ji6) : Int).toNat := (by rw [Ny572.out, List.length_drop] <;> omega)
              rw [show (l0).drop ((ji6) : Int).toNat = y572 from Ny572.out.symm] at hr12
              replace hr12 : Kd.C k56 _ A12 y572.length y572 := (by rw [hA12]; exact hr12)
              rw [← hy12, ← hA12, ← hc12] at hcut12
              have HR575 := Aside0.mk hr12
              have HC575 := Aside0.mk (show y572.length ≤ c12 from by rw [hy12, hc12]; exact Nat.sub_le_sub_right hroom12 _)
              clear hr12 hC12 hroom12 hi012 hsz12 hc12
              have KY12 := Aside0.mk hy12
              have KA12 := Aside0.mk hA12
              clear hy12 hA12
              replace q12 := eq_true q12
              refine start_ (n := 11) (S := fun w' => True) (ds := []) #[false, false, false, false, false, false, false, false, false, false, false] (by kernel_rfl) rfl rfl trivial (fun hHeld => ?_); refine with_tabW laws_without.tab1 laws_without.bits1 (fun HT_ HW_ => ?_)
              generalize w.drew = w10 at HB HR568 HR575 hHeld ⊢
              refine pure_ (i := 1) (N := some 6) (v := ?_) (a' := ?_) #[false, true, false, false, false, false, false, false, false, false, false] rfl rfl (any_of HT_.out (by kernel_rfl)) (fun _ _ _ h => h) (Or.inl ⟨by rfl, ?_⟩) ?_ ?_
              rotate_left
              · intro w'
                go_simp
                with_reducible rfl
              rotate_left
              · simp only [Act.put, List.setIfInBounds_toArray, List.set_cons_zero, List.set_cons_succ, i64_w, i32_w]
                rfl
              refine pure_ (i := 2) (N := some 7) (v := ?_) (a' := ?_) #[false, true, true, false, false, false, false, false, false, false, false] rfl rfl (any_of HT_.out (by kernel_rfl)) (fun _ _ _ h => h) (Or.inl ⟨by rfl, ?_⟩) ?_ ?_
              rotate_left
              · intro w'
                go_simp
                with_reducible rfl
              rotate_left
              · simp only [Act.put, List.setIfInBounds_toArray, List.set_cons_zero, List.set_cons_succ, i64_w, i32_w]
                rfl
              refine pure_ (i := 3) (N := some 8) (v := ?_) (a' := ?_) #[false, true, true, true, false, false, false, false, false, false, false] rfl rfl (any_of HT_.out (by kernel_rfl)) (fun _ _ _ h => h) (Or.inl ⟨by rfl, ?_⟩) ?_ ?_
              rotate_left
              · intro w'
                go_simp
                with_reducible rfl
              rotate_left
              · simp only [Act.put, List.setIfInBounds_toArray, List.set_cons_zero, List.set_cons_succ, i64_w, i32_w]
                rfl
              refine pure_ (i := 5) (N := some 10) (v := ?_) (a' := ?_) #[false, true, true, true, false, true, false, false, false, false, false] rfl rfl (any_of HT_.out (by kernel_rfl)) (fun _ _ _ h => h) (Or.inl ⟨by rfl, ?_⟩) ?_ ?_
              rotate_left
              · intro w'
                go_simp
                with_reducible rfl
              rotate_left
              · simp only [Act.put, List.setIfInBounds_toArray, List.set_cons_zero, List.set_cons_succ, i64_w, i32_w]
                rfl
              refine pure_ (i := 6) (N := some 11) (v := ?_) (a' := ?_) #[false, true, true, true, false, true, true, false, false, false, false] rfl rfl (any_of HT_.out (by kernel_rfl)) (fun _ _ _ h => h) (Or.inl ⟨by rfl, ?_⟩) ?_ ?_
              rotate_left
              · intro w'
                go_simp
                with_reducible rfl
              rotate_left
              · simp only [Act.put, List.setIfInBounds_toArray, List.set_cons_zero, List.set_cons_succ, i64_w, i32_w]
                rfl
              refine pure_ (i := 7) (N := some 12) (v := ?_) (a' := ?_) #[false, true, true, true, false, true, true, true, false, false, false] rfl rfl (any_of HT_.out (by kernel_rfl)) (fun _ _ _ h => h) (Or.inl ⟨by rfl, ?_⟩) ?_ ?_
              rotate_left
              · intro w'
                go_simp
                with_reducible rfl
              rotate_left
              · simp only [Act.put, List.setIfInBounds_toArray, List.set_cons_zero, List.set_cons_succ, i64_w, i32_w]
                rfl
              refine pure_ (i := 8) (N := some 13) (v := ?_) (a' := ?_) #[false, true, true, true, false, true, true, true, true, false, false] rfl rfl (any_of HT_.out (by kernel_rfl)) (fun _ _ _ h => h) (Or.inl ⟨by rfl, ?_⟩) ?_ ?_
              rotate_left
              · intro w'
                go_simp
                with_reducible rfl
              rotate_left
              · simp only [Act.put, List.setIfInBounds_toArray, List.set_cons_zero, List.set_cons_succ, i64_w, i32_w]
                rfl
              refine one_ (i := 0) (N := some 5) #[true, true, true, true, false, true, true, true, true, false, false] rfl rfl (one_of HT_.out (by kernel_rfl)) (by decide) (fun K hK => ?_)
              refine Kd.R_lit_step k56 _ 56 ?hg (N := 5) ?hd (xs := ([] : List (S56))) (inner := []) (ok := fun _ => True) (okp := fun _ => True) ?hr ?hp (fun _ hk => hk) trivial (Below.refl _ _) (Nat.le_refl _) (by simp) ?_; (case hd => rfl); (case hg => rfl); (case hr => first | (go_simp; done) | (go_simp; rfl)); (case hp => exact (Reps.none _ _))
              intro v563 w13 ho14 hb hg_ hnew_
              clear hg_ hnew_
              (first | rw [← Ny562.out] at ho14 | (simp only [Int.reduceToNat] at ho14; rw [← Ny562.out] at ho14))
              have n0_ := Aside0.mk (Kd.R_lower ho14 (below_size (by repeat (first | (with_reducible first | exact HB.out | apply below_alloc | apply pw_below_drewN | apply below_drew1) | exact HB.out))))
              have n1_ := Aside0.mk (below_step (by repeat (first | (with_reducible first | exact HB.out | apply below_alloc | apply pw_below_drewN | apply below_drew1) | exact HB.out)) hb)
              clear HB
              have HO564 := n0_
              have HB := n1_
              clear n0_ n1_
              clear hb ho14
              refine hK.out _ _ trivial (fun hHeld => ?_)
              clear hK K
              refine norm_ (a' := ?_) ?_ ?_
              rotate_left
              · show Act.put _ (some 5) _ = _
                simp only [Act.put, List.setIfInBounds_toArray, List.set_cons_zero, List.set_cons_succ, i64_w, i32_w]
                rfl
              refine one_ (i := 4) (N := some 9) #[true, true, true, true, true, true, true, true, true, false, false] rfl rfl (one_of HT_.out (by kernel_rfl)) (by decide) (fun K hK => ?_)
              refine Kd.R_append_rows_step k56 (w0 := w) w.heap.size (by rfl) (.tmp 5) (.tmp 8) 25 56 (.agg #[(.int .i64 0), (.int .i64 0), (.int .i64 0)]) 24 rfl Try.underlying25 info56 rfl (by decide) (by omega) v563 y562 y565 _ _ _ (fun _ => True) (fun _ => False) rfl rfl ?aO ?aR (fun _ _ h => h) (fun _ h => h.elim) ?aF ?aB ?aS ?aL ?_
              (case aR => repeat (first | exact (Kd.C_below HR568.out HB.out) | (with_reducible refine Kd.C_alloc ?_ _) | (with_reducible refine Kd.C_drewN ?_ _) | (with_reducible refine Kd.C_drew ?_)))
              (case aB => exact (by repeat (first | (with_reducible first | exact HB.out | apply below_alloc | apply pw_below_drewN | apply below_drew1) | exact HB.out)))
              (case aF => exact (fun _ _ => trivial))
              (case aO => exact (by (with_reducible repeat (first | apply Kd.R_alloc | apply Kd.R_drewN | apply Kd.R_drew)); exact HO564.out))
              (case aS => exact (below_size (by repeat (first | (with_reducible first | exact HB.out | apply below_alloc | apply pw_below_drewN | apply below_drew1) | exact HB.out))))
              (case aL => have := LMc5.out; omega)
              intro v570 w15 ho hb hg hat
              rw [← Ny569.out] at ho
              have n0_ := Aside0.mk (hb)
              have n1_ := Aside0.mk (ho)
              clear HB
              clear HO564
              have HB := n0_
              have HO571 := n1_
              clear n0_ n1_
              clear ho hb hg hat
              refine hK.out _ _ trivial (fun hHeld => ?_)
              clear hK K
              refine norm_ (a' := ?_) ?_ ?_
              rotate_left
              · show Act.put _ (some 9) _ = _
                simp only [Act.put, List.setIfInBounds_toArray, List.set_cons_zero, List.set_cons_succ, i64_w, i32_w]
                rfl
              refine one_ (i := 9) (N := some 14) #[true, true, true, true, true, true, true, true, true, true, false] rfl rfl (one_of HT_.out (by kernel_rfl)) (by decide) (fun K hK => ?_)
              refine Kd.R_append_rows_step k56 (w0 := w) w.heap.size (by rfl) (.tmp 9) (.tmp 13) 25 56 (.agg #[(.int .i64 0), (.int .i64 0), (.int .i64 0)]) 24 rfl Try.underlying25 info56 rfl (by decide) (by omega) v570 y569 y572 _ _ _ (fun _ => True) (fun _ => False) rfl rfl ?aO ?aR (fun _ _ h => h) (fun _ h => h.elim) ?aF ?aB ?aS ?aL ?_
              (case aR => repeat (first | exact (Kd.C_below HR575.out HB.out) | (with_reducible refine Kd.C_alloc ?_ _) | (with_reducible refine Kd.C_drewN ?_ _) | (with_reducible refine Kd.C_drew ?_)))
              (case aB => exact (by repeat (first | (with_reducible first | exact HB.out | apply below_alloc | apply pw_below_drewN | apply below_drew1) | exact HB.out)))
              (case aF => exact (fun _ _ => trivial))
              (case aO => exact (by (with_reducible repeat (first | apply Kd.R_alloc | apply Kd.R_drewN | apply Kd.R_drew)); exact HO571.out))
              (case aS => exact (below_size (by repeat (first | (with_reducible first | exact HB.out | apply below_alloc | apply pw_below_drewN | apply below_drew1) | exact HB.out))))
              (case aL => have := LMc9.out; omega)
              intro v577 w16 ho hb hg hat
              rw [← Ny576.out] at ho
              have n0_ := Aside0.mk (hb)
              have n1_ := Aside0.mk (ho)
              clear HB
              clear HO571
              have HB := n0_
              have HO578 := n1_
              clear n0_ n1_
              clear ho hb hg hat
              refine hK.out _ _ trivial (fun hHeld => ?_)
              clear hK K
              refine norm_ (a' := ?_) ?_ ?_
              rotate_left
              · show Act.put _ (some 14) _ = _
                simp only [Act.put, List.setIfInBounds_toArray, List.set_cons_zero, List.set_cons_succ, i64_w, i32_w]
                rfl
              refine pure_ (i := 10) (N := some 4) (v := ?_) (a' := ?_) #[true, true, true, true, true, true, true, true, true, true, true] rfl rfl (any_of HT_.out (by kernel_rfl)) (fun _ _ _ h => h) (Or.inl ⟨by rfl, ?_⟩) ?_ ?_
              rotate_left
              · intro w'
                go_simp
                with_reducible rfl
              rotate_left
              · simp only [Act.put, List.setIfInBounds_toArray, List.set_cons_zero, List.set_cons_succ, i64_w, i32_w]
                rfl
              refine done_ (done_of HT_.out (by kernel_rfl)) ?_
              try go_wp2
              go_ret
              exact ⟨_, by first | rfl | (simp [errW_none, errW_some] <;> rfl) | (simp only [← hji6]; first | rfl | (simp [errW_none, errW_some] <;> rfl)) | (simp [*, errW_none, errW_some] <;> rfl), by (with_reducible repeat (first | apply Kd.R_alloc | apply Kd.R_drewN | apply Kd.R_drew)); exact HO578.out, by repeat (first | (with_reducible first | exact HB.out | apply below_alloc | apply pw_below_drewN | apply below_drew1) | exact HB.out)⟩
            · rw [if_neg c9] at H
              exact absurd H (by simp)
          · rw [if_neg c8] at H
            exact absurd H (by simp)
        · rw [if_neg c7] at H
          exact absurd H (by simp)
      · rw [if_neg c5] at H
        exact absurd H (by simp)
    · rw [if_neg c4] at H
      exact absurd H (by simp)
  · rw [if_neg c3] at H
    exact absurd H (by simp)

end Go.Proofs.Ytgcjadhmkhpbnaa.P
-- Laid by a program of this work.
namespace Go.Proofs.Ytgcjadhmkhpbnaa.P
open Go.RowKit Go.Proofs.YtgcjadhmkhpbnaaW.PrintWords Go.Proofs.YtgcjadhmkhpbnaaW.PrintLast Go.Proofs.YtgcjadhmkhpbnaaW.PrintMore
attribute [local go_sem] max2_int min2_int max_two min_two max_three min_three max_four min_four   -- for this text's walks alone
set_option linter.unusedVariables false
set_option linter.unusedSimpArgs false

/-! ### slices_Index_int_int: function 98 -/
def slices_Index_int_int.l0 : Nat → List Int → Int → Int → Int → Option (Int)
  | 0, _, _, _, _ => none
  | k + 1, x0, x1, x7, x8 => if x8 < x7 then (if 0 ≤ x8 then (if x8 < (x0.length : Int) then (if x1 = (rd x0 x8) then (some x8) else (slices_Index_int_int.l0 k x0 x1 x7 (wrap64 (x8 + 1)))) else (none)) else (none)) else (some (-1))
def slices_Index_int_int.f (k : Nat) (l0 : List Int) (a1 : Int) : Option (Int) := slices_Index_int_int.l0 k l0 a1 (l0.length : Int) 0
theorem slices_Index_int_int.mono_l : ∀ k, (∀ y0 y1 y2 y3, LeO (slices_Index_int_int.l0 k y0 y1 y2 y3) (slices_Index_int_int.l0 (k + 1) y0 y1 y2 y3))
  | 0 => fun _ _ _ _ r h => by simp [slices_Index_int_int.l0] at h
  | k + 1 => by
    have ih0 := slices_Index_int_int.mono_l k
    · intro y0 y1 y2 y3
      unfold slices_Index_int_int.l0
      repeat' first
      | (with_reducible exact ih0 _ _ _ _)
      | (with_reducible exact LeO.refl _)
      | (with_reducible exact LeO.none _)
      | (with_reducible refine LeO.ite ?_ ?_)
      | (with_reducible refine LeO.bind ?_ (fun _ => ?_))
      | exact ih0 _ _ _ _
      | exact LeO.none _
      | refine LeO.ite ?_ ?_
      | refine LeO.bind ?_ (fun _ => ?_)
theorem slices_Index_int_int.mono : ∀ a0 a1 k, LeO (slices_Index_int_int.f k a0 a1) (slices_Index_int_int.f (k + 1) a0 a1) := by
  intro a0 a1 k
  have ih0 := slices_Index_int_int.mono_l k
  unfold slices_Index_int_int.f
  repeat' first
      | (with_reducible exact ih0 _ _ _ _)
      | (with_reducible exact LeO.refl _)
      | (with_reducible exact LeO.none _)
      | (with_reducible refine LeO.ite ?_ ?_)
      | (with_reducible refine LeO.bind ?_ (fun _ => ?_))
      | exact ih0 _ _ _ _
      | exact LeO.none _
      | refine LeO.ite ?_ ?_
      | refine LeO.bind ?_ (fun _ => ?_)
set_option maxHeartbeats 8000000 in
set_option maxRecDepth 100000 in
theorem slices_Index_int_int.calls (k : Nat) (A0 : Option Addr) (c0 : Nat) (l0 : List Int) (a1 : Int) (r : Int) (w : World) (hr0 : Kd.C (Kd.int .i64) w A0 l0.length l0) (hc0 : l0.length ≤ c0) (h : slices_Index_int_int.f k l0 a1 = some r) :
    Calls Try.prog 98 #[.slice A0 l0.length c0, .int .i64 a1] w fun e w' => e = .returned (.int .i64 r) ∧ Drawn0 w w' := by
  have HR0 := Aside0.mk hr0
  have HC0 := Aside0.mk hc0
  clear hr0 hc0
  have H : (slices_Index_int_int.l0 k l0 a1 (l0.length : Int) 0) = some r := h
  clear h
  have H' := Aside0.mk H
  clear H
  go_enter Try.func98, Try.ntmps98
  go_wp2
  go_loopg [8] k (fun kq v8 w' => ∃ (x8_1 : Int), v8 = .int .i64 x8_1 ∧ Aside0 (slices_Index_int_int.l0 kq l0 a1 (l0.length : Int) x8_1 = some r) ∧ Aside0 (kq ≤ k) ∧ Drawn0 w w')
  case atStart => exact ⟨(0), (by first | rfl | (simp; done) | (simp [*]; done)), H', ⟨Nat.le_refl _⟩, by repeat (first | exact Drawn0.refl _ | apply Drawn0.step)⟩
  case round =>
    clear H'
    try clear p2
    obtain ⟨x8_1, rfl, HA, HK1, ⟨m1, rfl⟩⟩ := hrel
    cases gk with
    | zero => exact absurd HA.out (by simp [slices_Index_int_int.l0])
    | succ k1 =>
      have H := HA.out
      clear HA
      simp only [slices_Index_int_int.l0] at H
      by_cases c3 : x8_1 < (l0.length : Int)
      · rw [if_pos c3] at H
        have c3b0 : decide (x8_1 < (l0.length : Int)) = true := decide_eq_true c3
        clear c3
        by_cases c4 : 0 ≤ x8_1
        · rw [if_pos c4] at H
          have c4b0 : decide (0 ≤ x8_1) = true := decide_eq_true c4
          clear c4
          by_cases c5 : x8_1 < (l0.length : Int)
          · rw [if_pos c5] at H
            have c5b0 : decide (x8_1 < (l0.length : Int)) = true := decide_eq_true c5
            clear c5
            by_cases c6 : a1 = (rd l0 x8_1)
            · rw [if_pos c6] at H
              have c6b0 : (a1 == (rd l0 x8_1)) = true := beq_iff_eq.mpr c6
              have c6b1 : (a1 != (rd l0 x8_1)) = false := bne_eq_false_iff_eq.mpr c6
              clear c6
              obtain rfl := Option.some.inj H
              have p194 : 0 ≤ (x8_1 : Int) := of_decide_eq_true (by first | (with_reducible assumption) | assumption)
              have q194 : x8_1 < (l0.length : Int) := of_decide_eq_true (by first | (with_reducible assumption) | assumption)
              obtain ⟨ad194, e194, hx194_0⟩ := Kd.at_int HR0.out x8_1 p194 q194
              cases e194
              replace p194 := eq_true p194
              replace q194 := eq_true q194
              go_wp2
              go_ret
              exact ⟨by first | rfl | (simp; done) | (simp [*]; done), by repeat (first | exact Drawn0.refl _ | apply Drawn0.step)⟩
            · rw [if_neg c6] at H
              have c6b0 : (a1 == (rd l0 x8_1)) = false := beq_eq_false_iff_ne.mpr c6
              have c6b1 : (a1 != (rd l0 x8_1)) = true := bne_iff_ne.mpr c6
              have H' := Aside0.mk H
              clear H
              have p194 : 0 ≤ (x8_1 : Int) := of_decide_eq_true (by first | (with_reducible assumption) | assumption)
              have q194 : x8_1 < (l0.length : Int) := of_decide_eq_true (by first | (with_reducible assumption) | assumption)
              obtain ⟨ad194, e194, hx194_0⟩ := Kd.at_int HR0.out x8_1 p194 q194
              cases e194
              replace p194 := eq_true p194
              replace q194 := eq_true q194
              go_wp2
              go_roundg k1
              case measure => have := HK1.out; omega
              case rel => exact ⟨(wrap64 (x8_1 + 1)), (by first | rfl | (simp; done) | (simp [*]; done)), H', ⟨by have := HK1.out; omega⟩, by repeat (first | exact Drawn0.refl _ | apply Drawn0.step)⟩
          · rw [if_neg c5] at H
            exact absurd H (by simp)
        · rw [if_neg c4] at H
          exact absurd H (by simp)
      · rw [if_neg c3] at H
        have c3b0 : decide (x8_1 < (l0.length : Int)) = false := decide_eq_false c3
        clear c3
        obtain rfl := Option.some.inj H
        go_wp2
        go_ret
        exact ⟨by first | rfl | (simp; done) | (simp [*]; done), by repeat (first | exact Drawn0.refl _ | apply Drawn0.step)⟩

end Go.Proofs.Ytgcjadhmkhpbnaa.P
-- Laid by a program of this work.
namespace Go.Proofs.Ytgcjadhmkhpbnaa.P
open Go.RowKit Go.Proofs.YtgcjadhmkhpbnaaW.PrintWords Go.Proofs.YtgcjadhmkhpbnaaW.PrintLast Go.Proofs.YtgcjadhmkhpbnaaW.PrintMore
attribute [local go_sem] max2_int min2_int max_two min_two max_three min_three max_four min_four   -- for this text's walks alone
set_option linter.unusedVariables false
set_option linter.unusedSimpArgs false

/-! ### impl_OrderValid: function 57 -/
def impl_OrderValid.l0 : Nat → List (S56) → List Int → List Int → Int → Int → Option (Bool)
  | 0, _, _, _, _, _ => none
  | k + 1, x0, x1, x7, x8, x9 => if x9 < x8 then (if 0 ≤ x9 then (if x9 < (x7.length : Int) then ((impl_in.f (rd x7 x9) 0 (wrap64 ((x0.length : Int) - 1))).bind fun t197 => (if t197 = true then ((slices_Index_int_int.f k x1 (rd x7 x9)).bind fun t198 => (if t198 = x9 then (impl_OrderValid.l0 k x0 x1 x7 x8 (wrap64 (x9 + 1))) else (some false))) else (some false))) else (none)) else (none)) else ((impl_SetValid.f x0).bind fun t195 => (if t195 = true then (some ((x1.length : Int) == (x0.length : Int))) else (some false)))
def impl_OrderValid.f (k : Nat) (l0 : List (S56)) (l1 : List Int) : Option (Bool) := impl_OrderValid.l0 k l0 l1 l1 (l1.length : Int) 0
theorem impl_OrderValid.mono_l : ∀ k, (∀ y0 y1 y2 y3 y4, LeO (impl_OrderValid.l0 k y0 y1 y2 y3 y4) (impl_OrderValid.l0 (k + 1) y0 y1 y2 y3 y4))
  | 0 => fun _ _ _ _ _ r h => by simp [impl_OrderValid.l0] at h
  | k + 1 => by
    have ih0 := impl_OrderValid.mono_l k
    · intro y0 y1 y2 y3 y4
      unfold impl_OrderValid.l0
      repeat' first
      | (with_reducible exact ih0 _ _ _ _ _)
      | (with_reducible exact slices_Index_int_int.mono _ _ _)
      | (with_reducible exact LeO.refl _)
      | (with_reducible exact LeO.none _)
      | (with_reducible refine LeO.ite ?_ ?_)
      | (with_reducible refine LeO.bind ?_ (fun _ => ?_))
      | exact ih0 _ _ _ _ _
      | exact slices_Index_int_int.mono _ _ _
      | exact LeO.none _
      | refine LeO.ite ?_ ?_
      | refine LeO.bind ?_ (fun _ => ?_)
theorem impl_OrderValid.mono : ∀ a0 a1 k, LeO (impl_OrderValid.f k a0 a1) (impl_OrderValid.f (k + 1) a0 a1) := by
  intro a0 a1 k
  have ih0 := impl_OrderValid.mono_l k
  unfold impl_OrderValid.f
  repeat' first
      | (with_reducible exact ih0 _ _ _ _ _)
      | (with_reducible exact slices_Index_int_int.mono _ _ _)
      | (with_reducible exact LeO.refl _)
      | (with_reducible exact LeO.none _)
      | (with_reducible refine LeO.ite ?_ ?_)
      | (with_reducible refine LeO.bind ?_ (fun _ => ?_))
      | exact ih0 _ _ _ _ _
      | exact slices_Index_int_int.mono _ _ _
      | exact LeO.none _
      | refine LeO.ite ?_ ?_
      | refine LeO.bind ?_ (fun _ => ?_)
set_option maxHeartbeats 8000000 in
set_option maxRecDepth 100000 in
theorem impl_OrderValid.calls (k : Nat) (A0 : Option Addr) (c0 : Nat) (l0 : List (S56)) (A1 : Option Addr) (c1 : Nat) (l1 : List Int) (r : Bool) (w : World) (hr0 : Kd.C k56 w A0 l0.length l0) (hc0 : l0.length ≤ c0) (hr1 : Kd.C (Kd.int .i64) w A1 l1.length l1) (hc1 : l1.length ≤ c1) (h : impl_OrderValid.f k l0 l1 = some r) :
    Calls Try.prog 57 #[.slice A0 l0.length c0, .slice A1 l1.length c1] w fun e w' => e = .returned (.bool r) ∧ Below w.heap.size w w' := by
  have HR0 := Aside0.mk hr0
  have HC0 := Aside0.mk hc0
  clear hr0 hc0
  have HR1 := Aside0.mk hr1
  have HC1 := Aside0.mk hc1
  clear hr1 hc1
  have HB := Aside0.mk (Below.refl w.heap.size w)
  have H : (impl_OrderValid.l0 k l0 l1 l1 (l1.length : Int) 0) = some r := h
  clear h
  have H' := Aside0.mk H
  clear H
  go_enter Try.func57, Try.ntmps57
  go_wp2
  go_loopg [9] k (fun kq v9 w' => ∃ (x9_1 : Int), v9 = .int .i64 x9_1 ∧ Aside0 (impl_OrderValid.l0 kq l0 l1 l1 (l1.length : Int) x9_1 = some r) ∧ Aside0 (kq ≤ k) ∧ Aside0 (Below w.heap.size w w'))
  case atStart => exact ⟨(0), (by first | rfl | (simp; done) | (simp [*]; done)), H', ⟨Nat.le_refl _⟩, ⟨by repeat (first | (with_reducible first | exact HB.out | apply below_alloc | apply pw_below_drewN | apply below_drew1) | exact HB.out)⟩⟩
  case round =>
    clear H'
    try clear c1
    try clear p2
    obtain ⟨x9_1, rfl, HA, HK1, HB⟩ := hrel
    cases gk with
    | zero => exact absurd HA.out (by simp [impl_OrderValid.l0])
    | succ k1 =>
      have H := HA.out
      clear HA
      simp only [impl_OrderValid.l0] at H
      by_cases c3 : x9_1 < (l1.length : Int)
      · rw [if_pos c3] at H
        have c3b0 : decide (x9_1 < (l1.length : Int)) = true := decide_eq_true c3
        clear c3
        by_cases c4 : 0 ≤ x9_1
        · rw [if_pos c4] at H
          have c4b0 : decide (0 ≤ x9_1) = true := decide_eq_true c4
          clear c4
          by_cases c5 : x9_1 < (l1.length : Int)
          · rw [if_pos c5] at H
            have c5b0 : decide (x9_1 < (l1.length : Int)) = true := decide_eq_true c5
            clear c5
            replace H := Option.bind_eq_some_iff.mp H
            obtain ⟨t197, A60, H⟩ := H
            replace H : (if t197 = true then ((slices_Index_int_int.f k1 l1 (rd l1 x9_1)).bind fun t198 => (if t198 = x9_1 then (impl_OrderValid.l0 k1 l0 l1 l1 (l1.length : Int) (wrap64 (x9_1 + 1))) else (some false))) else (some false)) = some r := H
            have A6 := Aside0.mk A60
            clear A60
            by_cases c7 : t197 = true
            · subst c7
              have H1 : ((slices_Index_int_int.f k1 l1 (rd l1 x9_1)).bind fun t198 => (if t198 = x9_1 then (impl_OrderValid.l0 k1 l0 l1 l1 (l1.length : Int) (wrap64 (x9_1 + 1))) else (some false))) = some r := by rw [if_pos rfl] at H; exact H
              clear H
              have H := H1
              clear H1
              replace H := Option.bind_eq_some_iff.mp H
              obtain ⟨t198, A80, H⟩ := H
              replace H : (if t198 = x9_1 then (impl_OrderValid.l0 k1 l0 l1 l1 (l1.length : Int) (wrap64 (x9_1 + 1))) else (some false)) = some r := H
              have A8 := Aside0.mk A80
              clear A80
              by_cases c9 : t198 = x9_1
              · rw [if_pos c9] at H
                have c9b0 : (t198 == x9_1) = true := beq_iff_eq.mpr c9
                have c9b1 : (t198 != x9_1) = false := bne_eq_false_iff_eq.mpr c9
                clear c9
                have H' := Aside0.mk H
                clear H
                have p196 : 0 ≤ (x9_1 : Int) := of_decide_eq_true (by first | (with_reducible assumption) | assumption)
                have q196 : x9_1 < (l1.length : Int) := of_decide_eq_true (by first | (with_reducible assumption) | assumption)
                obtain ⟨ad196, e196, hx196_0⟩ := Kd.at_int HR1.out x9_1 p196 q196
                cases e196
                replace hx196_0 := (HB.out.cell (World.block_lt_of_cell? w _ hx196_0)).trans hx196_0
                replace p196 := eq_true p196
                replace q196 := eq_true q196
                go_wp2_with (first | ((with_reducible refine gate_callee (f := 58) rfl ?_); refine goesL_ (some 18) rfl rfl Try.func58 (by kernel_rfl) rfl #[.int .i64 (rd l1 x9_1), .int .i64 0, .int .i64 (wrap64 ((l0.length : Int) - 1))] rfl (by (try simp only [List.map_toArray, List.map_cons, List.map_nil]); first | done | rfl | (simp only [List.length_drop, List.length_take]; rfl)) ?_; (with_reducible refine (impl_in.calls (rd l1 x9_1) 0 (wrap64 ((l0.length : Int) - 1)) true _ A6.out).mono ?_); rintro e w' ⟨rfl, ⟨nd, rfl⟩⟩; refine ⟨_, rfl, ?_⟩) | (go_at_call 98; (with_reducible refine (slices_Index_int_int.calls k1 _ _ l1 (rd l1 x9_1) t198 _ ?side1 ?side2 A8.out).mono ?_); (case side1 => repeat (first | exact (Kd.C_below HR1.out (by repeat (first | (with_reducible first | exact HB.out | apply below_alloc | apply pw_below_drewN | apply below_drew1) | exact HB.out))) | (with_reducible refine Kd.C_alloc ?_ _) | (with_reducible refine Kd.C_drewN ?_ _) | (with_reducible refine Kd.C_drew ?_))); (case side2 => exact HC1.out); rintro e w' ⟨rfl, ⟨nd, rfl⟩⟩))
                go_roundg k1
                case measure => have := HK1.out; omega
                case rel => exact ⟨(wrap64 (x9_1 + 1)), (by first | rfl | (simp; done) | (simp [*]; done)), H', ⟨by have := HK1.out; omega⟩, ⟨by repeat (first | (with_reducible first | exact HB.out | apply below_alloc | apply pw_below_drewN | apply below_drew1) | exact HB.out)⟩⟩
              · rw [if_neg c9] at H
                have c9b0 : (t198 == x9_1) = false := beq_eq_false_iff_ne.mpr c9
                have c9b1 : (t198 != x9_1) = true := bne_iff_ne.mpr c9
                obtain rfl := Option.some.inj H
                have p196 : 0 ≤ (x9_1 : Int) := of_decide_eq_true (by first | (with_reducible assumption) | assumption)
                have q196 : x9_1 < (l1.length : Int) := of_decide_eq_true (by first | (with_reducible assumption) | assumption)
                obtain ⟨ad196, e196, hx196_0⟩ := Kd.at_int HR1.out x9_1 p196 q196
                cases e196
                replace hx196_0 := (HB.out.cell (World.block_lt_of_cell? w _ hx196_0)).trans hx196_0
                replace p196 := eq_true p196
                replace q196 := eq_true q196
                go_wp2_with (first | ((with_reducible refine gate_callee (f := 58) rfl ?_); refine goesL_ (some 18) rfl rfl Try.func58 (by kernel_rfl) rfl #[.int .i64 (rd l1 x9_1), .int .i64 0, .int .i64 (wrap64 ((l0.length : Int) - 1))] rfl (by (try simp only [List.map_toArray, List.map_cons, List.map_nil]); first | done | rfl | (simp only [List.length_drop, List.length_take]; rfl)) ?_; (with_reducible refine (impl_in.calls (rd l1 x9_1) 0 (wrap64 ((l0.length : Int) - 1)) true _ A6.out).mono ?_); rintro e w' ⟨rfl, ⟨nd, rfl⟩⟩; refine ⟨_, rfl, ?_⟩) | (go_at_call 98; (with_reducible refine (slices_Index_int_int.calls k1 _ _ l1 (rd l1 x9_1) t198 _ ?side1 ?side2 A8.out).mono ?_); (case side1 => repeat (first | exact (Kd.C_below HR1.out (by repeat (first | (with_reducible first | exact HB.out | apply below_alloc | apply pw_below_drewN | apply below_drew1) | exact HB.out))) | (with_reducible refine Kd.C_alloc ?_ _) | (with_reducible refine Kd.C_drewN ?_ _) | (with_reducible refine Kd.C_drew ?_))); (case side2 => exact HC1.out); rintro e w' ⟨rfl, ⟨nd, rfl⟩⟩))
                go_ret
                exact ⟨by first | rfl | (simp [errW_none, errW_some] <;> rfl) | (simp [*, errW_none, errW_some] <;> rfl), by repeat (first | (with_reducible first | exact HB.out | apply below_alloc | apply pw_below_drewN | apply below_drew1) | exact HB.out)⟩
            · replace c7 := Bool.eq_false_iff.mpr c7
              subst c7
              have H1 : (some false) = some r := by rw [if_neg (show ¬ (false = true) by decide)] at H; exact H
              clear H
              have H := H1
              clear H1
              obtain rfl := Option.some.inj H
              have p196 : 0 ≤ (x9_1 : Int) := of_decide_eq_true (by first | (with_reducible assumption) | assumption)
              have q196 : x9_1 < (l1.length : Int) := of_decide_eq_true (by first | (with_reducible assumption) | assumption)
              obtain ⟨ad196, e196, hx196_0⟩ := Kd.at_int HR1.out x9_1 p196 q196
              cases e196
              replace hx196_0 := (HB.out.cell (World.block_lt_of_cell? w _ hx196_0)).trans hx196_0
              replace p196 := eq_true p196
              replace q196 := eq_true q196
              go_wp2_with (first | ((with_reducible refine gate_callee (f := 58) rfl ?_); refine goesL_ (some 18) rfl rfl Try.func58 (by kernel_rfl) rfl #[.int .i64 (rd l1 x9_1), .int .i64 0, .int .i64 (wrap64 ((l0.length : Int) - 1))] rfl (by (try simp only [List.map_toArray, List.map_cons, List.map_nil]); first | done | rfl | (simp only [List.length_drop, List.length_take]; rfl)) ?_; (with_reducible refine (impl_in.calls (rd l1 x9_1) 0 (wrap64 ((l0.length : Int) - 1)) false _ A6.out).mono ?_); rintro e w' ⟨rfl, ⟨nd, rfl⟩⟩; refine ⟨_, rfl, ?_⟩))
              go_ret
              exact ⟨by first | rfl | (simp [errW_none, errW_some] <;> rfl) | (simp [*, errW_none, errW_some] <;> rfl), by repeat (first | (with_reducible first | exact HB.out | apply below_alloc | apply pw_below_drewN | apply below_drew1) | exact HB.out)⟩
          · rw [if_neg c5] at H
            exact absurd H (by simp)
        · rw [if_neg c4] at H
          exact absurd H (by simp)
      · rw [if_neg c3] at H
        have c3b0 : decide (x9_1 < (l1.length : Int)) = false := decide_eq_false c3
        clear c3
        replace H := Option.bind_eq_some_iff.mp H
        obtain ⟨t195, A100, H⟩ := H
        replace H : (if t195 = true then (some ((l1.length : Int) == (l0.length : Int))) else (some false)) = some r := H
        have A10 := Aside0.mk A100
        clear A100
        by_cases c11 : t195 = true
        · subst c11
          have H1 : (some ((l1.length : Int) == (l0.length : Int))) = some r := by rw [if_pos rfl] at H; exact H
          clear H
          have H := H1
          clear H1
          obtain rfl := Option.some.inj H
          go_wp2_with (first | ((with_reducible refine gate_callee (f := 52) rfl ?_); refine goesL_ (some 29) rfl rfl Try.func52 (by kernel_rfl) rfl #[.slice A0 l0.length c0] rfl (by (try simp only [List.map_toArray, List.map_cons, List.map_nil]); first | done | rfl | (simp only [List.length_drop, List.length_take]; rfl)) ?_; (with_reducible refine (impl_SetValid.calls _ _ l0 true _ ?side1 ?side2 A10.out).mono ?_); (case side1 => repeat (first | exact (Kd.C_below HR0.out HB.out) | (with_reducible refine Kd.C_alloc ?_ _) | (with_reducible refine Kd.C_drewN ?_ _) | (with_reducible refine Kd.C_drew ?_))); (case side2 => exact HC0.out); rintro e w12 ⟨rfl, hb⟩; refine ⟨_, rfl, ?_⟩; have n0_ := Aside0.mk (below_step (by repeat (first | (with_reducible first | exact HB.out | apply below_alloc | apply pw_below_drewN | apply below_drew1) | exact HB.out)) hb); clear HB; have HB := n0_; clear n0_; (try clear hb); (try clear hb2); (try clear hk); (try clear hi)))
          go_ret
          exact ⟨by first | rfl | (simp [errW_none, errW_some] <;> rfl) | (simp [*, errW_none, errW_some] <;> rfl), by repeat (first | (with_reducible first | exact HB.out | apply below_alloc | apply pw_below_drewN | apply below_drew1) | exact HB.out)⟩
        · replace c11 := Bool.eq_false_iff.mpr c11
          subst c11
          have H1 : (some false) = some r := by rw [if_neg (show ¬ (false = true) by decide)] at H; exact H
          clear H
          have H := H1
          clear H1
          obtain rfl := Option.some.inj H
          go_wp2_with (first | ((with_reducible refine gate_callee (f := 52) rfl ?_); refine goesL_ (some 29) rfl rfl Try.func52 (by kernel_rfl) rfl #[.slice A0 l0.length c0] rfl (by (try simp only [List.map_toArray, List.map_cons, List.map_nil]); first | done | rfl | (simp only [List.length_drop, List.length_take]; rfl)) ?_; (with_reducible refine (impl_SetValid.calls _ _ l0 false _ ?side1 ?side2 A10.out).mono ?_); (case side1 => repeat (first | exact (Kd.C_below HR0.out HB.out) | (with_reducible refine Kd.C_alloc ?_ _) | (with_reducible refine Kd.C_drewN ?_ _) | (with_reducible refine Kd.C_drew ?_))); (case side2 => exact HC0.out); rintro e w13 ⟨rfl, hb⟩; refine ⟨_, rfl, ?_⟩; have n0_ := Aside0.mk (below_step (by repeat (first | (with_reducible first | exact HB.out | apply below_alloc | apply pw_below_drewN | apply below_drew1) | exact HB.out)) hb); clear HB; have HB := n0_; clear n0_; (try clear hb); (try clear hb2); (try clear hk); (try clear hi)))
          go_ret
          exact ⟨by first | rfl | (simp [errW_none, errW_some] <;> rfl) | (simp [*, errW_none, errW_some] <;> rfl), by repeat (first | (with_reducible first | exact HB.out | apply below_alloc | apply pw_below_drewN | apply below_drew1) | exact HB.out)⟩

end Go.Proofs.Ytgcjadhmkhpbnaa.P
-- Laid by a program of this work.
namespace Go.Proofs.Ytgcjadhmkhpbnaa.P
open Go.RowKit Go.Proofs.YtgcjadhmkhpbnaaW.PrintWords Go.Proofs.YtgcjadhmkhpbnaaW.PrintLast Go.Proofs.YtgcjadhmkhpbnaaW.PrintMore
attribute [local go_sem] max2_int min2_int max_two min_two max_three min_three max_four min_four   -- for this text's walks alone
set_option linter.unusedVariables false
set_option linter.unusedSimpArgs false

/-! ### impl_ceil: function 106 -/
def impl_ceil.f (a0 : Int) (a1 : Int) : Option (Int) := if a1 = 0 then (none) else (some (wrap64 (Int.tdiv (wrap64 ((wrap64 (a0 + a1)) - 1)) a1)))
set_option maxHeartbeats 8000000 in
set_option maxRecDepth 100000 in
theorem impl_ceil.calls (a0 : Int) (a1 : Int) (r : Int) (w : World) (h : impl_ceil.f a0 a1 = some r) :
    Calls Try.prog 106 #[.int .i64 a0, .int .i64 a1] w fun e w' => e = .returned (.int .i64 r) ∧ Drawn0 w w' := by
  have H : (if a1 = 0 then (none) else (some (wrap64 (Int.tdiv (wrap64 ((wrap64 (a0 + a1)) - 1)) a1)))) = some r := h
  clear h
  by_cases c3 : a1 = 0
  · rw [if_pos c3] at H
    exact absurd H (by simp)
  · rw [if_neg c3] at H
    have c3b0 : (a1 == 0) = false := beq_eq_false_iff_ne.mpr c3
    have c3b1 : (a1 != 0) = true := bne_iff_ne.mpr c3
    obtain rfl := Option.some.inj H
    go_enter Try.func106, Try.ntmps106
    go_wp2
    go_ret
    exact ⟨by first | rfl | (simp; done) | (simp [*]; done), by repeat (first | exact Drawn0.refl _ | apply Drawn0.step)⟩

end Go.Proofs.Ytgcjadhmkhpbnaa.P
-- Laid by a program of this work.
namespace Go.Proofs.Ytgcjadhmkhpbnaa.P
open Go.RowKit Go.Proofs.YtgcjadhmkhpbnaaW.PrintWords Go.Proofs.YtgcjadhmkhpbnaaW.PrintLast Go.Proofs.YtgcjadhmkhpbnaaW.PrintMore
attribute [local go_sem] max2_int min2_int max_two min_two max_three min_three max_four min_four   -- for this text's walks alone
set_option linter.unusedVariables false
set_option linter.unusedSimpArgs false

/-! ### impl_response: function 91 -/
mutual
def impl_response.l0 : Nat → List (S56) → List Int → Int → List Int → Int → Option (Int)
  | 0, _, _, _, _, _ => none
  | k + 1, x0, x1, x2, x3, x9 => if 0 ≤ x2 then (if x2 < (x1.length : Int) then (if x2 < (x0.length : Int) then (if (wrap64 (x9 + (rd x1 x2))) ≤ ((rd_T56 x0 x2).f1) then (impl_response.l1 k x0 x1 x2 x3 x9 ((rd_T56 x0 x2).f0) x3 (x3.length : Int) 0) else (some (-1))) else (none)) else (none)) else (none)
def impl_response.l1 : Nat → List (S56) → List Int → Int → List Int → Int → Int → List Int → Int → Int → Option (Int)
  | 0, _, _, _, _, _, _, _, _, _ => none
  | k + 1, x0, x1, x2, x3, x9, x10, x35, x36, x37 => if x37 < x36 then (if 0 ≤ x37 then (if x37 < (x35.length : Int) then (if 0 ≤ (rd x35 x37) then (if (rd x35 x37) < (x1.length : Int) then (if (rd x35 x37) < (x0.length : Int) then ((impl_ceil.f (wrap64 (x9 + (rd x1 (rd x35 x37)))) ((rd_T56 x0 (rd x35 x37)).f2)).bind fun t586 => (impl_response.l1 k x0 x1 x2 x3 x9 (wrap64 (x10 + (wrap64 (t586 * ((rd_T56 x0 (rd x35 x37)).f0))))) x35 x36 (wrap64 (x37 + 1)))) else (none)) else (none)) else (none)) else (none)) else (none)) else (if x10 = x9 then (if 0 ≤ x2 then (if x2 < (x1.length : Int) then (some (wrap64 (x9 + (rd x1 x2)))) else (none)) else (none)) else (impl_response.l0 k x0 x1 x2 x3 x10))
end
def impl_response.f (k : Nat) (l0 : List (S56)) (l1 : List Int) (a2 : Int) (l3 : List Int) : Option (Int) := if 0 ≤ a2 then (if a2 < (l0.length : Int) then (impl_response.l0 k l0 l1 a2 l3 ((rd_T56 l0 a2).f0)) else (none)) else (none)
theorem impl_response.mono_l : ∀ k, (∀ y0 y1 y2 y3 y4, LeO (impl_response.l0 k y0 y1 y2 y3 y4) (impl_response.l0 (k + 1) y0 y1 y2 y3 y4)) ∧ (∀ y0 y1 y2 y3 y4 y5 y6 y7 y8, LeO (impl_response.l1 k y0 y1 y2 y3 y4 y5 y6 y7 y8) (impl_response.l1 (k + 1) y0 y1 y2 y3 y4 y5 y6 y7 y8))
  | 0 => ⟨fun _ _ _ _ _ r h => by simp [impl_response.l0] at h, fun _ _ _ _ _ _ _ _ _ r h => by simp [impl_response.l1] at h⟩
  | k + 1 => by
    obtain ⟨ih0, ih1⟩ := impl_response.mono_l k
    refine ⟨?_, ?_⟩
    · intro y0 y1 y2 y3 y4
      unfold impl_response.l0
      repeat' first
      | (with_reducible exact ih0 _ _ _ _ _)
      | (with_reducible exact ih1 _ _ _ _ _ _ _ _ _)
      | (with_reducible exact LeO.refl _)
      | (with_reducible exact LeO.none _)
      | (with_reducible refine LeO.ite ?_ ?_)
      | (with_reducible refine LeO.bind ?_ (fun _ => ?_))
      | exact ih0 _ _ _ _ _
      | exact ih1 _ _ _ _ _ _ _ _ _
      | exact LeO.none _
      | refine LeO.ite ?_ ?_
      | refine LeO.bind ?_ (fun _ => ?_)
    · intro y0 y1 y2 y3 y4 y5 y6 y7 y8
      unfold impl_response.l1
      repeat' first
      | (with_reducible exact ih0 _ _ _ _ _)
      | (with_reducible exact ih1 _ _ _ _ _ _ _ _ _)
      | (with_reducible exact LeO.refl _)
      | (with_reducible exact LeO.none _)
      | (with_reducible refine LeO.ite ?_ ?_)
      | (with_reducible refine LeO.bind ?_ (fun _ => ?_))
      | exact ih0 _ _ _ _ _
      | exact ih1 _ _ _ _ _ _ _ _ _
      | exact LeO.none _
      | refine LeO.ite ?_ ?_
      | refine LeO.bind ?_ (fun _ => ?_)
theorem impl_response.mono : ∀ a0 a1 a2 a3 k, LeO (impl_response.f k a0 a1 a2 a3) (impl_response.f (k + 1) a0 a1 a2 a3) := by
  intro a0 a1 a2 a3 k
  obtain ⟨ih0, ih1⟩ := impl_response.mono_l k
  unfold impl_response.f
  repeat' first
      | (with_reducible exact ih0 _ _ _ _ _)
      | (with_reducible exact ih1 _ _ _ _ _ _ _ _ _)
      | (with_reducible exact LeO.refl _)
      | (with_reducible exact LeO.none _)
      | (with_reducible refine LeO.ite ?_ ?_)
      | (with_reducible refine LeO.bind ?_ (fun _ => ?_))
      | exact ih0 _ _ _ _ _
      | exact ih1 _ _ _ _ _ _ _ _ _
      | exact LeO.none _
      | refine LeO.ite ?_ ?_
      | refine LeO.bind ?_ (fun _ => ?_)
set_option maxHeartbeats 8000000 in
set_option maxRecDepth 100000 in
theorem impl_response.calls (k : Nat) (A0 : Option Addr) (c0 : Nat) (l0 : List (S56)) (A1 : Option Addr) (c1 : Nat) (l1 : List Int) (a2 : Int) (A3 : Option Addr) (c3 : Nat) (l3 : List Int) (r : Int) (w : World) (hr0 : Kd.C k56 w A0 l0.length l0) (hc0 : l0.length ≤ c0) (hr1 : Kd.C (Kd.int .i64) w A1 l1.length l1) (hc1 : l1.length ≤ c1) (hr3 : Kd.C (Kd.int .i64) w A3 l3.length l3) (hc3 : l3.length ≤ c3) (h : impl_response.f k l0 l1 a2 l3 = some r) :
    Calls Try.prog 91 #[.slice A0 l0.length c0, .slice A1 l1.length c1, .int .i64 a2, .slice A3 l3.length c3] w fun e w' => e = .returned (.int .i64 r) ∧ Drawn0 w w' := by
  have HR0 := Aside0.mk hr0
  have HC0 := Aside0.mk hc0
  clear hr0 hc0
  have HR1 := Aside0.mk hr1
  have HC1 := Aside0.mk hc1
  clear hr1 hc1
  have HR3 := Aside0.mk hr3
  have HC3 := Aside0.mk hc3
  clear hr3 hc3
  have H : (if 0 ≤ a2 then (if a2 < (l0.length : Int) then (impl_response.l0 k l0 l1 a2 l3 ((rd_T56 l0 a2).f0)) else (none)) else (none)) = some r := h
  clear h
  by_cases c5 : 0 ≤ a2
  · rw [if_pos c5] at H
    have c5b0 : decide (0 ≤ a2) = true := decide_eq_true c5
    clear c5
    by_cases c6 : a2 < (l0.length : Int)
    · rw [if_pos c6] at H
      have c6b0 : decide (a2 < (l0.length : Int)) = true := decide_eq_true c6
      clear c6
      have H' := Aside0.mk H
      clear H
      have p579 : 0 ≤ (a2 : Int) := of_decide_eq_true (by first | (with_reducible assumption) | assumption)
      have q579 : a2 < (l0.length : Int) := of_decide_eq_true (by first | (with_reducible assumption) | assumption)
      obtain ⟨ad579, e579, hx579_0, hx579_1, hx579_2⟩ := at_T56 HR0.out a2 p579 q579
      cases e579
      replace p579 := eq_true p579
      replace q579 := eq_true q579
      go_enter Try.func91, Try.ntmps91
      go_wp2
      repeat (go_quiet (fail); try go_wp2)
      go_loopg [9] k (fun kq v9 w' => ∃ (x9_1 : Int), v9 = .int .i64 x9_1 ∧ Aside0 (impl_response.l0 kq l0 l1 a2 l3 x9_1 = some r) ∧ Aside0 (kq ≤ k) ∧ Drawn0 w w')
      case atStart => exact ⟨((rd_T56 l0 a2).f0), (by first | rfl | (simp; done) | (simp [*]; done)), H', ⟨Nat.le_refl _⟩, by repeat (first | exact Drawn0.refl _ | apply Drawn0.step)⟩
      case round =>
        clear H'
        try clear c1
        try clear p2
        try clear c3
        try clear c5
        try clear c5b0
        try clear p5
        try clear q5
        try clear hx5
        try clear c6
        try clear c6b0
        try clear hx579_0
        try clear hx579_1
        try clear hx579_2
        try clear p579
        try clear q579
        obtain ⟨x9_1, rfl, HA, HK1, ⟨m1, rfl⟩⟩ := hrel
        cases gk with
        | zero => exact absurd HA.out (by simp [impl_response.l0])
        | succ k1 =>
          have H := HA.out
          clear HA
          simp only [impl_response.l0] at H
          by_cases c7 : 0 ≤ a2
          · rw [if_pos c7] at H
            have c7b0 : decide (0 ≤ a2) = true := decide_eq_true c7
            clear c7
            by_cases c8 : a2 < (l1.length : Int)
            · rw [if_pos c8] at H
              have c8b0 : decide (a2 < (l1.length : Int)) = true := decide_eq_true c8
              clear c8
              by_cases c9 : a2 < (l0.length : Int)
              · rw [if_pos c9] at H
                have c9b0 : decide (a2 < (l0.length : Int)) = true := decide_eq_true c9
                clear c9
                by_cases c10 : (wrap64 (x9_1 + (rd l1 a2))) ≤ ((rd_T56 l0 a2).f1)
                · rw [if_pos c10] at H
                  have c10b0 : decide ((wrap64 (x9_1 + (rd l1 a2))) ≤ ((rd_T56 l0 a2).f1)) = true := decide_eq_true c10
                  clear c10
                  have H' := Aside0.mk H
                  clear H
                  have p580 : 0 ≤ (a2 : Int) := of_decide_eq_true (by first | (with_reducible assumption) | assumption)
                  have q580 : a2 < (l1.length : Int) := of_decide_eq_true (by first | (with_reducible assumption) | assumption)
                  obtain ⟨ad580, e580, hx580_0⟩ := Kd.at_int HR1.out a2 p580 q580
                  cases e580
                  replace p580 := eq_true p580
                  replace q580 := eq_true q580
                  have p581 : 0 ≤ (a2 : Int) := of_decide_eq_true (by first | (with_reducible assumption) | assumption)
                  have q581 : a2 < (l0.length : Int) := of_decide_eq_true (by first | (with_reducible assumption) | assumption)
                  obtain ⟨ad581, e581, hx581_0, hx581_1, hx581_2⟩ := at_T56 HR0.out a2 p581 q581
                  obtain rfl : ad579 = ad581 := (by injection e581)
                  replace p581 := eq_true p581
                  replace q581 := eq_true q581
                  have p582 : 0 ≤ (a2 : Int) := of_decide_eq_true (by first | (with_reducible assumption) | assumption)
                  have q582 : a2 < (l0.length : Int) := of_decide_eq_true (by first | (with_reducible assumption) | assumption)
                  obtain ⟨ad582, e582, hx582_0, hx582_1, hx582_2⟩ := at_T56 HR0.out a2 p582 q582
                  obtain rfl : ad579 = ad582 := (by injection e582)
                  replace p582 := eq_true p582
                  replace q582 := eq_true q582
                  go_wp2
                  repeat (go_quiet (fail); try go_wp2)
                  go_loopg [10, 37] k1 (fun kq v10 v37 w' => ∃ (x10_2 : Int) (x37_2 : Int), v10 = .int .i64 x10_2 ∧ v37 = .int .i64 x37_2 ∧ Aside0 (impl_response.l1 kq l0 l1 a2 l3 x9_1 x10_2 l3 (l3.length : Int) x37_2 = some r) ∧ Aside0 (kq ≤ k1) ∧ Drawn0 w w')
                  case atStart => exact ⟨((rd_T56 l0 a2).f0), (0), (by first | rfl | (simp; done) | (simp [*]; done)), (by first | rfl | (simp; done) | (simp [*]; done)), H', ⟨Nat.le_refl _⟩, by repeat (first | exact Drawn0.refl _ | apply Drawn0.step)⟩
                  case round =>
                    clear H'
                    try clear c1
                    try clear p2
                    try clear c3
                    try clear c5
                    try clear c5b0
                    try clear p5
                    try clear q5
                    try clear hx5
                    try clear c6
                    try clear c6b0
                    try clear p6
                    try clear c7
                    try clear c7b0
                    try clear c8
                    try clear c8b0
                    try clear c9
                    try clear c9b0
                    try clear c10
                    try clear c10b0
                    try clear hx579_0
                    try clear hx579_1
                    try clear hx579_2
                    try clear hx580_0
                    try clear hx581_0
                    try clear hx581_1
                    try clear hx581_2
                    try clear hx582_0
                    try clear hx582_1
                    try clear hx582_2
                    try clear p2
                    try clear p5
                    try clear p579
                    try clear p580
                    try clear p581
                    try clear p582
                    try clear q5
                    try clear q579
                    try clear q580
                    try clear q581
                    try clear q582
                    obtain ⟨x10_2, x37_2, rfl, rfl, HA, HK2, ⟨m2, rfl⟩⟩ := hrel
                    cases gk with
                    | zero => exact absurd HA.out (by simp [impl_response.l1])
                    | succ k2 =>
                      have H := HA.out
                      clear HA
                      simp only [impl_response.l1] at H
                      by_cases c11 : x37_2 < (l3.length : Int)
                      · rw [if_pos c11] at H
                        have c11b0 : decide (x37_2 < (l3.length : Int)) = true := decide_eq_true c11
                        clear c11
                        by_cases c12 : 0 ≤ x37_2
                        · rw [if_pos c12] at H
                          have c12b0 : decide (0 ≤ x37_2) = true := decide_eq_true c12
                          clear c12
                          by_cases c13 : x37_2 < (l3.length : Int)
                          · rw [if_pos c13] at H
                            have c13b0 : decide (x37_2 < (l3.length : Int)) = true := decide_eq_true c13
                            clear c13
                            by_cases c14 : 0 ≤ (rd l3 x37_2)
                            · rw [if_pos c14] at H
                              have c14b0 : decide (0 ≤ (rd l3 x37_2)) = true := decide_eq_true c14
                              clear c14
                              by_cases c15 : (rd l3 x37_2) < (l1.length : Int)
                              · rw [if_pos c15] at H
                                have c15b0 : decide ((rd l3 x37_2) < (l1.length : Int)) = true := decide_eq_true c15
                                clear c15
                                by_cases c16 : (rd l3 x37_2) < (l0.length : Int)
                                · rw [if_pos c16] at H
                                  have c16b0 : decide ((rd l3 x37_2) < (l0.length : Int)) = true := decide_eq_true c16
                                  clear c16
                                  replace H := Option.bind_eq_some_iff.mp H
                                  obtain ⟨t586, A170, H⟩ := H
                                  replace H : (impl_response.l1 k2 l0 l1 a2 l3 x9_1 (wrap64 (x10_2 + (wrap64 (t586 * ((rd_T56 l0 (rd l3 x37_2)).f0))))) l3 (l3.length : Int) (wrap64 (x37_2 + 1))) = some r := H
                                  have A17 := Aside0.mk A170
                                  clear A170
                                  have H' := Aside0.mk H
                                  clear H
                                  have p583 : 0 ≤ (x37_2 : Int) := of_decide_eq_true (by first | (with_reducible assumption) | assumption)
                                  have q583 : x37_2 < (l3.length : Int) := of_decide_eq_true (by first | (with_reducible assumption) | assumption)
                                  obtain ⟨ad583, e583, hx583_0⟩ := Kd.at_int HR3.out x37_2 p583 q583
                                  cases e583
                                  replace p583 := eq_true p583
                                  replace q583 := eq_true q583
                                  have p584 : 0 ≤ ((rd l3 x37_2) : Int) := of_decide_eq_true (by first | (with_reducible assumption) | assumption)
                                  have q584 : (rd l3 x37_2) < (l1.length : Int) := of_decide_eq_true (by first | (with_reducible assumption) | assumption)
                                  obtain ⟨ad584, e584, hx584_0⟩ := Kd.at_int HR1.out (rd l3 x37_2) p584 q584
                                  obtain rfl : ad580 = ad584 := (by injection e584)
                                  replace p584 := eq_true p584
                                  replace q584 := eq_true q584
                                  have p585 : 0 ≤ ((rd l3 x37_2) : Int) := of_decide_eq_true (by first | (with_reducible assumption) | assumption)
                                  have q585 : (rd l3 x37_2) < (l0.length : Int) := of_decide_eq_true (by first | (with_reducible assumption) | assumption)
                                  obtain ⟨ad585, e585, hx585_0, hx585_1, hx585_2⟩ := at_T56 HR0.out (rd l3 x37_2) p585 q585
                                  obtain rfl : ad579 = ad585 := (by injection e585)
                                  replace p585 := eq_true p585
                                  replace q585 := eq_true q585
                                  -- HOISTED
                                  have p587 : 0 ≤ ((rd l3 x37_2) : Int) := of_decide_eq_true (by first | (with_reducible assumption) | assumption)
                                  have q587 : (rd l3 x37_2) < (l0.length : Int) := of_decide_eq_true (by first | (with_reducible assumption) | assumption)
                                  obtain ⟨ad587, e587, hx587_0, hx587_1, hx587_2⟩ := at_T56 HR0.out (rd l3 x37_2) p587 q587
                                  obtain rfl : ad579 = ad587 := (by injection e587)
                                  replace p587 := eq_true p587
                                  replace q587 := eq_true q587
                                  go_wp2_with (first | (go_at_call 106; (with_reducible refine (impl_ceil.calls (wrap64 (x9_1 + (rd l1 (rd l3 x37_2)))) ((rd_T56 l0 (rd l3 x37_2)).f2) t586 _ A17.out).mono ?_); rintro e w' ⟨rfl, ⟨nd, rfl⟩⟩; (try first | exact ⟨rfl, _, World.drewN_drewN _ _ _⟩ | exact ⟨rfl, _, Eq.trans (World.drewN_drewN _ _ _) (congrArg (World.drewN _) (Nat.add_assoc _ _ _))⟩)))
                                  repeat (go_quiet (first | (go_at_call 106; (with_reducible refine (impl_ceil.calls (wrap64 (x9_1 + (rd l1 (rd l3 x37_2)))) ((rd_T56 l0 (rd l3 x37_2)).f2) t586 _ A17.out).mono ?_); rintro e w' ⟨rfl, ⟨nd, rfl⟩⟩; (try first | exact ⟨rfl, _, World.drewN_drewN _ _ _⟩ | exact ⟨rfl, _, Eq.trans (World.drewN_drewN _ _ _) (congrArg (World.drewN _) (Nat.add_assoc _ _ _))⟩))); try go_wp2_with (first | (go_at_call 106; (with_reducible refine (impl_ceil.calls (wrap64 (x9_1 + (rd l1 (rd l3 x37_2)))) ((rd_T56 l0 (rd l3 x37_2)).f2) t586 _ A17.out).mono ?_); rintro e w' ⟨rfl, ⟨nd, rfl⟩⟩; (try first | exact ⟨rfl, _, World.drewN_drewN _ _ _⟩ | exact ⟨rfl, _, Eq.trans (World.drewN_drewN _ _ _) (congrArg (World.drewN _) (Nat.add_assoc _ _ _))⟩))))
                                  go_roundg k2
                                  case measure => have := HK1.out; have := HK2.out; omega
                                  case rel => exact ⟨(wrap64 (x10_2 + (wrap64 (t586 * ((rd_T56 l0 (rd l3 x37_2)).f0))))), (wrap64 (x37_2 + 1)), (by first | rfl | (simp; done) | (simp [*]; done)), (by first | rfl | (simp; done) | (simp [*]; done)), H', ⟨by have := HK1.out; have := HK2.out; omega⟩, by repeat (first | exact Drawn0.refl _ | apply Drawn0.step)⟩
                                · rw [if_neg c16] at H
                                  exact absurd H (by simp)
                              · rw [if_neg c15] at H
                                exact absurd H (by simp)
                            · rw [if_neg c14] at H
                              exact absurd H (by simp)
                          · rw [if_neg c13] at H
                            exact absurd H (by simp)
                        · rw [if_neg c12] at H
                          exact absurd H (by simp)
                      · rw [if_neg c11] at H
                        have c11b0 : decide (x37_2 < (l3.length : Int)) = false := decide_eq_false c11
                        clear c11
                        by_cases c18 : x10_2 = x9_1
                        · rw [if_pos c18] at H
                          have c18b0 : (x10_2 == x9_1) = true := beq_iff_eq.mpr c18
                          have c18b1 : (x10_2 != x9_1) = false := bne_eq_false_iff_eq.mpr c18
                          clear c18
                          by_cases c19 : 0 ≤ a2
                          · rw [if_pos c19] at H
                            have c19b0 : decide (0 ≤ a2) = true := decide_eq_true c19
                            clear c19
                            by_cases c20 : a2 < (l1.length : Int)
                            · rw [if_pos c20] at H
                              have c20b0 : decide (a2 < (l1.length : Int)) = true := decide_eq_true c20
                              clear c20
                              obtain rfl := Option.some.inj H
                              have p588 : 0 ≤ (a2 : Int) := of_decide_eq_true (by first | (with_reducible assumption) | assumption)
                              have q588 : a2 < (l1.length : Int) := of_decide_eq_true (by first | (with_reducible assumption) | assumption)
                              obtain ⟨ad588, e588, hx588_0⟩ := Kd.at_int HR1.out a2 p588 q588
                              obtain rfl : ad580 = ad588 := (by injection e588)
                              replace p588 := eq_true p588
                              replace q588 := eq_true q588
                              go_wp2
                              repeat (go_quiet (fail); try go_wp2)
                              go_ret
                              exact ⟨by first | rfl | (simp; done) | (simp [*]; done), by repeat (first | exact Drawn0.refl _ | apply Drawn0.step)⟩
                            · rw [if_neg c20] at H
                              exact absurd H (by simp)
                          · rw [if_neg c19] at H
                            exact absurd H (by simp)
                        · rw [if_neg c18] at H
                          have c18b0 : (x10_2 == x9_1) = false := beq_eq_false_iff_ne.mpr c18
                          have c18b1 : (x10_2 != x9_1) = true := bne_iff_ne.mpr c18
                          have H' := Aside0.mk H
                          clear H
                          go_wp2
                          repeat (go_quiet (fail); try go_wp2)
                          go_roundg k2
                          case measure => have := HK1.out; have := HK2.out; omega
                          case rel => exact ⟨(x10_2), (by first | rfl | (simp; done) | (simp [*]; done)), H', ⟨by have := HK1.out; have := HK2.out; omega⟩, by repeat (first | exact Drawn0.refl _ | apply Drawn0.step)⟩
                · rw [if_neg c10] at H
                  have c10b0 : decide ((wrap64 (x9_1 + (rd l1 a2))) ≤ ((rd_T56 l0 a2).f1)) = false := decide_eq_false c10
                  clear c10
                  obtain rfl := Option.some.inj H
                  have p580 : 0 ≤ (a2 : Int) := of_decide_eq_true (by first | (with_reducible assumption) | assumption)
                  have q580 : a2 < (l1.length : Int) := of_decide_eq_true (by first | (with_reducible assumption) | assumption)
                  obtain ⟨ad580, e580, hx580_0⟩ := Kd.at_int HR1.out a2 p580 q580
                  cases e580
                  replace p580 := eq_true p580
                  replace q580 := eq_true q580
                  have p581 : 0 ≤ (a2 : Int) := of_decide_eq_true (by first | (with_reducible assumption) | assumption)
                  have q581 : a2 < (l0.length : Int) := of_decide_eq_true (by first | (with_reducible assumption) | assumption)
                  obtain ⟨ad581, e581, hx581_0, hx581_1, hx581_2⟩ := at_T56 HR0.out a2 p581 q581
                  obtain rfl : ad579 = ad581 := (by injection e581)
                  replace p581 := eq_true p581
                  replace q581 := eq_true q581
                  go_wp2
                  repeat (go_quiet (fail); try go_wp2)
                  go_ret
                  exact ⟨by first | rfl | (simp; done) | (simp [*]; done), by repeat (first | exact Drawn0.refl _ | apply Drawn0.step)⟩
              · rw [if_neg c9] at H
                exact absurd H (by simp)
            · rw [if_neg c8] at H
              exact absurd H (by simp)
          · rw [if_neg c7] at H
            exact absurd H (by simp)
    · rw [if_neg c6] at H
      exact absurd H (by simp)
  · rw [if_neg c5] at H
    exact absurd H (by simp)

end Go.Proofs.Ytgcjadhmkhpbnaa.P
-- Laid by a program of this work.
namespace Go.Proofs.Ytgcjadhmkhpbnaa.P
open Go.RowKit Go.Proofs.YtgcjadhmkhpbnaaW.PrintWords Go.Proofs.YtgcjadhmkhpbnaaW.PrintLast Go.Proofs.YtgcjadhmkhpbnaaW.PrintMore
attribute [local go_sem] max2_int min2_int max_two min_two max_three min_three max_four min_four   -- for this text's walks alone
set_option linter.unusedVariables false
set_option linter.unusedSimpArgs false

/-! ### impl_responses: function 93 -/
def impl_responses.l0 : Nat → List (S56) → List Int → List Int → List Int → List Int → Int → Int → Option (List Int)
  | 0, _, _, _, _, _, _, _ => none
  | k + 1, x0, x1, x2, x7, x13, x14, x15 => if x15 < x14 then (if 0 ≤ x15 then (if x15 < (x13.length : Int) then (if x15 ≤ (x2.length : Int) then ((impl_response.f k x0 x1 (rd x13 x15) (x2.take (x15 : Int).toNat)).bind fun t594 => (if 0 ≤ (rd x13 x15) then (if (rd x13 x15) < (x7.length : Int) then (impl_responses.l0 k x0 x1 x2 (x7.set ((rd x13 x15) : Int).toNat t594) x13 x14 (wrap64 (x15 + 1))) else (none)) else (none))) else (none)) else (none)) else (none)) else (some x7)
def impl_responses.f (k : Nat) (l0 : List (S56)) (l1 : List Int) (l2 : List Int) : Option (List Int) := if 0 ≤ (l0.length : Int) then (if ((l0.length : Int) : Int).toNat ≤ 35184372088832 then (impl_responses.l0 k l0 l1 l2 (List.replicate ((l0.length : Int) : Int).toNat 0) l2 (l2.length : Int) 0) else (none)) else (none)
theorem impl_responses.mono_l : ∀ k, (∀ y0 y1 y2 y3 y4 y5 y6, LeO (impl_responses.l0 k y0 y1 y2 y3 y4 y5 y6) (impl_responses.l0 (k + 1) y0 y1 y2 y3 y4 y5 y6))
  | 0 => fun _ _ _ _ _ _ _ r h => by simp [impl_responses.l0] at h
  | k + 1 => by
    have ih0 := impl_responses.mono_l k
    · intro y0 y1 y2 y3 y4 y5 y6
      unfold impl_responses.l0
      repeat' first
      | (with_reducible exact ih0 _ _ _ _ _ _ _)
      | (with_reducible exact impl_response.mono _ _ _ _ _)
      | (with_reducible exact LeO.refl _)
      | (with_reducible exact LeO.none _)
      | (with_reducible refine LeO.ite ?_ ?_)
      | (with_reducible refine LeO.bind ?_ (fun _ => ?_))
      | exact ih0 _ _ _ _ _ _ _
      | exact impl_response.mono _ _ _ _ _
      | exact LeO.none _
      | refine LeO.ite ?_ ?_
      | refine LeO.bind ?_ (fun _ => ?_)
theorem impl_responses.mono : ∀ a0 a1 a2 k, LeO (impl_responses.f k a0 a1 a2) (impl_responses.f (k + 1) a0 a1 a2) := by
  intro a0 a1 a2 k
  have ih0 := impl_responses.mono_l k
  unfold impl_responses.f
  repeat' first
      | (with_reducible exact ih0 _ _ _ _ _ _ _)
      | (with_reducible exact impl_response.mono _ _ _ _ _)
      | (with_reducible exact LeO.refl _)
      | (with_reducible exact LeO.none _)
      | (with_reducible refine LeO.ite ?_ ?_)
      | (with_reducible refine LeO.bind ?_ (fun _ => ?_))
      | exact ih0 _ _ _ _ _ _ _
      | exact impl_response.mono _ _ _ _ _
      | exact LeO.none _
      | refine LeO.ite ?_ ?_
      | refine LeO.bind ?_ (fun _ => ?_)
set_option maxHeartbeats 8000000 in
set_option maxRecDepth 100000 in
theorem impl_responses.calls (k : Nat) (A0 : Option Addr) (c0 : Nat) (l0 : List (S56)) (A1 : Option Addr) (c1 : Nat) (l1 : List Int) (A2 : Option Addr) (c2 : Nat) (l2 : List Int) (r : List Int) (w : World) (hr0 : Kd.C k56 w A0 l0.length l0) (hc0 : l0.length ≤ c0) (hr1 : Kd.C (Kd.int .i64) w A1 l1.length l1) (hc1 : l1.length ≤ c1) (hr2 : Kd.C (Kd.int .i64) w A2 l2.length l2) (hc2 : l2.length ≤ c2) (h : impl_responses.f k l0 l1 l2 = some r) :
    Calls Try.prog 93 #[.slice A0 l0.length c0, .slice A1 l1.length c1, .slice A2 l2.length c2] w fun e w' => ∃ v0_ : Value, e = .returned (v0_) ∧ Kd.R (Kd.int .i64) 3 w' w.heap.size (fun _ => True) v0_ r ∧ Below w.heap.size w w' := by
  have HR0 := Aside0.mk hr0
  have HC0 := Aside0.mk hc0
  clear hr0 hc0
  have HR1 := Aside0.mk hr1
  have HC1 := Aside0.mk hc1
  clear hr1 hc1
  have HR2 := Aside0.mk hr2
  have HC2 := Aside0.mk hc2
  clear hr2 hc2
  have HB := Aside0.mk (Below.refl w.heap.size w)
  have H : (if 0 ≤ (l0.length : Int) then (if ((l0.length : Int) : Int).toNat ≤ 35184372088832 then (impl_responses.l0 k l0 l1 l2 (List.replicate ((l0.length : Int) : Int).toNat 0) l2 (l2.length : Int) 0) else (none)) else (none)) = some r := h
  clear h
  by_cases c4 : 0 ≤ (l0.length : Int)
  · rw [if_pos c4] at H
    have c4b0 := eq_true c4
    have c4b1 : decide (0 ≤ (l0.length : Int)) = true := decide_eq_true c4
    clear c4
    by_cases c5 : ((l0.length : Int) : Int).toNat ≤ 35184372088832
    · rw [if_pos c5] at H
      have c5b0 := eq_true c5
      have c5b1 : decide (((l0.length : Int) : Int).toNat ≤ 35184372088832) = true := decide_eq_true c5
      clear c5
      obtain ⟨y589, hy589⟩ : ∃ y_ : List Int, y_ = (List.replicate ((l0.length : Int) : Int).toNat 0) := ⟨_, rfl⟩
      replace H : (impl_responses.l0 k l0 l1 l2 y589 l2 (l2.length : Int) 0) = some r := by first | (rw [hy589]; with_reducible exact H) | (have H2_ := (Option.bind_some _ _).symm.trans H; rw [hy589]; with_reducible exact H2_) | (have H2_ := (Option.bind_some _ _).symm.trans H; with_reducible exact H2_) | with_reducible exact H | (rw [hy589]; exact H) | exact H
      have Ny589 := Aside0.mk hy589
      clear hy589
      have H' := Aside0.mk H
      clear H
      go_enter Try.func93, Try.ntmps93
      go_wp2_with (first | ((with_reducible refine gate_dst (N := 12) rfl ?_); refine Kd.R_make (Kd.int .i64) _ 3 rfl (N := 12) rfl 29 _ _ rfl (l0.length : Int) rfl rfl Try.underlying29 (.int .i64 0) 8 info3 rfl (by decide) (by omega) 0 (ok := fun _ => True) (okp := fun _ => True) rfl (fun _ hk => hk) trivial (of_decide_eq_true (by first | (with_reducible assumption) | assumption)) (Nat.le_trans (Nat.mul_le_mul_right _ (of_decide_eq_true (by first | (with_reducible assumption) | assumption) : (l0.length : Int).toNat ≤ 35184372088832)) (by omega)) (Below.refl _ _) (Nat.le_refl _) ?_; intro v590 w6 ho7 hb hg_ hnew_; clear hg_ hnew_; (first | rw [← Ny589.out] at ho7 | (simp only [Int.reduceToNat] at ho7; rw [← Ny589.out] at ho7)); have n0_ := Aside0.mk (Kd.R_lower ho7 (below_size (by repeat (first | (with_reducible first | exact HB.out | apply below_alloc | apply pw_below_drewN | apply below_drew1) | exact HB.out)))); have n1_ := Aside0.mk (below_step (by repeat (first | (with_reducible first | exact HB.out | apply below_alloc | apply pw_below_drewN | apply below_drew1) | exact HB.out)) hb); clear HB; have HO591 := n0_; have HB := n1_; clear n0_ n1_; clear hb ho7))
      go_loopg [15] k (fun kq v15 w' => ∃ (x7_1 : List Int) (x15_1 : Int), v15 = .int .i64 x15_1 ∧ Aside0 (impl_responses.l0 kq l0 l1 l2 x7_1 l2 (l2.length : Int) x15_1 = some r) ∧ Aside0 (kq ≤ k) ∧ Aside0 (Kd.R (Kd.int .i64) 3 w' w.heap.size (fun _ => True) v590 x7_1) ∧ Aside0 (Below w.heap.size w w'))
      case atStart => exact ⟨(y589), (0), (by first | rfl | (simp; done) | (simp [*]; done)), H', ⟨Nat.le_refl _⟩, ⟨by (with_reducible repeat (first | apply Kd.R_alloc | apply Kd.R_drewN | apply Kd.R_drew)); exact HO591.out⟩, ⟨by repeat (first | (with_reducible first | exact HB.out | apply below_alloc | apply pw_below_drewN | apply below_drew1) | exact HB.out)⟩⟩
      case round =>
        clear H'
        try clear c1
        try clear c2
        try clear p2
        try clear c4
        try clear c4b0
        try clear c4b1
        try clear c5
        try clear c5b0
        try clear c5b1
        obtain ⟨x7_1, x15_1, rfl, HA, HK1, HO_7, HB⟩ := hrel
        cases gk with
        | zero => exact absurd HA.out (by simp [impl_responses.l0])
        | succ k1 =>
          have H := HA.out
          clear HA
          simp only [impl_responses.l0] at H
          by_cases c8 : x15_1 < (l2.length : Int)
          · rw [if_pos c8] at H
            have c8b0 : decide (x15_1 < (l2.length : Int)) = true := decide_eq_true c8
            clear c8
            by_cases c9 : 0 ≤ x15_1
            · rw [if_pos c9] at H
              have c9b0 : decide (0 ≤ x15_1) = true := decide_eq_true c9
              clear c9
              by_cases c10 : x15_1 < (l2.length : Int)
              · rw [if_pos c10] at H
                have c10b0 : decide (x15_1 < (l2.length : Int)) = true := decide_eq_true c10
                clear c10
                have c11b0 := eq_true (of_decide_eq_true (by first | (with_reducible assumption) | assumption) : 0 ≤ x15_1)
                by_cases c12 : x15_1 ≤ (l2.length : Int)
                · rw [if_pos c12] at H
                  have c12b0 := eq_true c12
                  have c12b1 : decide (x15_1 ≤ (l2.length : Int)) = true := decide_eq_true c12
                  clear c12
                  replace H := Option.bind_eq_some_iff.mp H
                  obtain ⟨t594, A130, H⟩ := H
                  replace H : (if 0 ≤ (rd l2 x15_1) then (if (rd l2 x15_1) < (x7_1.length : Int) then (impl_responses.l0 k1 l0 l1 l2 (x7_1.set ((rd l2 x15_1) : Int).toNat t594) l2 (l2.length : Int) (wrap64 (x15_1 + 1))) else (none)) else (none)) = some r := H
                  have A13 := Aside0.mk A130
                  clear A130
                  by_cases c14 : 0 ≤ (rd l2 x15_1)
                  · rw [if_pos c14] at H
                    have c14b0 : decide (0 ≤ (rd l2 x15_1)) = true := decide_eq_true c14
                    clear c14
                    by_cases c15 : (rd l2 x15_1) < (x7_1.length : Int)
                    · rw [if_pos c15] at H
                      have c15b0 : decide ((rd l2 x15_1) < (x7_1.length : Int)) = true := decide_eq_true c15
                      clear c15
                      obtain ⟨y595, hy595⟩ : ∃ y_ : List Int, y_ = (x7_1.set ((rd l2 x15_1) : Int).toNat t594) := ⟨_, rfl⟩
                      replace H : (impl_responses.l0 k1 l0 l1 l2 y595 l2 (l2.length : Int) (wrap64 (x15_1 + 1))) = some r := by first | (rw [hy595]; with_reducible exact H) | (have H2_ := (Option.bind_some _ _).symm.trans H; rw [hy595]; with_reducible exact H2_) | (have H2_ := (Option.bind_some _ _).symm.trans H; with_reducible exact H2_) | with_reducible exact H | (rw [hy595]; exact H) | exact H
                      have Ny595 := Aside0.mk hy595
                      clear hy595
                      have H' := Aside0.mk H
                      clear H
                      have p592 : 0 ≤ (x15_1 : Int) := of_decide_eq_true (by first | (with_reducible assumption) | assumption)
                      have q592 : x15_1 < (l2.length : Int) := of_decide_eq_true (by first | (with_reducible assumption) | assumption)
                      obtain ⟨ad592, e592, hx592_0⟩ := Kd.at_int HR2.out x15_1 p592 q592
                      cases e592
                      replace hx592_0 := (HB.out.cell (World.block_lt_of_cell? w _ hx592_0)).trans hx592_0
                      replace p592 := eq_true p592
                      replace q592 := eq_true q592
                      obtain ⟨i017, hi017, _, hsz17, _⟩ := info_parts info3
                      obtain ⟨hcut17, hA17, hC17⟩ := print_take_of (P := Try.prog) (Value.int .i64) 0 29 3 .i64 Try.underlying29 hi017 hsz17 (some ad592) c2 l2 x15_1 (of_decide_eq_true (by first | (with_reducible assumption) | assumption)) (of_decide_eq_true (by first | (with_reducible assumption) | assumption)) HC2.out
                      have HR593 := Aside0.mk (Kd.C_of_reads (h1 := fun _ => rfl) (hA17 _ (Kd.reads_of_C HR2.out)))
                      have HC593 := Aside0.mk hC17
                      clear hA17 hC17 hi017 hsz17
                      go_wp2_with (first | ((with_reducible refine gate_callee (f := 91) rfl ?_); refine goesL_ (some 28) rfl rfl Try.func91 (by kernel_rfl) rfl #[.slice A0 l0.length c0, .slice A1 l1.length c1, .int .i64 (rd l2 x15_1), .slice (some ad592) (l2.take (x15_1 : Int).toNat).length c2] rfl (by (try simp only [List.map_toArray, List.map_cons, List.map_nil]); first | done | (rw [show (l2.take (x15_1 : Int).toNat).length = x15_1.toNat from (by rw [List.length_take]; have h_ : (x15_1 : Int) ≤ (l2.length : Int) := of_decide_eq_true (by first | (with_reducible assumption) | assumption); omega)] <;> rfl) | rfl | (simp only [List.length_drop, List.length_take]; rfl)) ?_; (with_reducible refine (impl_response.calls k1 _ _ l0 _ _ l1 (rd l2 x15_1) _ _ (l2.take (x15_1 : Int).toNat) t594 _ ?side1 ?side2 ?side3 ?side4 ?side5 ?side6 A13.out).mono ?_); (case side1 => repeat (first | exact (Kd.C_below HR0.out HB.out) | (with_reducible refine Kd.C_alloc ?_ _) | (with_reducible refine Kd.C_drewN ?_ _) | (with_reducible refine Kd.C_drew ?_))); (case side2 => exact HC0.out); (case side3 => repeat (first | exact (Kd.C_below HR1.out HB.out) | (with_reducible refine Kd.C_alloc ?_ _) | (with_reducible refine Kd.C_drewN ?_ _) | (with_reducible refine Kd.C_drew ?_))); (case side4 => exact HC1.out); (case side5 => repeat (first | exact (Kd.C_below HR593.out HB.out) | (with_reducible refine Kd.C_alloc ?_ _) | (with_reducible refine Kd.C_drewN ?_ _) | (with_reducible refine Kd.C_drew ?_))); (case side6 => exact HC593.out); rintro e w' ⟨rfl, ⟨nd, rfl⟩⟩; refine ⟨_, rfl, ?_⟩; (try (rw [drewN_self wr]; generalize hq_ : World.drewN wr _ = wr; have n0_ : Aside0 (Kd.R (Kd.int .i64) 3 wr w.heap.size (fun _ => True) v590 x7_1) := ⟨by rw [← hq_]; exact (by (with_reducible repeat (first | apply Kd.R_alloc | apply Kd.R_drewN | apply Kd.R_drew)); exact HO_7.out)⟩; have n1_ : Aside0 (Below w.heap.size w wr) := ⟨by rw [← hq_]; exact (by repeat (first | (with_reducible first | exact HB.out | apply below_alloc | apply pw_below_drewN | apply below_drew1) | exact HB.out))⟩; clear HO_7 HB hq_; have HO_7 := n0_; have HB := n1_; clear n0_ n1_)); have p16 : 0 ≤ ((rd l2 x15_1) : Int) := of_decide_eq_true (by first | (with_reducible assumption) | assumption); have q16 : ((rd l2 x15_1) : Int) < ((x7_1.length : Int) : Int) := of_decide_eq_true (by first | (with_reducible assumption) | assumption); obtain ⟨go16, co16, eo16, gb16, gl16, cl16, HG16⟩ := Kd.R_form HO_7.out (by omega); (first | cases eo16 | (injection eo16 with ea_ en_ ec_; (first | subst ea_ | (injection ea_ with ea_; subst ea_)); subst ec_; clear en_)); have GB16 := Aside0.mk gb16; have GG16 := Aside0.mk HG16; clear gb16 gl16 HG16; obtain ⟨hx16_0, hf16_0⟩ := Kd.R_celln 0 HO_7.out ((rd l2 x15_1) : Int) p16 q16; replace p16 := eq_true p16; replace q16 := eq_true q16; obtain ⟨hy18_, hz18_⟩ := Kd.R_celln 0 HO_7.out ((rd l2 x15_1) : Int) (of_decide_eq_true (by first | (with_reducible assumption) | assumption)) (of_decide_eq_true (by first | (with_reducible assumption) | assumption)); have HP18 := Kd.R_putg HO_7.out ((rd l2 x15_1) : Int) t594) | ((with_reducible refine gate_store (t := 3) (p := 29) rfl ?_); refine store_event (t := 3) (p := 29) (v := ?vo_w19) (w1 := (wr.setCell ⟨go16, ((rd l2 x15_1) : Int).toNat, none⟩ (.int .i64 t594))) ?hg ?ho ?hn ?hr ?_; (case ho => rfl); (case hg => rfl); (case hn => rfl); (case hr => first | (go_simp; done) | (go_simp; rfl)); intro w19 hw; have hg : wr.grownBy w19 (some go16) := (by rw [hw]; exact HP18.2); have hp_ : Kd.R (Kd.int .i64) 3 w19 w.heap.size (fun _ => True) (.slice (some ⟨go16, 0, none⟩) x7_1.length co16) y595 := (by rw [hw, Ny595.out]; exact HP18.1); clear HP18; have n0_ := Aside0.mk (hp_); have n1_ := Aside0.mk ((by rw [hw]; exact below_set (HB.out) GB16.out : Below w.heap.size w w19)); clear HO_7; clear HB; have HO_7 := n0_; have HB := n1_; clear n0_ n1_; clear hg hw hp_))
                      go_roundg k1
                      case measure => have := HK1.out; omega
                      case rel => exact ⟨(y595), (wrap64 (x15_1 + 1)), (by first | rfl | (simp; done) | (simp [*]; done)), H', ⟨by have := HK1.out; omega⟩, ⟨by (with_reducible repeat (first | apply Kd.R_alloc | apply Kd.R_drewN | apply Kd.R_drew)); exact HO_7.out⟩, ⟨by repeat (first | (with_reducible first | exact HB.out | apply below_alloc | apply pw_below_drewN | apply below_drew1) | exact HB.out)⟩⟩
                    · rw [if_neg c15] at H
                      exact absurd H (by simp)
                  · rw [if_neg c14] at H
                    exact absurd H (by simp)
                · rw [if_neg c12] at H
                  exact absurd H (by simp)
              · rw [if_neg c10] at H
                exact absurd H (by simp)
            · rw [if_neg c9] at H
              exact absurd H (by simp)
          · rw [if_neg c8] at H
            have c8b0 : decide (x15_1 < (l2.length : Int)) = false := decide_eq_false c8
            clear c8
            obtain rfl := Option.some.inj H
            go_wp2
            go_ret
            exact ⟨_, by first | rfl | (simp [errW_none, errW_some] <;> rfl) | (simp [*, errW_none, errW_some] <;> rfl), by (with_reducible repeat (first | apply Kd.R_alloc | apply Kd.R_drewN | apply Kd.R_drew)); exact HO_7.out, by repeat (first | (with_reducible first | exact HB.out | apply below_alloc | apply pw_below_drewN | apply below_drew1) | exact HB.out)⟩
    · rw [if_neg c5] at H
      exact absurd H (by simp)
  · rw [if_neg c4] at H
    exact absurd H (by simp)

end Go.Proofs.Ytgcjadhmkhpbnaa.P
-- Laid by a program of this work.
namespace Go.Proofs.Ytgcjadhmkhpbnaa.P
open Go.RowKit Go.Proofs.YtgcjadhmkhpbnaaW.PrintWords Go.Proofs.YtgcjadhmkhpbnaaW.PrintLast Go.Proofs.YtgcjadhmkhpbnaaW.PrintMore
attribute [local go_sem] max2_int min2_int max_two min_two max_three min_three max_four min_four   -- for this text's walks alone
set_option linter.unusedVariables false
set_option linter.unusedSimpArgs false

/-! ### impl_ResponseTimes: function 48 -/
def impl_ResponseTimes.f (k : Nat) (l0 : List (S56)) (l1 : List Int) : Option (List Int) := (impl_OrderValid.f k l0 l1).bind fun t596 => (if t596 = true then (if 0 ≤ (l0.length : Int) then (if ((l0.length : Int) : Int).toNat ≤ 35184372088832 then ((impl_responses.f k l0 (List.replicate ((l0.length : Int) : Int).toNat 0) l1).bind fun t600 => (some t600)) else (none)) else (none)) else (some ([] : List Int)))
theorem impl_ResponseTimes.mono : ∀ a0 a1 k, LeO (impl_ResponseTimes.f k a0 a1) (impl_ResponseTimes.f (k + 1) a0 a1) := by
  intro a0 a1 k
  unfold impl_ResponseTimes.f
  repeat' first
      | (with_reducible exact impl_OrderValid.mono _ _ _)
      | (with_reducible exact impl_responses.mono _ _ _ _)
      | (with_reducible exact LeO.refl _)
      | (with_reducible exact LeO.none _)
      | (with_reducible refine LeO.ite ?_ ?_)
      | (with_reducible refine LeO.bind ?_ (fun _ => ?_))
      | exact impl_OrderValid.mono _ _ _
      | exact impl_responses.mono _ _ _ _
      | exact LeO.none _
      | refine LeO.ite ?_ ?_
      | refine LeO.bind ?_ (fun _ => ?_)
set_option maxHeartbeats 8000000 in
set_option maxRecDepth 100000 in
theorem impl_ResponseTimes.calls (k : Nat) (A0 : Option Addr) (c0 : Nat) (l0 : List (S56)) (A1 : Option Addr) (c1 : Nat) (l1 : List Int) (r : List Int) (w : World) (hr0 : Kd.C k56 w A0 l0.length l0) (hc0 : l0.length ≤ c0) (hr1 : Kd.C (Kd.int .i64) w A1 l1.length l1) (hc1 : l1.length ≤ c1) (h : impl_ResponseTimes.f k l0 l1 = some r) :
    Calls Try.prog 48 #[.slice A0 l0.length c0, .slice A1 l1.length c1] w fun e w' => ∃ v0_ : Value, e = .returned (v0_) ∧ Kd.R (Kd.int .i64) 3 w' w.heap.size (fun _ => True) v0_ r ∧ Below w.heap.size w w' := by
  have HR0 := Aside0.mk hr0
  have HC0 := Aside0.mk hc0
  clear hr0 hc0
  have HR1 := Aside0.mk hr1
  have HC1 := Aside0.mk hc1
  clear hr1 hc1
  have HB := Aside0.mk (Below.refl w.heap.size w)
  have H : ((impl_OrderValid.f k l0 l1).bind fun t596 => (if t596 = true then (if 0 ≤ (l0.length : Int) then (if ((l0.length : Int) : Int).toNat ≤ 35184372088832 then ((impl_responses.f k l0 (List.replicate ((l0.length : Int) : Int).toNat 0) l1).bind fun t600 => (some t600)) else (none)) else (none)) else (some ([] : List Int)))) = some r := h
  clear h
  replace H := Option.bind_eq_some_iff.mp H
  obtain ⟨t596, A30, H⟩ := H
  replace H : (if t596 = true then (if 0 ≤ (l0.length : Int) then (if ((l0.length : Int) : Int).toNat ≤ 35184372088832 then ((impl_responses.f k l0 (List.replicate ((l0.length : Int) : Int).toNat 0) l1).bind fun t600 => (some t600)) else (none)) else (none)) else (some ([] : List Int))) = some r := H
  have A3 := Aside0.mk A30
  clear A30
  by_cases c4 : t596 = true
  · subst c4
    have H1 : (if 0 ≤ (l0.length : Int) then (if ((l0.length : Int) : Int).toNat ≤ 35184372088832 then ((impl_responses.f k l0 (List.replicate ((l0.length : Int) : Int).toNat 0) l1).bind fun t600 => (some t600)) else (none)) else (none)) = some r := by rw [if_pos rfl] at H; exact H
    clear H
    have H := H1
    clear H1
    by_cases c5 : 0 ≤ (l0.length : Int)
    · rw [if_pos c5] at H
      have c5b0 := eq_true c5
      have c5b1 : decide (0 ≤ (l0.length : Int)) = true := decide_eq_true c5
      clear c5
      by_cases c6 : ((l0.length : Int) : Int).toNat ≤ 35184372088832
      · rw [if_pos c6] at H
        have c6b0 := eq_true c6
        have c6b1 : decide (((l0.length : Int) : Int).toNat ≤ 35184372088832) = true := decide_eq_true c6
        clear c6
        obtain ⟨y597, hy597⟩ : ∃ y_ : List Int, y_ = (List.replicate ((l0.length : Int) : Int).toNat 0) := ⟨_, rfl⟩
        replace H : ((impl_responses.f k l0 y597 l1).bind fun t600 => (some t600)) = some r := by first | (rw [hy597]; with_reducible exact H) | (have H2_ := (Option.bind_some _ _).symm.trans H; rw [hy597]; with_reducible exact H2_) | (have H2_ := (Option.bind_some _ _).symm.trans H; with_reducible exact H2_) | with_reducible exact H | (rw [hy597]; exact H) | exact H
        have Ny597 := Aside0.mk hy597
        clear hy597
        replace H := Option.bind_eq_some_iff.mp H
        obtain ⟨t600, A70, H⟩ := H
        replace H : (some t600) = some r := H
        have A7 := Aside0.mk A70
        clear A70
        obtain rfl := Option.some.inj H
        go_enter Try.func48, Try.ntmps48
        go_wp2_with (first | ((with_reducible refine gate_callee (f := 57) rfl ?_); refine goesL_ (some 7) rfl rfl Try.func57 (by kernel_rfl) rfl #[.slice A0 l0.length c0, .slice A1 l1.length c1] rfl (by (try simp only [List.map_toArray, List.map_cons, List.map_nil]); first | done | rfl | (simp only [List.length_drop, List.length_take]; rfl)) ?_; (with_reducible refine (impl_OrderValid.calls k _ _ l0 _ _ l1 true _ ?side1 ?side2 ?side3 ?side4 A3.out).mono ?_); (case side1 => repeat (first | exact HR0.out | (with_reducible refine Kd.C_alloc ?_ _) | (with_reducible refine Kd.C_drewN ?_ _) | (with_reducible refine Kd.C_drew ?_))); (case side2 => exact HC0.out); (case side3 => repeat (first | exact HR1.out | (with_reducible refine Kd.C_alloc ?_ _) | (with_reducible refine Kd.C_drewN ?_ _) | (with_reducible refine Kd.C_drew ?_))); (case side4 => exact HC1.out); rintro e w8 ⟨rfl, hb⟩; refine ⟨_, rfl, ?_⟩; have n0_ := Aside0.mk (below_step (by repeat (first | (with_reducible first | exact HB.out | apply below_alloc | apply pw_below_drewN | apply below_drew1) | exact HB.out)) hb); clear HB; have HB := n0_; clear n0_; (try clear hb); (try clear hb2); (try clear hk); (try clear hi)) | ((with_reducible refine gate_dst (N := 12) rfl ?_); refine Kd.R_make (Kd.int .i64) _ 3 rfl (N := 12) rfl 29 _ _ rfl (l0.length : Int) rfl rfl Try.underlying29 (.int .i64 0) 8 info3 rfl (by decide) (by omega) 0 (ok := fun _ => True) (okp := fun _ => True) rfl (fun _ hk => hk) trivial (of_decide_eq_true (by first | (with_reducible assumption) | assumption)) (Nat.le_trans (Nat.mul_le_mul_right _ (of_decide_eq_true (by first | (with_reducible assumption) | assumption) : (l0.length : Int).toNat ≤ 35184372088832)) (by omega)) (Below.refl _ _) (Nat.le_refl _) ?_; intro v598 w9 ho10 hb hg_ hnew_; clear hg_ hnew_; (first | rw [← Ny597.out] at ho10 | (simp only [Int.reduceToNat] at ho10; rw [← Ny597.out] at ho10)); have n0_ := Aside0.mk (Kd.R_lower ho10 (below_size (by repeat (first | (with_reducible first | exact HB.out | apply below_alloc | apply pw_below_drewN | apply below_drew1) | exact HB.out)))); have n1_ := Aside0.mk (below_step (by repeat (first | (with_reducible first | exact HB.out | apply below_alloc | apply pw_below_drewN | apply below_drew1) | exact HB.out)) hb); clear HB; have HO599 := n0_; have HB := n1_; clear n0_ n1_; clear hb ho10; obtain ⟨Ao11, co11, eo11⟩ := Kd.R_slice HO599.out; subst eo11) | ((with_reducible refine gate_callee (f := 93) rfl ?_); refine goesL_ (some 14) rfl rfl Try.func93 (by kernel_rfl) rfl #[.slice A0 l0.length c0, .slice Ao11 y597.length co11, .slice A1 l1.length c1] rfl (by (try simp only [List.map_toArray, List.map_cons, List.map_nil]); first | done | rfl | (simp only [List.length_drop, List.length_take]; rfl)) ?_; (with_reducible refine (impl_responses.calls k _ _ l0 _ _ y597 _ _ l1 t600 _ ?side1 ?side2 ?side3 ?side4 ?side5 ?side6 A7.out).mono ?_); (case side1 => repeat (first | exact (Kd.C_below HR0.out HB.out) | (with_reducible refine Kd.C_alloc ?_ _) | (with_reducible refine Kd.C_drewN ?_ _) | (with_reducible refine Kd.C_drew ?_))); (case side2 => exact HC0.out); (case side3 => repeat (first | exact (Kd.R_reads' HO599.out).2.2 | (with_reducible refine Kd.C_alloc ?_ _) | (with_reducible refine Kd.C_drewN ?_ _) | (with_reducible refine Kd.C_drew ?_))); (case side4 => exact (Kd.R_reads' HO599.out).2.1); (case side5 => repeat (first | exact (Kd.C_below HR1.out HB.out) | (with_reducible refine Kd.C_alloc ?_ _) | (with_reducible refine Kd.C_drewN ?_ _) | (with_reducible refine Kd.C_drew ?_))); (case side6 => exact HC1.out); rintro e w12 ⟨v601, rfl, ho0, hb⟩; refine ⟨_, rfl, ?_⟩; have n0_ := Aside0.mk (Kd.R_elder' (by (with_reducible repeat (first | apply Kd.R_alloc | apply Kd.R_drewN | apply Kd.R_drew)); exact HO599.out) (Kd.R_base ho0) hb); have n1_ := Aside0.mk (Kd.R_lower (Kd.R_new' ho0 (Kd.R_lt (by (with_reducible repeat (first | apply Kd.R_alloc | apply Kd.R_drewN | apply Kd.R_drew)); exact HO599.out))) (below_size (by repeat (first | (with_reducible first | exact HB.out | apply below_alloc | apply pw_below_drewN | apply below_drew1) | exact HB.out)))); have n2_ := Aside0.mk (below_step (by repeat (first | (with_reducible first | exact HB.out | apply below_alloc | apply pw_below_drewN | apply below_drew1) | exact HB.out)) hb); clear HO599; clear HB; have HO599 := n0_; have HO602 := n1_; have HB := n2_; clear n0_ n1_ n2_; (try clear hb); (try clear hb2); (try clear hk); (try clear hi); (try clear ho0)))
        go_ret
        exact ⟨_, by first | rfl | (simp [errW_none, errW_some] <;> rfl) | (simp [*, errW_none, errW_some] <;> rfl), by (with_reducible repeat (first | apply Kd.R_alloc | apply Kd.R_drewN | apply Kd.R_drew)); exact Kd.R_mono HO602.out (fun _ hk => trivial), by repeat (first | (with_reducible first | exact HB.out | apply below_alloc | apply pw_below_drewN | apply below_drew1) | exact HB.out)⟩
      · rw [if_neg c6] at H
        exact absurd H (by simp)
    · rw [if_neg c5] at H
      exact absurd H (by simp)
  · replace c4 := Bool.eq_false_iff.mpr c4
    subst c4
    have H1 : (some ([] : List Int)) = some r := by rw [if_neg (show ¬ (false = true) by decide)] at H; exact H
    clear H
    have H := H1
    clear H1
    obtain rfl := Option.some.inj H
    go_enter Try.func48, Try.ntmps48
    go_wp2_with (first | ((with_reducible refine gate_callee (f := 57) rfl ?_); refine goesL_ (some 7) rfl rfl Try.func57 (by kernel_rfl) rfl #[.slice A0 l0.length c0, .slice A1 l1.length c1] rfl (by (try simp only [List.map_toArray, List.map_cons, List.map_nil]); first | done | rfl | (simp only [List.length_drop, List.length_take]; rfl)) ?_; (with_reducible refine (impl_OrderValid.calls k _ _ l0 _ _ l1 false _ ?side1 ?side2 ?side3 ?side4 A3.out).mono ?_); (case side1 => repeat (first | exact HR0.out | (with_reducible refine Kd.C_alloc ?_ _) | (with_reducible refine Kd.C_drewN ?_ _) | (with_reducible refine Kd.C_drew ?_))); (case side2 => exact HC0.out); (case side3 => repeat (first | exact HR1.out | (with_reducible refine Kd.C_alloc ?_ _) | (with_reducible refine Kd.C_drewN ?_ _) | (with_reducible refine Kd.C_drew ?_))); (case side4 => exact HC1.out); rintro e w13 ⟨rfl, hb⟩; refine ⟨_, rfl, ?_⟩; have n0_ := Aside0.mk (below_step (by repeat (first | (with_reducible first | exact HB.out | apply below_alloc | apply pw_below_drewN | apply below_drew1) | exact HB.out)) hb); clear HB; have HB := n0_; clear n0_; (try clear hb); (try clear hb2); (try clear hk); (try clear hi)))
    go_ret
    exact ⟨_, by first | rfl | (simp [errW_none, errW_some] <;> rfl) | (simp [*, errW_none, errW_some] <;> rfl), by first | exact Kd.R_nil _ _ _ _ _ | exact Kd.N_nil _ _ _ _ _ | exact Kd.V_nil _ _ _ _ _ | exact Kd.Q_nil _ _ _ _ _ | exact Kd.S_nil _ _ _ _ _, by repeat (first | (with_reducible first | exact HB.out | apply below_alloc | apply pw_below_drewN | apply below_drew1) | exact HB.out)⟩

end Go.Proofs.Ytgcjadhmkhpbnaa.P
-- Laid by a program of this work.
namespace Go.Proofs.Ytgcjadhmkhpbnaa.P
open Go.RowKit Go.Proofs.YtgcjadhmkhpbnaaW.PrintWords Go.Proofs.YtgcjadhmkhpbnaaW.PrintLast Go.Proofs.YtgcjadhmkhpbnaaW.PrintMore
attribute [local go_sem] max2_int min2_int max_two min_two max_three min_three max_four min_four   -- for this text's walks alone
set_option linter.unusedVariables false
set_option linter.unusedSimpArgs false

/-! ### slices_Contains_int_int: function 81 -/
def slices_Contains_int_int.f (k : Nat) (l0 : List Int) (a1 : Int) : Option (Bool) := (slices_Index_int_int.f k l0 a1).bind fun t603 => (some (decide (t603 ≥ 0)))
theorem slices_Contains_int_int.mono : ∀ a0 a1 k, LeO (slices_Contains_int_int.f k a0 a1) (slices_Contains_int_int.f (k + 1) a0 a1) := by
  intro a0 a1 k
  unfold slices_Contains_int_int.f
  repeat' first
      | (with_reducible exact slices_Index_int_int.mono _ _ _)
      | (with_reducible exact LeO.refl _)
      | (with_reducible exact LeO.none _)
      | (with_reducible refine LeO.ite ?_ ?_)
      | (with_reducible refine LeO.bind ?_ (fun _ => ?_))
      | exact slices_Index_int_int.mono _ _ _
      | exact LeO.none _
      | refine LeO.ite ?_ ?_
      | refine LeO.bind ?_ (fun _ => ?_)
set_option maxHeartbeats 8000000 in
set_option maxRecDepth 100000 in
theorem slices_Contains_int_int.calls (k : Nat) (A0 : Option Addr) (c0 : Nat) (l0 : List Int) (a1 : Int) (r : Bool) (w : World) (hr0 : Kd.C (Kd.int .i64) w A0 l0.length l0) (hc0 : l0.length ≤ c0) (h : slices_Contains_int_int.f k l0 a1 = some r) :
    Calls Try.prog 81 #[.slice A0 l0.length c0, .int .i64 a1] w fun e w' => e = .returned (.bool r) ∧ Drawn0 w w' := by
  have HR0 := Aside0.mk hr0
  have HC0 := Aside0.mk hc0
  clear hr0 hc0
  have H : ((slices_Index_int_int.f k l0 a1).bind fun t603 => (some (decide (t603 ≥ 0)))) = some r := h
  clear h
  replace H := Option.bind_eq_some_iff.mp H
  obtain ⟨t603, A30, H⟩ := H
  replace H : (some (decide (t603 ≥ 0))) = some r := H
  have A3 := Aside0.mk A30
  clear A30
  obtain rfl := Option.some.inj H
  go_enter Try.func81, Try.ntmps81
  go_wp2_with (first | ((with_reducible refine gate_callee (f := 98) rfl ?_); refine goesL_ (some 7) rfl rfl Try.func98 (by kernel_rfl) rfl #[.slice A0 l0.length c0, .int .i64 a1] rfl (by (try simp only [List.map_toArray, List.map_cons, List.map_nil]); first | done | rfl | (simp only [List.length_drop, List.length_take]; rfl)) ?_; (with_reducible refine (slices_Index_int_int.calls k _ _ l0 a1 t603 _ ?side1 ?side2 A3.out).mono ?_); (case side1 => repeat (first | exact HR0.out | (with_reducible refine Kd.C_alloc ?_ _) | (with_reducible refine Kd.C_drewN ?_ _) | (with_reducible refine Kd.C_drew ?_))); (case side2 => exact HC0.out); rintro e w' ⟨rfl, ⟨nd, rfl⟩⟩; refine ⟨_, rfl, ?_⟩))
  go_ret
  exact ⟨by first | rfl | (simp; done) | (simp [*]; done), by repeat (first | exact Drawn0.refl _ | apply Drawn0.step)⟩

end Go.Proofs.Ytgcjadhmkhpbnaa.P
-- Laid by a program of this work.
namespace Go.Proofs.Ytgcjadhmkhpbnaa.P
open Go.RowKit Go.Proofs.YtgcjadhmkhpbnaaW.PrintWords Go.Proofs.YtgcjadhmkhpbnaaW.PrintLast Go.Proofs.YtgcjadhmkhpbnaaW.PrintMore
attribute [local go_sem] max2_int min2_int max_two min_two max_three min_three max_four min_four   -- for this text's walks alone
set_option linter.unusedVariables false
set_option linter.unusedSimpArgs false

/-! ### impl_FixedFeasible: function 42 -/
def impl_FixedFeasible.f (k : Nat) (l0 : List (S56)) (l1 : List Int) : Option (Bool) := (impl_OrderValid.f k l0 l1).bind fun t604 => (if t604 = true then ((impl_ResponseTimes.f k l0 l1).bind fun t605 => ((slices_Contains_int_int.f k t605 (-1)).bind fun t608 => (some (!t608)))) else (some false))
theorem impl_FixedFeasible.mono : ∀ a0 a1 k, LeO (impl_FixedFeasible.f k a0 a1) (impl_FixedFeasible.f (k + 1) a0 a1) := by
  intro a0 a1 k
  unfold impl_FixedFeasible.f
  repeat' first
      | (with_reducible exact impl_OrderValid.mono _ _ _)
      | (with_reducible exact impl_ResponseTimes.mono _ _ _)
      | (with_reducible exact slices_Contains_int_int.mono _ _ _)
      | (with_reducible exact LeO.refl _)
      | (with_reducible exact LeO.none _)
      | (with_reducible refine LeO.ite ?_ ?_)
      | (with_reducible refine LeO.bind ?_ (fun _ => ?_))
      | exact impl_OrderValid.mono _ _ _
      | exact impl_ResponseTimes.mono _ _ _
      | exact slices_Contains_int_int.mono _ _ _
      | exact LeO.none _
      | refine LeO.ite ?_ ?_
      | refine LeO.bind ?_ (fun _ => ?_)
set_option maxHeartbeats 8000000 in
set_option maxRecDepth 100000 in
theorem impl_FixedFeasible.calls (k : Nat) (A0 : Option Addr) (c0 : Nat) (l0 : List (S56)) (A1 : Option Addr) (c1 : Nat) (l1 : List Int) (r : Bool) (w : World) (hr0 : Kd.C k56 w A0 l0.length l0) (hc0 : l0.length ≤ c0) (hr1 : Kd.C (Kd.int .i64) w A1 l1.length l1) (hc1 : l1.length ≤ c1) (h : impl_FixedFeasible.f k l0 l1 = some r) :
    Calls Try.prog 42 #[.slice A0 l0.length c0, .slice A1 l1.length c1] w fun e w' => e = .returned (.bool r) ∧ Below w.heap.size w w' := by
  have HR0 := Aside0.mk hr0
  have HC0 := Aside0.mk hc0
  clear hr0 hc0
  have HR1 := Aside0.mk hr1
  have HC1 := Aside0.mk hc1
  clear hr1 hc1
  have HB := Aside0.mk (Below.refl w.heap.size w)
  have H : ((impl_OrderValid.f k l0 l1).bind fun t604 => (if t604 = true then ((impl_ResponseTimes.f k l0 l1).bind fun t605 => ((slices_Contains_int_int.f k t605 (-1)).bind fun t608 => (some (!t608)))) else (some false))) = some r := h
  clear h
  replace H := Option.bind_eq_some_iff.mp H
  obtain ⟨t604, A30, H⟩ := H
  replace H : (if t604 = true then ((impl_ResponseTimes.f k l0 l1).bind fun t605 => ((slices_Contains_int_int.f k t605 (-1)).bind fun t608 => (some (!t608)))) else (some false)) = some r := H
  have A3 := Aside0.mk A30
  clear A30
  by_cases c4 : t604 = true
  · subst c4
    have H1 : ((impl_ResponseTimes.f k l0 l1).bind fun t605 => ((slices_Contains_int_int.f k t605 (-1)).bind fun t608 => (some (!t608)))) = some r := by rw [if_pos rfl] at H; exact H
    clear H
    have H := H1
    clear H1
    replace H := Option.bind_eq_some_iff.mp H
    obtain ⟨t605, A50, H⟩ := H
    replace H : ((slices_Contains_int_int.f k t605 (-1)).bind fun t608 => (some (!t608))) = some r := H
    have A5 := Aside0.mk A50
    clear A50
    replace H := Option.bind_eq_some_iff.mp H
    obtain ⟨t608, A60, H⟩ := H
    replace H : (some (!t608)) = some r := H
    have A6 := Aside0.mk A60
    clear A60
    obtain rfl := Option.some.inj H
    go_enter Try.func42, Try.ntmps42
    go_wp2_with (first | ((with_reducible refine gate_callee (f := 57) rfl ?_); refine goesL_ (some 7) rfl rfl Try.func57 (by kernel_rfl) rfl #[.slice A0 l0.length c0, .slice A1 l1.length c1] rfl (by (try simp only [List.map_toArray, List.map_cons, List.map_nil]); first | done | rfl | (simp only [List.length_drop, List.length_take]; rfl)) ?_; (with_reducible refine (impl_OrderValid.calls k _ _ l0 _ _ l1 true _ ?side1 ?side2 ?side3 ?side4 A3.out).mono ?_); (case side1 => repeat (first | exact HR0.out | (with_reducible refine Kd.C_alloc ?_ _) | (with_reducible refine Kd.C_drewN ?_ _) | (with_reducible refine Kd.C_drew ?_))); (case side2 => exact HC0.out); (case side3 => repeat (first | exact HR1.out | (with_reducible refine Kd.C_alloc ?_ _) | (with_reducible refine Kd.C_drewN ?_ _) | (with_reducible refine Kd.C_drew ?_))); (case side4 => exact HC1.out); rintro e w7 ⟨rfl, hb⟩; refine ⟨_, rfl, ?_⟩; have n0_ := Aside0.mk (below_step (by repeat (first | (with_reducible first | exact HB.out | apply below_alloc | apply pw_below_drewN | apply below_drew1) | exact HB.out)) hb); clear HB; have HB := n0_; clear n0_; (try clear hb); (try clear hb2); (try clear hk); (try clear hi)) | (go_at_call 48; (with_reducible refine (impl_ResponseTimes.calls k _ _ l0 _ _ l1 t605 _ ?side1 ?side2 ?side3 ?side4 A5.out).mono ?_); (case side1 => repeat (first | exact (Kd.C_below HR0.out HB.out) | (with_reducible refine Kd.C_alloc ?_ _) | (with_reducible refine Kd.C_drewN ?_ _) | (with_reducible refine Kd.C_drew ?_))); (case side2 => exact HC0.out); (case side3 => repeat (first | exact (Kd.C_below HR1.out HB.out) | (with_reducible refine Kd.C_alloc ?_ _) | (with_reducible refine Kd.C_drewN ?_ _) | (with_reducible refine Kd.C_drew ?_))); (case side4 => exact HC1.out); rintro e w8 ⟨v606, rfl, ho0, hb⟩; have n0_ := Aside0.mk (Kd.R_lower ho0 (below_size (by repeat (first | (with_reducible first | exact HB.out | apply below_alloc | apply pw_below_drewN | apply below_drew1) | exact HB.out)))); have n1_ := Aside0.mk (below_step (by repeat (first | (with_reducible first | exact HB.out | apply below_alloc | apply pw_below_drewN | apply below_drew1) | exact HB.out)) hb); clear HB; have HO607 := n0_; have HB := n1_; clear n0_ n1_; (try clear hb); (try clear hb2); (try clear hk); (try clear hi); (try clear ho0); obtain ⟨Ao9, co9, eo9⟩ := Kd.R_slice HO607.out; subst eo9) | (go_at_call 81; (with_reducible refine (slices_Contains_int_int.calls k _ _ t605 (-1) t608 _ ?side1 ?side2 A6.out).mono ?_); (case side1 => repeat (first | exact (Kd.R_reads' HO607.out).2.2 | (with_reducible refine Kd.C_alloc ?_ _) | (with_reducible refine Kd.C_drewN ?_ _) | (with_reducible refine Kd.C_drew ?_))); (case side2 => exact (Kd.R_reads' HO607.out).2.1); rintro e w' ⟨rfl, ⟨nd, rfl⟩⟩))
    go_ret
    exact ⟨by first | rfl | (simp [errW_none, errW_some] <;> rfl) | (simp [*, errW_none, errW_some] <;> rfl), by repeat (first | (with_reducible first | exact HB.out | apply below_alloc | apply pw_below_drewN | apply below_drew1) | exact HB.out)⟩
  · replace c4 := Bool.eq_false_iff.mpr c4
    subst c4
    have H1 : (some false) = some r := by rw [if_neg (show ¬ (false = true) by decide)] at H; exact H
    clear H
    have H := H1
    clear H1
    obtain rfl := Option.some.inj H
    go_enter Try.func42, Try.ntmps42
    go_wp2_with (first | ((with_reducible refine gate_callee (f := 57) rfl ?_); refine goesL_ (some 7) rfl rfl Try.func57 (by kernel_rfl) rfl #[.slice A0 l0.length c0, .slice A1 l1.length c1] rfl (by (try simp only [List.map_toArray, List.map_cons, List.map_nil]); first | done | rfl | (simp only [List.length_drop, List.length_take]; rfl)) ?_; (with_reducible refine (impl_OrderValid.calls k _ _ l0 _ _ l1 false _ ?side1 ?side2 ?side3 ?side4 A3.out).mono ?_); (case side1 => repeat (first | exact HR0.out | (with_reducible refine Kd.C_alloc ?_ _) | (with_reducible refine Kd.C_drewN ?_ _) | (with_reducible refine Kd.C_drew ?_))); (case side2 => exact HC0.out); (case side3 => repeat (first | exact HR1.out | (with_reducible refine Kd.C_alloc ?_ _) | (with_reducible refine Kd.C_drewN ?_ _) | (with_reducible refine Kd.C_drew ?_))); (case side4 => exact HC1.out); rintro e w10 ⟨rfl, hb⟩; refine ⟨_, rfl, ?_⟩; have n0_ := Aside0.mk (below_step (by repeat (first | (with_reducible first | exact HB.out | apply below_alloc | apply pw_below_drewN | apply below_drew1) | exact HB.out)) hb); clear HB; have HB := n0_; clear n0_; (try clear hb); (try clear hb2); (try clear hk); (try clear hi)))
    go_ret
    exact ⟨by first | rfl | (simp [errW_none, errW_some] <;> rfl) | (simp [*, errW_none, errW_some] <;> rfl), by repeat (first | (with_reducible first | exact HB.out | apply below_alloc | apply pw_below_drewN | apply below_drew1) | exact HB.out)⟩

end Go.Proofs.Ytgcjadhmkhpbnaa.P
-- Laid by a program of this work.
namespace Go.Proofs.Ytgcjadhmkhpbnaa.P
open Go.RowKit Go.Proofs.YtgcjadhmkhpbnaaW.PrintWords Go.Proofs.YtgcjadhmkhpbnaaW.PrintLast Go.Proofs.YtgcjadhmkhpbnaaW.PrintMore
attribute [local go_sem] max2_int min2_int max_two min_two max_three min_three max_four min_four   -- for this text's walks alone
set_option linter.unusedVariables false
set_option linter.unusedSimpArgs false

-- by hand
/-- Two neighbours exchanged. -/
def swl (l : List Int) (j : Nat) : List Int := (l.set (j + 1) (rd l (j : Int))).set j (rd l ((j : Int) + 1))
/-- The inner loop of the insertion sort, from place j down. -/
def inn (cf : Int → Int → Int) : Nat → List Int → List Int
  | 0, l => l
  | j + 1, l => if cf (rd l ((j : Int) + 1)) (rd l (j : Int)) < 0 then inn cf j (swl l j) else l
/-- The outer loop: d rounds, from place i up. -/
def outr (cf : Int → Int → Int) : Nat → Nat → List Int → List Int
  | 0, _, l => l
  | d + 1, i, l => outr cf d (i + 1) (inn cf i l)
def isort (cf : Int → Int → Int) (l : List Int) : List Int := outr cf (l.length - 1) 1 l
theorem rdOf_mem (l : List Int) (j : Nat) (h : j < l.length) : rdOf 0 l (j : Int) ∈ l := by
  unfold rdOf
  rw [List.getD_eq_getElem?_getD, Int.toNat_natCast, List.getElem?_eq_getElem h]
  exact List.getElem_mem h
theorem swl_mem (l : List Int) (j : Nat) (h : j + 1 < l.length) : ∀ x ∈ swl l j, x ∈ l := by
  intro x hx
  unfold swl at hx
  have h0 : rd l (j : Int) ∈ l := rdOf_mem l j (by omega)
  have h1 : rd l ((j : Int) + 1) ∈ l := rdOf_mem l (j + 1) h
  rcases List.mem_or_eq_of_mem_set hx with hx | rfl
  · rcases List.mem_or_eq_of_mem_set hx with hx | rfl
    · exact hx
    · exact h0
  · exact h1
theorem swl_length (l : List Int) (j : Nat) : (swl l j).length = l.length := by simp [swl]
set_option maxHeartbeats 4000000 in
set_option maxRecDepth 100000 in
/-- slices.insertionSortCmpFunc at int, whatever the comparison. -/
theorem insSort_calls (cf : Int → Int → Int) (g : Nat) (lb : Array Value) (eg : ∀ args w, (callFunc g args).run Try.prog w = .ok (.enter g args) w) (B : Nat) (ok : Nat → Prop) (A : Option Addr) (c : Nat) (l : List Int) (w : World)
    (G : Int → Prop) (hG : ∀ x ∈ l, G x) (hp : ∀ (W : World) (x y : Int), G x → G y → Below B w W → Calls Try.prog g (#[.int .i64 x, .int .i64 y] ++ lb) W fun e w' => e = .returned (.int .i64 (cf x y)) ∧ ∃ q, w' = W.drewN q)
    (hR : Kd.R (Kd.int .i64) 3 w B ok (.slice A l.length c) l) (hl : 0 < l.length) (hmax : l.length ≤ 1000000) (hB : B ≤ w.heap.size) :
    Calls Try.prog 109 #[.slice A l.length c, .int .i64 0, .int .i64 l.length, .func (.func g) #[] lb] w fun e w' => e = .returned (.tuple #[]) ∧ Kd.R (Kd.int .i64) 3 w' B ok (.slice A l.length c) (isort cf l) ∧ Below B w w' := by
  obtain ⟨gb, cap, eo, hgb, _, _, _⟩ := Kd.R_form hR hl
  injection eo with ea en ec
  subst ea
  subst ec
  clear en
  have GB := Aside0.mk hgb
  have HP := Aside0.mk hp
  have HG := Aside0.mk hG
  have HR := Aside0.mk hR
  have HBz := Aside0.mk hB
  clear hp hR hgb hB hG
  go_enter Try.func109, Try.ntmps109
  go_wp2
  go_loopg [8] l.length (fun gg vi wr => ∃ (i : Nat) (dk : List Int), vi = .int .i64 i ∧ 1 ≤ i ∧ i ≤ l.length ∧ l.length - i ≤ gg ∧ Aside0 (dk.length = l.length ∧ ∀ x ∈ dk, G x) ∧ Aside0 (Kd.R (Kd.int .i64) 3 wr B ok (.slice (some ⟨gb, 0, none⟩) l.length c) dk) ∧ Aside0 (Below B w wr) ∧ Aside0 (outr cf (l.length - i) i dk = isort cf l))
  case atStart => exact ⟨1, l, by go_num, by omega, by omega, by omega, ⟨rfl, HG.out⟩, HR, ⟨Below.refl _ _⟩, ⟨rfl⟩⟩
  case round =>
    obtain ⟨i, dk, rfl, hi1, hil, hgg, DL, DR, DB, DO⟩ := hrel
    by_cases hlt : i < l.length
    · have hltz : (i : Int) < (l.length : Int) := by omega
      go_wp2
      go_loopg [9] i (fun g2 vj wr2 => ∃ (j : Nat) (dj : List Int), vj = .int .i64 j ∧ j ≤ i ∧ j ≤ g2 ∧ Aside0 (dj.length = l.length ∧ ∀ x ∈ dj, G x) ∧ Aside0 (Kd.R (Kd.int .i64) 3 wr2 B ok (.slice (some ⟨gb, 0, none⟩) l.length c) dj) ∧ Aside0 (Below B w wr2) ∧ Aside0 (inn cf j dj = inn cf i dk))
      case atStart => exact ⟨i, dk, rfl, Nat.le_refl _, Nat.le_refl _, DL, DR, DB, ⟨rfl⟩⟩
      case round =>
        obtain ⟨j, dj, rfl, hji, hg2, JL, JR, JB, JI⟩ := hrel
        have out : inn cf j dj = dj → outr cf (l.length - (i + 1)) (i + 1) dj = isort cf l := fun hs => by
          rw [← DO.out, show l.length - i = (l.length - (i + 1)) + 1 by omega, outr, ← JI.out, hs]
        have OUT := Aside0.mk out
        clear out
        cases j with
        | zero =>
          go_wp2_with fail
          go_big_region
          all_goals go_wp2
          go_roundg (l.length - (i + 1))
          case measure => omega
          case rel => exact ⟨i + 1, dj, by go_num, by omega, by omega, by omega, JL, ⟨Kd.R_drew JR.out⟩, ⟨below_drew1 JB.out⟩, ⟨OUT.out (by rw [inn])⟩⟩
        | succ jp =>
          have jz : (jp : Int) + 1 < (l.length : Int) := by omega
          have jz1 : (jp : Int) < (l.length : Int) := by omega
          have hwp : IntKind.i64.wrap (jp : Int) = (jp : Int) := by rw [IntKind.wrap_i64]; omega
          have p0 : (0 : Int) ≤ (jp : Int) + 1 := by omega
          have p1 : (0 : Int) < (jp : Int) + 1 := by omega
          have e0 : ((jp : Int) + 1).toNat = jp + 1 := by omega
          obtain ⟨cj, fj⟩ := Kd.R_celln 0 JR.out ((jp : Int) + 1) p0 jz
          obtain ⟨cp, fp⟩ := Kd.R_celln 0 JR.out (jp : Int) (by omega) jz1
          rw [e0] at cj fj
          rw [Int.toNat_natCast] at cp fp
          have hc : ∀ n : Nat, Calls Try.prog g (#[.int .i64 (rdOf 0 dj ((jp : Int) + 1)), .int .i64 (rdOf 0 dj (jp : Int))] ++ lb) (wr.drewN n) fun e w' => e = .returned (.int .i64 (cf (rdOf 0 dj ((jp : Int) + 1)) (rdOf 0 dj (jp : Int)))) ∧ ∃ q, w' = (wr.drewN n).drewN q := fun n => HP.out _ _ _ (JL.out.2 _ (by have := rdOf_mem dj (jp + 1) (by have := JL.out.1; omega); simpa using this)) (JL.out.2 _ (rdOf_mem dj jp (by have := JL.out.1; omega))) (pw_below_drewN JB.out n)
          obtain ⟨xj, hxj⟩ : ∃ x, rdOf 0 dj ((jp : Int) + 1) = x := ⟨_, rfl⟩
          obtain ⟨xp, hxp⟩ : ∃ x, rdOf 0 dj (jp : Int) = x := ⟨_, rfl⟩
          rw [hxj] at cj hc
          rw [hxp] at cp hc
          have XJ := Aside0.mk hxj
          have XP := Aside0.mk hxp
          clear hxj hxp
          by_cases hlv : cf xj xp < 0
          · go_wp2_with fail
            go_quiet (first | (go_at_fn g; refine Calls.quiet_of (hc _)))
            go_wp2_with fail
            have JR2 := Aside0.mk (Kd.R_drewN JR.out nq)
            have JB2 := Aside0.mk (pw_below_drewN JB.out nq)
            have cj2 : (wr.drewN nq).cell? ⟨gb, jp + 1, none⟩ = some (.int .i64 xj) := cj
            have cp2 : (wr.drewN nq).cell? ⟨gb, jp, none⟩ = some (.int .i64 xp) := cp
            have fj2 : (wr.drewN nq).frozen? ⟨gb, jp + 1, none⟩ = false := fj
            have fp2 : (wr.drewN nq).frozen? ⟨gb, jp, none⟩ = false := fp
            clear cj cp fj fp hc JR JB
            generalize wr.drewN nq = wq2 at JR2 JB2 cj2 cp2 fj2 fp2 ⊢
            obtain ⟨j1, hj1⟩ : ∃ j1, j1 = jp + 1 := ⟨_, rfl⟩
            rw [← hj1] at cj2 fj2 e0
            have J1 := Aside0.mk hj1
            clear hj1
            go_big_region
            all_goals go_wp2
            go_roundg jp
            case measure => omega
            case rel =>
              refine ⟨jp, swl dj jp, by first | rfl | go_num | (congr 1; omega), by omega, Nat.le_refl _, ⟨by rw [swl_length]; exact JL.out.1, fun x hx => JL.out.2 x (swl_mem dj jp (by have := JL.out.1; omega) x hx)⟩, ⟨?_⟩, ⟨?_⟩, ⟨?_⟩⟩
              · have h1 := (Kd.R_putg (Kd.R_drew JR2.out) (((jp + 1 : Nat)) : Int) xp).1
                have h2 := (Kd.R_putg h1 (jp : Int) xj).1
                rw [Int.toNat_natCast, Int.toNat_natCast] at h2
                rw [J1.out]
                have e : swl dj jp = (dj.set (jp + 1) xp).set jp xj := by unfold swl; rw [← show rd dj ((jp : Int) + 1) = xj from XJ.out, ← show rd dj (jp : Int) = xp from XP.out]
                rw [e]
                exact h2
              · exact ((below_drew1 JB2.out).setCell GB.out _).setCell GB.out _
              · rw [← JI.out, inn, if_pos (by rw [show rd dj ((jp : Int) + 1) = xj from XJ.out, show rd dj (jp : Int) = xp from XP.out]; exact hlv)]
          · go_wp2_with fail
            go_quiet (first | (go_at_fn g; refine Calls.quiet_of (hc _)))
            go_wp2
            go_roundg (l.length - (i + 1))
            case measure => omega
            case rel => exact ⟨i + 1, dj, by go_num, by omega, by omega, by omega, JL, ⟨Kd.R_drewN JR.out _⟩, ⟨pw_below_drewN JB.out _⟩, ⟨OUT.out (by rw [inn]; exact if_neg (by rw [show rd dj ((jp : Int) + 1) = xj from XJ.out, show rd dj (jp : Int) = xp from XP.out]; omega))⟩⟩
    · have hltz : ¬ (i : Int) < (l.length : Int) := by omega
      go_wp2
      go_end0
      refine ⟨rfl, ?_, DB.out⟩
      have := DO.out
      rw [show l.length - i = 0 by omega, outr] at this
      rw [← this]
      exact DR.out
set_option maxHeartbeats 4000000 in
set_option maxRecDepth 100000 in
/-- slices.insertionSortCmpFunc at no element. -/
theorem insSort_none (cf : Int → Int → Int) (g : Nat) (lb : Array Value) (A : Option Addr) (c : Nat) (w : World) :
    Calls Try.prog 109 #[.slice A 0 c, .int .i64 0, .int .i64 0, .func (.func g) #[] lb] w fun e w' => e = .returned (.tuple #[]) ∧ w' = w ∧ isort cf [] = [] := by
  go_enter Try.func109, Try.ntmps109
  go_wp2
  go_loopg [8] 0 (fun _ vi wr => vi = .int .i64 1 ∧ wr = w)
  case atStart => exact ⟨by go_num, rfl⟩
  case round =>
    obtain ⟨rfl, rfl⟩ := hrel
    go_wp2
    go_end0
    exact ⟨rfl, rfl, rfl⟩
/-- The row behind a sort. -/
theorem insSort_any (cf : Int → Int → Int) (g : Nat) (lb : Array Value) (eg : ∀ args w, (callFunc g args).run Try.prog w = .ok (.enter g args) w) (B : Nat) (ok : Nat → Prop) (A : Option Addr) (c : Nat) (l : List Int) (w : World)
    (G : Int → Prop) (hG : ∀ x ∈ l, G x) (hp : ∀ (W : World) (x y : Int), G x → G y → Below B w W → Calls Try.prog g (#[.int .i64 x, .int .i64 y] ++ lb) W fun e w' => e = .returned (.int .i64 (cf x y)) ∧ ∃ q, w' = W.drewN q)
    (hR : Kd.R (Kd.int .i64) 3 w B ok (.slice A l.length c) l) (hmax : l.length ≤ 1000000) (hB : B ≤ w.heap.size) :
    Calls Try.prog 109 #[.slice A l.length c, .int .i64 0, .int .i64 l.length, .func (.func g) #[] lb] w fun e w' => e = .returned (.tuple #[]) ∧ Kd.R (Kd.int .i64) 3 w' B ok (.slice A l.length c) (isort cf l) ∧ Below B w w' := by
  rcases Nat.eq_zero_or_pos l.length with h0 | h0
  · obtain rfl := List.eq_nil_of_length_eq_zero h0
    refine (insSort_none cf g lb A c w).mono ?_
    rintro e w' ⟨rfl, rfl, he⟩
    rw [he]
    exact ⟨rfl, hR, Below.refl _ _⟩
  · exact insSort_calls cf g lb eg B ok A c l w G hG hp hR h0 hmax hB
set_option maxHeartbeats 4000000 in
set_option maxRecDepth 100000 in
/-- slices.stableCmpFunc at int, fewer than 20 elements. -/
theorem stable_calls (cf : Int → Int → Int) (g : Nat) (lb : Array Value) (eg : ∀ args w, (callFunc g args).run Try.prog w = .ok (.enter g args) w) (B : Nat) (ok : Nat → Prop) (A : Option Addr) (c : Nat) (l : List Int) (w : World)
    (G : Int → Prop) (hG : ∀ x ∈ l, G x) (hp : ∀ (W : World) (x y : Int), G x → G y → Below B w W → Calls Try.prog g (#[.int .i64 x, .int .i64 y] ++ lb) W fun e w' => e = .returned (.int .i64 (cf x y)) ∧ ∃ q, w' = W.drewN q)
    (hR : Kd.R (Kd.int .i64) 3 w B ok (.slice A l.length c) l) (hmax : l.length < 20) (hB : B ≤ w.heap.size) :
    Calls Try.prog 105 #[.slice A l.length c, .int .i64 l.length, .func (.func g) #[] lb] w fun e w' => e = .returned (.tuple #[]) ∧ Kd.R (Kd.int .i64) 3 w' B ok (.slice A l.length c) (isort cf l) ∧ Below B w w' := by
  have HC := Aside0.mk (fun W (hW : W = w) => insSort_any cf g lb eg B ok A c l W G hG (by subst hW; exact hp) (by subst hW; exact hR) (by omega) (by subst hW; exact hB))
  clear hp hR hB eg hG
  have h20 : ¬ (20 : Int) ≤ (l.length : Int) := by omega
  have h21 : ¬ (20 : Int) < (l.length : Int) := by omega
  go_enter Try.func105, Try.ntmps105
  go_wp2
  go_loopg [7, 8] 0 (fun _ va vb wr => va = .int .i64 0 ∧ vb = .int .i64 20 ∧ w = wr)
  case atStart => exact ⟨by go_num, by go_num, rfl⟩
  case round =>
    obtain ⟨rfl, rfl, rfl⟩ := hrel
    go_wp2_with (go_at_call 109; refine (HC.out _ rfl).mono ?_; rintro e w' ⟨rfl, hR', hB'⟩; have HR' := Aside0.mk hR'; have HB' := Aside0.mk hB'; clear hR' hB')
    go_loopg [6] 0 (fun _ va wr => va = .int .i64 20 ∧ Aside0 (Kd.R (Kd.int .i64) 3 wr B ok (.slice A l.length c) (isort cf l)) ∧ Aside0 (Below B w wr))
    case atStart => exact ⟨by go_num, HR', HB'⟩
    case round =>
      obtain ⟨rfl, R2, B2⟩ := hrel
      go_wp2
      go_end0
      exact ⟨rfl, R2.out, B2.out⟩
set_option maxHeartbeats 4000000 in
set_option maxRecDepth 100000 in
/-- slices.SortStableFunc at []int, fewer than 20 elements. -/
theorem sortStable_calls (cf : Int → Int → Int) (g : Nat) (lb : Array Value) (eg : ∀ args w, (callFunc g args).run Try.prog w = .ok (.enter g args) w) (B : Nat) (ok : Nat → Prop) (A : Option Addr) (c : Nat) (l : List Int) (w : World)
    (G : Int → Prop) (hG : ∀ x ∈ l, G x) (hp : ∀ (W : World) (x y : Int), G x → G y → Below B w W → Calls Try.prog g (#[.int .i64 x, .int .i64 y] ++ lb) W fun e w' => e = .returned (.int .i64 (cf x y)) ∧ ∃ q, w' = W.drewN q)
    (hR : Kd.R (Kd.int .i64) 3 w B ok (.slice A l.length c) l) (hmax : l.length < 20) (hB : B ≤ w.heap.size) :
    Calls Try.prog 83 #[.slice A l.length c, .func (.func g) #[] lb] w fun e w' => e = .returned (.tuple #[]) ∧ Kd.R (Kd.int .i64) 3 w' B ok (.slice A l.length c) (isort cf l) ∧ Below B w w' := by
  have HC := Aside0.mk (fun W (hW : W = w) => stable_calls cf g lb eg B ok A c l W G hG (by subst hW; exact hp) (by subst hW; exact hR) hmax (by subst hW; exact hB))
  clear hp hR hB eg hG
  go_enter Try.func83, Try.ntmps83
  go_wp2_with (go_at_call 105; refine (HC.out _ rfl).mono ?_; rintro e w' ⟨rfl, hR', hB'⟩; have HR' := Aside0.mk hR'; have HB' := Aside0.mk hB'; clear hR' hB')
  go_end0
  exact ⟨rfl, HR'.out, HB'.out⟩

end Go.Proofs.Ytgcjadhmkhpbnaa.P
-- Laid by a program of this work.
namespace Go.Proofs.Ytgcjadhmkhpbnaa.P
open Go.RowKit Go.Proofs.YtgcjadhmkhpbnaaW.PrintWords Go.Proofs.YtgcjadhmkhpbnaaW.PrintLast Go.Proofs.YtgcjadhmkhpbnaaW.PrintMore
attribute [local go_sem] max2_int min2_int max_two min_two max_three min_three max_four min_four   -- for this text's walks alone
set_option linter.unusedVariables false
set_option linter.unusedSimpArgs false

/-! ### impl_indices: function 82 -/
def impl_indices.l0 : Nat → List Int → Int → Int → Option (List Int)
  | 0, _, _, _ => none
  | k + 1, x3, x8, x9 => if x9 < x8 then (if 0 ≤ x9 then (if x9 < (x3.length : Int) then (impl_indices.l0 k (x3.set (x9 : Int).toNat x9) x8 (wrap64 (x9 + 1))) else (none)) else (none)) else (some x3)
def impl_indices.f (k : Nat) (a0 : Int) : Option (List Int) := if 0 ≤ a0 then (if (a0 : Int).toNat ≤ 35184372088832 then ((some (List.replicate (a0 : Int).toNat 0 : List Int)).bind fun y609 => (impl_indices.l0 k y609 (y609.length : Int) 0)) else (none)) else (none)
theorem impl_indices.mono_l : ∀ k, (∀ y0 y1 y2, LeO (impl_indices.l0 k y0 y1 y2) (impl_indices.l0 (k + 1) y0 y1 y2))
  | 0 => fun _ _ _ r h => by simp [impl_indices.l0] at h
  | k + 1 => by
    have ih0 := impl_indices.mono_l k
    · intro y0 y1 y2
      unfold impl_indices.l0
      repeat' first
      | (with_reducible exact ih0 _ _ _)
      | (with_reducible exact LeO.refl _)
      | (with_reducible exact LeO.none _)
      | (with_reducible refine LeO.ite ?_ ?_)
      | (with_reducible refine LeO.bind ?_ (fun _ => ?_))
      | exact ih0 _ _ _
      | exact LeO.none _
      | refine LeO.ite ?_ ?_
      | refine LeO.bind ?_ (fun _ => ?_)
theorem impl_indices.mono : ∀ a0 k, LeO (impl_indices.f k a0) (impl_indices.f (k + 1) a0) := by
  intro a0 k
  have ih0 := impl_indices.mono_l k
  unfold impl_indices.f
  repeat' first
      | (with_reducible exact ih0 _ _ _)
      | (with_reducible exact LeO.refl _)
      | (with_reducible exact LeO.none _)
      | (with_reducible refine LeO.ite ?_ ?_)
      | (with_reducible refine LeO.bind ?_ (fun _ => ?_))
      | exact ih0 _ _ _
      | exact LeO.none _
      | refine LeO.ite ?_ ?_
      | refine LeO.bind ?_ (fun _ => ?_)
set_option maxHeartbeats 8000000 in
set_option maxRecDepth 100000 in
theorem impl_indices.calls (k : Nat) (a0 : Int) (r : List Int) (w : World) (h : impl_indices.f k a0 = some r) :
    Calls Try.prog 82 #[.int .i64 a0] w fun e w' => ∃ v0_ : Value, e = .returned (v0_) ∧ Kd.R (Kd.int .i64) 3 w' w.heap.size (fun _ => True) v0_ r ∧ Below w.heap.size w w' := by
  have HB := Aside0.mk (Below.refl w.heap.size w)
  have H : (if 0 ≤ a0 then (if (a0 : Int).toNat ≤ 35184372088832 then ((some (List.replicate (a0 : Int).toNat 0 : List Int)).bind fun y609 => (impl_indices.l0 k y609 (y609.length : Int) 0)) else (none)) else (none)) = some r := h
  clear h
  by_cases c2 : 0 ≤ a0
  · rw [if_pos c2] at H
    have c2b0 := eq_true c2
    have c2b1 : decide (0 ≤ a0) = true := decide_eq_true c2
    clear c2
    by_cases c3 : (a0 : Int).toNat ≤ 35184372088832
    · rw [if_pos c3] at H
      have c3b0 := eq_true c3
      have c3b1 : decide ((a0 : Int).toNat ≤ 35184372088832) = true := decide_eq_true c3
      clear c3
      obtain ⟨y609, hy609⟩ : ∃ y_ : List Int, y_ = (List.replicate (a0 : Int).toNat 0) := ⟨_, rfl⟩
      replace H : (impl_indices.l0 k y609 (y609.length : Int) 0) = some r := by first | (rw [hy609]; with_reducible exact H) | (have H2_ := (Option.bind_some _ _).symm.trans H; rw [hy609]; with_reducible exact H2_) | (have H2_ := (Option.bind_some _ _).symm.trans H; with_reducible exact H2_) | with_reducible exact H | (rw [hy609]; exact H) | exact H
      have Ny609 := Aside0.mk hy609
      clear hy609
      have H' := Aside0.mk H
      clear H
      go_enter Try.func82, Try.ntmps82
      go_wp2_with (first | ((with_reducible refine gate_dst (N := 6) rfl ?_); refine Kd.R_make (Kd.int .i64) _ 3 rfl (N := 6) rfl 29 _ _ rfl a0 rfl rfl Try.underlying29 (.int .i64 0) 8 info3 rfl (by decide) (by omega) 0 (ok := fun _ => True) (okp := fun _ => True) rfl (fun _ hk => hk) trivial (of_decide_eq_true (by first | (with_reducible assumption) | assumption)) (Nat.le_trans (Nat.mul_le_mul_right _ (of_decide_eq_true (by first | (with_reducible assumption) | assumption) : a0.toNat ≤ 35184372088832)) (by omega)) (Below.refl _ _) (Nat.le_refl _) ?_; intro v610 w4 ho5 hb hg_ hnew_; clear hg_ hnew_; (first | rw [← Ny609.out] at ho5 | (simp only [Int.reduceToNat] at ho5; rw [← Ny609.out] at ho5)); have n0_ := Aside0.mk (Kd.R_lower ho5 (below_size (by repeat (first | (with_reducible first | exact HB.out | apply below_alloc | apply pw_below_drewN | apply below_drew1) | exact HB.out)))); have n1_ := Aside0.mk (below_step (by repeat (first | (with_reducible first | exact HB.out | apply below_alloc | apply pw_below_drewN | apply below_drew1) | exact HB.out)) hb); clear HB; have HO611 := n0_; have HB := n1_; clear n0_ n1_; clear hb ho5; obtain ⟨Ao6, co6, eo6⟩ := Kd.R_slice HO611.out; subst eo6))
      go_loopg [9] k (fun kq v9 w' => ∃ (x3_1 : List Int) (x9_1 : Int), v9 = .int .i64 x9_1 ∧ Aside0 (impl_indices.l0 kq x3_1 (y609.length : Int) x9_1 = some r) ∧ Aside0 (kq ≤ k) ∧ Aside0 (Kd.R (Kd.int .i64) 3 w' w.heap.size (fun _ => True) (.slice Ao6 y609.length co6) x3_1) ∧ Aside0 (Below w.heap.size w w'))
      case atStart => exact ⟨(y609), (0), (by first | rfl | (simp; done) | (simp only [IntKind.wrap_i64, wrap64]; done) | (simp [*]; done)), H', ⟨Nat.le_refl _⟩, ⟨by (with_reducible repeat (first | apply Kd.R_alloc | apply Kd.R_drewN | apply Kd.R_drew)); exact HO611.out⟩, ⟨by repeat (first | (with_reducible first | exact HB.out | apply below_alloc | apply pw_below_drewN | apply below_drew1) | exact HB.out)⟩⟩
      case round =>
        clear H'
        try clear c2
        try clear c2b0
        try clear c2b1
        try clear p2
        try clear c3
        try clear c3b0
        try clear c3b1
        obtain ⟨x3_1, x9_1, rfl, HA, HK1, HO_3, HB⟩ := hrel
        have hl3_1 := (Kd.R_reads' HO_3.out).1
        rw [hl3_1] at HO_3
        (try simp only [hl3_1])
        cases gk with
        | zero => exact absurd HA.out (by simp [impl_indices.l0])
        | succ k1 =>
          have H := HA.out
          clear HA
          simp only [impl_indices.l0] at H
          by_cases c7 : x9_1 < (y609.length : Int)
          · rw [if_pos c7] at H
            have c7b0 : decide (x9_1 < (y609.length : Int)) = true := decide_eq_true c7
            clear c7
            by_cases c8 : 0 ≤ x9_1
            · rw [if_pos c8] at H
              have c8b0 : decide (0 ≤ x9_1) = true := decide_eq_true c8
              clear c8
              by_cases c9 : x9_1 < (x3_1.length : Int)
              · rw [if_pos c9] at H
                have c9b0 : decide (x9_1 < (x3_1.length : Int)) = true := decide_eq_true c9
                clear c9
                obtain ⟨y612, hy612⟩ : ∃ y_ : List Int, y_ = (x3_1.set (x9_1 : Int).toNat x9_1) := ⟨_, rfl⟩
                replace H : (impl_indices.l0 k1 y612 (y609.length : Int) (wrap64 (x9_1 + 1))) = some r := by first | (rw [hy612]; with_reducible exact H) | (have H2_ := (Option.bind_some _ _).symm.trans H; rw [hy612]; with_reducible exact H2_) | (have H2_ := (Option.bind_some _ _).symm.trans H; with_reducible exact H2_) | with_reducible exact H | (rw [hy612]; exact H) | exact H
                have Ny612 := Aside0.mk hy612
                clear hy612
                have H' := Aside0.mk H
                clear H
                have p10 : 0 ≤ (x9_1 : Int) := of_decide_eq_true (by first | (with_reducible assumption) | assumption)
                have q10 : (x9_1 : Int) < ((x3_1.length : Int) : Int) := of_decide_eq_true (by first | (with_reducible assumption) | assumption)
                obtain ⟨go10, co10, eo10, gb10, gl10, cl10, HG10⟩ := Kd.R_form HO_3.out (by omega)
                (first | cases eo10 | (injection eo10 with ea_ en_ ec_; (first | subst ea_ | (injection ea_ with ea_; subst ea_)); subst ec_; clear en_))
                have GB10 := Aside0.mk gb10
                have GG10 := Aside0.mk HG10
                clear gb10 gl10 HG10
                obtain ⟨hx10_0, hf10_0⟩ := Kd.R_celln 0 HO_3.out (x9_1 : Int) p10 q10
                replace p10 := eq_true p10
                replace q10 := eq_true q10
                have HP11 := Kd.R_putg HO_3.out (x9_1 : Int) x9_1
                go_wp2_with (first | ((with_reducible refine gate_store (t := 3) (p := 15) rfl ?_); refine store_event (t := 3) (p := 15) (v := ?vo_w12) (w1 := (wr.setCell ⟨go10, (x9_1 : Int).toNat, none⟩ (.int .i64 x9_1))) ?hg ?ho ?hn ?hr ?_; (case ho => rfl); (case hg => rfl); (case hn => rfl); (case hr => first | (go_simp; done) | (go_simp; rfl)); intro w12 hw; have hg : wr.grownBy w12 (some go10) := (by rw [hw]; exact HP11.2); have hp_ : Kd.R (Kd.int .i64) 3 w12 w.heap.size (fun _ => True) (.slice (some ⟨go10, 0, none⟩) x3_1.length co6) y612 := (by rw [hw, Ny612.out]; exact HP11.1); clear HP11; have n0_ := Aside0.mk (hp_); have n1_ := Aside0.mk ((by rw [hw]; exact below_set (HB.out) GB10.out : Below w.heap.size w w12)); clear HO_3; clear HB; have HO_3 := n0_; have HB := n1_; clear n0_ n1_; clear hg hw hp_))
                (try simp only [← hl3_1])
                go_roundg k1
                case measure => have := HK1.out; omega
                case rel => exact ⟨(y612), (wrap64 (x9_1 + 1)), (by first | rfl | (simp; done) | (simp only [IntKind.wrap_i64, wrap64]; done) | (simp [*]; done)), H', ⟨by have := HK1.out; omega⟩, ⟨by (try simp only [hl3_1]); (with_reducible repeat (first | apply Kd.R_alloc | apply Kd.R_drewN | apply Kd.R_drew)); exact HO_3.out⟩, ⟨by repeat (first | (with_reducible first | exact HB.out | apply below_alloc | apply pw_below_drewN | apply below_drew1) | exact HB.out)⟩⟩
              · rw [if_neg c9] at H
                exact absurd H (by simp)
            · rw [if_neg c8] at H
              exact absurd H (by simp)
          · rw [if_neg c7] at H
            have c7b0 : decide (x9_1 < (y609.length : Int)) = false := decide_eq_false c7
            clear c7
            try simp only [hl3_1] at c7b0
            obtain rfl := Option.some.inj H
            go_wp2
            go_ret
            exact ⟨_, by first | rfl | (simp [errW_none, errW_some] <;> rfl) | (simp [*, errW_none, errW_some] <;> rfl), by (with_reducible repeat (first | apply Kd.R_alloc | apply Kd.R_drewN | apply Kd.R_drew)); exact HO_3.out, by repeat (first | (with_reducible first | exact HB.out | apply below_alloc | apply pw_below_drewN | apply below_drew1) | exact HB.out)⟩
    · rw [if_neg c3] at H
      exact absurd H (by simp)
  · rw [if_neg c2] at H
    exact absurd H (by simp)

end Go.Proofs.Ytgcjadhmkhpbnaa.P
-- Laid by a program of this work.
namespace Go.Proofs.Ytgcjadhmkhpbnaa.P
open Go.RowKit Go.Proofs.YtgcjadhmkhpbnaaW.PrintWords Go.Proofs.YtgcjadhmkhpbnaaW.PrintLast Go.Proofs.YtgcjadhmkhpbnaaW.PrintMore
attribute [local go_sem] max2_int min2_int max_two min_two max_three min_three max_four min_four   -- for this text's walks alone
set_option linter.unusedVariables false
set_option linter.unusedSimpArgs false

/-! ### impl_DeadlineMonotonic: function 43: by hand -/
/-- The closure of DeadlineMonotonic: the difference of two deadlines. -/
def dl_cmp (l0 : List S56) (a b : Int) : Int := IntKind.i64.wrap ((rd_T56 l0 a).f1 - (rd_T56 l0 b).f1)
set_option maxHeartbeats 4000000 in
set_option maxRecDepth 100000 in
theorem dl_cmp_calls (A0 : Option Addr) (c0 : Nat) (l0 : List S56) (w : World) (B : Addr) (hB : w.cell? B = some (.slice A0 l0.length c0)) (hr0 : Kd.C k56 w A0 l0.length l0) (a b : Int) (ha : 0 ≤ a ∧ a < (l0.length : Int)) (hb : 0 ≤ b ∧ b < (l0.length : Int)) :
    Calls Try.prog 84 (#[.int .i64 a, .int .i64 b] ++ #[.pointer (some B)]) w fun e w' => e = .returned (.int .i64 (dl_cmp l0 a b)) ∧ ∃ q, w' = w.drewN q := by
  obtain ⟨ad, ea, hx0, hx1, hx2⟩ := at_T56 hr0 a ha.1 ha.2
  obtain ⟨ad2, ea2, hy0, hy1, hy2⟩ := at_T56 hr0 b hb.1 hb.2
  cases ea
  cases ea2
  obtain ⟨ha0, ha1⟩ := ha
  obtain ⟨hb0, hb1⟩ := hb
  unfold dl_cmp
  clear hx0 hx2 hy0 hy2 hr0
  generalize (rd_T56 l0 a).f1 = x at hx1 ⊢
  generalize (rd_T56 l0 b).f1 = y at hy1 ⊢
  go_enter Try.func84, Try.ntmps84
  go_wp2_with fail
  go_big_region
  all_goals go_wp2
  go_ret
  refine ⟨?_, 1, rfl⟩
  rw [i64_w]
  rfl
def impl_DeadlineMonotonic.f (k : Nat) (l0 : List S56) : Option (List Int) := (impl_SetValid.f l0).bind fun t => (if t = true then ((impl_indices.f k (l0.length : Int)).bind fun y => (if y.length < 20 ∧ ∀ x ∈ y, 0 ≤ x ∧ x < (l0.length : Int) then (some (isort (dl_cmp l0) y)) else (none))) else (some []))
theorem impl_DeadlineMonotonic.mono : ∀ l0 k, LeO (impl_DeadlineMonotonic.f k l0) (impl_DeadlineMonotonic.f (k + 1) l0) := by
  intro l0 k
  unfold impl_DeadlineMonotonic.f
  refine LeO.bind (LeO.refl _) (fun t => LeO.ite (LeO.bind (impl_indices.mono _ _) (fun _ => LeO.refl _)) (LeO.refl _))
set_option maxHeartbeats 4000000 in
set_option maxRecDepth 100000 in
theorem impl_DeadlineMonotonic.calls (k : Nat) (A0 : Option Addr) (c0 : Nat) (l0 : List S56) (r : List Int) (w : World) (hr0 : Kd.C k56 w A0 l0.length l0) (hc0 : l0.length ≤ c0) (h : impl_DeadlineMonotonic.f k l0 = some r) :
    Calls Try.prog 43 #[.slice A0 l0.length c0] w fun e w' => ∃ v0_ : Value, e = .returned (v0_) ∧ Kd.R (Kd.int .i64) 3 w' w.heap.size (fun _ => True) v0_ r ∧ Below w.heap.size w w' := by
  have HR := Aside0.mk hr0
  have HC := Aside0.mk hc0
  unfold impl_DeadlineMonotonic.f at h
  cases hs : impl_SetValid.f l0 with
  | none => rw [hs] at h; simp at h
  | some t =>
    rw [hs] at h
    have HS := Aside0.mk hs
    clear hs hr0
    cases t with
    | false =>
      simp at h
      subst h
      go_enter Try.func43, Try.ntmps43
      go_wp2_with (go_at_call 52; refine (impl_SetValid.calls A0 c0 l0 false _ (Kd.C_alloc HR.out _) HC.out HS.out).mono ?_; rintro e w' ⟨rfl, hb⟩; have HB := Aside0.mk hb; clear hb)
      go_ret
      exact ⟨_, rfl, Kd.R_nil _ _ _ _ _, below_weaken (below_alloc (Below.refl _ _) _) (by simp) HB.out⟩
    | true =>
      simp only [Option.bind_some, if_true] at h
      cases hi : impl_indices.f k (l0.length : Int) with
      | none => rw [hi] at h; simp at h
      | some y =>
        rw [hi] at h
        simp only [Option.bind_some] at h
        have HI := Aside0.mk hi
        clear hi
        by_cases hy : y.length < 20 ∧ ∀ x ∈ y, 0 ≤ x ∧ x < (l0.length : Int)
        · rw [if_pos hy] at h
          obtain rfl := Option.some.inj h
          have HY := Aside0.mk hy
          clear hy h hc0
          go_enter Try.func43, Try.ntmps43
          go_wp2_with (first
            | (go_at_call 52; refine (impl_SetValid.calls A0 c0 l0 true _ (Kd.C_alloc HR.out _) HC.out HS.out).mono ?_; rintro e w' ⟨rfl, hb⟩; have HB := Aside0.mk hb; have hcell : w'.cell? ⟨w.heap.size, 0, none⟩ = some (.slice A0 l0.length c0) := (hb.cell (p := ⟨w.heap.size, 0, none⟩) (by simp)).trans (by simp); clear hb)
            | (go_at_call 82; refine (impl_indices.calls k (l0.length : Int) y _ HI.out).mono ?_; rintro e w2 ⟨v0_, rfl, hr, hb⟩; have HB2 := Aside0.mk hb; have HR2 := Aside0.mk hr; have hcell2 := (hb.cell (p := ⟨w.heap.size, 0, none⟩) (World.block_lt_of_cell? _ _ hcell)).trans hcell; clear hb hr; obtain ⟨A2, c2, ev⟩ := Kd.R_slice HR2.out; subst ev)
            | (go_at_call 83; refine (sortStable_calls (dl_cmp l0) 84 #[.pointer (some ⟨w.heap.size, 0, none⟩)] (enters_of Try.func84 (by kernel_rfl) rfl) w'.heap.size (fun _ => True) A2 c2 y _ (fun x => 0 ≤ x ∧ x < (l0.length : Int)) HY.out.2 ?_ HR2.out HY.out.1 HB2.out.size).mono ?_))
          · intro W x y hx hy hW
            have hb2 : Below w.heap.size w w' := below_weaken (below_alloc (Below.refl _ _) _) (by simp) HB.out
            have hb3 : Below w.heap.size w w2 := below_weaken hb2 hb2.size HB2.out
            have hb4 : Below w.heap.size w W := below_weaken hb3 hb2.size hW
            exact dl_cmp_calls A0 c0 l0 W ⟨w.heap.size, 0, none⟩ ((hW.cell (World.block_lt_of_cell? _ _ hcell)).trans hcell2) (Kd.C_below HR.out hb4) x y hx hy
          · rintro e w3 ⟨rfl, hr3, hb3⟩
            have HR3 := Aside0.mk hr3
            have HB3 := Aside0.mk hb3
            clear hr3 hb3
            go_wp2
            go_ret
            have hb2 : Below w.heap.size w w' := below_weaken (below_alloc (Below.refl _ _) _) (by simp) HB.out
            have hb3 : Below w.heap.size w w2 := below_weaken hb2 hb2.size HB2.out
            exact ⟨_, rfl, Kd.R_lower HR3.out hb2.size, below_weaken hb3 hb2.size HB3.out⟩
        · rw [if_neg hy] at h
          simp at h

end Go.Proofs.Ytgcjadhmkhpbnaa.P
-- Laid by a program of this work.
namespace Go.Proofs.Ytgcjadhmkhpbnaa.P
open Go.RowKit Go.Proofs.YtgcjadhmkhpbnaaW.PrintWords Go.Proofs.YtgcjadhmkhpbnaaW.PrintLast Go.Proofs.YtgcjadhmkhpbnaaW.PrintMore
attribute [local go_sem] max2_int min2_int max_two min_two max_three min_three max_four min_four   -- for this text's walks alone
set_option linter.unusedVariables false
set_option linter.unusedSimpArgs false

/-! ### laws_FnHyperbolic: function 12 -/
def laws_FnHyperbolic.l0 : Nat → List (S56) → Int → Option (Bool)
  | 0, _, _ => none
  | k + 1, x3, x5 => if x5 < (x3.length : Int) then ((laws_without.f x3 x5).bind fun t623 => ((impl_HyperbolicBound.f k t623).bind fun t626 => (if t626 = true then (laws_FnHyperbolic.l0 k x3 (wrap64 (x5 + 1))) else (some false)))) else ((impl_DeadlineMonotonic.f k x3).bind fun t619 => ((impl_FixedFeasible.f k x3 t619).bind fun t622 => (some t622)))
def laws_FnHyperbolic.f (k : Nat) (l0 : List Int) : Option (Bool) := if (l0.length : Int) > 1048576 then (some true) else ((spec_DrawHyperbolicBound.f k l0).bind fun t613 => ((impl_HyperbolicBound.f k t613).bind fun t616 => ((spec_HyperbolicBound.f k t613).bind fun t617 => (if (t616 != t617) = true then (some false) else (if t616 = true then (laws_FnHyperbolic.l0 k t613 0) else ((laws_alive.f).bind fun t618 => (some t618)))))))
theorem laws_FnHyperbolic.mono_l : ∀ k, (∀ y0 y1, LeO (laws_FnHyperbolic.l0 k y0 y1) (laws_FnHyperbolic.l0 (k + 1) y0 y1))
  | 0 => fun _ _ r h => by simp [laws_FnHyperbolic.l0] at h
  | k + 1 => by
    have ih0 := laws_FnHyperbolic.mono_l k
    · intro y0 y1
      unfold laws_FnHyperbolic.l0
      repeat' first
      | (with_reducible exact ih0 _ _)
      | (with_reducible exact impl_DeadlineMonotonic.mono _ _)
      | (with_reducible exact impl_FixedFeasible.mono _ _ _)
      | (with_reducible exact impl_HyperbolicBound.mono _ _)
      | (with_reducible exact spec_DrawHyperbolicBound.mono _ _)
      | (with_reducible exact spec_HyperbolicBound.mono _ _)
      | (with_reducible exact LeO.refl _)
      | (with_reducible exact LeO.none _)
      | (with_reducible refine LeO.ite ?_ ?_)
      | (with_reducible refine LeO.bind ?_ (fun _ => ?_))
      | exact ih0 _ _
      | exact impl_DeadlineMonotonic.mono _ _
      | exact impl_FixedFeasible.mono _ _ _
      | exact impl_HyperbolicBound.mono _ _
      | exact spec_DrawHyperbolicBound.mono _ _
      | exact spec_HyperbolicBound.mono _ _
      | exact LeO.none _
      | refine LeO.ite ?_ ?_
      | refine LeO.bind ?_ (fun _ => ?_)
theorem laws_FnHyperbolic.mono : ∀ a0 k, LeO (laws_FnHyperbolic.f k a0) (laws_FnHyperbolic.f (k + 1) a0) := by
  intro a0 k
  have ih0 := laws_FnHyperbolic.mono_l k
  unfold laws_FnHyperbolic.f
  repeat' first
      | (with_reducible exact ih0 _ _)
      | (with_reducible exact impl_DeadlineMonotonic.mono _ _)
      | (with_reducible exact impl_FixedFeasible.mono _ _ _)
      | (with_reducible exact impl_HyperbolicBound.mono _ _)
      | (with_reducible exact spec_DrawHyperbolicBound.mono _ _)
      | (with_reducible exact spec_HyperbolicBound.mono _ _)
      | (with_reducible exact LeO.refl _)
      | (with_reducible exact LeO.none _)
      | (with_reducible refine LeO.ite ?_ ?_)
      | (with_reducible refine LeO.bind ?_ (fun _ => ?_))
      | exact ih0 _ _
      | exact impl_DeadlineMonotonic.mono _ _
      | exact impl_FixedFeasible.mono _ _ _
      | exact impl_HyperbolicBound.mono _ _
      | exact spec_DrawHyperbolicBound.mono _ _
      | exact spec_HyperbolicBound.mono _ _
      | exact LeO.none _
      | refine LeO.ite ?_ ?_
      | refine LeO.bind ?_ (fun _ => ?_)
set_option maxHeartbeats 8000000 in
set_option maxRecDepth 100000 in
theorem laws_FnHyperbolic.calls (k : Nat) (A0 : Option Addr) (c0 : Nat) (l0 : List Int) (r : Bool) (w : World) (hr0 : Kd.C (Kd.int .u8) w A0 l0.length l0) (hc0 : l0.length ≤ c0) (h : laws_FnHyperbolic.f k l0 = some r) :
    Calls Try.prog 12 #[.slice A0 l0.length c0] w fun e w' => e = .returned (.bool r) ∧ Below w.heap.size w w' := by
  have HR0 := Aside0.mk hr0
  have HC0 := Aside0.mk hc0
  clear hr0 hc0
  have HB := Aside0.mk (Below.refl w.heap.size w)
  have H : (if (l0.length : Int) > 1048576 then (some true) else ((spec_DrawHyperbolicBound.f k l0).bind fun t613 => ((impl_HyperbolicBound.f k t613).bind fun t616 => ((spec_HyperbolicBound.f k t613).bind fun t617 => (if (t616 != t617) = true then (some false) else (if t616 = true then (laws_FnHyperbolic.l0 k t613 0) else ((laws_alive.f).bind fun t618 => (some t618)))))))) = some r := h
  clear h
  by_cases c2 : (l0.length : Int) > 1048576
  · rw [if_pos c2] at H
    have c2b0 : decide (1048576 < (l0.length : Int)) = true := decide_eq_true c2
    have c2b1 : decide (1048576 < l0.length) = true := decide_eq_true (by omega)
    clear c2
    obtain rfl := Option.some.inj H
    go_enter Try.func12, Try.ntmps12
    go_wp2
    go_ret
    exact ⟨by first | rfl | (simp [errW_none, errW_some] <;> rfl) | (simp [*, errW_none, errW_some] <;> rfl), by repeat (first | (with_reducible first | exact HB.out | apply below_alloc | apply pw_below_drewN | apply below_drew1) | exact HB.out)⟩
  · rw [if_neg c2] at H
    have c2b0 : decide (1048576 < (l0.length : Int)) = false := decide_eq_false c2
    have c2b1 : decide (1048576 < l0.length) = false := decide_eq_false (by omega)
    clear c2
    replace H := Option.bind_eq_some_iff.mp H
    obtain ⟨t613, A30, H⟩ := H
    replace H : ((impl_HyperbolicBound.f k t613).bind fun t616 => ((spec_HyperbolicBound.f k t613).bind fun t617 => (if (t616 != t617) = true then (some false) else (if t616 = true then (laws_FnHyperbolic.l0 k t613 0) else ((laws_alive.f).bind fun t618 => (some t618)))))) = some r := H
    have A3 := Aside0.mk A30
    clear A30
    replace H := Option.bind_eq_some_iff.mp H
    obtain ⟨t616, A40, H⟩ := H
    replace H : ((spec_HyperbolicBound.f k t613).bind fun t617 => (if (t616 != t617) = true then (some false) else (if t616 = true then (laws_FnHyperbolic.l0 k t613 0) else ((laws_alive.f).bind fun t618 => (some t618))))) = some r := H
    have A4 := Aside0.mk A40
    clear A40
    replace H := Option.bind_eq_some_iff.mp H
    obtain ⟨t617, A50, H⟩ := H
    replace H : (if (t616 != t617) = true then (some false) else (if t616 = true then (laws_FnHyperbolic.l0 k t613 0) else ((laws_alive.f).bind fun t618 => (some t618)))) = some r := H
    have A5 := Aside0.mk A50
    clear A50
    by_cases c6 : (t616 != t617) = true
    · rw [if_pos c6] at H
      have c6b0 : (t616 != t617) = true := c6
      (try (have c6b1 : decide (t616 = t617) = false := by simpa using c6))
      (try (have c6b2 : (t616 == t617) = false := by simpa using c6))
      (try (have c6b3 : ¬ (t616 = t617) := by simpa using c6))
      clear c6
      obtain rfl := Option.some.inj H
      go_enter Try.func12, Try.ntmps12
      go_wp2_with (first | ((with_reducible refine gate_callee (f := 40) rfl ?_); refine goesL_ (some 10) rfl rfl Try.func40 (by kernel_rfl) rfl #[.slice A0 l0.length c0] rfl (by (try simp only [List.map_toArray, List.map_cons, List.map_nil]); first | done | rfl | (simp only [List.length_drop, List.length_take]; rfl)) ?_; (with_reducible refine (spec_DrawHyperbolicBound.calls k _ _ l0 t613 _ ?side1 ?side2 A3.out).mono ?_); (case side1 => repeat (first | exact HR0.out | (with_reducible refine Kd.C_alloc ?_ _) | (with_reducible refine Kd.C_drewN ?_ _) | (with_reducible refine Kd.C_drew ?_))); (case side2 => exact HC0.out); rintro e w7 ⟨v614, rfl, ho0, hb⟩; refine ⟨_, rfl, ?_⟩; have n0_ := Aside0.mk (Kd.R_lower ho0 (below_size (by repeat (first | (with_reducible first | exact HB.out | apply below_alloc | apply pw_below_drewN | apply below_drew1) | exact HB.out)))); have n1_ := Aside0.mk (below_step (by repeat (first | (with_reducible first | exact HB.out | apply below_alloc | apply pw_below_drewN | apply below_drew1) | exact HB.out)) hb); clear HB; have HO615 := n0_; have HB := n1_; clear n0_ n1_; (try clear hb); (try clear hb2); (try clear hk); (try clear hi); (try clear ho0); obtain ⟨Ao8, co8, eo8⟩ := Kd.R_slice HO615.out; subst eo8) | ((with_reducible refine gate_callee (f := 21) rfl ?_); refine goesL_ (some 12) rfl rfl Try.func21 (by kernel_rfl) rfl #[.slice Ao8 t613.length co8] rfl (by (try simp only [List.map_toArray, List.map_cons, List.map_nil]); first | done | rfl | (simp only [List.length_drop, List.length_take]; rfl)) ?_; (with_reducible refine (impl_HyperbolicBound.calls k _ _ t613 t616 _ ?side1 ?side2 A4.out).mono ?_); (case side1 => repeat (first | exact (Kd.R_reads' HO615.out).2.2 | (with_reducible refine Kd.C_alloc ?_ _) | (with_reducible refine Kd.C_drewN ?_ _) | (with_reducible refine Kd.C_drew ?_))); (case side2 => exact (Kd.R_reads' HO615.out).2.1); rintro e w9 ⟨rfl, hb⟩; refine ⟨_, rfl, ?_⟩; have n0_ := Aside0.mk (Kd.R_below (by (with_reducible repeat (first | apply Kd.R_alloc | apply Kd.R_drewN | apply Kd.R_drew)); exact HO615.out) hb); have n1_ := Aside0.mk (below_step (by repeat (first | (with_reducible first | exact HB.out | apply below_alloc | apply pw_below_drewN | apply below_drew1) | exact HB.out)) hb); clear HO615; clear HB; have HO615 := n0_; have HB := n1_; clear n0_ n1_; (try clear hb); (try clear hb2); (try clear hk); (try clear hi)) | ((with_reducible refine gate_callee (f := 20) rfl ?_); refine goesL_ (some 15) rfl rfl Try.func20 (by kernel_rfl) rfl #[.slice Ao8 t613.length co8] rfl (by (try simp only [List.map_toArray, List.map_cons, List.map_nil]); first | done | rfl | (simp only [List.length_drop, List.length_take]; rfl)) ?_; (with_reducible refine (spec_HyperbolicBound.calls k _ _ t613 t617 _ ?side1 ?side2 A5.out).mono ?_); (case side1 => repeat (first | exact (Kd.R_reads' HO615.out).2.2 | (with_reducible refine Kd.C_alloc ?_ _) | (with_reducible refine Kd.C_drewN ?_ _) | (with_reducible refine Kd.C_drew ?_))); (case side2 => exact (Kd.R_reads' HO615.out).2.1); rintro e w10 ⟨rfl, hb⟩; refine ⟨_, rfl, ?_⟩; have n0_ := Aside0.mk (Kd.R_below (by (with_reducible repeat (first | apply Kd.R_alloc | apply Kd.R_drewN | apply Kd.R_drew)); exact HO615.out) hb); have n1_ := Aside0.mk (below_step (by repeat (first | (with_reducible first | exact HB.out | apply below_alloc | apply pw_below_drewN | apply below_drew1) | exact HB.out)) hb); clear HO615; clear HB; have HO615 := n0_; have HB := n1_; clear n0_ n1_; (try clear hb); (try clear hb2); (try clear hk); (try clear hi)))
      go_ret
      exact ⟨by first | rfl | (simp [errW_none, errW_some] <;> rfl) | (simp [*, errW_none, errW_some] <;> rfl), by repeat (first | (with_reducible first | exact HB.out | apply below_alloc | apply pw_below_drewN | apply below_drew1) | exact HB.out)⟩
    · rw [if_neg c6] at H
      have c6b0 : (t616 != t617) = false := by simpa using c6
      (try (have c6b1 : decide (t616 = t617) = true := by simpa using c6))
      (try (have c6b2 : (t616 == t617) = true := by simpa using c6))
      clear c6
      by_cases c11 : t616 = true
      · subst c11
        have H1 : (laws_FnHyperbolic.l0 k t613 0) = some r := by rw [if_pos rfl] at H; exact H
        clear H
        have H := H1
        clear H1
        have H' := Aside0.mk H
        clear H
        go_enter Try.func12, Try.ntmps12
        go_wp2_with (first | ((with_reducible refine gate_callee (f := 40) rfl ?_); refine goesL_ (some 10) rfl rfl Try.func40 (by kernel_rfl) rfl #[.slice A0 l0.length c0] rfl (by (try simp only [List.map_toArray, List.map_cons, List.map_nil]); first | done | rfl | (simp only [List.length_drop, List.length_take]; rfl)) ?_; (with_reducible refine (spec_DrawHyperbolicBound.calls k _ _ l0 t613 _ ?side1 ?side2 A3.out).mono ?_); (case side1 => repeat (first | exact HR0.out | (with_reducible refine Kd.C_alloc ?_ _) | (with_reducible refine Kd.C_drewN ?_ _) | (with_reducible refine Kd.C_drew ?_))); (case side2 => exact HC0.out); rintro e w12 ⟨v614, rfl, ho0, hb⟩; refine ⟨_, rfl, ?_⟩; have n0_ := Aside0.mk (Kd.R_lower ho0 (below_size (by repeat (first | (with_reducible first | exact HB.out | apply below_alloc | apply pw_below_drewN | apply below_drew1) | exact HB.out)))); have n1_ := Aside0.mk (below_step (by repeat (first | (with_reducible first | exact HB.out | apply below_alloc | apply pw_below_drewN | apply below_drew1) | exact HB.out)) hb); clear HB; have HO615 := n0_; have HB := n1_; clear n0_ n1_; (try clear hb); (try clear hb2); (try clear hk); (try clear hi); (try clear ho0); obtain ⟨Ao13, co13, eo13⟩ := Kd.R_slice HO615.out; subst eo13) | ((with_reducible refine gate_callee (f := 21) rfl ?_); refine goesL_ (some 12) rfl rfl Try.func21 (by kernel_rfl) rfl #[.slice Ao13 t613.length co13] rfl (by (try simp only [List.map_toArray, List.map_cons, List.map_nil]); first | done | rfl | (simp only [List.length_drop, List.length_take]; rfl)) ?_; (with_reducible refine (impl_HyperbolicBound.calls k _ _ t613 true _ ?side1 ?side2 A4.out).mono ?_); (case side1 => repeat (first | exact (Kd.R_reads' HO615.out).2.2 | (with_reducible refine Kd.C_alloc ?_ _) | (with_reducible refine Kd.C_drewN ?_ _) | (with_reducible refine Kd.C_drew ?_))); (case side2 => exact (Kd.R_reads' HO615.out).2.1); rintro e w14 ⟨rfl, hb⟩; refine ⟨_, rfl, ?_⟩; have n0_ := Aside0.mk (Kd.R_below (by (with_reducible repeat (first | apply Kd.R_alloc | apply Kd.R_drewN | apply Kd.R_drew)); exact HO615.out) hb); have n1_ := Aside0.mk (below_step (by repeat (first | (with_reducible first | exact HB.out | apply below_alloc | apply pw_below_drewN | apply below_drew1) | exact HB.out)) hb); clear HO615; clear HB; have HO615 := n0_; have HB := n1_; clear n0_ n1_; (try clear hb); (try clear hb2); (try clear hk); (try clear hi)) | ((with_reducible refine gate_callee (f := 20) rfl ?_); refine goesL_ (some 15) rfl rfl Try.func20 (by kernel_rfl) rfl #[.slice Ao13 t613.length co13] rfl (by (try simp only [List.map_toArray, List.map_cons, List.map_nil]); first | done | rfl | (simp only [List.length_drop, List.length_take]; rfl)) ?_; (with_reducible refine (spec_HyperbolicBound.calls k _ _ t613 t617 _ ?side1 ?side2 A5.out).mono ?_); (case side1 => repeat (first | exact (Kd.R_reads' HO615.out).2.2 | (with_reducible refine Kd.C_alloc ?_ _) | (with_reducible refine Kd.C_drewN ?_ _) | (with_reducible refine Kd.C_drew ?_))); (case side2 => exact (Kd.R_reads' HO615.out).2.1); rintro e w15 ⟨rfl, hb⟩; refine ⟨_, rfl, ?_⟩; have n0_ := Aside0.mk (Kd.R_below (by (with_reducible repeat (first | apply Kd.R_alloc | apply Kd.R_drewN | apply Kd.R_drew)); exact HO615.out) hb); have n1_ := Aside0.mk (below_step (by repeat (first | (with_reducible first | exact HB.out | apply below_alloc | apply pw_below_drewN | apply below_drew1) | exact HB.out)) hb); clear HO615; clear HB; have HO615 := n0_; have HB := n1_; clear n0_ n1_; (try clear hb); (try clear hb2); (try clear hk); (try clear hi)))
        go_loopg [5] k (fun kq v5 w' => ∃ (x5_1 : Int), v5 = .int .i64 x5_1 ∧ Aside0 (laws_FnHyperbolic.l0 kq t613 x5_1 = some r) ∧ Aside0 (kq ≤ k) ∧ Aside0 (Kd.R k56 56 w' w.heap.size (fun _ => True) (.slice Ao13 t613.length co13) t613) ∧ Aside0 (Below w.heap.size w w'))
        case atStart => exact ⟨(0), (by first | rfl | (simp; done) | (simp [*]; done)), H', ⟨Nat.le_refl _⟩, ⟨by (with_reducible repeat (first | apply Kd.R_alloc | apply Kd.R_drewN | apply Kd.R_drew)); exact HO615.out⟩, ⟨by repeat (first | (with_reducible first | exact HB.out | apply below_alloc | apply pw_below_drewN | apply below_drew1) | exact HB.out)⟩⟩
        case round =>
          clear H'
          try clear c1
          try clear c2
          try clear c2b0
          try clear c2b1
          try clear p2
          try clear c4
          try clear c6
          try clear c6b0
          try clear c6b1
          try clear c6b2
          try clear c11
          try clear c12
          obtain ⟨x5_1, rfl, HA, HK1, HO_3, HB⟩ := hrel
          cases gk with
          | zero => exact absurd HA.out (by simp [laws_FnHyperbolic.l0])
          | succ k1 =>
            have H := HA.out
            clear HA
            simp only [laws_FnHyperbolic.l0] at H
            by_cases c16 : x5_1 < (t613.length : Int)
            · rw [if_pos c16] at H
              have c16b0 : decide (x5_1 < (t613.length : Int)) = true := decide_eq_true c16
              clear c16
              replace H := Option.bind_eq_some_iff.mp H
              obtain ⟨t623, A170, H⟩ := H
              replace H : ((impl_HyperbolicBound.f k1 t623).bind fun t626 => (if t626 = true then (laws_FnHyperbolic.l0 k1 t613 (wrap64 (x5_1 + 1))) else (some false))) = some r := H
              have A17 := Aside0.mk A170
              clear A170
              replace H := Option.bind_eq_some_iff.mp H
              obtain ⟨t626, A180, H⟩ := H
              replace H : (if t626 = true then (laws_FnHyperbolic.l0 k1 t613 (wrap64 (x5_1 + 1))) else (some false)) = some r := H
              have A18 := Aside0.mk A180
              clear A180
              by_cases c19 : t626 = true
              · subst c19
                have H1 : (laws_FnHyperbolic.l0 k1 t613 (wrap64 (x5_1 + 1))) = some r := by rw [if_pos rfl] at H; exact H
                clear H
                have H := H1
                clear H1
                have H' := Aside0.mk H
                clear H
                go_wp2_with (first | ((with_reducible refine gate_callee (f := 41) rfl ?_); refine goesL_ (some 28) rfl rfl Try.func41 (by kernel_rfl) rfl #[.slice Ao13 t613.length co13, .int .i64 x5_1] rfl (by (try simp only [List.map_toArray, List.map_cons, List.map_nil]); first | done | rfl | (simp only [List.length_drop, List.length_take]; rfl)) ?_; (with_reducible refine (laws_without.calls _ _ t613 x5_1 t623 _ ?side1 ?side2 A17.out).mono ?_); (case side1 => repeat (first | exact (Kd.R_reads' HO_3.out).2.2 | (with_reducible refine Kd.C_alloc ?_ _) | (with_reducible refine Kd.C_drewN ?_ _) | (with_reducible refine Kd.C_drew ?_))); (case side2 => exact (Kd.R_reads' HO_3.out).2.1); rintro e w20 ⟨v624, rfl, ho0, hb⟩; refine ⟨_, rfl, ?_⟩; have n0_ := Aside0.mk (Kd.R_elder' (by (with_reducible repeat (first | apply Kd.R_alloc | apply Kd.R_drewN | apply Kd.R_drew)); exact HO_3.out) (Kd.R_base ho0) hb); have n1_ := Aside0.mk (Kd.R_lower (Kd.R_new' ho0 (Kd.R_lt (by (with_reducible repeat (first | apply Kd.R_alloc | apply Kd.R_drewN | apply Kd.R_drew)); exact HO_3.out))) (below_size (by repeat (first | (with_reducible first | exact HB.out | apply below_alloc | apply pw_below_drewN | apply below_drew1) | exact HB.out)))); have n2_ := Aside0.mk (below_step (by repeat (first | (with_reducible first | exact HB.out | apply below_alloc | apply pw_below_drewN | apply below_drew1) | exact HB.out)) hb); clear HO_3; clear HB; have HO_3 := n0_; have HO625 := n1_; have HB := n2_; clear n0_ n1_ n2_; (try clear hb); (try clear hb2); (try clear hk); (try clear hi); (try clear ho0); obtain ⟨Ao21, co21, eo21⟩ := Kd.R_slice HO625.out; subst eo21) | ((with_reducible refine gate_callee (f := 21) rfl ?_); refine goesL_ (some 29) rfl rfl Try.func21 (by kernel_rfl) rfl #[.slice Ao21 t623.length co21] rfl (by (try simp only [List.map_toArray, List.map_cons, List.map_nil]); first | done | rfl | (simp only [List.length_drop, List.length_take]; rfl)) ?_; (with_reducible refine (impl_HyperbolicBound.calls k1 _ _ t623 true _ ?side1 ?side2 A18.out).mono ?_); (case side1 => repeat (first | exact (Kd.R_reads' HO625.out).2.2 | (with_reducible refine Kd.C_alloc ?_ _) | (with_reducible refine Kd.C_drewN ?_ _) | (with_reducible refine Kd.C_drew ?_))); (case side2 => exact (Kd.R_reads' HO625.out).2.1); rintro e w22 ⟨rfl, hb⟩; refine ⟨_, rfl, ?_⟩; have n0_ := Aside0.mk (Kd.R_below (by (with_reducible repeat (first | apply Kd.R_alloc | apply Kd.R_drewN | apply Kd.R_drew)); exact HO_3.out) hb); have n1_ := Aside0.mk (Kd.R_below (by (with_reducible repeat (first | apply Kd.R_alloc | apply Kd.R_drewN | apply Kd.R_drew)); exact HO625.out) hb); have n2_ := Aside0.mk (below_step (by repeat (first | (with_reducible first | exact HB.out | apply below_alloc | apply pw_below_drewN | apply below_drew1) | exact HB.out)) hb); clear HO_3; clear HO625; clear HB; have HO_3 := n0_; have HO625 := n1_; have HB := n2_; clear n0_ n1_ n2_; (try clear hb); (try clear hb2); (try clear hk); (try clear hi)))
                go_roundg k1
                case measure => have := HK1.out; omega
                case rel => exact ⟨(wrap64 (x5_1 + 1)), (by first | rfl | (simp; done) | (simp [*]; done)), H', ⟨by have := HK1.out; omega⟩, ⟨by (with_reducible repeat (first | apply Kd.R_alloc | apply Kd.R_drewN | apply Kd.R_drew)); exact Kd.R_mono HO_3.out (fun _ hk => trivial)⟩, ⟨by repeat (first | (with_reducible first | exact HB.out | apply below_alloc | apply pw_below_drewN | apply below_drew1) | exact HB.out)⟩⟩
              · replace c19 := Bool.eq_false_iff.mpr c19
                subst c19
                have H1 : (some false) = some r := by rw [if_neg (show ¬ (false = true) by decide)] at H; exact H
                clear H
                have H := H1
                clear H1
                obtain rfl := Option.some.inj H
                go_wp2_with (first | ((with_reducible refine gate_callee (f := 41) rfl ?_); refine goesL_ (some 28) rfl rfl Try.func41 (by kernel_rfl) rfl #[.slice Ao13 t613.length co13, .int .i64 x5_1] rfl (by (try simp only [List.map_toArray, List.map_cons, List.map_nil]); first | done | rfl | (simp only [List.length_drop, List.length_take]; rfl)) ?_; (with_reducible refine (laws_without.calls _ _ t613 x5_1 t623 _ ?side1 ?side2 A17.out).mono ?_); (case side1 => repeat (first | exact (Kd.R_reads' HO_3.out).2.2 | (with_reducible refine Kd.C_alloc ?_ _) | (with_reducible refine Kd.C_drewN ?_ _) | (with_reducible refine Kd.C_drew ?_))); (case side2 => exact (Kd.R_reads' HO_3.out).2.1); rintro e w23 ⟨v624, rfl, ho0, hb⟩; refine ⟨_, rfl, ?_⟩; have n0_ := Aside0.mk (Kd.R_elder' (by (with_reducible repeat (first | apply Kd.R_alloc | apply Kd.R_drewN | apply Kd.R_drew)); exact HO_3.out) (Kd.R_base ho0) hb); have n1_ := Aside0.mk (Kd.R_lower (Kd.R_new' ho0 (Kd.R_lt (by (with_reducible repeat (first | apply Kd.R_alloc | apply Kd.R_drewN | apply Kd.R_drew)); exact HO_3.out))) (below_size (by repeat (first | (with_reducible first | exact HB.out | apply below_alloc | apply pw_below_drewN | apply below_drew1) | exact HB.out)))); have n2_ := Aside0.mk (below_step (by repeat (first | (with_reducible first | exact HB.out | apply below_alloc | apply pw_below_drewN | apply below_drew1) | exact HB.out)) hb); clear HO_3; clear HB; have HO_3 := n0_; have HO625 := n1_; have HB := n2_; clear n0_ n1_ n2_; (try clear hb); (try clear hb2); (try clear hk); (try clear hi); (try clear ho0); obtain ⟨Ao24, co24, eo24⟩ := Kd.R_slice HO625.out; subst eo24) | ((with_reducible refine gate_callee (f := 21) rfl ?_); refine goesL_ (some 29) rfl rfl Try.func21 (by kernel_rfl) rfl #[.slice Ao24 t623.length co24] rfl (by (try simp only [List.map_toArray, List.map_cons, List.map_nil]); first | done | rfl | (simp only [List.length_drop, List.length_take]; rfl)) ?_; (with_reducible refine (impl_HyperbolicBound.calls k1 _ _ t623 false _ ?side1 ?side2 A18.out).mono ?_); (case side1 => repeat (first | exact (Kd.R_reads' HO625.out).2.2 | (with_reducible refine Kd.C_alloc ?_ _) | (with_reducible refine Kd.C_drewN ?_ _) | (with_reducible refine Kd.C_drew ?_))); (case side2 => exact (Kd.R_reads' HO625.out).2.1); rintro e w25 ⟨rfl, hb⟩; refine ⟨_, rfl, ?_⟩; have n0_ := Aside0.mk (Kd.R_below (by (with_reducible repeat (first | apply Kd.R_alloc | apply Kd.R_drewN | apply Kd.R_drew)); exact HO_3.out) hb); have n1_ := Aside0.mk (Kd.R_below (by (with_reducible repeat (first | apply Kd.R_alloc | apply Kd.R_drewN | apply Kd.R_drew)); exact HO625.out) hb); have n2_ := Aside0.mk (below_step (by repeat (first | (with_reducible first | exact HB.out | apply below_alloc | apply pw_below_drewN | apply below_drew1) | exact HB.out)) hb); clear HO_3; clear HO625; clear HB; have HO_3 := n0_; have HO625 := n1_; have HB := n2_; clear n0_ n1_ n2_; (try clear hb); (try clear hb2); (try clear hk); (try clear hi)))
                go_ret
                exact ⟨by first | rfl | (simp [errW_none, errW_some] <;> rfl) | (simp [*, errW_none, errW_some] <;> rfl), by repeat (first | (with_reducible first | exact HB.out | apply below_alloc | apply pw_below_drewN | apply below_drew1) | exact HB.out)⟩
            · rw [if_neg c16] at H
              have c16b0 : decide (x5_1 < (t613.length : Int)) = false := decide_eq_false c16
              clear c16
              replace H := Option.bind_eq_some_iff.mp H
              obtain ⟨t619, A260, H⟩ := H
              replace H : ((impl_FixedFeasible.f k1 t613 t619).bind fun t622 => (some t622)) = some r := H
              have A26 := Aside0.mk A260
              clear A260
              replace H := Option.bind_eq_some_iff.mp H
              obtain ⟨t622, A270, H⟩ := H
              replace H : (some t622) = some r := H
              have A27 := Aside0.mk A270
              clear A270
              obtain rfl := Option.some.inj H
              go_wp2_with (first | ((with_reducible refine gate_callee (f := 43) rfl ?_); refine goesL_ (some 33) rfl rfl Try.func43 (by kernel_rfl) rfl #[.slice Ao13 t613.length co13] rfl (by (try simp only [List.map_toArray, List.map_cons, List.map_nil]); first | done | rfl | (simp only [List.length_drop, List.length_take]; rfl)) ?_; (with_reducible refine (impl_DeadlineMonotonic.calls k1 _ _ t613 t619 _ ?side1 ?side2 A26.out).mono ?_); (case side1 => repeat (first | exact (Kd.R_reads' HO_3.out).2.2 | (with_reducible refine Kd.C_alloc ?_ _) | (with_reducible refine Kd.C_drewN ?_ _) | (with_reducible refine Kd.C_drew ?_))); (case side2 => exact (Kd.R_reads' HO_3.out).2.1); rintro e w28 ⟨v620, rfl, ho0, hb⟩; refine ⟨_, rfl, ?_⟩; have n0_ := Aside0.mk (Kd.R_below (by (with_reducible repeat (first | apply Kd.R_alloc | apply Kd.R_drewN | apply Kd.R_drew)); exact HO_3.out) hb); have n1_ := Aside0.mk (Kd.R_lower ho0 (below_size (by repeat (first | (with_reducible first | exact HB.out | apply below_alloc | apply pw_below_drewN | apply below_drew1) | exact HB.out)))); have n2_ := Aside0.mk (below_step (by repeat (first | (with_reducible first | exact HB.out | apply below_alloc | apply pw_below_drewN | apply below_drew1) | exact HB.out)) hb); clear HO_3; clear HB; have HO_3 := n0_; have HO621 := n1_; have HB := n2_; clear n0_ n1_ n2_; (try clear hb); (try clear hb2); (try clear hk); (try clear hi); (try clear ho0); obtain ⟨Ao29, co29, eo29⟩ := Kd.R_slice HO621.out; subst eo29) | ((with_reducible refine gate_callee (f := 42) rfl ?_); refine goesL_ (some 34) rfl rfl Try.func42 (by kernel_rfl) rfl #[.slice Ao13 t613.length co13, .slice Ao29 t619.length co29] rfl (by (try simp only [List.map_toArray, List.map_cons, List.map_nil]); first | done | rfl | (simp only [List.length_drop, List.length_take]; rfl)) ?_; (with_reducible refine (impl_FixedFeasible.calls k1 _ _ t613 _ _ t619 t622 _ ?side1 ?side2 ?side3 ?side4 A27.out).mono ?_); (case side1 => repeat (first | exact (Kd.R_reads' HO_3.out).2.2 | (with_reducible refine Kd.C_alloc ?_ _) | (with_reducible refine Kd.C_drewN ?_ _) | (with_reducible refine Kd.C_drew ?_))); (case side2 => exact (Kd.R_reads' HO_3.out).2.1); (case side3 => repeat (first | exact (Kd.R_reads' HO621.out).2.2 | (with_reducible refine Kd.C_alloc ?_ _) | (with_reducible refine Kd.C_drewN ?_ _) | (with_reducible refine Kd.C_drew ?_))); (case side4 => exact (Kd.R_reads' HO621.out).2.1); rintro e w30 ⟨rfl, hb⟩; refine ⟨_, rfl, ?_⟩; have n0_ := Aside0.mk (Kd.R_below (by (with_reducible repeat (first | apply Kd.R_alloc | apply Kd.R_drewN | apply Kd.R_drew)); exact HO_3.out) hb); have n1_ := Aside0.mk (Kd.R_below (by (with_reducible repeat (first | apply Kd.R_alloc | apply Kd.R_drewN | apply Kd.R_drew)); exact HO621.out) hb); have n2_ := Aside0.mk (below_step (by repeat (first | (with_reducible first | exact HB.out | apply below_alloc | apply pw_below_drewN | apply below_drew1) | exact HB.out)) hb); clear HO_3; clear HO621; clear HB; have HO_3 := n0_; have HO621 := n1_; have HB := n2_; clear n0_ n1_ n2_; (try clear hb); (try clear hb2); (try clear hk); (try clear hi)))
              go_ret
              exact ⟨by first | rfl | (simp [errW_none, errW_some] <;> rfl) | (simp [*, errW_none, errW_some] <;> rfl), by repeat (first | (with_reducible first | exact HB.out | apply below_alloc | apply pw_below_drewN | apply below_drew1) | exact HB.out)⟩
      · replace c11 := Bool.eq_false_iff.mpr c11
        subst c11
        have H1 : ((laws_alive.f).bind fun t618 => (some t618)) = some r := by rw [if_neg (show ¬ (false = true) by decide)] at H; exact H
        clear H
        have H := H1
        clear H1
        replace H := Option.bind_eq_some_iff.mp H
        obtain ⟨t618, A310, H⟩ := H
        replace H : (some t618) = some r := H
        have A31 := Aside0.mk A310
        clear A310
        obtain rfl := Option.some.inj H
        go_enter Try.func12, Try.ntmps12
        go_wp2_with (first | ((with_reducible refine gate_callee (f := 40) rfl ?_); refine goesL_ (some 10) rfl rfl Try.func40 (by kernel_rfl) rfl #[.slice A0 l0.length c0] rfl (by (try simp only [List.map_toArray, List.map_cons, List.map_nil]); first | done | rfl | (simp only [List.length_drop, List.length_take]; rfl)) ?_; (with_reducible refine (spec_DrawHyperbolicBound.calls k _ _ l0 t613 _ ?side1 ?side2 A3.out).mono ?_); (case side1 => repeat (first | exact HR0.out | (with_reducible refine Kd.C_alloc ?_ _) | (with_reducible refine Kd.C_drewN ?_ _) | (with_reducible refine Kd.C_drew ?_))); (case side2 => exact HC0.out); rintro e w32 ⟨v614, rfl, ho0, hb⟩; refine ⟨_, rfl, ?_⟩; have n0_ := Aside0.mk (Kd.R_lower ho0 (below_size (by repeat (first | (with_reducible first | exact HB.out | apply below_alloc | apply pw_below_drewN | apply below_drew1) | exact HB.out)))); have n1_ := Aside0.mk (below_step (by repeat (first | (with_reducible first | exact HB.out | apply below_alloc | apply pw_below_drewN | apply below_drew1) | exact HB.out)) hb); clear HB; have HO615 := n0_; have HB := n1_; clear n0_ n1_; (try clear hb); (try clear hb2); (try clear hk); (try clear hi); (try clear ho0); obtain ⟨Ao33, co33, eo33⟩ := Kd.R_slice HO615.out; subst eo33) | ((with_reducible refine gate_callee (f := 21) rfl ?_); refine goesL_ (some 12) rfl rfl Try.func21 (by kernel_rfl) rfl #[.slice Ao33 t613.length co33] rfl (by (try simp only [List.map_toArray, List.map_cons, List.map_nil]); first | done | rfl | (simp only [List.length_drop, List.length_take]; rfl)) ?_; (with_reducible refine (impl_HyperbolicBound.calls k _ _ t613 false _ ?side1 ?side2 A4.out).mono ?_); (case side1 => repeat (first | exact (Kd.R_reads' HO615.out).2.2 | (with_reducible refine Kd.C_alloc ?_ _) | (with_reducible refine Kd.C_drewN ?_ _) | (with_reducible refine Kd.C_drew ?_))); (case side2 => exact (Kd.R_reads' HO615.out).2.1); rintro e w34 ⟨rfl, hb⟩; refine ⟨_, rfl, ?_⟩; have n0_ := Aside0.mk (Kd.R_below (by (with_reducible repeat (first | apply Kd.R_alloc | apply Kd.R_drewN | apply Kd.R_drew)); exact HO615.out) hb); have n1_ := Aside0.mk (below_step (by repeat (first | (with_reducible first | exact HB.out | apply below_alloc | apply pw_below_drewN | apply below_drew1) | exact HB.out)) hb); clear HO615; clear HB; have HO615 := n0_; have HB := n1_; clear n0_ n1_; (try clear hb); (try clear hb2); (try clear hk); (try clear hi)) | ((with_reducible refine gate_callee (f := 20) rfl ?_); refine goesL_ (some 15) rfl rfl Try.func20 (by kernel_rfl) rfl #[.slice Ao33 t613.length co33] rfl (by (try simp only [List.map_toArray, List.map_cons, List.map_nil]); first | done | rfl | (simp only [List.length_drop, List.length_take]; rfl)) ?_; (with_reducible refine (spec_HyperbolicBound.calls k _ _ t613 t617 _ ?side1 ?side2 A5.out).mono ?_); (case side1 => repeat (first | exact (Kd.R_reads' HO615.out).2.2 | (with_reducible refine Kd.C_alloc ?_ _) | (with_reducible refine Kd.C_drewN ?_ _) | (with_reducible refine Kd.C_drew ?_))); (case side2 => exact (Kd.R_reads' HO615.out).2.1); rintro e w35 ⟨rfl, hb⟩; refine ⟨_, rfl, ?_⟩; have n0_ := Aside0.mk (Kd.R_below (by (with_reducible repeat (first | apply Kd.R_alloc | apply Kd.R_drewN | apply Kd.R_drew)); exact HO615.out) hb); have n1_ := Aside0.mk (below_step (by repeat (first | (with_reducible first | exact HB.out | apply below_alloc | apply pw_below_drewN | apply below_drew1) | exact HB.out)) hb); clear HO615; clear HB; have HO615 := n0_; have HB := n1_; clear n0_ n1_; (try clear hb); (try clear hb2); (try clear hk); (try clear hi)) | ((with_reducible refine gate_callee (f := 28) rfl ?_); refine goesL_ (some 19) rfl rfl Try.func28 (by kernel_rfl) rfl #[] rfl (by (try simp only [List.map_toArray, List.map_cons, List.map_nil]); first | done | rfl | (simp only [List.length_drop, List.length_take]; rfl)) ?_; (with_reducible refine (laws_alive.calls  t618 _ A31.out).mono ?_); rintro e w36 ⟨rfl, hb⟩; refine ⟨_, rfl, ?_⟩; have n0_ := Aside0.mk (Kd.R_below (by (with_reducible repeat (first | apply Kd.R_alloc | apply Kd.R_drewN | apply Kd.R_drew)); exact HO615.out) hb); have n1_ := Aside0.mk (below_step (by repeat (first | (with_reducible first | exact HB.out | apply below_alloc | apply pw_below_drewN | apply below_drew1) | exact HB.out)) hb); clear HO615; clear HB; have HO615 := n0_; have HB := n1_; clear n0_ n1_; (try clear hb); (try clear hb2); (try clear hk); (try clear hi)))
        go_ret
        exact ⟨by first | rfl | (simp [errW_none, errW_some] <;> rfl) | (simp [*, errW_none, errW_some] <;> rfl), by repeat (first | (with_reducible first | exact HB.out | apply below_alloc | apply pw_below_drewN | apply below_drew1) | exact HB.out)⟩

/-- The one pure statement of laws_FnHyperbolic. -/
def laws_FnHyperbolic.Pure : Prop := ∀ (l0 : List Int), l0.length * 1 ≤ 140737488351232 → (l0.length ≤ maxLen ∧ ∀ y0 ∈ l0, (Lit.int .u8 y0).wf = true) → ∃ k, laws_FnHyperbolic.f k l0 = some true

end Go.Proofs.Ytgcjadhmkhpbnaa.P
/- Small laws that all proofs of this seat use. No condition. -/
namespace Go.Proofs.Ytgcjadhmkhpbnaa.Base
open Go.RowKit Go.Proofs.Ytgcjadhmkhpbnaa.P Go.Proofs.YtgcjadhmkhpbnaaW.PrintWords Go.Proofs.YtgcjadhmkhpbnaaW.PrintLast Go.Proofs.YtgcjadhmkhpbnaaW.PrintMore
theorem w64 {x : Int} (h0 : -9223372036854775808 ≤ x) (h1 : x < 9223372036854775808) : wrap64 x = x := by unfold wrap64; omega
theorem mul_bd {a b A B : Int} (ha : 0 ≤ a) (hA : a ≤ A) (hb : 0 ≤ b) (hB : b ≤ B) : 0 ≤ a * b ∧ a * b ≤ A * B :=
  ⟨Int.mul_nonneg ha hb, Int.mul_le_mul hA hB hb (by omega)⟩
theorem in_f (a b c : Int) : impl_in.f a b c = some (decide (b ≤ a ∧ a ≤ c)) := by
  unfold impl_in.f
  by_cases h : a ≥ b
  · rw [if_pos h]; simp [show b ≤ a from h]
  · rw [if_neg h]; simp [show ¬ b ≤ a from h]
theorem l1In_f (a b c : Int) : spec_l1In.f a b c = some (decide (b ≤ a ∧ a ≤ c)) := by
  unfold spec_l1In.f
  by_cases h : a ≥ b
  · rw [if_pos h]; simp [show b ≤ a from h]
  · rw [if_neg h]; simp [show ¬ b ≤ a from h]
theorem and_bind {α : Type} (p : Prop) [Decidable p] (x y : Option α) : (some (decide p)).bind (fun t => if t = true then x else y) = if p then x else y := by
  by_cases hp : p <;> simp [hp]
theorem tdiv_pos {a b : Int} (h : 0 ≤ a) : Int.tdiv a b = a / b := Int.tdiv_eq_ediv_of_nonneg h
end Go.Proofs.Ytgcjadhmkhpbnaa.Base
/- Runs that end, whatever the number of rounds from some number on; loops over a row. No condition. -/
namespace Go.Proofs.Ytgcjadhmkhpbnaa.Gen
open Go.RowKit Go.Proofs.YtgcjadhmkhpbnaaW.PrintWords Go.Proofs.YtgcjadhmkhpbnaaW.PrintLast

/-- From some number of rounds on the run ends in one answer, and the answer is good. -/
def Tot {α : Type} (g : Nat → Option α) (P : α → Prop) : Prop := ∃ r, Ev g r ∧ P r
theorem Tot.ret {α : Type} {P : α → Prop} (a : α) (h : P a) : Tot (fun _ => some a) P := ⟨a, Ev.now a, h⟩
theorem Tot.mono {α : Type} {P Q : α → Prop} {g : Nat → Option α} (h : Tot g P) (hpq : ∀ a, P a → Q a) : Tot g Q := by
  obtain ⟨r, h1, h2⟩ := h
  exact ⟨r, h1, hpq r h2⟩
theorem Tot.congr {α : Type} {P : α → Prop} {g f : Nat → Option α} (e : ∀ k, g k = f k) (h : Tot f P) : Tot g P := by
  have : g = f := funext e
  rw [this]; exact h
theorem Tot.step {α : Type} {P : α → Prop} {g f : Nat → Option α} (e : ∀ k, g (k + 1) = f k) (h : Tot f P) : Tot g P := by
  obtain ⟨r, h1, h2⟩ := h
  exact ⟨r, Ev.step e h1, h2⟩
theorem Tot.bind {α β : Type} {P : α → Prop} {Q : β → Prop} {g : Nat → Option α} {f : Nat → α → Option β} (h : Tot g P) (hf : ∀ a, P a → Tot (fun k => f k a) Q) : Tot (fun k => (g k).bind (f k)) Q := by
  obtain ⟨r, h1, h2⟩ := h
  obtain ⟨q, h3, h4⟩ := hf r h2
  exact ⟨q, Ev.bind h1 h3, h4⟩
/-- A call without rounds. -/
theorem Tot.bind0 {α β : Type} {Q : β → Prop} {g : Option α} {f : Nat → α → Option β} {a : α} (h : g = some a) (hf : Tot (fun k => f k a) Q) : Tot (fun k => g.bind (f k)) Q := by
  subst h; exact hf
theorem Tot.yes {α : Type} {P : α → Prop} {c : Prop} [Decidable c] {g f : Nat → Option α} (hc : c) (h : Tot g P) : Tot (fun k => if c then g k else f k) P := by
  simp only [if_pos hc]; exact h
theorem Tot.no {α : Type} {P : α → Prop} {c : Prop} [Decidable c] {g f : Nat → Option α} (hc : ¬ c) (h : Tot f P) : Tot (fun k => if c then g k else f k) P := by
  simp only [if_neg hc]; exact h
theorem Tot.ite {α : Type} {P : α → Prop} {c : Prop} [Decidable c] {g f : Nat → Option α} (h1 : c → Tot g P) (h2 : ¬ c → Tot f P) : Tot (fun k => if c then g k else f k) P := by
  by_cases hc : c
  · exact Tot.yes hc (h1 hc)
  · exact Tot.no hc (h2 hc)
theorem Tot.rounds {g : Nat → Option Bool} (h : Tot g (fun r => r = true)) : ∃ k, g k = some true := by
  obtain ⟨r, h1, rfl⟩ := h
  exact h1.rounds
/-- What a run answers, and how it was found. -/
theorem Tot.val {α : Type} {g : Nat → Option α} {a : α} (h : Ev g a) : Tot g (fun r => r = a) := ⟨a, h, rfl⟩
theorem Tot.ev {α : Type} {g : Nat → Option α} {a : α} (h : Tot g (fun r => r = a)) : Ev g a := by
  obtain ⟨r, h1, rfl⟩ := h
  exact h1
/-- A loop with a counter: 'Inv i s' at the head of round i, n rounds. -/
theorem Tot.loop {σ ρ : Type} {P : ρ → Prop} (F : Nat → Nat → σ → Option ρ) (n : Nat) (Inv : Nat → σ → Prop)
    (hstep : ∀ i s, i < n → Inv i s → (∀ s', Inv (i + 1) s' → Tot (fun k => F k (i + 1) s') P) → Tot (fun k => F k i s) P)
    (hend : ∀ s, Inv n s → Tot (fun k => F k n s) P) : ∀ i s, i ≤ n → Inv i s → Tot (fun k => F k i s) P := by
  have key : ∀ d i s, i + d = n → Inv i s → Tot (fun k => F k i s) P := by
    intro d
    induction d with
    | zero => intro i s hi h; obtain rfl : i = n := by omega
              exact hend s h
    | succ d ih => intro i s hi h; exact hstep i s (by omega) h (fun s' hs' => ih (i + 1) s' (by omega) hs')
  intro i s hi h
  exact key (n - i) i s (by omega) h
theorem rd_at (xs : List Int) (i : Nat) (h : i < xs.length) : rd xs (i : Int) = xs[i] := by
  unfold rd
  rw [List.getD_eq_getElem?_getD, Int.toNat_natCast, List.getElem?_eq_getElem h]
  rfl
/-- A row that is filled from the left, element by element. -/
theorem fill_step {β : Type} (acc tgt : List β) (i : Nat) (hl : acc.length = tgt.length) (h : acc.take i = tgt.take i) (hi : i < tgt.length) : (acc.set i tgt[i]).take (i + 1) = tgt.take (i + 1) := by
  rw [List.take_succ_eq_append_getElem (by simpa [hl] using hi), List.take_succ_eq_append_getElem hi]
  rw [List.take_set_of_le (Nat.le_refl i), h]
  simp
/-- A copy: 'out[i] = c(a[i])' from 0 on. -/
theorem Tot.copy {β : Type} (F : Nat → List β → Int → Option (List β)) (tgt : List β) (z : β)
    (hstep : ∀ k acc (i : Nat) (h : i < tgt.length), acc.length = tgt.length → F (k + 1) acc (i : Int) = F k (acc.set i tgt[i]) ((i : Int) + 1))
    (hend : ∀ k acc, acc.length = tgt.length → F (k + 1) acc (tgt.length : Int) = some acc) : Tot (fun k => F k (List.replicate tgt.length z) 0) (fun r => r = tgt) := by
  have key : ∀ d (i : Nat) acc, i + d = tgt.length → acc.length = tgt.length → acc.take i = tgt.take i → Tot (fun k => F k acc (i : Int)) (fun r => r = tgt) := by
    intro d
    induction d with
    | zero =>
      intro i acc hi hl ht
      obtain rfl : i = tgt.length := by omega
      refine Tot.step (f := fun _ => some acc) (fun k => hend k acc hl) (Tot.ret _ ?_)
      rw [List.take_length, ← hl, List.take_length] at ht
      exact ht
    | succ d ih =>
      intro i acc hi hl ht
      have hlt : i < tgt.length := by omega
      refine Tot.step (fun k => hstep k acc i hlt hl) ?_
      have := ih (i + 1) (acc.set i tgt[i]) (by omega) (by simpa using hl) (fill_step acc tgt i hl ht hlt)
      simpa using this
  simpa using key tgt.length 0 (List.replicate tgt.length z) (by omega) (by simp) (by simp)
/-- A walk that only looks. -/
theorem Tot.look {ρ : Type} {r : ρ} (F : Nat → Int → Option ρ) (n : Nat) (hstep : ∀ k (i : Nat), i < n → F (k + 1) (i : Int) = F k ((i : Int) + 1)) (hend : ∀ k, F (k + 1) (n : Int) = some r) : Tot (fun k => F k 0) (fun q => q = r) := by
  have key : ∀ d (i : Nat), i + d = n → Tot (fun k => F k (i : Int)) (fun q => q = r) := by
    intro d
    induction d with
    | zero => intro i hi; obtain rfl : i = n := by omega
              exact Tot.step (f := fun _ => some r) (fun k => hend k) (Tot.ret _ rfl)
    | succ d ih => intro i hi; exact Tot.step (fun k => hstep k i (by omega)) (by simpa using ih (i + 1) (by omega))
  simpa using key n 0 (by omega)
end Go.Proofs.Ytgcjadhmkhpbnaa.Gen
/- The reader of a code: what a pick tells. Conditions: the code's bytes are bytes, at most 2000 of them; the place is small. -/
namespace Go.Proofs.Ytgcjadhmkhpbnaa.Pb
open Go.RowKit Go.Proofs.Ytgcjadhmkhpbnaa.P Go.Proofs.Ytgcjadhmkhpbnaa.Gen Go.Proofs.Ytgcjadhmkhpbnaa.Base Go.Proofs.YtgcjadhmkhpbnaaW.PrintWords Go.Proofs.YtgcjadhmkhpbnaaW.PrintLast

theorem xor_ok (x y : Int) (hx : 0 ≤ x) (hx1 : x < 4611686018427387904) (hy : 0 ≤ y) (hy1 : y < 4611686018427387904) : 0 ≤ Go.bits .xor .i64 x y := by
  obtain ⟨a, rfl⟩ := Int.eq_ofNat_of_zero_le hx
  obtain ⟨b, rfl⟩ := Int.eq_ofNat_of_zero_le hy
  have ha : a < 2 ^ 62 := by have e : (2 : Nat) ^ 62 = 4611686018427387904 := by decide
                             omega
  have hb : b < 2 ^ 62 := by have e : (2 : Nat) ^ 62 = 4611686018427387904 := by decide
                             omega
  have ha' : a % 2 ^ 64 = a := Nat.mod_eq_of_lt (by omega)
  have hb' : b % 2 ^ 64 = b := Nat.mod_eq_of_lt (by omega)
  have hx := Nat.xor_lt_two_pow ha hb
  simp only [Go.bits]
  rw [show IntKind.i64.bits = 64 from rfl]
  rw [BitVec.toNat_xor, BitVec.ofInt_natCast, BitVec.ofInt_natCast, BitVec.toNat_ofNat, BitVec.toNat_ofNat, ha', hb', IntKind.wrap_i64]
  have e : (2 : Nat) ^ 62 = 4611686018427387904 := by decide
  omega
/-- The bytes of a code. -/
def Bytes (s : List Int) : Prop := s.length ≤ 2000 ∧ ∀ x ∈ s, 0 ≤ x ∧ x ≤ 255
theorem Bytes.rd {s : List Int} (h : Bytes s) (i : Int) : 0 ≤ rd s i ∧ rd s i ≤ 255 := by
  unfold Go.Proofs.YtgcjadhmkhpbnaaW.PrintWords.rd
  rw [List.getD_eq_getElem?_getD]
  rcases Nat.lt_or_ge i.toNat s.length with hi | hi
  · rw [List.getElem?_eq_getElem hi]
    exact h.2 _ (List.getElem_mem hi)
  · rw [List.getElem?_eq_none hi]
    simp
theorem u8_wf {x : Int} (h : (Lit.int .u8 x).wf = true) : 0 ≤ x ∧ x ≤ 255 := by
  simp [Lit.wf, IntKind.min, IntKind.max, IntKind.bits, IntKind.signed] at h
  omega
theorem tmod_ok (a n : Int) (ha : 0 ≤ a) (hn : 1 ≤ n) : 0 ≤ Int.tmod a n ∧ Int.tmod a n < n := by
  rw [Int.tmod_eq_emod_of_nonneg ha]
  exact ⟨Int.emod_nonneg _ (by omega), Int.emod_lt_of_pos _ (by omega)⟩
theorem tdiv_ok (a n : Int) (ha : 0 ≤ a) (hn : 1 ≤ n) : 0 ≤ Int.tdiv a n ∧ Int.tdiv a n ≤ a := by
  rw [Int.tdiv_eq_ediv_of_nonneg ha]
  exact ⟨Int.ediv_nonneg ha (by omega), Int.ediv_le_self _ ha⟩
/-- One pick: at every number of rounds but 0. -/
theorem pick_at (k : Nat) (s : List Int) (p n : Int) (hs : Bytes s) (hp : 0 ≤ p) (hp2 : p ≤ 1000000000) :
    ∃ r, spec_l20Rd_pick.f (k + 1) s p n = some (r, p + 1) ∧ 0 ≤ r ∧ (1 ≤ n → r < n) := by
  unfold spec_l20Rd_pick.f
  rw [w64 (x := p + 1) (by omega) (by omega)]
  by_cases hn : n < 1
  · rw [if_pos hn]
    exact ⟨0, by simp [spec_l20Rd_pick.j0], Int.le_refl _, fun h => by omega⟩
  · rw [if_neg hn]
    by_cases h0 : (s.length : Int) = 0
    · refine ⟨0, ?_, Int.le_refl _, fun h => by omega⟩
      simp only [spec_l20Rd_pick.j0]
      rw [if_pos (by simpa using h0)]
    · simp only [spec_l20Rd_pick.j0]
      rw [if_neg (by simpa using h0)]
      have hl := hs.1
      rw [w64 (x := p + 1 - 1) (by omega) (by omega), show p + 1 - 1 = p by omega]
      by_cases h1 : p < (s.length : Int)
      · have hb := hs.rd p
        rw [if_pos h1, if_pos hp, if_neg (by omega), w64 (x := rd s p) (by omega) (by omega)]
        have ht := tmod_ok (rd s p) n hb.1 (by omega)
        exact ⟨_, rfl, ht.1, fun _ => ht.2⟩
      · rw [if_neg h1, if_neg h0]
        have m0 := tmod_ok p (s.length : Int) hp (by omega)
        rw [if_pos m0.1, if_pos m0.2]
        rw [w64 (x := p * 7) (by omega) (by omega), w64 (x := p * 7 + 3) (by omega) (by omega)]
        have m1 := tmod_ok (p * 7 + 3) (s.length : Int) (by omega) (by omega)
        rw [if_pos m1.1, if_pos m1.2, if_neg (by omega)]
        have b0 := hs.rd (Int.tmod p (s.length : Int))
        have b1 := hs.rd (Int.tmod (p * 7 + 3) (s.length : Int))
        have d0 := tdiv_ok p (s.length : Int) hp (by omega)
        generalize rd s (Int.tmod p (s.length : Int)) = x at b0 ⊢
        generalize rd s (Int.tmod (p * 7 + 3) (s.length : Int)) = y at b1 ⊢
        generalize Int.tdiv p (s.length : Int) = q at d0 ⊢
        rw [w64 (x := x) (by omega) (by omega), w64 (x := y) (by omega) (by omega), w64 (x := q) (by omega) (by omega)]
        rw [w64 (x := x * 131) (by omega) (by omega), w64 (x := y * 1117) (by omega) (by omega), w64 (x := p * 29) (by omega) (by omega), w64 (x := q * 53) (by omega) (by omega)]
        rw [w64 (x := x * 131 + y * 1117) (by omega) (by omega), w64 (x := x * 131 + y * 1117 + p * 29) (by omega) (by omega), w64 (x := x * 131 + y * 1117 + p * 29 + q * 53) (by omega) (by omega)]
        have e0 := tdiv_ok (x * 131 + y * 1117 + p * 29 + q * 53) 64 (by omega) (by omega)
        rw [w64 (x := Int.tdiv (x * 131 + y * 1117 + p * 29 + q * 53) 64) (by omega) (by omega)]
        have hx := xor_ok (x * 131 + y * 1117 + p * 29 + q * 53) (Int.tdiv (x * 131 + y * 1117 + p * 29 + q * 53) 64) (by omega) (by omega) e0.1 (by omega)
        have ht := tmod_ok _ n hx (by omega)
        exact ⟨_, rfl, ht.1, fun _ => ht.2⟩
theorem open_at (l : List Int) (hl : ∀ x ∈ l, (Lit.int .u8 x).wf = true) : ∃ s, spec_l20Open.f l = some (s, 0) ∧ Bytes s := by
  unfold spec_l20Open.f
  by_cases h : (l.length : Int) > 2000
  · rw [if_pos h, if_pos (by omega)]
    exact ⟨_, rfl, by rw [List.length_take]; omega, fun x hx => u8_wf (hl x (List.mem_of_mem_take hx))⟩
  · rw [if_neg h]
    exact ⟨_, rfl, by omega, fun x hx => u8_wf (hl x hx)⟩
theorem pick_tot (s : List Int) (p n : Int) (hs : Bytes s) (hp : 0 ≤ p) (hp2 : p ≤ 1000000000) : Tot (fun k => spec_l20Rd_pick.f k s p n) (fun r => r.2 = p + 1 ∧ 0 ≤ r.1 ∧ (1 ≤ n → r.1 < n)) := by
  obtain ⟨r, hr, h0, h1⟩ := pick_at 0 s p n hs hp hp2
  refine ⟨(r, p + 1), ⟨1, fun k hk => ?_⟩, rfl, h0, h1⟩
  obtain ⟨j, rfl⟩ : ∃ j, k = j + 1 := ⟨k - 1, by omega⟩
  obtain ⟨r', hr', h0', h1'⟩ := pick_at j s p n hs hp hp2
  have hm := at_rounds (g := fun k => spec_l20Rd_pick.f k s p n) (fun k => spec_l20Rd_pick.mono _ _ _ k) (show 1 ≤ j + 1 by omega) hr
  exact hm
theorem odd_tot (s : List Int) (p n : Int) (hs : Bytes s) (hp : 0 ≤ p) (hp2 : p ≤ 1000000000) : Tot (fun k => spec_l20Rd_odd.f k s p n) (fun r => p ≤ r.2 ∧ r.2 ≤ p + 1) := by
  unfold spec_l20Rd_odd.f
  refine Tot.ite (fun _ => ?_) (fun _ => Tot.ret _ ⟨Int.le_refl _, by omega⟩)
  refine Tot.bind (pick_tot s p n hs hp hp2) ?_
  rintro ⟨a, q⟩ ⟨rfl, _, _⟩
  exact Tot.ret _ ⟨by show p ≤ p + 1; omega, Int.le_refl _⟩
theorem open_tot {β : Type} {Q : β → Prop} (l : List Int) (hl : ∀ x ∈ l, (Lit.int .u8 x).wf = true) {f : Nat → List Int × Int → Option β} (hf : ∀ s, Bytes s → Tot (fun k => f k (s, 0)) Q) : Tot (fun k => (spec_l20Open.f l).bind (f k)) Q := by
  obtain ⟨s, hs, hb⟩ := open_at l hl
  exact Tot.bind0 hs (hf s hb)
theorem some_bind {α β : Type} {Q : β → Prop} (a : α) {f : Nat → α → Option β} (h : Tot (fun k => f k a) Q) : Tot (fun k => (some a).bind (f k)) Q := h
theorem rd_mem {xs : List Int} {i : Int} (h0 : 0 ≤ i) (h1 : i < (xs.length : Int)) : rd xs i ∈ xs := by
  unfold Go.Proofs.YtgcjadhmkhpbnaaW.PrintWords.rd
  have : i.toNat < xs.length := by omega
  rw [List.getD_eq_getElem?_getD, List.getElem?_eq_getElem this]
  exact List.getElem_mem this
end Go.Proofs.Ytgcjadhmkhpbnaa.Pb
/- The library is alive. No condition. -/
namespace Go.Proofs.Ytgcjadhmkhpbnaa.Alive
open Go.RowKit Go.Proofs.Ytgcjadhmkhpbnaa.P Go.Proofs.Ytgcjadhmkhpbnaa.Base Go.Proofs.YtgcjadhmkhpbnaaW.PrintWords Go.Proofs.YtgcjadhmkhpbnaaW.PrintLast
def TV (c d p : Int) : Prop := 1 ≤ c ∧ c ≤ 8 ∧ c ≤ d ∧ d ≤ p ∧ p ≤ 12
instance (c d p : Int) : Decidable (TV c d p) := by unfold TV; infer_instance
theorem task_f (c d p : Int) : impl_TaskValid.f c d p = some (decide (TV c d p)) := by
  unfold impl_TaskValid.f
  rw [in_f, in_f, and_bind, and_bind]
  by_cases h1 : 1 ≤ c ∧ c ≤ 8
  · by_cases h2 : c ≤ d ∧ d ≤ p
    · rw [if_pos h1, if_pos h2]; congr 1; rw [decide_eq_decide]; unfold TV; omega
    · rw [if_pos h1, if_neg h2]; congr 1; symm; rw [decide_eq_false_iff_not]; unfold TV; omega
  · rw [if_neg h1]; congr 1; symm; rw [decide_eq_false_iff_not]; unfold TV; omega
theorem alive_f : laws_alive.f = some true := by
  unfold laws_alive.f
  rw [task_f]; rfl
end Go.Proofs.Ytgcjadhmkhpbnaa.Alive
/- A task set's validity, as one test. No condition. -/
namespace Go.Proofs.Ytgcjadhmkhpbnaa.Set
open Go.RowKit Go.Proofs.Ytgcjadhmkhpbnaa.P Go.Proofs.Ytgcjadhmkhpbnaa.Base Go.Proofs.Ytgcjadhmkhpbnaa.Alive Go.Proofs.YtgcjadhmkhpbnaaW.PrintWords Go.Proofs.YtgcjadhmkhpbnaaW.PrintLast
abbrev Task := S56
def TVt (t : Task) : Prop := TV t.f0 t.f1 t.f2
instance (t : Task) : Decidable (TVt t) := by unfold TVt; infer_instance
def SetOk (l : List Task) : Prop := l.length ≤ 5 ∧ ∀ t ∈ l, TVt t
instance (l : List Task) : Decidable (SetOk l) := by unfold SetOk; infer_instance
def Impl (l : List Task) : Prop := SetOk l ∧ ∀ t ∈ l, t.f1 = t.f2
instance (l : List Task) : Decidable (Impl l) := by unfold Impl; infer_instance
theorem taskOk_iff (t : Task) : taskOk t = decide (TVt t) := by
  unfold taskOk
  rw [decide_eq_decide]; unfold TVt TV; omega
theorem any_tasks_f (l : List Task) : any_tasks.f l = some (decide (¬ ∀ t ∈ l, TVt t)) := by
  unfold any_tasks.f
  congr 1
  rw [Bool.eq_iff_iff, List.any_eq_true]
  simp [any_tasks.bad, taskOk_iff]
theorem set_f (l : List Task) : impl_SetValid.f l = some (decide (SetOk l)) := by
  unfold impl_SetValid.f
  by_cases h : (l.length : Int) ≤ 5
  · rw [if_pos h, any_tasks_f]
    simp only [Option.bind_some]
    congr 1
    rw [Bool.eq_iff_iff]
    unfold SetOk
    have : l.length ≤ 5 := by omega
    simp [this]
  · rw [if_neg h]
    congr 1; symm; rw [decide_eq_false_iff_not]
    unfold SetOk; omega
theorem any_late_f (l : List Task) : any_late.f l = some (decide (¬ ∀ t ∈ l, t.f1 = t.f2)) := by
  unfold any_late.f
  congr 1
  rw [Bool.eq_iff_iff, List.any_eq_true]
  simp [any_late.bad]
theorem impl_f (l : List Task) : impl_implicit.f l = some (decide (Impl l)) := by
  unfold impl_implicit.f
  rw [set_f, and_bind, any_late_f]
  simp only [Option.bind_some]
  by_cases h : SetOk l
  · rw [if_pos h]
    congr 1
    rw [Bool.eq_iff_iff]
    unfold Impl
    simp [h]
  · rw [if_neg h]
    congr 1; symm; rw [decide_eq_false_iff_not]
    exact fun h' => h h'.1
end Go.Proofs.Ytgcjadhmkhpbnaa.Set
/- The draw of a task ends, and its numbers are small. Conditions: as the reader's. -/
namespace Go.Proofs.Ytgcjadhmkhpbnaa.DrTask
open Go.RowKit Go.Proofs.Ytgcjadhmkhpbnaa.P Go.Proofs.Ytgcjadhmkhpbnaa.Base Go.Proofs.Ytgcjadhmkhpbnaa.Gen Go.Proofs.Ytgcjadhmkhpbnaa.Pb Go.Proofs.YtgcjadhmkhpbnaaW.PrintWords Go.Proofs.YtgcjadhmkhpbnaaW.PrintLast
theorem rd_bd {xs : List Int} {i : Int} (lo hi : Int) (h0 : 0 ≤ i) (h1 : i < (xs.length : Int)) (h : ∀ x ∈ xs, lo ≤ x ∧ x ≤ hi) : lo ≤ rd xs i ∧ rd xs i ≤ hi := h _ (rd_mem h0 h1)
theorem mx_bd (a b : Int) : a ≤ mx a b ∧ b ≤ mx a b ∧ (mx a b = a ∨ mx a b = b) := by unfold mx; split <;> omega
theorem mn_bd (a b : Int) : mn a b ≤ a ∧ mn a b ≤ b ∧ (mn a b = a ∨ mn a b = b) := by unfold mn; split <;> omega
/-- A task that is small; and, if nobody asked for another, valid. -/
def SmallT (c d p : Int) : Prop := -20 ≤ c ∧ c ≤ 20 ∧ -20 ≤ d ∧ d ≤ 20 ∧ -20 ≤ p ∧ p ≤ 20
theorem task_tot (s : List Int) (p n : Int) (hs : Bytes s) (hp : 0 ≤ p) (hp2 : p ≤ 900000000) :
    Tot (fun k => spec_l20Task.f k s p n) (fun r => SmallT r.1 r.2.1 r.2.2.1 ∧ p ≤ r.2.2.2 ∧ r.2.2.2 ≤ p + 9) := by
  have last : ∀ (q c d e : Int), SmallT c d e → p ≤ q → q ≤ p + 9 → Tot (fun k => spec_l20Task.j0 k s q c d e) (fun r => SmallT r.1 r.2.1 r.2.2.1 ∧ p ≤ r.2.2.2 ∧ r.2.2.2 ≤ p + 9) := by
    intro q c d e h1 h2 h3
    exact Tot.step (fun k => by rw [spec_l20Task.j0]) (Tot.ret _ ⟨h1, h2, h3⟩)
  unfold spec_l20Task.f
  refine Tot.bind (pick_tot s p 12 hs hp (by omega)) ?_
  rintro ⟨a, q⟩ ⟨h, ha0, ha1⟩
  simp only at h ha0 ha1 ⊢; subst h
  have ha1 := ha1 (by omega)
  rw [w64 (x := 1 + a) (by omega) (by omega)]
  refine some_bind _ ?_
  refine Tot.bind (pick_tot s (p + 1) 8 hs (by omega) (by omega)) ?_
  rintro ⟨b, q⟩ ⟨h, hb0, hb1⟩
  simp only at h hb0 hb1 ⊢; subst h
  have hb1 := hb1 (by omega)
  have hlt : b < ((([2, 3, 4, 6, 8, 12, 1 + a, 5] : List Int).length : Nat) : Int) := by simp; omega
  refine Tot.yes hb0 (Tot.yes hlt ?_)
  have hc := rd_bd 1 12 hb0 hlt (by intro x hx; simp only [List.mem_cons, List.not_mem_nil, or_false] at hx; omega)
  generalize rd [2, 3, 4, 6, 8, 12, 1 + a, 5] b = P at hc ⊢
  refine Tot.bind (pick_tot s (p + 1 + 1) P hs (by omega) (by omega)) ?_
  rintro ⟨c, q⟩ ⟨h, hc0, hc1⟩
  simp only at h hc0 hc1 ⊢; subst h
  have hc1 := hc1 (by omega)
  rw [w64 (x := 1 + c) (by omega) (by omega), w64 (x := P - 1) (by omega) (by omega)]
  have hm := mx_bd 1 (P - 1)
  refine some_bind _ ?_
  refine Tot.bind (pick_tot s (p + 1 + 1 + 1) 3 hs (by omega) (by omega)) ?_
  rintro ⟨d, q⟩ ⟨h, hd0, hd1⟩
  simp only at h hd0 hd1 ⊢; subst h
  have hd1 := hd1 (by omega)
  have hlt : d < ((([P, 1 + c, mx 1 (P - 1)] : List Int).length : Nat) : Int) := by simp; omega
  refine Tot.yes hd0 (Tot.yes hlt ?_)
  have hD := rd_bd 1 12 hd0 hlt (by intro x hx; simp only [List.mem_cons, List.not_mem_nil, or_false] at hx; omega)
  generalize rd [P, 1 + c, mx 1 (P - 1)] d = D at hD ⊢
  have e2 := tdiv_ok D 2 (by omega) (by omega)
  have e3 := tdiv_ok D 3 (by omega) (by omega)
  rw [w64 (x := Int.tdiv D 2) (by omega) (by omega), w64 (x := Int.tdiv D 3) (by omega) (by omega)]
  have hm2 := mx_bd 1 (Int.tdiv D 2)
  have hm3 := mx_bd 1 (Int.tdiv D 3)
  refine some_bind _ ?_
  refine Tot.bind (pick_tot s (p + 1 + 1 + 1 + 1) 3 hs (by omega) (by omega)) ?_
  rintro ⟨e, q⟩ ⟨h, he0, he1⟩
  simp only at h he0 he1 ⊢; subst h
  have he1 := he1 (by omega)
  have hlt : e < ((([D, mx 1 (Int.tdiv D 2), mx 1 (Int.tdiv D 3)] : List Int).length : Nat) : Int) := by simp; omega
  refine Tot.yes he0 (Tot.yes hlt ?_)
  have hE := rd_bd 1 12 he0 hlt (by intro x hx; simp only [List.mem_cons, List.not_mem_nil, or_false] at hx; omega)
  generalize rd [D, mx 1 (Int.tdiv D 2), mx 1 (Int.tdiv D 3)] e = E at hE ⊢
  have hmn := mn_bd 8 E
  refine Tot.bind (pick_tot s (p + 1 + 1 + 1 + 1 + 1) (mn 8 E) hs (by omega) (by omega)) ?_
  rintro ⟨f, q⟩ ⟨h, hf0, hf1⟩
  simp only at h hf0 hf1 ⊢; subst h
  have hf1 := hf1 (by omega)
  rw [w64 (x := 1 + f) (by omega) (by omega)]
  refine Tot.bind (odd_tot s (p + 1 + 1 + 1 + 1 + 1 + 1) n hs (by omega) (by omega)) ?_
  rintro ⟨g, q⟩ ⟨h1, h2⟩
  simp only at h1 h2 ⊢
  refine Tot.ite (fun _ => ?_) (fun _ => last _ _ _ _ (by unfold SmallT; omega) (by omega) (by omega))
  refine Tot.bind (pick_tot s q 3 hs (by omega) (by omega)) ?_
  rintro ⟨u, q'⟩ ⟨h, hu0, hu1⟩
  simp only at h hu0 hu1 ⊢; subst h
  refine Tot.ite (fun _ => ?_) (fun _ => Tot.ite (fun _ => ?_) (fun _ => ?_))
  · rw [w64 (x := D + 1) (by omega) (by omega)]
    refine some_bind _ ?_
    refine Tot.bind (pick_tot s (q + 1) 4 hs (by omega) (by omega)) ?_
    rintro ⟨v, q'⟩ ⟨h, hv0, hv1⟩
    simp only at h hv0 hv1 ⊢; subst h
    have hlt : v < ((([0, -1, 9, D + 1] : List Int).length : Nat) : Int) := by simp; omega
    refine Tot.yes hv0 (Tot.yes hlt ?_)
    have hV := rd_bd (-1) 13 hv0 hlt (by intro x hx; simp only [List.mem_cons, List.not_mem_nil, or_false] at hx; omega)
    exact last _ _ _ _ (by unfold SmallT; omega) (by omega) (by omega)
  · rw [w64 (x := P + 1) (by omega) (by omega)]
    refine some_bind _ ?_
    refine Tot.bind (pick_tot s (q + 1) 3 hs (by omega) (by omega)) ?_
    rintro ⟨v, q'⟩ ⟨h, hv0, hv1⟩
    simp only at h hv0 hv1 ⊢; subst h
    have hlt : v < ((([0, P + 1, -1] : List Int).length : Nat) : Int) := by simp; omega
    refine Tot.yes hv0 (Tot.yes hlt ?_)
    have hV := rd_bd (-1) 13 hv0 hlt (by intro x hx; simp only [List.mem_cons, List.not_mem_nil, or_false] at hx; omega)
    exact last _ _ _ _ (by unfold SmallT; omega) (by omega) (by omega)
  · refine some_bind _ ?_
    refine Tot.bind (pick_tot s (q + 1) 3 hs (by omega) (by omega)) ?_
    rintro ⟨v, q'⟩ ⟨h, hv0, hv1⟩
    simp only at h hv0 hv1 ⊢; subst h
    have hlt : v < ((([0, 13, -1] : List Int).length : Nat) : Int) := by simp; omega
    refine Tot.yes hv0 (Tot.yes hlt ?_)
    have hV := rd_bd (-1) 13 hv0 hlt (by intro x hx; simp only [List.mem_cons, List.not_mem_nil, or_false] at hx; omega)
    exact last _ _ _ _ (by unfold SmallT; omega) (by omega) (by omega)
end Go.Proofs.Ytgcjadhmkhpbnaa.DrTask
/- The draw of a task set ends, and the set is short. Conditions: as the reader's. -/
namespace Go.Proofs.Ytgcjadhmkhpbnaa.DrSet
open Go.RowKit Go.Proofs.Ytgcjadhmkhpbnaa.P Go.Proofs.Ytgcjadhmkhpbnaa.Base Go.Proofs.Ytgcjadhmkhpbnaa.Gen Go.Proofs.Ytgcjadhmkhpbnaa.Pb Go.Proofs.Ytgcjadhmkhpbnaa.DrTask Go.Proofs.YtgcjadhmkhpbnaaW.PrintWords Go.Proofs.YtgcjadhmkhpbnaaW.PrintLast
abbrev Task := S56
def Short (p : Int) (r : List Task × Int) : Prop := r.1.length ≤ 20 ∧ p ≤ r.2 ∧ r.2 ≤ p + 300
theorem set_tot (s : List Int) (p n : Int) (hs : Bytes s) (hp : 0 ≤ p) (hp2 : p ≤ 100000) : Tot (fun k => spec_l20Set.f k s p n) (Short p) := by
  have more : ∀ (d : Nat) (x : List Task) (q : Int), x.length + d = 6 → p ≤ q → q ≤ p + 100 + 10 * (6 - d) → Tot (fun k => spec_l20Set.l1 k x s q) (Short p) := by
    intro d
    induction d with
    | zero =>
      intro x q h1 h2 h3
      refine Tot.step (fun k => by rw [spec_l20Set.l1]) (Tot.no (by omega) ?_)
      refine Tot.bind (task_tot s q 2 hs (by omega) (by omega)) ?_
      rintro ⟨a, b, c, q2⟩ ⟨_, h4, h5⟩
      simp only at h4 h5 ⊢
      exact Tot.yes (by omega) (Tot.ret _ ⟨by simp; omega, by simp; omega, by simp; omega⟩)
    | succ d ih =>
      intro x q h1 h2 h3
      refine Tot.step (fun k => by rw [spec_l20Set.l1]) (Tot.yes (by omega) ?_)
      refine Tot.bind (task_tot s q 0 hs (by omega) (by omega)) ?_
      rintro ⟨a, b, c, q2⟩ ⟨_, h4, h5⟩
      simp only at h4 h5 ⊢
      exact Tot.yes (by omega) (ih _ _ (by simp; omega) (by omega) (by omega))
  have first : ∀ (d : Nat) (x6 : Int) (x : List Task) (q : Int), x6 = d → x.length + d ≤ 5 → p ≤ q → q ≤ p + 1 + 9 * (5 - d) → Tot (fun k => spec_l20Set.l0 k n x x6 s q) (Short p) := by
    intro d
    induction d with
    | zero =>
      intro x6 x q h1 h2 h3 h4
      refine Tot.step (fun k => by rw [spec_l20Set.l0]) (Tot.no (by omega) ?_)
      refine Tot.bind (odd_tot s q n hs (by omega) (by omega)) ?_
      rintro ⟨a, q2⟩ ⟨h5, h6⟩
      simp only at h5 h6 ⊢
      refine Tot.ite (fun _ => ?_) (fun _ => Tot.ret _ ⟨by simp; omega, by simp; omega, by simp; omega⟩)
      refine Tot.bind (pick_tot s q2 3 hs (by omega) (by omega)) ?_
      rintro ⟨b, q3⟩ ⟨h7, h8, h9⟩
      simp only at h7 h8 h9 ⊢; subst h7
      refine Tot.ite (fun _ => more (6 - x.length) x _ (by omega) (by omega) (by omega)) (fun _ => ?_)
      refine Tot.bind (task_tot s (q2 + 1) 2 hs (by omega) (by omega)) ?_
      rintro ⟨a, b, c, q4⟩ ⟨_, h10, h11⟩
      simp only at h10 h11 ⊢
      exact Tot.yes (by omega) (Tot.ret _ ⟨by simp; omega, by simp; omega, by simp; omega⟩)
    | succ d ih =>
      intro x6 x q h1 h2 h3 h4
      refine Tot.step (fun k => by rw [spec_l20Set.l0]) (Tot.yes (by omega) ?_)
      refine Tot.bind (task_tot s q 0 hs (by omega) (by omega)) ?_
      rintro ⟨a, b, c, q2⟩ ⟨_, h4, h5⟩
      simp only at h4 h5 ⊢
      rw [w64 (x := x6 - 1) (by omega) (by omega)]
      exact Tot.yes (by omega) (ih _ _ _ (by omega) (by simp; omega) (by omega) (by omega))
  unfold spec_l20Set.f
  refine Tot.bind (pick_tot s p 6 hs hp (by omega)) ?_
  rintro ⟨a, q2⟩ ⟨h5, h6, h7⟩
  simp only at h5 h6 h7 ⊢; subst h5
  have h7 := h7 (by omega)
  exact first a.toNat a [] _ (by omega) (by simp; omega) (by omega) (by omega)
end Go.Proofs.Ytgcjadhmkhpbnaa.DrSet
