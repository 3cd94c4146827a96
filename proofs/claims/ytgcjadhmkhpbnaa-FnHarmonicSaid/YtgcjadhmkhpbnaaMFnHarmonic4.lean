/- The law FnHarmonic for every input, part 4 of its proof: what the program's functions answer, and the plain law. No condition. -/
import Derived.Test.YtgcjadhmkhpbnaaMFnHarmonic1
import Derived.Test.YtgcjadhmkhpbnaaMFnHarmonic2
import Derived.Test.YtgcjadhmkhpbnaaMFnHarmonic3
-- Laid by a program of this work.
namespace Go.Proofs.Ytgcjadhmkhpbnaa.P
open Go.RowKit Go.Proofs.YtgcjadhmkhpbnaaW.PrintWords Go.Proofs.YtgcjadhmkhpbnaaW.PrintLast Go.Proofs.YtgcjadhmkhpbnaaW.PrintMore
attribute [local go_sem] max2_int min2_int max_two min_two max_three min_three max_four min_four   -- for this text's walks alone
set_option linter.unusedVariables false
set_option linter.unusedSimpArgs false

/-! ### spec_l20Set: function 76 -/
mutual
def spec_l20Set.l0 : Nat → Int → List (S56) → Int → List Int → Int → Option ((List (S56)) × Int)
  | 0, _, _, _, _, _ => none
  | k + 1, x1, x5, x6, x1000, x1001 => if x6 > 0 then ((spec_l20Task.f k x1000 x1001 0).bind fun bt289 => (if x5.length < 5864062014805 then (spec_l20Set.l0 k x1 (x5 ++ [(⟨bt289.1, bt289.2.1, bt289.2.2.1⟩ : S56)]) (wrap64 (x6 - 1)) x1000 bt289.2.2.2) else (none))) else ((spec_l20Rd_odd.f k x1000 x1001 x1).bind fun bt296 => (if bt296.1 = true then ((spec_l20Rd_pick.f k x1000 bt296.2 3).bind fun bt298 => (if bt298.1 = 0 then (spec_l20Set.l1 k x5 x1000 bt298.2) else ((spec_l20Task.f k x1000 bt298.2 2).bind fun bt314 => (if x5.length < 5864062014805 then (some ((x5 ++ [(⟨bt314.1, bt314.2.1, bt314.2.2.1⟩ : S56)]), bt314.2.2.2)) else (none))))) else (some (x5, bt296.2))))
def spec_l20Set.l1 : Nat → List (S56) → List Int → Int → Option ((List (S56)) × Int)
  | 0, _, _, _ => none
  | k + 1, x5, x1000, x1001 => if (x5.length : Int) ≤ 5 then ((spec_l20Task.f k x1000 x1001 0).bind fun bt300 => (if x5.length < 5864062014805 then (spec_l20Set.l1 k (x5 ++ [(⟨bt300.1, bt300.2.1, bt300.2.2.1⟩ : S56)]) x1000 bt300.2.2.2) else (none))) else ((spec_l20Task.f k x1000 x1001 2).bind fun bt307 => (if x5.length < 5864062014805 then (some ((x5 ++ [(⟨bt307.1, bt307.2.1, bt307.2.2.1⟩ : S56)]), bt307.2.2.2)) else (none)))
end
def spec_l20Set.f (k : Nat) (s0_0 : List Int) (s0_1 : Int) (a1 : Int) : Option ((List (S56)) × Int) := (spec_l20Rd_pick.f k s0_0 s0_1 6).bind fun bt287 => (spec_l20Set.l0 k a1 (([] : List (S56))) bt287.1 s0_0 bt287.2)
theorem spec_l20Set.mono_l : ∀ k, (∀ y0 y1 y2 y3 y4, LeO (spec_l20Set.l0 k y0 y1 y2 y3 y4) (spec_l20Set.l0 (k + 1) y0 y1 y2 y3 y4)) ∧ (∀ y0 y1 y2, LeO (spec_l20Set.l1 k y0 y1 y2) (spec_l20Set.l1 (k + 1) y0 y1 y2))
  | 0 => ⟨fun _ _ _ _ _ r h => by simp [spec_l20Set.l0] at h, fun _ _ _ r h => by simp [spec_l20Set.l1] at h⟩
  | k + 1 => by
    obtain ⟨ih0, ih1⟩ := spec_l20Set.mono_l k
    refine ⟨?_, ?_⟩
    · intro y0 y1 y2 y3 y4
      unfold spec_l20Set.l0
      repeat' first
      | (with_reducible exact ih0 _ _ _ _ _)
      | (with_reducible exact ih1 _ _ _)
      | (with_reducible exact spec_l20Rd_odd.mono _ _ _ _)
      | (with_reducible exact spec_l20Rd_pick.mono _ _ _ _)
      | (with_reducible exact spec_l20Task.mono _ _ _ _)
      | (with_reducible exact LeO.refl _)
      | (with_reducible exact LeO.none _)
      | (with_reducible refine LeO.ite ?_ ?_)
      | (with_reducible refine LeO.bind ?_ (fun _ => ?_))
      | exact ih0 _ _ _ _ _
      | exact ih1 _ _ _
      | exact spec_l20Rd_odd.mono _ _ _ _
      | exact spec_l20Rd_pick.mono _ _ _ _
      | exact spec_l20Task.mono _ _ _ _
      | exact LeO.none _
      | refine LeO.ite ?_ ?_
      | refine LeO.bind ?_ (fun _ => ?_)
    · intro y0 y1 y2
      unfold spec_l20Set.l1
      repeat' first
      | (with_reducible exact ih0 _ _ _ _ _)
      | (with_reducible exact ih1 _ _ _)
      | (with_reducible exact spec_l20Rd_odd.mono _ _ _ _)
      | (with_reducible exact spec_l20Rd_pick.mono _ _ _ _)
      | (with_reducible exact spec_l20Task.mono _ _ _ _)
      | (with_reducible exact LeO.refl _)
      | (with_reducible exact LeO.none _)
      | (with_reducible refine LeO.ite ?_ ?_)
      | (with_reducible refine LeO.bind ?_ (fun _ => ?_))
      | exact ih0 _ _ _ _ _
      | exact ih1 _ _ _
      | exact spec_l20Rd_odd.mono _ _ _ _
      | exact spec_l20Rd_pick.mono _ _ _ _
      | exact spec_l20Task.mono _ _ _ _
      | exact LeO.none _
      | refine LeO.ite ?_ ?_
      | refine LeO.bind ?_ (fun _ => ?_)
theorem spec_l20Set.mono : ∀ a0 a1 a2 k, LeO (spec_l20Set.f k a0 a1 a2) (spec_l20Set.f (k + 1) a0 a1 a2) := by
  intro a0 a1 a2 k
  obtain ⟨ih0, ih1⟩ := spec_l20Set.mono_l k
  unfold spec_l20Set.f
  repeat' first
      | (with_reducible exact ih0 _ _ _ _ _)
      | (with_reducible exact ih1 _ _ _)
      | (with_reducible exact spec_l20Rd_odd.mono _ _ _ _)
      | (with_reducible exact spec_l20Rd_pick.mono _ _ _ _)
      | (with_reducible exact spec_l20Task.mono _ _ _ _)
      | (with_reducible exact LeO.refl _)
      | (with_reducible exact LeO.none _)
      | (with_reducible refine LeO.ite ?_ ?_)
      | (with_reducible refine LeO.bind ?_ (fun _ => ?_))
      | exact ih0 _ _ _ _ _
      | exact ih1 _ _ _
      | exact spec_l20Rd_odd.mono _ _ _ _
      | exact spec_l20Rd_pick.mono _ _ _ _
      | exact spec_l20Task.mono _ _ _ _
      | exact LeO.none _
      | refine LeO.ite ?_ ?_
      | refine LeO.bind ?_ (fun _ => ?_)
set_option maxHeartbeats 8000000 in
set_option maxRecDepth 100000 in
theorem spec_l20Set.calls (k : Nat) (g : Nat) (s0_0 : List Int) (s0_1 : Int) (a1 : Int) (r1 : List (S56)) (r2 : Int) (w0 w : World) (hI : IsS94 w0 w g s0_0 s0_1) (hB : Below w0.heap.size w0 w) (h : spec_l20Set.f k s0_0 s0_1 a1 = some (r1, r2)) :
    Calls Try.prog 76 #[.pointer (some ⟨g, 0, none⟩), .int .i64 a1] w fun e w' => ∃ v0_ : Value, e = .returned (v0_) ∧ Kd.R k56 56 w' w.heap.size (fun _ => True) v0_ r1 ∧ IsS94 w0 w' g s0_0 r2 ∧ Below w0.heap.size w0 w' ∧ KeepBut w w' g none := by
  have HI0 := Aside0.mk hI
  have HK := Aside0.mk (KeepBut.refl w g none)
  have HL := Aside0.mk hB.size
  clear hI
  have HW0 := Aside0.mk hB.size
  have HB := Aside0.mk hB
  clear hB
  have H : ((spec_l20Rd_pick.f k s0_0 s0_1 6).bind fun bt287 => (spec_l20Set.l0 k a1 (([] : List (S56))) bt287.1 s0_0 bt287.2)) = some (r1, r2) := h
  clear h
  obtain ⟨y284, hy284⟩ : ∃ y_ : List (S56), y_ = (([] : List (S56))) := ⟨_, rfl⟩
  replace H : ((spec_l20Rd_pick.f k s0_0 s0_1 6).bind fun bt287 => (spec_l20Set.l0 k a1 y284 bt287.1 s0_0 bt287.2)) = some (r1, r2) := by first | (rw [hy284]; with_reducible exact H) | (have H2_ := (Option.bind_some _ _).symm.trans H; rw [hy284]; with_reducible exact H2_) | (have H2_ := (Option.bind_some _ _).symm.trans H; with_reducible exact H2_) | with_reducible exact H | (rw [hy284]; exact H) | exact H
  have Ny284 := Aside0.mk hy284
  clear hy284
  replace H := Option.bind_eq_some_iff.mp H
  obtain ⟨⟨t287, t288⟩, A30, H⟩ := H
  replace H : (spec_l20Set.l0 k a1 y284 t287 s0_0 t288) = some (r1, r2) := H
  have A3 := Aside0.mk A30
  clear A30
  have H' := Aside0.mk H
  clear H
  go_enter Try.func76, Try.ntmps76
  go_wp2_with (first | ((with_reducible refine gate_dst (N := 7) rfl ?_); refine Kd.R_lit k56 _ 56 ?hg (N := 7) ?hd (xs := ([] : List (S56))) (inner := []) (ok := fun _ => True) (okp := fun _ => True) ?hr ?hp (fun _ hk => hk) trivial (Below.refl _ _) (Nat.le_refl _) (by simp) ?_; (case hd => rfl); (case hg => rfl); (case hr => first | (go_simp; done) | (go_simp; rfl)); (case hp => exact (Reps.none _ _)); intro v285 w4 ho5 hb hg_ hnew_; clear hg_ hnew_; (first | rw [← Ny284.out] at ho5 | (simp only [Int.reduceToNat] at ho5; rw [← Ny284.out] at ho5)); have n0_ := Aside0.mk (Kd.R_lower ho5 (keep_size (w := w) (g := g) (row := none) (by repeat (first | (with_reducible first | exact HK.out | apply KeepBut.set_ | apply keep_drewN | apply keep_drew | apply keep_alloc) | exact HK.out)))); have n1_ := Aside0.mk (IsS94.below (by repeat (first | (with_reducible first | exact HI0.out | apply IsS94.alloc | apply IsS94.drewN | apply IsS94.drew | apply IsS94.set_1) | exact HI0.out)) hb); have n2_ := Aside0.mk (KeepBut.trans (by repeat (first | (with_reducible first | exact HK.out | apply KeepBut.set_ | apply keep_drewN | apply keep_drew | apply keep_alloc) | exact HK.out)) (KeepBut.of_below hb g none) (.inl rfl)); have n3_ := Aside0.mk (below_step (by repeat (first | (with_reducible first | exact HB.out | apply below_alloc | apply pw_below_drewN | apply below_drew1 | refine below_set ?_ (IsS94.ge HI0.out)) | exact HB.out)) hb); clear HI0; clear HK; clear HB; have HO286 := n0_; have HI0 := n1_; have HK := n2_; have HB := n3_; clear n0_ n1_ n2_ n3_; clear hb ho5) | ((with_reducible refine gate_callee (f := 61) rfl ?_); refine goesL_ (some 9) rfl rfl Try.func61 (by kernel_rfl) rfl #[.pointer (some ⟨g, 0, none⟩), .int .i64 6] rfl (by (try simp only [List.map_toArray, List.map_cons, List.map_nil]); first | done | rfl | (simp only [List.length_drop, List.length_take]; rfl)) ?_; (with_reducible refine (spec_l20Rd_pick.calls k g s0_0 s0_1 6 t287 t288 w0 _ ?side1 ?side2 A3.out).mono ?_); (case side1 => repeat (first | (with_reducible first | exact HI0.out | apply IsS94.alloc | apply IsS94.drewN | apply IsS94.drew | apply IsS94.set_1) | exact HI0.out)); (case side2 => repeat (first | (with_reducible first | exact HB.out | apply below_alloc | apply pw_below_drewN | apply below_drew1 | refine below_set ?_ (IsS94.ge HI0.out)) | exact HB.out)); rintro e w6 ⟨rfl, hi, hb, hk⟩; refine ⟨_, rfl, ?_⟩; have n0_ := Aside0.mk (Kd.R_mono (Kd.R_keep (IsS94.apart (show IsS94 w0 _ g s0_0 s0_1 from by repeat (first | (with_reducible first | exact HI0.out | apply IsS94.alloc | apply IsS94.drewN | apply IsS94.drew | apply IsS94.set_1) | exact HI0.out)) (by (with_reducible repeat (first | apply Kd.R_alloc | apply Kd.R_drewN | apply Kd.R_drew)); exact HO286.out) (by decide)) hk (fun _ h => h.2)) (fun _ h => h.1)); have n1_ := Aside0.mk (KeepBut.trans (by repeat (first | (with_reducible first | exact HK.out | apply KeepBut.set_ | apply keep_drewN | apply keep_drew | apply keep_alloc) | exact HK.out)) hk (.inl rfl)); have n2_ := Aside0.mk (hb); have n3_ := Aside0.mk (hi); clear HO286; clear HK; clear HB; clear HI0; have HO286 := n0_; have HK := n1_; have HB := n2_; have HI0 := n3_; clear n0_ n1_ n2_ n3_; (try clear hb); (try clear hb2); (try clear hk); (try clear hi)))
  go_loopg [5, 6] k (fun kq v5 v6 w' => ∃ (x5_1 : List (S56)) (x6_1 : Int) (x1001_1 : Int), v6 = .int .i64 x6_1 ∧ Aside0 (spec_l20Set.l0 kq a1 x5_1 x6_1 s0_0 x1001_1 = some (r1, r2)) ∧ Aside0 (kq ≤ k) ∧ Aside0 (Kd.R k56 56 w' w.heap.size (fun _ => True) v5 x5_1) ∧ Aside0 (IsS94 w0 w' g s0_0 x1001_1) ∧ Aside0 (KeepBut w w' g none) ∧ Aside0 (Below w0.heap.size w0 w'))
  case atStart => exact ⟨(y284), (t287), (t288), (by first | rfl | (simp; done) | (simp [*]; done)), H', ⟨Nat.le_refl _⟩, ⟨by (with_reducible repeat (first | apply Kd.R_alloc | apply Kd.R_drewN | apply Kd.R_drew)); exact HO286.out⟩, ⟨by repeat (first | (with_reducible first | exact HI0.out | apply IsS94.alloc | apply IsS94.drewN | apply IsS94.drew | apply IsS94.set_1) | exact HI0.out)⟩, ⟨by repeat (first | (with_reducible first | exact HK.out | apply KeepBut.set_ | apply keep_drewN | apply keep_drew | apply keep_alloc) | exact HK.out)⟩, ⟨by repeat (first | (with_reducible first | exact HB.out | apply below_alloc | apply pw_below_drewN | apply below_drew1 | refine below_set ?_ (IsS94.ge HI0.out)) | exact HB.out)⟩⟩
  case round =>
    clear H'
    try clear p2
    try clear c6
    obtain ⟨x5_1, x6_1, x1001_1, rfl, HA, HK1, HO_5, HI0, HK, HB⟩ := hrel
    cases gk with
    | zero => exact absurd HA.out (by simp [spec_l20Set.l0])
    | succ k1 =>
      have H := HA.out
      clear HA
      simp only [spec_l20Set.l0] at H
      by_cases c7 : x6_1 > 0
      · rw [if_pos c7] at H
        have c7b0 : decide (0 < x6_1) = true := decide_eq_true c7
        clear c7
        replace H := Option.bind_eq_some_iff.mp H
        obtain ⟨⟨t289, t290, t291, t292⟩, A80, H⟩ := H
        replace H : (if x5_1.length < 5864062014805 then (spec_l20Set.l0 k1 a1 (x5_1 ++ [(⟨t289, t290, t291⟩ : S56)]) (wrap64 (x6_1 - 1)) s0_0 t292) else (none)) = some (r1, r2) := H
        have A8 := Aside0.mk A80
        clear A80
        by_cases c9 : x5_1.length < 5864062014805
        · rw [if_pos c9] at H
          have LMc9 := Aside0.mk c9
          clear c9
          obtain ⟨y293, hy293⟩ : ∃ y_ : List (S56), y_ = (x5_1 ++ [(⟨t289, t290, t291⟩ : S56)]) := ⟨_, rfl⟩
          replace H : (spec_l20Set.l0 k1 a1 y293 (wrap64 (x6_1 - 1)) s0_0 t292) = some (r1, r2) := by first | (rw [hy293]; with_reducible exact H) | (have H2_ := (Option.bind_some _ _).symm.trans H; rw [hy293]; with_reducible exact H2_) | (have H2_ := (Option.bind_some _ _).symm.trans H; with_reducible exact H2_) | with_reducible exact H | (rw [hy293]; exact H) | exact H
          have Ny293 := Aside0.mk hy293
          clear hy293
          have H' := Aside0.mk H
          clear H
          go_wp2_with (first | ((with_reducible refine gate_callee (f := 102) rfl ?_); refine goesL_ (some 16) rfl rfl Try.func102 (by kernel_rfl) rfl #[.pointer (some ⟨g, 0, none⟩), .int .i64 0] rfl (by (try simp only [List.map_toArray, List.map_cons, List.map_nil]); first | done | rfl | (simp only [List.length_drop, List.length_take]; rfl)) ?_; (with_reducible refine (spec_l20Task.calls k1 g s0_0 x1001_1 0 t289 t290 t291 t292 w0 _ ?side1 ?side2 A8.out).mono ?_); (case side1 => repeat (first | (with_reducible first | exact HI0.out | apply IsS94.alloc | apply IsS94.drewN | apply IsS94.drew | apply IsS94.set_1) | exact HI0.out)); (case side2 => repeat (first | (with_reducible first | exact HB.out | apply below_alloc | apply pw_below_drewN | apply below_drew1 | refine below_set ?_ (IsS94.ge HI0.out)) | exact HB.out)); rintro e w10 ⟨rfl, hi, hb, hk⟩; refine ⟨_, rfl, ?_⟩; have n0_ := Aside0.mk (Kd.R_mono (Kd.R_keep (IsS94.apart (show IsS94 w0 _ g s0_0 x1001_1 from by repeat (first | (with_reducible first | exact HI0.out | apply IsS94.alloc | apply IsS94.drewN | apply IsS94.drew | apply IsS94.set_1) | exact HI0.out)) (by (with_reducible repeat (first | apply Kd.R_alloc | apply Kd.R_drewN | apply Kd.R_drew)); exact HO_5.out) (by decide)) hk (fun _ h => h.2)) (fun _ h => h.1)); have n1_ := Aside0.mk (KeepBut.trans (by repeat (first | (with_reducible first | exact HK.out | apply KeepBut.set_ | apply keep_drewN | apply keep_drew | apply keep_alloc) | exact HK.out)) hk (.inl rfl)); have n2_ := Aside0.mk (hb); have n3_ := Aside0.mk (hi); clear HO_5; clear HK; clear HB; clear HI0; have HO_5 := n0_; have HK := n1_; have HB := n2_; have HI0 := n3_; clear n0_ n1_ n2_ n3_; (try clear hb); (try clear hb2); (try clear hk); (try clear hi)) | ((with_reducible refine gate_builtin (b := .append) (xs := #[.tmp 14, .tmp 17]) rfl ?_); at_builtin; refine Kd.R_append k56 w.heap.size rfl (.tmp 14) (.tmp 17) 25 56 (.agg #[(.int .i64 0), (.int .i64 0), (.int .i64 0)]) 24 rfl Try.underlying25 info56 rfl (by decide) (by omega) u5 x5_1 (⟨t289, t290, t291⟩ : S56) [.int .i64 t289, .int .i64 t290, .int .i64 t291] (fun _ => True) (fun _ => False) rfl rfl ?aP (fun _ hk => hk.elim) ?aF ?aO (Below.refl _ _) ?aS ?aL ?_; (case aP => exact k56_mkM _ _ _ (⟨t289, t290, t291⟩ : S56)); (case aF => exact (fun _ _ => trivial)); (case aO => exact (by (with_reducible repeat (first | apply Kd.R_alloc | apply Kd.R_drewN | apply Kd.R_drew)); exact HO_5.out)); (case aS => exact (keep_size (w := w) (g := g) (row := none) (by repeat (first | (with_reducible first | exact HK.out | apply KeepBut.set_ | apply keep_drewN | apply keep_drew | apply keep_alloc) | exact HK.out)))); (case aL => have := LMc9.out; omega); intro v294 w11 ho hb hg hat; rw [← Ny293.out] at ho; have n0_ := Aside0.mk (IsS94.grown (by repeat (first | (with_reducible first | exact HI0.out | apply IsS94.alloc | apply IsS94.drewN | apply IsS94.drew | apply IsS94.set_1) | exact HI0.out)) hg (IsS94.own_ne HI0.out HO_5.out (by decide))); have n1_ := Aside0.mk (below_weaken (by repeat (first | (with_reducible first | exact HB.out | apply below_alloc | apply pw_below_drewN | apply below_drew1 | refine below_set ?_ (IsS94.ge HI0.out)) | exact HB.out)) HL.out hb); have n2_ := Aside0.mk (KeepBut.trans (by repeat (first | (with_reducible first | exact HK.out | apply KeepBut.set_ | apply keep_drewN | apply keep_drew | apply keep_alloc) | exact HK.out)) (KeepBut.of_grown hg g) (Kd.R_base2 HO_5.out)); have n3_ := Aside0.mk (ho); clear HI0; clear HB; clear HK; clear HO_5; have HI0 := n0_; have HB := n1_; have HK := n2_; have HO295 := n3_; clear n0_ n1_ n2_ n3_; clear ho hb hg hat))
          go_roundg k1
          case measure => have := HK1.out; omega
          case rel => exact ⟨(y293), (wrap64 (x6_1 - 1)), (t292), (by first | rfl | (simp; done) | (simp [*]; done)), H', ⟨by have := HK1.out; omega⟩, ⟨by (with_reducible repeat (first | apply Kd.R_alloc | apply Kd.R_drewN | apply Kd.R_drew)); exact HO295.out⟩, ⟨by repeat (first | (with_reducible first | exact HI0.out | apply IsS94.alloc | apply IsS94.drewN | apply IsS94.drew | apply IsS94.set_1) | exact HI0.out)⟩, ⟨by repeat (first | (with_reducible first | exact HK.out | apply KeepBut.set_ | apply keep_drewN | apply keep_drew | apply keep_alloc) | exact HK.out)⟩, ⟨by repeat (first | (with_reducible first | exact HB.out | apply below_alloc | apply pw_below_drewN | apply below_drew1 | refine below_set ?_ (IsS94.ge HI0.out)) | exact HB.out)⟩⟩
        · rw [if_neg c9] at H
          exact absurd H (by simp)
      · rw [if_neg c7] at H
        have c7b0 : decide (0 < x6_1) = false := decide_eq_false c7
        clear c7
        replace H := Option.bind_eq_some_iff.mp H
        obtain ⟨⟨t296, t297⟩, A120, H⟩ := H
        replace H : (if t296 = true then ((spec_l20Rd_pick.f k1 s0_0 t297 3).bind fun bt298 => (if bt298.1 = 0 then (spec_l20Set.l1 k1 x5_1 s0_0 bt298.2) else ((spec_l20Task.f k1 s0_0 bt298.2 2).bind fun bt314 => (if x5_1.length < 5864062014805 then (some ((x5_1 ++ [(⟨bt314.1, bt314.2.1, bt314.2.2.1⟩ : S56)]), bt314.2.2.2)) else (none))))) else (some (x5_1, t297))) = some (r1, r2) := H
        have A12 := Aside0.mk A120
        clear A120
        by_cases c13 : t296 = true
        · subst c13
          have H1 : ((spec_l20Rd_pick.f k1 s0_0 t297 3).bind fun bt298 => (if bt298.1 = 0 then (spec_l20Set.l1 k1 x5_1 s0_0 bt298.2) else ((spec_l20Task.f k1 s0_0 bt298.2 2).bind fun bt314 => (if x5_1.length < 5864062014805 then (some ((x5_1 ++ [(⟨bt314.1, bt314.2.1, bt314.2.2.1⟩ : S56)]), bt314.2.2.2)) else (none))))) = some (r1, r2) := by rw [if_pos rfl] at H; exact H
          clear H
          have H := H1
          clear H1
          replace H := Option.bind_eq_some_iff.mp H
          obtain ⟨⟨t298, t299⟩, A140, H⟩ := H
          replace H : (if t298 = 0 then (spec_l20Set.l1 k1 x5_1 s0_0 t299) else ((spec_l20Task.f k1 s0_0 t299 2).bind fun bt314 => (if x5_1.length < 5864062014805 then (some ((x5_1 ++ [(⟨bt314.1, bt314.2.1, bt314.2.2.1⟩ : S56)]), bt314.2.2.2)) else (none)))) = some (r1, r2) := H
          have A14 := Aside0.mk A140
          clear A140
          by_cases c15 : t298 = 0
          · rw [if_pos c15] at H
            have c15b0 : (t298 == 0) = true := beq_iff_eq.mpr c15
            have c15b1 : (t298 != 0) = false := bne_eq_false_iff_eq.mpr c15
            clear c15
            have H' := Aside0.mk H
            clear H
            go_wp2_with (first | ((with_reducible refine gate_callee (f := 103) rfl ?_); refine goesL_ (some 21) rfl rfl Try.func103 (by kernel_rfl) rfl #[.pointer (some ⟨g, 0, none⟩), .int .i64 a1] rfl (by (try simp only [List.map_toArray, List.map_cons, List.map_nil]); first | done | rfl | (simp only [List.length_drop, List.length_take]; rfl)) ?_; (with_reducible refine (spec_l20Rd_odd.calls k1 g s0_0 x1001_1 a1 true t297 w0 _ ?side1 ?side2 A12.out).mono ?_); (case side1 => repeat (first | (with_reducible first | exact HI0.out | apply IsS94.alloc | apply IsS94.drewN | apply IsS94.drew | apply IsS94.set_1) | exact HI0.out)); (case side2 => repeat (first | (with_reducible first | exact HB.out | apply below_alloc | apply pw_below_drewN | apply below_drew1 | refine below_set ?_ (IsS94.ge HI0.out)) | exact HB.out)); rintro e w16 ⟨rfl, hi, hb, hk⟩; refine ⟨_, rfl, ?_⟩; have n0_ := Aside0.mk (Kd.R_mono (Kd.R_keep (IsS94.apart (show IsS94 w0 _ g s0_0 x1001_1 from by repeat (first | (with_reducible first | exact HI0.out | apply IsS94.alloc | apply IsS94.drewN | apply IsS94.drew | apply IsS94.set_1) | exact HI0.out)) (by (with_reducible repeat (first | apply Kd.R_alloc | apply Kd.R_drewN | apply Kd.R_drew)); exact HO_5.out) (by decide)) hk (fun _ h => h.2)) (fun _ h => h.1)); have n1_ := Aside0.mk (KeepBut.trans (by repeat (first | (with_reducible first | exact HK.out | apply KeepBut.set_ | apply keep_drewN | apply keep_drew | apply keep_alloc) | exact HK.out)) hk (.inl rfl)); have n2_ := Aside0.mk (hb); have n3_ := Aside0.mk (hi); clear HO_5; clear HK; clear HB; clear HI0; have HO_5 := n0_; have HK := n1_; have HB := n2_; have HI0 := n3_; clear n0_ n1_ n2_ n3_; (try clear hb); (try clear hb2); (try clear hk); (try clear hi)) | ((with_reducible refine gate_callee (f := 61) rfl ?_); refine goesL_ (some 23) rfl rfl Try.func61 (by kernel_rfl) rfl #[.pointer (some ⟨g, 0, none⟩), .int .i64 3] rfl (by (try simp only [List.map_toArray, List.map_cons, List.map_nil]); first | done | rfl | (simp only [List.length_drop, List.length_take]; rfl)) ?_; (with_reducible refine (spec_l20Rd_pick.calls k1 g s0_0 t297 3 t298 t299 w0 _ ?side1 ?side2 A14.out).mono ?_); (case side1 => repeat (first | (with_reducible first | exact HI0.out | apply IsS94.alloc | apply IsS94.drewN | apply IsS94.drew | apply IsS94.set_1) | exact HI0.out)); (case side2 => repeat (first | (with_reducible first | exact HB.out | apply below_alloc | apply pw_below_drewN | apply below_drew1 | refine below_set ?_ (IsS94.ge HI0.out)) | exact HB.out)); rintro e w17 ⟨rfl, hi, hb, hk⟩; refine ⟨_, rfl, ?_⟩; have n0_ := Aside0.mk (Kd.R_mono (Kd.R_keep (IsS94.apart (show IsS94 w0 _ g s0_0 t297 from by repeat (first | (with_reducible first | exact HI0.out | apply IsS94.alloc | apply IsS94.drewN | apply IsS94.drew | apply IsS94.set_1) | exact HI0.out)) (by (with_reducible repeat (first | apply Kd.R_alloc | apply Kd.R_drewN | apply Kd.R_drew)); exact HO_5.out) (by decide)) hk (fun _ h => h.2)) (fun _ h => h.1)); have n1_ := Aside0.mk (KeepBut.trans (by repeat (first | (with_reducible first | exact HK.out | apply KeepBut.set_ | apply keep_drewN | apply keep_drew | apply keep_alloc) | exact HK.out)) hk (.inl rfl)); have n2_ := Aside0.mk (hb); have n3_ := Aside0.mk (hi); clear HO_5; clear HK; clear HB; clear HI0; have HO_5 := n0_; have HK := n1_; have HB := n2_; have HI0 := n3_; clear n0_ n1_ n2_ n3_; (try clear hb); (try clear hb2); (try clear hk); (try clear hi)))
            go_loopg [5] k1 (fun kq v5 w' => ∃ (x5_2 : List (S56)) (x1001_2 : Int), Aside0 (spec_l20Set.l1 kq x5_2 s0_0 x1001_2 = some (r1, r2)) ∧ Aside0 (kq ≤ k1) ∧ Aside0 (Kd.R k56 56 w' w.heap.size (fun _ => True) v5 x5_2) ∧ Aside0 (IsS94 w0 w' g s0_0 x1001_2) ∧ Aside0 (KeepBut w w' g none) ∧ Aside0 (Below w0.heap.size w0 w'))
            case atStart => exact ⟨(x5_1), (t299), H', ⟨Nat.le_refl _⟩, ⟨by (with_reducible repeat (first | apply Kd.R_alloc | apply Kd.R_drewN | apply Kd.R_drew)); exact HO_5.out⟩, ⟨by repeat (first | (with_reducible first | exact HI0.out | apply IsS94.alloc | apply IsS94.drewN | apply IsS94.drew | apply IsS94.set_1) | exact HI0.out)⟩, ⟨by repeat (first | (with_reducible first | exact HK.out | apply KeepBut.set_ | apply keep_drewN | apply keep_drew | apply keep_alloc) | exact HK.out)⟩, ⟨by repeat (first | (with_reducible first | exact HB.out | apply below_alloc | apply pw_below_drewN | apply below_drew1 | refine below_set ?_ (IsS94.ge HI0.out)) | exact HB.out)⟩⟩
            case round =>
              clear H'
              try clear c1
              try clear p2
              try clear c6
              try clear p6
              try clear c7
              try clear c7b0
              try clear c9
              try clear c10
              try clear c13
              try clear c15
              try clear c15b0
              try clear c15b1
              try clear p2
              obtain ⟨x5_2, x1001_2, HA, HK2, HO_5, HI0, HK, HB⟩ := hrel
              cases gk with
              | zero => exact absurd HA.out (by simp [spec_l20Set.l1])
              | succ k2 =>
                have H := HA.out
                clear HA
                simp only [spec_l20Set.l1] at H
                by_cases c18 : (x5_2.length : Int) ≤ 5
                · rw [if_pos c18] at H
                  have c18b0 : decide ((x5_2.length : Int) ≤ 5) = true := decide_eq_true c18
                  have c18b1 : decide (x5_2.length ≤ 5) = true := decide_eq_true (by omega)
                  clear c18
                  replace H := Option.bind_eq_some_iff.mp H
                  obtain ⟨⟨t300, t301, t302, t303⟩, A190, H⟩ := H
                  replace H : (if x5_2.length < 5864062014805 then (spec_l20Set.l1 k2 (x5_2 ++ [(⟨t300, t301, t302⟩ : S56)]) s0_0 t303) else (none)) = some (r1, r2) := H
                  have A19 := Aside0.mk A190
                  clear A190
                  by_cases c20 : x5_2.length < 5864062014805
                  · rw [if_pos c20] at H
                    have LMc20 := Aside0.mk c20
                    clear c20
                    obtain ⟨y304, hy304⟩ : ∃ y_ : List (S56), y_ = (x5_2 ++ [(⟨t300, t301, t302⟩ : S56)]) := ⟨_, rfl⟩
                    replace H : (spec_l20Set.l1 k2 y304 s0_0 t303) = some (r1, r2) := by first | (rw [hy304]; with_reducible exact H) | (have H2_ := (Option.bind_some _ _).symm.trans H; rw [hy304]; with_reducible exact H2_) | (have H2_ := (Option.bind_some _ _).symm.trans H; with_reducible exact H2_) | with_reducible exact H | (rw [hy304]; exact H) | exact H
                    have Ny304 := Aside0.mk hy304
                    clear hy304
                    have H' := Aside0.mk H
                    clear H
                    obtain ⟨Ao21, co21, eo21⟩ := Kd.R_slice HO_5.out
                    subst eo21
                    go_wp2_with (first | ((with_reducible refine gate_callee (f := 102) rfl ?_); refine goesL_ (some 30) rfl rfl Try.func102 (by kernel_rfl) rfl #[.pointer (some ⟨g, 0, none⟩), .int .i64 0] rfl (by (try simp only [List.map_toArray, List.map_cons, List.map_nil]); first | done | rfl | (simp only [List.length_drop, List.length_take]; rfl)) ?_; (with_reducible refine (spec_l20Task.calls k2 g s0_0 x1001_2 0 t300 t301 t302 t303 w0 _ ?side1 ?side2 A19.out).mono ?_); (case side1 => repeat (first | (with_reducible first | exact HI0.out | apply IsS94.alloc | apply IsS94.drewN | apply IsS94.drew | apply IsS94.set_1) | exact HI0.out)); (case side2 => repeat (first | (with_reducible first | exact HB.out | apply below_alloc | apply pw_below_drewN | apply below_drew1 | refine below_set ?_ (IsS94.ge HI0.out)) | exact HB.out)); rintro e w22 ⟨rfl, hi, hb, hk⟩; refine ⟨_, rfl, ?_⟩; have n0_ := Aside0.mk (Kd.R_mono (Kd.R_keep (IsS94.apart (show IsS94 w0 _ g s0_0 x1001_2 from by repeat (first | (with_reducible first | exact HI0.out | apply IsS94.alloc | apply IsS94.drewN | apply IsS94.drew | apply IsS94.set_1) | exact HI0.out)) (by (with_reducible repeat (first | apply Kd.R_alloc | apply Kd.R_drewN | apply Kd.R_drew)); exact HO_5.out) (by decide)) hk (fun _ h => h.2)) (fun _ h => h.1)); have n1_ := Aside0.mk (KeepBut.trans (by repeat (first | (with_reducible first | exact HK.out | apply KeepBut.set_ | apply keep_drewN | apply keep_drew | apply keep_alloc) | exact HK.out)) hk (.inl rfl)); have n2_ := Aside0.mk (hb); have n3_ := Aside0.mk (hi); clear HO_5; clear HK; clear HB; clear HI0; have HO_5 := n0_; have HK := n1_; have HB := n2_; have HI0 := n3_; clear n0_ n1_ n2_ n3_; (try clear hb); (try clear hb2); (try clear hk); (try clear hi)) | ((with_reducible refine gate_builtin (b := .append) (xs := #[.tmp 28, .tmp 31]) rfl ?_); at_builtin; refine Kd.R_append k56 w.heap.size rfl (.tmp 28) (.tmp 31) 25 56 (.agg #[(.int .i64 0), (.int .i64 0), (.int .i64 0)]) 24 rfl Try.underlying25 info56 rfl (by decide) (by omega) (.slice Ao21 x5_2.length co21) x5_2 (⟨t300, t301, t302⟩ : S56) [.int .i64 t300, .int .i64 t301, .int .i64 t302] (fun _ => True) (fun _ => False) rfl rfl ?aP (fun _ hk => hk.elim) ?aF ?aO (Below.refl _ _) ?aS ?aL ?_; (case aP => exact k56_mkM _ _ _ (⟨t300, t301, t302⟩ : S56)); (case aF => exact (fun _ _ => trivial)); (case aO => exact (by (with_reducible repeat (first | apply Kd.R_alloc | apply Kd.R_drewN | apply Kd.R_drew)); exact HO_5.out)); (case aS => exact (keep_size (w := w) (g := g) (row := none) (by repeat (first | (with_reducible first | exact HK.out | apply KeepBut.set_ | apply keep_drewN | apply keep_drew | apply keep_alloc) | exact HK.out)))); (case aL => have := LMc20.out; omega); intro v305 w23 ho hb hg hat; rw [← Ny304.out] at ho; have n0_ := Aside0.mk (IsS94.grown (by repeat (first | (with_reducible first | exact HI0.out | apply IsS94.alloc | apply IsS94.drewN | apply IsS94.drew | apply IsS94.set_1) | exact HI0.out)) hg (IsS94.own_ne HI0.out HO_5.out (by decide))); have n1_ := Aside0.mk (below_weaken (by repeat (first | (with_reducible first | exact HB.out | apply below_alloc | apply pw_below_drewN | apply below_drew1 | refine below_set ?_ (IsS94.ge HI0.out)) | exact HB.out)) HL.out hb); have n2_ := Aside0.mk (KeepBut.trans (by repeat (first | (with_reducible first | exact HK.out | apply KeepBut.set_ | apply keep_drewN | apply keep_drew | apply keep_alloc) | exact HK.out)) (KeepBut.of_grown hg g) (Kd.R_base2 HO_5.out)); have n3_ := Aside0.mk (ho); clear HI0; clear HB; clear HK; clear HO_5; have HI0 := n0_; have HB := n1_; have HK := n2_; have HO306 := n3_; clear n0_ n1_ n2_ n3_; clear ho hb hg hat))
                    go_roundg k2
                    case measure => have := HK1.out; have := HK2.out; omega
                    case rel => exact ⟨(y304), (t303), H', ⟨by have := HK1.out; have := HK2.out; omega⟩, ⟨by (with_reducible repeat (first | apply Kd.R_alloc | apply Kd.R_drewN | apply Kd.R_drew)); exact HO306.out⟩, ⟨by repeat (first | (with_reducible first | exact HI0.out | apply IsS94.alloc | apply IsS94.drewN | apply IsS94.drew | apply IsS94.set_1) | exact HI0.out)⟩, ⟨by repeat (first | (with_reducible first | exact HK.out | apply KeepBut.set_ | apply keep_drewN | apply keep_drew | apply keep_alloc) | exact HK.out)⟩, ⟨by repeat (first | (with_reducible first | exact HB.out | apply below_alloc | apply pw_below_drewN | apply below_drew1 | refine below_set ?_ (IsS94.ge HI0.out)) | exact HB.out)⟩⟩
                  · rw [if_neg c20] at H
                    exact absurd H (by simp)
                · rw [if_neg c18] at H
                  have c18b0 : decide ((x5_2.length : Int) ≤ 5) = false := decide_eq_false c18
                  have c18b1 : decide (x5_2.length ≤ 5) = false := decide_eq_false (by omega)
                  clear c18
                  replace H := Option.bind_eq_some_iff.mp H
                  obtain ⟨⟨t307, t308, t309, t310⟩, A240, H⟩ := H
                  replace H : (if x5_2.length < 5864062014805 then (some ((x5_2 ++ [(⟨t307, t308, t309⟩ : S56)]), t310)) else (none)) = some (r1, r2) := H
                  have A24 := Aside0.mk A240
                  clear A240
                  by_cases c25 : x5_2.length < 5864062014805
                  · rw [if_pos c25] at H
                    have LMc25 := Aside0.mk c25
                    clear c25
                    obtain ⟨y311, hy311⟩ : ∃ y_ : List (S56), y_ = (x5_2 ++ [(⟨t307, t308, t309⟩ : S56)]) := ⟨_, rfl⟩
                    replace H : (some (y311, t310)) = some (r1, r2) := by first | (rw [hy311]; with_reducible exact H) | (have H2_ := (Option.bind_some _ _).symm.trans H; rw [hy311]; with_reducible exact H2_) | (have H2_ := (Option.bind_some _ _).symm.trans H; with_reducible exact H2_) | with_reducible exact H | (rw [hy311]; exact H) | exact H
                    have Ny311 := Aside0.mk hy311
                    clear hy311
                    simp only [Option.some.injEq, Prod.mk.injEq] at H
                    obtain ⟨rfl, rfl⟩ := H
                    obtain ⟨Ao26, co26, eo26⟩ := Kd.R_slice HO_5.out
                    subst eo26
                    go_wp2_with (first | ((with_reducible refine gate_callee (f := 102) rfl ?_); refine goesL_ (some 35) rfl rfl Try.func102 (by kernel_rfl) rfl #[.pointer (some ⟨g, 0, none⟩), .int .i64 2] rfl (by (try simp only [List.map_toArray, List.map_cons, List.map_nil]); first | done | rfl | (simp only [List.length_drop, List.length_take]; rfl)) ?_; (with_reducible refine (spec_l20Task.calls k2 g s0_0 x1001_2 2 t307 t308 t309 t310 w0 _ ?side1 ?side2 A24.out).mono ?_); (case side1 => repeat (first | (with_reducible first | exact HI0.out | apply IsS94.alloc | apply IsS94.drewN | apply IsS94.drew | apply IsS94.set_1) | exact HI0.out)); (case side2 => repeat (first | (with_reducible first | exact HB.out | apply below_alloc | apply pw_below_drewN | apply below_drew1 | refine below_set ?_ (IsS94.ge HI0.out)) | exact HB.out)); rintro e w27 ⟨rfl, hi, hb, hk⟩; refine ⟨_, rfl, ?_⟩; have n0_ := Aside0.mk (Kd.R_mono (Kd.R_keep (IsS94.apart (show IsS94 w0 _ g s0_0 x1001_2 from by repeat (first | (with_reducible first | exact HI0.out | apply IsS94.alloc | apply IsS94.drewN | apply IsS94.drew | apply IsS94.set_1) | exact HI0.out)) (by (with_reducible repeat (first | apply Kd.R_alloc | apply Kd.R_drewN | apply Kd.R_drew)); exact HO_5.out) (by decide)) hk (fun _ h => h.2)) (fun _ h => h.1)); have n1_ := Aside0.mk (KeepBut.trans (by repeat (first | (with_reducible first | exact HK.out | apply KeepBut.set_ | apply keep_drewN | apply keep_drew | apply keep_alloc) | exact HK.out)) hk (.inl rfl)); have n2_ := Aside0.mk (hb); have n3_ := Aside0.mk (hi); clear HO_5; clear HK; clear HB; clear HI0; have HO_5 := n0_; have HK := n1_; have HB := n2_; have HI0 := n3_; clear n0_ n1_ n2_ n3_; (try clear hb); (try clear hb2); (try clear hk); (try clear hi)) | ((with_reducible refine gate_builtin (b := .append) (xs := #[.tmp 33, .tmp 36]) rfl ?_); at_builtin; refine Kd.R_append k56 w.heap.size rfl (.tmp 33) (.tmp 36) 25 56 (.agg #[(.int .i64 0), (.int .i64 0), (.int .i64 0)]) 24 rfl Try.underlying25 info56 rfl (by decide) (by omega) (.slice Ao26 x5_2.length co26) x5_2 (⟨t307, t308, t309⟩ : S56) [.int .i64 t307, .int .i64 t308, .int .i64 t309] (fun _ => True) (fun _ => False) rfl rfl ?aP (fun _ hk => hk.elim) ?aF ?aO (Below.refl _ _) ?aS ?aL ?_; (case aP => exact k56_mkM _ _ _ (⟨t307, t308, t309⟩ : S56)); (case aF => exact (fun _ _ => trivial)); (case aO => exact (by (with_reducible repeat (first | apply Kd.R_alloc | apply Kd.R_drewN | apply Kd.R_drew)); exact HO_5.out)); (case aS => exact (keep_size (w := w) (g := g) (row := none) (by repeat (first | (with_reducible first | exact HK.out | apply KeepBut.set_ | apply keep_drewN | apply keep_drew | apply keep_alloc) | exact HK.out)))); (case aL => have := LMc25.out; omega); intro v312 w28 ho hb hg hat; rw [← Ny311.out] at ho; have n0_ := Aside0.mk (IsS94.grown (by repeat (first | (with_reducible first | exact HI0.out | apply IsS94.alloc | apply IsS94.drewN | apply IsS94.drew | apply IsS94.set_1) | exact HI0.out)) hg (IsS94.own_ne HI0.out HO_5.out (by decide))); have n1_ := Aside0.mk (below_weaken (by repeat (first | (with_reducible first | exact HB.out | apply below_alloc | apply pw_below_drewN | apply below_drew1 | refine below_set ?_ (IsS94.ge HI0.out)) | exact HB.out)) HL.out hb); have n2_ := Aside0.mk (KeepBut.trans (by repeat (first | (with_reducible first | exact HK.out | apply KeepBut.set_ | apply keep_drewN | apply keep_drew | apply keep_alloc) | exact HK.out)) (KeepBut.of_grown hg g) (Kd.R_base2 HO_5.out)); have n3_ := Aside0.mk (ho); clear HI0; clear HB; clear HK; clear HO_5; have HI0 := n0_; have HB := n1_; have HK := n2_; have HO313 := n3_; clear n0_ n1_ n2_ n3_; clear ho hb hg hat))
                    go_ret
                    exact ⟨_, by first | rfl | (simp [errW_none, errW_some] <;> rfl) | (simp [*, errW_none, errW_some] <;> rfl), by (with_reducible repeat (first | apply Kd.R_alloc | apply Kd.R_drewN | apply Kd.R_drew)); exact HO313.out, by repeat (first | (with_reducible first | exact HI0.out | apply IsS94.alloc | apply IsS94.drewN | apply IsS94.drew | apply IsS94.set_1) | exact HI0.out), by repeat (first | (with_reducible first | exact HB.out | apply below_alloc | apply pw_below_drewN | apply below_drew1 | refine below_set ?_ (IsS94.ge HI0.out)) | exact HB.out), by repeat (first | (with_reducible first | exact HK.out | apply KeepBut.set_ | apply keep_drewN | apply keep_drew | apply keep_alloc) | exact HK.out)⟩
                  · rw [if_neg c25] at H
                    exact absurd H (by simp)
          · rw [if_neg c15] at H
            have c15b0 : (t298 == 0) = false := beq_eq_false_iff_ne.mpr c15
            have c15b1 : (t298 != 0) = true := bne_iff_ne.mpr c15
            replace H := Option.bind_eq_some_iff.mp H
            obtain ⟨⟨t314, t315, t316, t317⟩, A290, H⟩ := H
            replace H : (if x5_1.length < 5864062014805 then (some ((x5_1 ++ [(⟨t314, t315, t316⟩ : S56)]), t317)) else (none)) = some (r1, r2) := H
            have A29 := Aside0.mk A290
            clear A290
            by_cases c30 : x5_1.length < 5864062014805
            · rw [if_pos c30] at H
              have LMc30 := Aside0.mk c30
              clear c30
              obtain ⟨y318, hy318⟩ : ∃ y_ : List (S56), y_ = (x5_1 ++ [(⟨t314, t315, t316⟩ : S56)]) := ⟨_, rfl⟩
              replace H : (some (y318, t317)) = some (r1, r2) := by first | (rw [hy318]; with_reducible exact H) | (have H2_ := (Option.bind_some _ _).symm.trans H; rw [hy318]; with_reducible exact H2_) | (have H2_ := (Option.bind_some _ _).symm.trans H; with_reducible exact H2_) | with_reducible exact H | (rw [hy318]; exact H) | exact H
              have Ny318 := Aside0.mk hy318
              clear hy318
              simp only [Option.some.injEq, Prod.mk.injEq] at H
              obtain ⟨rfl, rfl⟩ := H
              go_wp2_with (first | ((with_reducible refine gate_callee (f := 103) rfl ?_); refine goesL_ (some 21) rfl rfl Try.func103 (by kernel_rfl) rfl #[.pointer (some ⟨g, 0, none⟩), .int .i64 a1] rfl (by (try simp only [List.map_toArray, List.map_cons, List.map_nil]); first | done | rfl | (simp only [List.length_drop, List.length_take]; rfl)) ?_; (with_reducible refine (spec_l20Rd_odd.calls k1 g s0_0 x1001_1 a1 true t297 w0 _ ?side1 ?side2 A12.out).mono ?_); (case side1 => repeat (first | (with_reducible first | exact HI0.out | apply IsS94.alloc | apply IsS94.drewN | apply IsS94.drew | apply IsS94.set_1) | exact HI0.out)); (case side2 => repeat (first | (with_reducible first | exact HB.out | apply below_alloc | apply pw_below_drewN | apply below_drew1 | refine below_set ?_ (IsS94.ge HI0.out)) | exact HB.out)); rintro e w31 ⟨rfl, hi, hb, hk⟩; refine ⟨_, rfl, ?_⟩; have n0_ := Aside0.mk (Kd.R_mono (Kd.R_keep (IsS94.apart (show IsS94 w0 _ g s0_0 x1001_1 from by repeat (first | (with_reducible first | exact HI0.out | apply IsS94.alloc | apply IsS94.drewN | apply IsS94.drew | apply IsS94.set_1) | exact HI0.out)) (by (with_reducible repeat (first | apply Kd.R_alloc | apply Kd.R_drewN | apply Kd.R_drew)); exact HO_5.out) (by decide)) hk (fun _ h => h.2)) (fun _ h => h.1)); have n1_ := Aside0.mk (KeepBut.trans (by repeat (first | (with_reducible first | exact HK.out | apply KeepBut.set_ | apply keep_drewN | apply keep_drew | apply keep_alloc) | exact HK.out)) hk (.inl rfl)); have n2_ := Aside0.mk (hb); have n3_ := Aside0.mk (hi); clear HO_5; clear HK; clear HB; clear HI0; have HO_5 := n0_; have HK := n1_; have HB := n2_; have HI0 := n3_; clear n0_ n1_ n2_ n3_; (try clear hb); (try clear hb2); (try clear hk); (try clear hi)) | ((with_reducible refine gate_callee (f := 61) rfl ?_); refine goesL_ (some 23) rfl rfl Try.func61 (by kernel_rfl) rfl #[.pointer (some ⟨g, 0, none⟩), .int .i64 3] rfl (by (try simp only [List.map_toArray, List.map_cons, List.map_nil]); first | done | rfl | (simp only [List.length_drop, List.length_take]; rfl)) ?_; (with_reducible refine (spec_l20Rd_pick.calls k1 g s0_0 t297 3 t298 t299 w0 _ ?side1 ?side2 A14.out).mono ?_); (case side1 => repeat (first | (with_reducible first | exact HI0.out | apply IsS94.alloc | apply IsS94.drewN | apply IsS94.drew | apply IsS94.set_1) | exact HI0.out)); (case side2 => repeat (first | (with_reducible first | exact HB.out | apply below_alloc | apply pw_below_drewN | apply below_drew1 | refine below_set ?_ (IsS94.ge HI0.out)) | exact HB.out)); rintro e w32 ⟨rfl, hi, hb, hk⟩; refine ⟨_, rfl, ?_⟩; have n0_ := Aside0.mk (Kd.R_mono (Kd.R_keep (IsS94.apart (show IsS94 w0 _ g s0_0 t297 from by repeat (first | (with_reducible first | exact HI0.out | apply IsS94.alloc | apply IsS94.drewN | apply IsS94.drew | apply IsS94.set_1) | exact HI0.out)) (by (with_reducible repeat (first | apply Kd.R_alloc | apply Kd.R_drewN | apply Kd.R_drew)); exact HO_5.out) (by decide)) hk (fun _ h => h.2)) (fun _ h => h.1)); have n1_ := Aside0.mk (KeepBut.trans (by repeat (first | (with_reducible first | exact HK.out | apply KeepBut.set_ | apply keep_drewN | apply keep_drew | apply keep_alloc) | exact HK.out)) hk (.inl rfl)); have n2_ := Aside0.mk (hb); have n3_ := Aside0.mk (hi); clear HO_5; clear HK; clear HB; clear HI0; have HO_5 := n0_; have HK := n1_; have HB := n2_; have HI0 := n3_; clear n0_ n1_ n2_ n3_; (try clear hb); (try clear hb2); (try clear hk); (try clear hi)) | ((with_reducible refine gate_callee (f := 102) rfl ?_); refine goesL_ (some 35) rfl rfl Try.func102 (by kernel_rfl) rfl #[.pointer (some ⟨g, 0, none⟩), .int .i64 2] rfl (by (try simp only [List.map_toArray, List.map_cons, List.map_nil]); first | done | rfl | (simp only [List.length_drop, List.length_take]; rfl)) ?_; (with_reducible refine (spec_l20Task.calls k1 g s0_0 t299 2 t314 t315 t316 t317 w0 _ ?side1 ?side2 A29.out).mono ?_); (case side1 => repeat (first | (with_reducible first | exact HI0.out | apply IsS94.alloc | apply IsS94.drewN | apply IsS94.drew | apply IsS94.set_1) | exact HI0.out)); (case side2 => repeat (first | (with_reducible first | exact HB.out | apply below_alloc | apply pw_below_drewN | apply below_drew1 | refine below_set ?_ (IsS94.ge HI0.out)) | exact HB.out)); rintro e w33 ⟨rfl, hi, hb, hk⟩; refine ⟨_, rfl, ?_⟩; have n0_ := Aside0.mk (Kd.R_mono (Kd.R_keep (IsS94.apart (show IsS94 w0 _ g s0_0 t299 from by repeat (first | (with_reducible first | exact HI0.out | apply IsS94.alloc | apply IsS94.drewN | apply IsS94.drew | apply IsS94.set_1) | exact HI0.out)) (by (with_reducible repeat (first | apply Kd.R_alloc | apply Kd.R_drewN | apply Kd.R_drew)); exact HO_5.out) (by decide)) hk (fun _ h => h.2)) (fun _ h => h.1)); have n1_ := Aside0.mk (KeepBut.trans (by repeat (first | (with_reducible first | exact HK.out | apply KeepBut.set_ | apply keep_drewN | apply keep_drew | apply keep_alloc) | exact HK.out)) hk (.inl rfl)); have n2_ := Aside0.mk (hb); have n3_ := Aside0.mk (hi); clear HO_5; clear HK; clear HB; clear HI0; have HO_5 := n0_; have HK := n1_; have HB := n2_; have HI0 := n3_; clear n0_ n1_ n2_ n3_; (try clear hb); (try clear hb2); (try clear hk); (try clear hi)) | ((with_reducible refine gate_builtin (b := .append) (xs := #[.tmp 33, .tmp 36]) rfl ?_); at_builtin; refine Kd.R_append k56 w.heap.size rfl (.tmp 33) (.tmp 36) 25 56 (.agg #[(.int .i64 0), (.int .i64 0), (.int .i64 0)]) 24 rfl Try.underlying25 info56 rfl (by decide) (by omega) u5 x5_1 (⟨t314, t315, t316⟩ : S56) [.int .i64 t314, .int .i64 t315, .int .i64 t316] (fun _ => True) (fun _ => False) rfl rfl ?aP (fun _ hk => hk.elim) ?aF ?aO (Below.refl _ _) ?aS ?aL ?_; (case aP => exact k56_mkM _ _ _ (⟨t314, t315, t316⟩ : S56)); (case aF => exact (fun _ _ => trivial)); (case aO => exact (by (with_reducible repeat (first | apply Kd.R_alloc | apply Kd.R_drewN | apply Kd.R_drew)); exact HO_5.out)); (case aS => exact (keep_size (w := w) (g := g) (row := none) (by repeat (first | (with_reducible first | exact HK.out | apply KeepBut.set_ | apply keep_drewN | apply keep_drew | apply keep_alloc) | exact HK.out)))); (case aL => have := LMc30.out; omega); intro v319 w34 ho hb hg hat; rw [← Ny318.out] at ho; have n0_ := Aside0.mk (IsS94.grown (by repeat (first | (with_reducible first | exact HI0.out | apply IsS94.alloc | apply IsS94.drewN | apply IsS94.drew | apply IsS94.set_1) | exact HI0.out)) hg (IsS94.own_ne HI0.out HO_5.out (by decide))); have n1_ := Aside0.mk (below_weaken (by repeat (first | (with_reducible first | exact HB.out | apply below_alloc | apply pw_below_drewN | apply below_drew1 | refine below_set ?_ (IsS94.ge HI0.out)) | exact HB.out)) HL.out hb); have n2_ := Aside0.mk (KeepBut.trans (by repeat (first | (with_reducible first | exact HK.out | apply KeepBut.set_ | apply keep_drewN | apply keep_drew | apply keep_alloc) | exact HK.out)) (KeepBut.of_grown hg g) (Kd.R_base2 HO_5.out)); have n3_ := Aside0.mk (ho); clear HI0; clear HB; clear HK; clear HO_5; have HI0 := n0_; have HB := n1_; have HK := n2_; have HO320 := n3_; clear n0_ n1_ n2_ n3_; clear ho hb hg hat))
              go_ret
              exact ⟨_, by first | rfl | (simp [errW_none, errW_some] <;> rfl) | (simp [*, errW_none, errW_some] <;> rfl), by (with_reducible repeat (first | apply Kd.R_alloc | apply Kd.R_drewN | apply Kd.R_drew)); exact HO320.out, by repeat (first | (with_reducible first | exact HI0.out | apply IsS94.alloc | apply IsS94.drewN | apply IsS94.drew | apply IsS94.set_1) | exact HI0.out), by repeat (first | (with_reducible first | exact HB.out | apply below_alloc | apply pw_below_drewN | apply below_drew1 | refine below_set ?_ (IsS94.ge HI0.out)) | exact HB.out), by repeat (first | (with_reducible first | exact HK.out | apply KeepBut.set_ | apply keep_drewN | apply keep_drew | apply keep_alloc) | exact HK.out)⟩
            · rw [if_neg c30] at H
              exact absurd H (by simp)
        · replace c13 := Bool.eq_false_iff.mpr c13
          subst c13
          have H1 : (some (x5_1, t297)) = some (r1, r2) := by rw [if_neg (show ¬ (false = true) by decide)] at H; exact H
          clear H
          have H := H1
          clear H1
          simp only [Option.some.injEq, Prod.mk.injEq] at H
          obtain ⟨rfl, rfl⟩ := H
          go_wp2_with (first | ((with_reducible refine gate_callee (f := 103) rfl ?_); refine goesL_ (some 21) rfl rfl Try.func103 (by kernel_rfl) rfl #[.pointer (some ⟨g, 0, none⟩), .int .i64 a1] rfl (by (try simp only [List.map_toArray, List.map_cons, List.map_nil]); first | done | rfl | (simp only [List.length_drop, List.length_take]; rfl)) ?_; (with_reducible refine (spec_l20Rd_odd.calls k1 g s0_0 x1001_1 a1 false t297 w0 _ ?side1 ?side2 A12.out).mono ?_); (case side1 => repeat (first | (with_reducible first | exact HI0.out | apply IsS94.alloc | apply IsS94.drewN | apply IsS94.drew | apply IsS94.set_1) | exact HI0.out)); (case side2 => repeat (first | (with_reducible first | exact HB.out | apply below_alloc | apply pw_below_drewN | apply below_drew1 | refine below_set ?_ (IsS94.ge HI0.out)) | exact HB.out)); rintro e w35 ⟨rfl, hi, hb, hk⟩; refine ⟨_, rfl, ?_⟩; have n0_ := Aside0.mk (Kd.R_mono (Kd.R_keep (IsS94.apart (show IsS94 w0 _ g s0_0 x1001_1 from by repeat (first | (with_reducible first | exact HI0.out | apply IsS94.alloc | apply IsS94.drewN | apply IsS94.drew | apply IsS94.set_1) | exact HI0.out)) (by (with_reducible repeat (first | apply Kd.R_alloc | apply Kd.R_drewN | apply Kd.R_drew)); exact HO_5.out) (by decide)) hk (fun _ h => h.2)) (fun _ h => h.1)); have n1_ := Aside0.mk (KeepBut.trans (by repeat (first | (with_reducible first | exact HK.out | apply KeepBut.set_ | apply keep_drewN | apply keep_drew | apply keep_alloc) | exact HK.out)) hk (.inl rfl)); have n2_ := Aside0.mk (hb); have n3_ := Aside0.mk (hi); clear HO_5; clear HK; clear HB; clear HI0; have HO_5 := n0_; have HK := n1_; have HB := n2_; have HI0 := n3_; clear n0_ n1_ n2_ n3_; (try clear hb); (try clear hb2); (try clear hk); (try clear hi)))
          go_ret
          exact ⟨_, by first | rfl | (simp [errW_none, errW_some] <;> rfl) | (simp [*, errW_none, errW_some] <;> rfl), by (with_reducible repeat (first | apply Kd.R_alloc | apply Kd.R_drewN | apply Kd.R_drew)); exact HO_5.out, by repeat (first | (with_reducible first | exact HI0.out | apply IsS94.alloc | apply IsS94.drewN | apply IsS94.drew | apply IsS94.set_1) | exact HI0.out), by repeat (first | (with_reducible first | exact HB.out | apply below_alloc | apply pw_below_drewN | apply below_drew1 | refine below_set ?_ (IsS94.ge HI0.out)) | exact HB.out), by repeat (first | (with_reducible first | exact HK.out | apply KeepBut.set_ | apply keep_drewN | apply keep_drew | apply keep_alloc) | exact HK.out)⟩

end Go.Proofs.Ytgcjadhmkhpbnaa.P
-- Laid by a program of this work.
namespace Go.Proofs.Ytgcjadhmkhpbnaa.P
open Go.RowKit Go.Proofs.YtgcjadhmkhpbnaaW.PrintWords Go.Proofs.YtgcjadhmkhpbnaaW.PrintLast Go.Proofs.YtgcjadhmkhpbnaaW.PrintMore
attribute [local go_sem] max2_int min2_int max_two min_two max_three min_three max_four min_four   -- for this text's walks alone
set_option linter.unusedVariables false
set_option linter.unusedSimpArgs false

/-! ### spec_DrawHarmonic: function 44 -/
def spec_DrawHarmonic.l0 : Nat → List (S56) → Int → List Int → Int → Option ((List (S56)))
  | 0, _, _, _, _ => none
  | k + 1, x4, x5, x630000, x630001 => if x5 < (x4.length : Int) then ((spec_l20Rd_pick.f k x630000 x630001 2).bind fun bt636 => ((some (([2, 4, 4, 12] : List Int) : List Int)).bind fun y638 => (if 0 ≤ (Int.tmod x5 4) then (if (Int.tmod x5 4) < (y638.length : Int) then ((some (([2, 4, 12, 12] : List Int) : List Int)).bind fun y642 => (if (Int.tmod x5 4) < (y642.length : Int) then (if 0 ≤ x5 then (spec_DrawHarmonic.l0 k (x4.set (x5 : Int).toNat (⟨wrap64 (1 + bt636.1), rd y638 (Int.tmod x5 4), rd y642 (Int.tmod x5 4)⟩ : S56)) (wrap64 (x5 + 1)) x630000 bt636.2) else (none)) else (none))) else (none)) else (none)))) else (some x4)
def spec_DrawHarmonic.f (k : Nat) (l0 : List Int) : Option ((List (S56))) := (spec_l20Open.f l0).bind fun bt627 => ((spec_l20Set.f k bt627.1 bt627.2 12).bind fun bt630 => ((spec_l20Rd_pick.f k bt627.1 bt630.2 2).bind fun bt634 => (if bt634.1 = 0 then (spec_DrawHarmonic.l0 k bt630.1 0 bt627.1 bt634.2) else (some bt630.1))))
theorem spec_DrawHarmonic.mono_l : ∀ k, (∀ y0 y1 y2 y3, LeO (spec_DrawHarmonic.l0 k y0 y1 y2 y3) (spec_DrawHarmonic.l0 (k + 1) y0 y1 y2 y3))
  | 0 => fun _ _ _ _ r h => by simp [spec_DrawHarmonic.l0] at h
  | k + 1 => by
    have ih0 := spec_DrawHarmonic.mono_l k
    · intro y0 y1 y2 y3
      unfold spec_DrawHarmonic.l0
      repeat' first
      | (with_reducible exact ih0 _ _ _ _)
      | (with_reducible exact spec_l20Rd_pick.mono _ _ _ _)
      | (with_reducible exact spec_l20Set.mono _ _ _ _)
      | (with_reducible exact LeO.refl _)
      | (with_reducible exact LeO.none _)
      | (with_reducible refine LeO.ite ?_ ?_)
      | (with_reducible refine LeO.bind ?_ (fun _ => ?_))
      | exact ih0 _ _ _ _
      | exact spec_l20Rd_pick.mono _ _ _ _
      | exact spec_l20Set.mono _ _ _ _
      | exact LeO.none _
      | refine LeO.ite ?_ ?_
      | refine LeO.bind ?_ (fun _ => ?_)
theorem spec_DrawHarmonic.mono : ∀ a0 k, LeO (spec_DrawHarmonic.f k a0) (spec_DrawHarmonic.f (k + 1) a0) := by
  intro a0 k
  have ih0 := spec_DrawHarmonic.mono_l k
  unfold spec_DrawHarmonic.f
  repeat' first
      | (with_reducible exact ih0 _ _ _ _)
      | (with_reducible exact spec_l20Rd_pick.mono _ _ _ _)
      | (with_reducible exact spec_l20Set.mono _ _ _ _)
      | (with_reducible exact LeO.refl _)
      | (with_reducible exact LeO.none _)
      | (with_reducible refine LeO.ite ?_ ?_)
      | (with_reducible refine LeO.bind ?_ (fun _ => ?_))
      | exact ih0 _ _ _ _
      | exact spec_l20Rd_pick.mono _ _ _ _
      | exact spec_l20Set.mono _ _ _ _
      | exact LeO.none _
      | refine LeO.ite ?_ ?_
      | refine LeO.bind ?_ (fun _ => ?_)
def spec_DrawHarmonic.T7 : Bool × List (List Nat × List Nat) := (true, [([], []), ([], []), ([], []), ([2], [2]), ([3], [3]), ([], []), ([], []), ([6], [6]), ([5, 7], [5, 7]), ([8], [8]), ([], []), ([], []), ([11], [11]), ([10, 12], [10, 12]), ([13], [13]), ([4, 9, 14], [4, 9, 14]), ([0, 1, 0, 1, 2, 3, 4, 5, 6, 7, 8, 9, 10, 11, 12, 13, 14, 15], [0, 1]), ([16, 15, 3, 0, 1, 2, 3, 4, 5, 6, 7, 8, 9, 10, 11, 12, 13, 14, 15], [15, 16])])
def spec_DrawHarmonic.B7 : List Nat := [0, 0, 0, 4, 12, 0, 0, 64, 224, 480, 0, 0, 2048, 7168, 15360, 32764, 65535, 131071]
theorem spec_DrawHarmonic.tab7 : rtab .any (opsOf Try.f44 7) = spec_DrawHarmonic.T7 := by kernel_rfl
theorem spec_DrawHarmonic.bits7 : waitsOk spec_DrawHarmonic.T7.2 spec_DrawHarmonic.B7 = true := by kernel_rfl
set_option maxHeartbeats 8000000 in
set_option maxRecDepth 100000 in
theorem spec_DrawHarmonic.calls (k : Nat) (A0 : Option Addr) (c0 : Nat) (l0 : List Int) (r : List (S56)) (w : World) (hr0 : Kd.C (Kd.int .u8) w A0 l0.length l0) (hc0 : l0.length ≤ c0) (h : spec_DrawHarmonic.f k l0 = some r) :
    Calls Try.prog 44 #[.slice A0 l0.length c0] w fun e w' => ∃ v0_ : Value, e = .returned (v0_) ∧ Kd.R k56 56 w' w.heap.size (fun _ => True) v0_ r ∧ Below w.heap.size w w' := by
  have hu56 := Try.underlying56
  have HR0 := Aside0.mk hr0
  have HC0 := Aside0.mk hc0
  clear hr0 hc0
  have HB := Aside0.mk (Below.refl w.heap.size w)
  have H : ((spec_l20Open.f l0).bind fun bt627 => ((spec_l20Set.f k bt627.1 bt627.2 12).bind fun bt630 => ((spec_l20Rd_pick.f k bt627.1 bt630.2 2).bind fun bt634 => (if bt634.1 = 0 then (spec_DrawHarmonic.l0 k bt630.1 0 bt627.1 bt634.2) else (some bt630.1))))) = some r := h
  clear h
  replace H := Option.bind_eq_some_iff.mp H
  obtain ⟨⟨t627, t628⟩, A20, H⟩ := H
  replace H : ((spec_l20Set.f k t627 t628 12).bind fun bt630 => ((spec_l20Rd_pick.f k t627 bt630.2 2).bind fun bt634 => (if bt634.1 = 0 then (spec_DrawHarmonic.l0 k bt630.1 0 t627 bt634.2) else (some bt630.1)))) = some r := H
  have A2 := Aside0.mk A20
  clear A20
  replace H := Option.bind_eq_some_iff.mp H
  obtain ⟨⟨t630, t633⟩, A30, H⟩ := H
  replace H : ((spec_l20Rd_pick.f k t627 t633 2).bind fun bt634 => (if bt634.1 = 0 then (spec_DrawHarmonic.l0 k t630 0 t627 bt634.2) else (some t630))) = some r := H
  have A3 := Aside0.mk A30
  clear A30
  replace H := Option.bind_eq_some_iff.mp H
  obtain ⟨⟨t634, t635⟩, A40, H⟩ := H
  replace H : (if t634 = 0 then (spec_DrawHarmonic.l0 k t630 0 t627 t635) else (some t630)) = some r := H
  have A4 := Aside0.mk A40
  clear A40
  by_cases c5 : t634 = 0
  · rw [if_pos c5] at H
    have c5b0 : (t634 == 0) = true := beq_iff_eq.mpr c5
    have c5b1 : (t634 != 0) = false := bne_eq_false_iff_eq.mpr c5
    clear c5
    have H' := Aside0.mk H
    clear H
    go_enter Try.func44, Try.ntmps44
    go_wp2_with (first | ((with_reducible refine gate_callee (f := 60) rfl ?_); refine goesL_ (some 7) rfl rfl Try.func60 (by kernel_rfl) rfl #[.slice A0 l0.length c0] rfl (by (try simp only [List.map_toArray, List.map_cons, List.map_nil]); first | done | rfl | (simp only [List.length_drop, List.length_take]; rfl)) ?_; (with_reducible refine (spec_l20Open.calls _ _ l0 t627 t628 w _ ?side1 ?side2 ?side3 A2.out).mono ?_); (case side1 => repeat (first | (with_reducible first | exact HB.out | apply below_alloc | apply pw_below_drewN | apply below_drew1) | exact HB.out)); (case side2 => exact HR0.out); (case side3 => exact HC0.out); rintro e w6 ⟨g629, rfl, hi, hb, hb2⟩; refine ⟨_, rfl, ?_⟩; have n0_ := Aside0.mk (hb); have n1_ := Aside0.mk (hi); clear HB; have HB := n0_; have HI629 := n1_; clear n0_ n1_; (try clear hb); (try clear hb2); (try clear hk); (try clear hi)) | ((with_reducible refine gate_callee (f := 76) rfl ?_); refine goesL_ (some 9) rfl rfl Try.func76 (by kernel_rfl) rfl #[.pointer (some ⟨g629, 0, none⟩), .int .i64 12] rfl (by (try simp only [List.map_toArray, List.map_cons, List.map_nil]); first | done | rfl | (simp only [List.length_drop, List.length_take]; rfl)) ?_; (with_reducible refine (spec_l20Set.calls k g629 t627 t628 12 t630 t633 w _ ?side1 ?side2 A3.out).mono ?_); (case side1 => repeat (first | (with_reducible first | exact HI629.out | apply IsS94.alloc | apply IsS94.drewN | apply IsS94.drew | apply IsS94.set_1) | exact HI629.out)); (case side2 => repeat (first | (with_reducible first | exact HB.out | apply below_alloc | apply pw_below_drewN | apply below_drew1 | refine below_set ?_ (IsS94.ge HI629.out)) | exact HB.out)); rintro e w7 ⟨v631, rfl, ho0, hi, hb, hk⟩; refine ⟨_, rfl, ?_⟩; have n0_ := Aside0.mk (Kd.R_lower ho0 (below_size (by repeat (first | (with_reducible first | exact HB.out | apply below_alloc | apply pw_below_drewN | apply below_drew1 | refine below_set ?_ (IsS94.ge HI629.out)) | exact HB.out)))); have n1_ := Aside0.mk (hb); have n2_ := Aside0.mk (hi); clear HB; clear HI629; have HO632 := n0_; have HB := n1_; have HI629 := n2_; clear n0_ n1_ n2_; (try clear hb); (try clear hb2); (try clear hk); (try clear hi); (try clear ho0)) | ((with_reducible refine gate_callee (f := 61) rfl ?_); refine goesL_ (some 11) rfl rfl Try.func61 (by kernel_rfl) rfl #[.pointer (some ⟨g629, 0, none⟩), .int .i64 2] rfl (by (try simp only [List.map_toArray, List.map_cons, List.map_nil]); first | done | rfl | (simp only [List.length_drop, List.length_take]; rfl)) ?_; (with_reducible refine (spec_l20Rd_pick.calls k g629 t627 t633 2 t634 t635 w _ ?side1 ?side2 A4.out).mono ?_); (case side1 => repeat (first | (with_reducible first | exact HI629.out | apply IsS94.alloc | apply IsS94.drewN | apply IsS94.drew | apply IsS94.set_1) | exact HI629.out)); (case side2 => repeat (first | (with_reducible first | exact HB.out | apply below_alloc | apply pw_below_drewN | apply below_drew1 | refine below_set ?_ (IsS94.ge HI629.out)) | exact HB.out)); rintro e w8 ⟨rfl, hi, hb, hk⟩; refine ⟨_, rfl, ?_⟩; have n0_ := Aside0.mk (Kd.R_mono (Kd.R_keep (IsS94.apart (show IsS94 w _ g629 t627 t633 from by repeat (first | (with_reducible first | exact HI629.out | apply IsS94.alloc | apply IsS94.drewN | apply IsS94.drew | apply IsS94.set_1) | exact HI629.out)) (by (with_reducible repeat (first | apply Kd.R_alloc | apply Kd.R_drewN | apply Kd.R_drew)); exact HO632.out) (by decide)) hk (fun _ h => h.2)) (fun _ h => h.1)); have n1_ := Aside0.mk (hb); have n2_ := Aside0.mk (hi); clear HO632; clear HB; clear HI629; have HO632 := n0_; have HB := n1_; have HI629 := n2_; clear n0_ n1_ n2_; (try clear hb); (try clear hb2); (try clear hk); (try clear hi)))
    go_loopg [5] k (fun kq v5 w' => ∃ (x4_1 : List (S56)) (x5_1 : Int) (x630001_1 : Int), v5 = .int .i64 x5_1 ∧ Aside0 (spec_DrawHarmonic.l0 kq x4_1 x5_1 t627 x630001_1 = some r) ∧ Aside0 (kq ≤ k) ∧ Aside0 (Kd.R k56 56 w' w.heap.size (fun _ => True) v631 x4_1) ∧ Aside0 (IsS94 w w' g629 t627 x630001_1) ∧ Aside0 (Below w.heap.size w w'))
    case atStart => exact ⟨(t630), (0), (t635), (by first | rfl | (simp; done) | (simp [*]; done)), H', ⟨Nat.le_refl _⟩, ⟨by (with_reducible repeat (first | apply Kd.R_alloc | apply Kd.R_drewN | apply Kd.R_drew)); exact HO632.out⟩, ⟨by repeat (first | (with_reducible first | exact HI629.out | apply IsS94.alloc | apply IsS94.drewN | apply IsS94.drew | apply IsS94.set_1) | exact HI629.out)⟩, ⟨by repeat (first | (with_reducible first | exact HB.out | apply below_alloc | apply pw_below_drewN | apply below_drew1 | refine below_set ?_ (IsS94.ge HI629.out)) | exact HB.out)⟩⟩
    case round =>
      clear H'
      try clear p2
      try clear c4
      try clear c5
      try clear c5b0
      try clear c5b1
      try clear c6
      try clear c7
      obtain ⟨x4_1, x5_1, x630001_1, rfl, HA, HK1, HO_4, HI629, HB⟩ := hrel
      cases gk with
      | zero => exact absurd HA.out (by simp [spec_DrawHarmonic.l0])
      | succ k1 =>
        have H := HA.out
        clear HA
        simp only [spec_DrawHarmonic.l0] at H
        by_cases c9 : x5_1 < (x4_1.length : Int)
        · rw [if_pos c9] at H
          have c9b0 : decide (x5_1 < (x4_1.length : Int)) = true := decide_eq_true c9
          clear c9
          replace H := Option.bind_eq_some_iff.mp H
          obtain ⟨⟨t636, t637⟩, A100, H⟩ := H
          replace H : ((some (([2, 4, 4, 12] : List Int) : List Int)).bind fun y638 => (if 0 ≤ (Int.tmod x5_1 4) then (if (Int.tmod x5_1 4) < (y638.length : Int) then ((some (([2, 4, 12, 12] : List Int) : List Int)).bind fun y642 => (if (Int.tmod x5_1 4) < (y642.length : Int) then (if 0 ≤ x5_1 then (spec_DrawHarmonic.l0 k1 (x4_1.set (x5_1 : Int).toNat (⟨wrap64 (1 + t636), rd y638 (Int.tmod x5_1 4), rd y642 (Int.tmod x5_1 4)⟩ : S56)) (wrap64 (x5_1 + 1)) t627 t637) else (none)) else (none))) else (none)) else (none))) = some r := H
          have A10 := Aside0.mk A100
          clear A100
          obtain ⟨y638, hy638⟩ : ∃ y_ : List Int, y_ = (([2, 4, 4, 12] : List Int)) := ⟨_, rfl⟩
          replace H : (if 0 ≤ (Int.tmod x5_1 4) then (if (Int.tmod x5_1 4) < (y638.length : Int) then ((some (([2, 4, 12, 12] : List Int) : List Int)).bind fun y642 => (if (Int.tmod x5_1 4) < (y642.length : Int) then (if 0 ≤ x5_1 then (spec_DrawHarmonic.l0 k1 (x4_1.set (x5_1 : Int).toNat (⟨wrap64 (1 + t636), rd y638 (Int.tmod x5_1 4), rd y642 (Int.tmod x5_1 4)⟩ : S56)) (wrap64 (x5_1 + 1)) t627 t637) else (none)) else (none))) else (none)) else (none)) = some r := by first | (rw [hy638]; with_reducible exact H) | (have H2_ := (Option.bind_some _ _).symm.trans H; rw [hy638]; with_reducible exact H2_) | (have H2_ := (Option.bind_some _ _).symm.trans H; with_reducible exact H2_) | with_reducible exact H | (rw [hy638]; exact H) | exact H
          have Ny638 := Aside0.mk hy638
          clear hy638
          obtain ⟨ji11, hji11⟩ : ∃ j_ : Int, (Int.tmod x5_1 4) = j_ := ⟨_, rfl⟩
          replace H : (if 0 ≤ (ji11) then (if (ji11) < (y638.length : Int) then ((some (([2, 4, 12, 12] : List Int) : List Int)).bind fun y642 => (if (ji11) < (y642.length : Int) then (if 0 ≤ x5_1 then (spec_DrawHarmonic.l0 k1 (x4_1.set (x5_1 : Int).toNat (⟨wrap64 (1 + t636), rd y638 (ji11), rd y642 (ji11)⟩ : S56)) (wrap64 (x5_1 + 1)) t627 t637) else (none)) else (none))) else (none)) else (none)) = some r := by first | (rw [hji11] at H; exact H) | (simp only [hji11] at H ⊢; exact H)
          (try rw [hji11] at A10)
          by_cases c12 : 0 ≤ (ji11)
          · rw [if_pos c12] at H
            have c12b0 : decide (0 ≤ (ji11)) = true := decide_eq_true c12
            clear c12
            by_cases c13 : (ji11) < (y638.length : Int)
            · rw [if_pos c13] at H
              have c13b0 : decide ((ji11) < (y638.length : Int)) = true := decide_eq_true c13
              clear c13
              obtain ⟨y642, hy642⟩ : ∃ y_ : List Int, y_ = (([2, 4, 12, 12] : List Int)) := ⟨_, rfl⟩
              replace H : (if (ji11) < (y642.length : Int) then (if 0 ≤ x5_1 then (spec_DrawHarmonic.l0 k1 (x4_1.set (x5_1 : Int).toNat (⟨wrap64 (1 + t636), rd y638 (ji11), rd y642 (ji11)⟩ : S56)) (wrap64 (x5_1 + 1)) t627 t637) else (none)) else (none)) = some r := by first | (rw [hy642]; with_reducible exact H) | (have H2_ := (Option.bind_some _ _).symm.trans H; rw [hy642]; with_reducible exact H2_) | (have H2_ := (Option.bind_some _ _).symm.trans H; with_reducible exact H2_) | with_reducible exact H | (rw [hy642]; exact H) | exact H
              have Ny642 := Aside0.mk hy642
              clear hy642
              by_cases c14 : (ji11) < (y642.length : Int)
              · rw [if_pos c14] at H
                have c14b0 : decide ((ji11) < (y642.length : Int)) = true := decide_eq_true c14
                clear c14
                by_cases c15 : 0 ≤ x5_1
                · rw [if_pos c15] at H
                  have c15b0 : decide (0 ≤ x5_1) = true := decide_eq_true c15
                  clear c15
                  obtain ⟨y646, hy646⟩ : ∃ y_ : List (S56), y_ = (x4_1.set (x5_1 : Int).toNat (⟨wrap64 (1 + t636), rd y638 (ji11), rd y642 (ji11)⟩ : S56)) := ⟨_, rfl⟩
                  replace H : (spec_DrawHarmonic.l0 k1 y646 (wrap64 (x5_1 + 1)) t627 t637) = some r := by first | (rw [hy646]; with_reducible exact H) | (have H2_ := (Option.bind_some _ _).symm.trans H; rw [hy646]; with_reducible exact H2_) | (have H2_ := (Option.bind_some _ _).symm.trans H; with_reducible exact H2_) | with_reducible exact H | (rw [hy646]; exact H) | exact H
                  have Ny646 := Aside0.mk hy646
                  clear hy646
                  have H' := Aside0.mk H
                  clear H
                  obtain ⟨Ao17, co17, eo17⟩ := Kd.R_slice HO_4.out
                  subst eo17
                  try go_wp2
                  have pi641 : (0 ≤ ((ji11) : Int)) = True := eq_true (of_decide_eq_true (by first | (with_reducible assumption) | assumption))
                  have qi641 : ((ji11) < (y638.length : Int)) = True := eq_true (of_decide_eq_true (by first | (with_reducible assumption) | assumption))
                  have pi645 : (0 ≤ ((ji11) : Int)) = True := eq_true (of_decide_eq_true (by first | (with_reducible assumption) | assumption))
                  have qi645 : ((ji11) < (y642.length : Int)) = True := eq_true (of_decide_eq_true (by first | (with_reducible assumption) | assumption))
                  have n0_ := Aside0.mk (Kd.R_drew HO_4.out)
                  have n1_ := Aside0.mk (IsS94.drew HI629.out)
                  have n2_ := Aside0.mk (below_drew1 HB.out)
                  clear HO_4
                  clear HI629
                  clear HB
                  have HO_4 := n0_
                  have HI629 := n1_
                  have HB := n2_
                  clear n0_ n1_ n2_
                  refine start_ (n := 18) (S := fun w' => True) (ds := [17]) #[false, false, false, false, false, false, false, false, false, false, false, false, false, false, false, false, false, false] (by kernel_rfl) rfl rfl trivial (fun hHeld => ?_); refine with_tabW spec_DrawHarmonic.tab7 spec_DrawHarmonic.bits7 (fun HT_ HW_ => ?_)
                  generalize wr.drew = w18 at HO_4 HI629 HB hHeld ⊢
                  refine pure_ (i := 0) (N := some 19) (v := ?_) (a' := ?_) #[true, false, false, false, false, false, false, false, false, false, false, false, false, false, false, false, false, false] rfl rfl (any_of HT_.out (by kernel_rfl)) (fun _ _ _ h => h) (Or.inl ⟨by rfl, ?_⟩) ?_ ?_
                  rotate_left
                  · intro w'
                    go_simp
                    with_reducible rfl
                  rotate_left
                  · simp only [Act.put, List.setIfInBounds_toArray, List.set_cons_zero, List.set_cons_succ, i64_w, i32_w]
                    rfl
                  refine pure_ (i := 1) (N := some 20) (v := ?_) (a' := ?_) #[true, true, false, false, false, false, false, false, false, false, false, false, false, false, false, false, false, false] rfl rfl (any_of HT_.out (by kernel_rfl)) (fun _ _ _ h => h) (Or.inl ⟨by rfl, ?_⟩) ?_ ?_
                  rotate_left
                  · intro w'
                    go_simp
                    with_reducible rfl
                  rotate_left
                  · simp only [Act.put, List.setIfInBounds_toArray, List.set_cons_zero, List.set_cons_succ, i64_w, i32_w]
                    rfl
                  refine pure_ (i := 2) (N := some 21) (v := ?_) (a' := ?_) #[true, true, true, false, false, false, false, false, false, false, false, false, false, false, false, false, false, false] rfl rfl (any_of HT_.out (by kernel_rfl)) (fun _ _ _ h => h) (Or.inl ⟨by rfl, ?_⟩) ?_ ?_
                  rotate_left
                  · intro w'
                    go_simp
                    with_reducible rfl
                  rotate_left
                  · simp only [Act.put, List.setIfInBounds_toArray, List.set_cons_zero, List.set_cons_succ, i64_w, i32_w]
                    rfl
                  refine pure_ (i := 6) (N := some 25) (v := ?_) (a' := ?_) #[true, true, true, false, false, false, true, false, false, false, false, false, false, false, false, false, false, false] rfl rfl (any_of HT_.out (by kernel_rfl)) (fun _ _ _ h => h) (Or.inl ⟨by rfl, ?_⟩) ?_ ?_
                  rotate_left
                  · intro w'
                    go_simp
                    with_reducible rfl
                  rotate_left
                  · simp only [Act.put, List.setIfInBounds_toArray, List.set_cons_zero, List.set_cons_succ, i64_w, i32_w]
                    rfl
                  refine pure_ (i := 7) (N := some 26) (v := ?_) (a' := ?_) #[true, true, true, false, false, false, true, true, false, false, false, false, false, false, false, false, false, false] rfl rfl (any_of HT_.out (by kernel_rfl)) (fun _ _ _ h => h) (Or.inl ⟨by rfl, ?_⟩) ?_ ?_
                  rotate_left
                  · intro w'
                    go_simp
                    with_reducible rfl
                  rotate_left
                  · simp only [Act.put, List.setIfInBounds_toArray, List.set_cons_zero, List.set_cons_succ, i64_w, i32_w]
                    rfl
                  refine pure_ (i := 11) (N := some 30) (v := ?_) (a' := ?_) #[true, true, true, false, false, false, true, true, false, false, false, true, false, false, false, false, false, false] rfl rfl (any_of HT_.out (by kernel_rfl)) (fun _ _ _ h => h) (Or.inl ⟨by rfl, ?_⟩) ?_ ?_
                  rotate_left
                  · intro w'
                    go_simp
                    with_reducible rfl
                  rotate_left
                  · simp only [Act.put, List.setIfInBounds_toArray, List.set_cons_zero, List.set_cons_succ, i64_w, i32_w]
                    rfl
                  refine pure_ (i := 12) (N := some 31) (v := ?_) (a' := ?_) #[true, true, true, false, false, false, true, true, false, false, false, true, true, false, false, false, false, false] rfl rfl (any_of HT_.out (by kernel_rfl)) (fun _ _ _ h => h) (Or.inl ⟨by rfl, ?_⟩) ?_ ?_
                  rotate_left
                  · intro w'
                    go_simp
                    with_reducible rfl
                  rotate_left
                  · simp only [Act.put, List.setIfInBounds_toArray, List.set_cons_zero, List.set_cons_succ, i64_w, i32_w]
                    rfl
                  refine join_ (σ := Value × Addr × Value × Addr) 3 #[true, true, true, true, true, true, true, true, true, true, true, true, true, true, true, false, false, false] (fun s_ => [(22, .int .i64 t636), (24, s_.1), (28, .int .i64 (rd y638 (ji11))), (29, s_.2.2.1), (33, .int .i64 (rd y642 (ji11))), (23, .int .i64 (wrap64 (1 + t636))), (27, .pointer (some (s_.2.1.add ((ji11)).toNat))), (32, .pointer (some (s_.2.2.2.add ((ji11)).toNat)))]) (fun s_ w' => (Kd.R (Kd.int .i64) 3 w' w.heap.size (fun k_ => some k_ ≠ (s_.2.2.1 : Value).ownBlock) s_.1 y638) ∧ (Kd.R (Kd.int .i64) 3 w' w.heap.size (fun k_ => some k_ ≠ (s_.1 : Value).ownBlock) s_.2.2.1 y642) ∧ (Kd.R k56 56 w' w.heap.size (fun _ => True) (.slice Ao17 x4_1.length co17) x4_1) ∧ (∃ c_, (s_.1 : Value) = .slice (some s_.2.1) y638.length c_) ∧ (∃ c_, (s_.2.2.1 : Value) = .slice (some s_.2.2.2) y642.length c_) ∧ (IsS94 w w' g629 t627 t637) ∧ (Below w.heap.size w w')) ?_ ?_
                  rotate_left
                  · intro hJ3_5_9_10_14
                    refine join_ (σ := Value × Addr × Value × Addr) 4 #[true, true, true, true, true, true, true, true, true, true, true, true, true, true, false, false, false, false] (fun s_ => [(22, .int .i64 t636), (24, s_.1), (28, .int .i64 (rd y638 (ji11))), (29, s_.2.2.1), (23, .int .i64 (wrap64 (1 + t636))), (27, .pointer (some (s_.2.1.add ((ji11)).toNat))), (32, .pointer (some (s_.2.2.2.add ((ji11)).toNat)))]) (fun s_ w' => (Kd.R (Kd.int .i64) 3 w' w.heap.size (fun k_ => some k_ ≠ (s_.2.2.1 : Value).ownBlock) s_.1 y638) ∧ (Kd.R (Kd.int .i64) 3 w' w.heap.size (fun k_ => some k_ ≠ (s_.1 : Value).ownBlock) s_.2.2.1 y642) ∧ (Kd.R k56 56 w' w.heap.size (fun _ => True) (.slice Ao17 x4_1.length co17) x4_1) ∧ (∃ c_, (s_.1 : Value) = .slice (some s_.2.1) y638.length c_) ∧ (∃ c_, (s_.2.2.1 : Value) = .slice (some s_.2.2.2) y642.length c_) ∧ (IsS94 w w' g629 t627 t637) ∧ (Below w.heap.size w w')) ?_ ?_
                    rotate_left
                    · intro hJ3_5_9_10
                      refine join_ (σ := Value × Addr × Value × Addr) 4 #[true, true, true, true, true, true, true, true, true, false, true, true, true, true, true, false, false, false] (fun s_ => [(22, .int .i64 t636), (24, s_.1), (29, s_.2.2.1), (33, .int .i64 (rd y642 (ji11))), (23, .int .i64 (wrap64 (1 + t636))), (27, .pointer (some (s_.2.1.add ((ji11)).toNat))), (32, .pointer (some (s_.2.2.2.add ((ji11)).toNat)))]) (fun s_ w' => (Kd.R (Kd.int .i64) 3 w' w.heap.size (fun k_ => some k_ ≠ (s_.2.2.1 : Value).ownBlock) s_.1 y638) ∧ (Kd.R (Kd.int .i64) 3 w' w.heap.size (fun k_ => some k_ ≠ (s_.1 : Value).ownBlock) s_.2.2.1 y642) ∧ (Kd.R k56 56 w' w.heap.size (fun _ => True) (.slice Ao17 x4_1.length co17) x4_1) ∧ (∃ c_, (s_.1 : Value) = .slice (some s_.2.1) y638.length c_) ∧ (∃ c_, (s_.2.2.1 : Value) = .slice (some s_.2.2.2) y642.length c_) ∧ (IsS94 w w' g629 t627 t637) ∧ (Below w.heap.size w w')) ?_ ?_
                      rotate_left
                      · intro hJ3_5_10_14
                        refine join_ (σ := Value × Addr × Value × Addr) 5 #[true, true, true, false, false, true, true, true, true, true, true, true, true, true, true, false, false, false] (fun s_ => [(24, s_.1), (28, .int .i64 (rd y638 (ji11))), (29, s_.2.2.1), (33, .int .i64 (rd y642 (ji11))), (27, .pointer (some (s_.2.1.add ((ji11)).toNat))), (32, .pointer (some (s_.2.2.2.add ((ji11)).toNat)))]) (fun s_ w' => (Kd.R (Kd.int .i64) 3 w' w.heap.size (fun k_ => some k_ ≠ (s_.2.2.1 : Value).ownBlock) s_.1 y638) ∧ (Kd.R (Kd.int .i64) 3 w' w.heap.size (fun k_ => some k_ ≠ (s_.1 : Value).ownBlock) s_.2.2.1 y642) ∧ (Kd.R k56 56 w' w.heap.size (fun _ => True) (.slice Ao17 x4_1.length co17) x4_1) ∧ (∃ c_, (s_.1 : Value) = .slice (some s_.2.1) y638.length c_) ∧ (∃ c_, (s_.2.2.1 : Value) = .slice (some s_.2.2.2) y642.length c_) ∧ (IsS94 w w' g629 t627 x630001_1) ∧ (Below w.heap.size w w')) ?_ ?_
                        rotate_left
                        · intro hJ5_9_10_14
                          refine join_ (σ := Value × Addr) 6 #[true, true, true, true, true, true, true, true, true, true, false, true, true, false, false, false, false, false] (fun s_ => [(22, .int .i64 t636), (24, s_.1), (28, .int .i64 (rd y638 (ji11))), (23, .int .i64 (wrap64 (1 + t636))), (27, .pointer (some (s_.2.add ((ji11)).toNat)))]) (fun s_ w' => (Kd.R (Kd.int .i64) 3 w' w.heap.size (fun _ => True) s_.1 y638) ∧ (Kd.R k56 56 w' w.heap.size (fun _ => True) (.slice Ao17 x4_1.length co17) x4_1) ∧ (∃ c_, (s_.1 : Value) = .slice (some s_.2) y638.length c_) ∧ (IsS94 w w' g629 t627 t637) ∧ (Below w.heap.size w w')) ?_ ?_
                          rotate_left
                          · intro hJ3_5_9
                            refine join_ (σ := Value × Addr × Value × Addr) 5 #[true, true, true, true, true, true, true, true, true, false, true, true, true, true, false, false, false, false] (fun s_ => [(22, .int .i64 t636), (24, s_.1), (29, s_.2.2.1), (23, .int .i64 (wrap64 (1 + t636))), (27, .pointer (some (s_.2.1.add ((ji11)).toNat))), (32, .pointer (some (s_.2.2.2.add ((ji11)).toNat)))]) (fun s_ w' => (Kd.R (Kd.int .i64) 3 w' w.heap.size (fun k_ => some k_ ≠ (s_.2.2.1 : Value).ownBlock) s_.1 y638) ∧ (Kd.R (Kd.int .i64) 3 w' w.heap.size (fun k_ => some k_ ≠ (s_.1 : Value).ownBlock) s_.2.2.1 y642) ∧ (Kd.R k56 56 w' w.heap.size (fun _ => True) (.slice Ao17 x4_1.length co17) x4_1) ∧ (∃ c_, (s_.1 : Value) = .slice (some s_.2.1) y638.length c_) ∧ (∃ c_, (s_.2.2.1 : Value) = .slice (some s_.2.2.2) y642.length c_) ∧ (IsS94 w w' g629 t627 t637) ∧ (Below w.heap.size w w')) ?_ ?_
                            rotate_left
                            · intro hJ3_5_10
                              refine join_ (σ := Value × Addr) 6 #[true, true, true, true, true, false, true, true, false, false, true, true, true, true, true, false, false, false] (fun s_ => [(22, .int .i64 t636), (29, s_.1), (33, .int .i64 (rd y642 (ji11))), (23, .int .i64 (wrap64 (1 + t636))), (32, .pointer (some (s_.2.add ((ji11)).toNat)))]) (fun s_ w' => (Kd.R (Kd.int .i64) 3 w' w.heap.size (fun _ => True) s_.1 y642) ∧ (Kd.R k56 56 w' w.heap.size (fun _ => True) (.slice Ao17 x4_1.length co17) x4_1) ∧ (∃ c_, (s_.1 : Value) = .slice (some s_.2) y642.length c_) ∧ (IsS94 w w' g629 t627 t637) ∧ (Below w.heap.size w w')) ?_ ?_
                              rotate_left
                              · intro hJ3_10_14
                                refine join_ (σ := Value × Addr × Value × Addr) 6 #[true, true, true, false, false, true, true, true, true, true, true, true, true, true, false, false, false, false] (fun s_ => [(24, s_.1), (28, .int .i64 (rd y638 (ji11))), (29, s_.2.2.1), (27, .pointer (some (s_.2.1.add ((ji11)).toNat))), (32, .pointer (some (s_.2.2.2.add ((ji11)).toNat)))]) (fun s_ w' => (Kd.R (Kd.int .i64) 3 w' w.heap.size (fun k_ => some k_ ≠ (s_.2.2.1 : Value).ownBlock) s_.1 y638) ∧ (Kd.R (Kd.int .i64) 3 w' w.heap.size (fun k_ => some k_ ≠ (s_.1 : Value).ownBlock) s_.2.2.1 y642) ∧ (Kd.R k56 56 w' w.heap.size (fun _ => True) (.slice Ao17 x4_1.length co17) x4_1) ∧ (∃ c_, (s_.1 : Value) = .slice (some s_.2.1) y638.length c_) ∧ (∃ c_, (s_.2.2.1 : Value) = .slice (some s_.2.2.2) y642.length c_) ∧ (IsS94 w w' g629 t627 x630001_1) ∧ (Below w.heap.size w w')) ?_ ?_
                                rotate_left
                                · intro hJ5_9_10
                                  refine join_ (σ := Value × Addr × Value × Addr) 6 #[true, true, true, false, false, true, true, true, true, false, true, true, true, true, true, false, false, false] (fun s_ => [(24, s_.1), (29, s_.2.2.1), (33, .int .i64 (rd y642 (ji11))), (27, .pointer (some (s_.2.1.add ((ji11)).toNat))), (32, .pointer (some (s_.2.2.2.add ((ji11)).toNat)))]) (fun s_ w' => (Kd.R (Kd.int .i64) 3 w' w.heap.size (fun k_ => some k_ ≠ (s_.2.2.1 : Value).ownBlock) s_.1 y638) ∧ (Kd.R (Kd.int .i64) 3 w' w.heap.size (fun k_ => some k_ ≠ (s_.1 : Value).ownBlock) s_.2.2.1 y642) ∧ (Kd.R k56 56 w' w.heap.size (fun _ => True) (.slice Ao17 x4_1.length co17) x4_1) ∧ (∃ c_, (s_.1 : Value) = .slice (some s_.2.1) y638.length c_) ∧ (∃ c_, (s_.2.2.1 : Value) = .slice (some s_.2.2.2) y642.length c_) ∧ (IsS94 w w' g629 t627 x630001_1) ∧ (Below w.heap.size w w')) ?_ ?_
                                  rotate_left
                                  · intro hJ5_10_14
                                    refine join_ (σ := Value × Addr) 7 #[true, true, true, true, true, true, true, true, true, false, false, true, true, false, false, false, false, false] (fun s_ => [(22, .int .i64 t636), (24, s_.1), (23, .int .i64 (wrap64 (1 + t636))), (27, .pointer (some (s_.2.add ((ji11)).toNat)))]) (fun s_ w' => (Kd.R (Kd.int .i64) 3 w' w.heap.size (fun _ => True) s_.1 y638) ∧ (Kd.R k56 56 w' w.heap.size (fun _ => True) (.slice Ao17 x4_1.length co17) x4_1) ∧ (∃ c_, (s_.1 : Value) = .slice (some s_.2) y638.length c_) ∧ (IsS94 w w' g629 t627 t637) ∧ (Below w.heap.size w w')) ?_ ?_
                                    rotate_left
                                    · intro hJ3_5
                                      refine join_ (σ := Value × Addr) 7 #[true, true, true, true, true, false, true, true, false, false, true, true, true, true, false, false, false, false] (fun s_ => [(22, .int .i64 t636), (29, s_.1), (23, .int .i64 (wrap64 (1 + t636))), (32, .pointer (some (s_.2.add ((ji11)).toNat)))]) (fun s_ w' => (Kd.R (Kd.int .i64) 3 w' w.heap.size (fun _ => True) s_.1 y642) ∧ (Kd.R k56 56 w' w.heap.size (fun _ => True) (.slice Ao17 x4_1.length co17) x4_1) ∧ (∃ c_, (s_.1 : Value) = .slice (some s_.2) y642.length c_) ∧ (IsS94 w w' g629 t627 t637) ∧ (Below w.heap.size w w')) ?_ ?_
                                      rotate_left
                                      · intro hJ3_10
                                        refine join_ (σ := Value × Addr) 8 #[true, true, true, false, false, true, true, true, true, true, false, true, true, false, false, false, false, false] (fun s_ => [(24, s_.1), (28, .int .i64 (rd y638 (ji11))), (27, .pointer (some (s_.2.add ((ji11)).toNat)))]) (fun s_ w' => (Kd.R (Kd.int .i64) 3 w' w.heap.size (fun _ => True) s_.1 y638) ∧ (Kd.R k56 56 w' w.heap.size (fun _ => True) (.slice Ao17 x4_1.length co17) x4_1) ∧ (∃ c_, (s_.1 : Value) = .slice (some s_.2) y638.length c_) ∧ (IsS94 w w' g629 t627 x630001_1) ∧ (Below w.heap.size w w')) ?_ ?_
                                        rotate_left
                                        · intro hJ5_9
                                          refine join_ (σ := Value × Addr × Value × Addr) 7 #[true, true, true, false, false, true, true, true, true, false, true, true, true, true, false, false, false, false] (fun s_ => [(24, s_.1), (29, s_.2.2.1), (27, .pointer (some (s_.2.1.add ((ji11)).toNat))), (32, .pointer (some (s_.2.2.2.add ((ji11)).toNat)))]) (fun s_ w' => (Kd.R (Kd.int .i64) 3 w' w.heap.size (fun k_ => some k_ ≠ (s_.2.2.1 : Value).ownBlock) s_.1 y638) ∧ (Kd.R (Kd.int .i64) 3 w' w.heap.size (fun k_ => some k_ ≠ (s_.1 : Value).ownBlock) s_.2.2.1 y642) ∧ (Kd.R k56 56 w' w.heap.size (fun _ => True) (.slice Ao17 x4_1.length co17) x4_1) ∧ (∃ c_, (s_.1 : Value) = .slice (some s_.2.1) y638.length c_) ∧ (∃ c_, (s_.2.2.1 : Value) = .slice (some s_.2.2.2) y642.length c_) ∧ (IsS94 w w' g629 t627 x630001_1) ∧ (Below w.heap.size w w')) ?_ ?_
                                          rotate_left
                                          · intro hJ5_10
                                            refine join_ (σ := Value × Addr) 8 #[true, true, true, false, false, false, true, true, false, false, true, true, true, true, true, false, false, false] (fun s_ => [(29, s_.1), (33, .int .i64 (rd y642 (ji11))), (32, .pointer (some (s_.2.add ((ji11)).toNat)))]) (fun s_ w' => (Kd.R (Kd.int .i64) 3 w' w.heap.size (fun _ => True) s_.1 y642) ∧ (Kd.R k56 56 w' w.heap.size (fun _ => True) (.slice Ao17 x4_1.length co17) x4_1) ∧ (∃ c_, (s_.1 : Value) = .slice (some s_.2) y642.length c_) ∧ (IsS94 w w' g629 t627 x630001_1) ∧ (Below w.heap.size w w')) ?_ ?_
                                            rotate_left
                                            · intro hJ10_14
                                              refine join_ (σ := Unit) 9 #[true, true, true, true, true, false, true, true, false, false, false, true, true, false, false, false, false, false] (fun s_ => [(22, .int .i64 t636), (23, .int .i64 (wrap64 (1 + t636)))]) (fun s_ w' => (Kd.R k56 56 w' w.heap.size (fun _ => True) (.slice Ao17 x4_1.length co17) x4_1) ∧ (IsS94 w w' g629 t627 t637) ∧ (Below w.heap.size w w')) ?_ ?_
                                              rotate_left
                                              · intro hJ3
                                                refine join_ (σ := Value × Addr) 9 #[true, true, true, false, false, true, true, true, true, false, false, true, true, false, false, false, false, false] (fun s_ => [(24, s_.1), (27, .pointer (some (s_.2.add ((ji11)).toNat)))]) (fun s_ w' => (Kd.R (Kd.int .i64) 3 w' w.heap.size (fun _ => True) s_.1 y638) ∧ (Kd.R k56 56 w' w.heap.size (fun _ => True) (.slice Ao17 x4_1.length co17) x4_1) ∧ (∃ c_, (s_.1 : Value) = .slice (some s_.2) y638.length c_) ∧ (IsS94 w w' g629 t627 x630001_1) ∧ (Below w.heap.size w w')) ?_ ?_
                                                rotate_left
                                                · intro hJ5
                                                  refine join_ (σ := Value × Addr) 9 #[true, true, true, false, false, false, true, true, false, false, true, true, true, true, false, false, false, false] (fun s_ => [(29, s_.1), (32, .pointer (some (s_.2.add ((ji11)).toNat)))]) (fun s_ w' => (Kd.R (Kd.int .i64) 3 w' w.heap.size (fun _ => True) s_.1 y642) ∧ (Kd.R k56 56 w' w.heap.size (fun _ => True) (.slice Ao17 x4_1.length co17) x4_1) ∧ (∃ c_, (s_.1 : Value) = .slice (some s_.2) y642.length c_) ∧ (IsS94 w w' g629 t627 x630001_1) ∧ (Below w.heap.size w w')) ?_ ?_
                                                  rotate_left
                                                  · intro hJ10
                                                    refine three_ (i := 3) (j := 5) (k := 10) (Ni := some 22) (Nj := some 24) (Nk := some 29) #[true, true, true, true, false, false, true, true, false, false, false, true, true, false, false, false, false, false] #[true, true, true, false, false, true, true, true, false, false, false, true, true, false, false, false, false, false] #[true, true, true, false, false, false, true, true, false, false, true, true, true, false, false, false, false, false] rfl rfl rfl rfl rfl rfl (three_of HT_.out (by kernel_rfl)) (by decide) (by decide) (by decide) (fun K hK => ?_) (fun K hK => ?_) (fun K hK => ?_)
                                                    · skip
                                                      refine goes_ Try.func61 (by kernel_rfl) rfl #[.pointer (some ⟨g629, 0, none⟩), .int .i64 2] (by rfl) rfl rfl (by (try simp only [List.map_toArray, List.map_cons, List.map_nil]); first | done | rfl | (simp only [List.length_drop, List.length_take]; rfl)) ?_
                                                      with_reducible refine (spec_l20Rd_pick.calls k1 g629 t627 x630001_1 2 t636 t637 w _ ?side1 ?side2 A10.out).mono ?_
                                                      (case side1 => repeat (first | (with_reducible first | exact HI629.out | apply IsS94.alloc | apply IsS94.drewN | apply IsS94.drew | apply IsS94.set_1) | exact HI629.out))
                                                      (case side2 => repeat (first | (with_reducible first | exact HB.out | apply below_alloc | apply pw_below_drewN | apply below_drew1 | refine below_set ?_ (IsS94.ge HI629.out)) | exact HB.out))
                                                      rintro e w19 ⟨rfl, hi, hb, hk⟩
                                                      refine ⟨_, rfl, ?_⟩
                                                      have n0_ := Aside0.mk (Kd.R_mono (Kd.R_keep (IsS94.apart (show IsS94 w _ g629 t627 x630001_1 from by repeat (first | (with_reducible first | exact HI629.out | apply IsS94.alloc | apply IsS94.drewN | apply IsS94.drew | apply IsS94.set_1) | exact HI629.out)) (by (with_reducible repeat (first | apply Kd.R_alloc | apply Kd.R_drewN | apply Kd.R_drew)); exact HO_4.out) (by decide)) hk (fun _ h => h.2)) (fun _ h => h.1))
                                                      have n1_ := Aside0.mk (hb)
                                                      have n2_ := Aside0.mk (hi)
                                                      clear HO_4
                                                      clear HB
                                                      clear HI629
                                                      have HO_4 := n0_
                                                      have HB := n1_
                                                      have HI629 := n2_
                                                      clear n0_ n1_ n2_
                                                      (try clear hb)
                                                      (try clear hb2)
                                                      (try clear hk)
                                                      (try clear hi)
                                                      refine hK.out _ _ trivial (fun hHeld => ?_)
                                                      clear hK K
                                                      refine norm_ (a' := ?_) ?_ ?_
                                                      rotate_left
                                                      · show Act.put _ (some 22) _ = _
                                                        simp only [Act.put, List.setIfInBounds_toArray, List.set_cons_zero, List.set_cons_succ, i64_w, i32_w]
                                                        rfl
                                                      refine pure_ (i := 4) (N := some 23) (v := ?_) (a' := ?_) #[true, true, true, true, true, false, true, true, false, false, false, true, true, false, false, false, false, false] rfl rfl (any_of HT_.out (by kernel_rfl)) (fun _ _ _ h => h) (Or.inl ⟨by rfl, ?_⟩) ?_ ?_
                                                      rotate_left
                                                      · intro w'
                                                        go_simp
                                                        with_reducible rfl
                                                      rotate_left
                                                      · simp only [Act.put, List.setIfInBounds_toArray, List.set_cons_zero, List.set_cons_succ, i64_w, i32_w]
                                                        rfl
                                                      exact norm_ (by first | (simp only [putAll, Act.put, List.setIfInBounds_toArray, List.set_cons_zero, List.set_cons_succ]; done) | (simp only [putAll, Act.put, List.setIfInBounds_toArray, List.set_cons_zero, List.set_cons_succ]; rfl)) (hJ3 () _ ⟨(by (with_reducible repeat (first | apply Kd.R_alloc | apply Kd.R_drewN | apply Kd.R_drew)); exact HO_4.out), (by repeat (first | (with_reducible first | exact HI629.out | apply IsS94.alloc | apply IsS94.drewN | apply IsS94.drew | apply IsS94.set_1) | exact HI629.out)), (by repeat (first | (with_reducible first | exact HB.out | apply below_alloc | apply pw_below_drewN | apply below_drew1 | refine below_set ?_ (IsS94.ge HI629.out)) | exact HB.out))⟩)
                                                    · skip
                                                      refine Kd.R_lit_step (Kd.int .i64) _ 3 ?hg (N := 24) ?hd (xs := ([2, 4, 4, 12] : List Int)) (inner := [.int .i64 2, .int .i64 4, .int .i64 4, .int .i64 12]) (ok := fun _ => True) (okp := fun _ => True) ?hr ?hp (fun _ hk => hk) trivial (Below.refl _ _) (Nat.le_refl _) (by simp) ?_; (case hd => rfl); (case hg => rfl); (case hr => first | (go_simp; done) | (go_simp; rfl)); (case hp => exact (Reps.one (show Kd.M (Kd.int .i64) _ _ _ 2 [.int .i64 2] from rfl) (Reps.one (show Kd.M (Kd.int .i64) _ _ _ 4 [.int .i64 4] from rfl) (Reps.one (show Kd.M (Kd.int .i64) _ _ _ 4 [.int .i64 4] from rfl) (Reps.one (show Kd.M (Kd.int .i64) _ _ _ 12 [.int .i64 12] from rfl) (Reps.none _ _))))))
                                                      intro v639 w19 ho20 hb hg_ hnew_
                                                      clear hg_ hnew_
                                                      (first | rw [← Ny638.out] at ho20 | (simp only [Int.reduceToNat] at ho20; rw [← Ny638.out] at ho20))
                                                      have n0_ := Aside0.mk (Kd.R_below (by (with_reducible repeat (first | apply Kd.R_alloc | apply Kd.R_drewN | apply Kd.R_drew)); exact HO_4.out) hb)
                                                      have n1_ := Aside0.mk (Kd.R_lower ho20 (below_size (by repeat (first | (with_reducible first | exact HB.out | apply below_alloc | apply pw_below_drewN | apply below_drew1 | refine below_set ?_ (IsS94.ge HI629.out)) | exact HB.out))))
                                                      have n2_ := Aside0.mk (IsS94.below (by repeat (first | (with_reducible first | exact HI629.out | apply IsS94.alloc | apply IsS94.drewN | apply IsS94.drew | apply IsS94.set_1) | exact HI629.out)) hb)
                                                      have n3_ := Aside0.mk (below_step (by repeat (first | (with_reducible first | exact HB.out | apply below_alloc | apply pw_below_drewN | apply below_drew1 | refine below_set ?_ (IsS94.ge HI629.out)) | exact HB.out)) hb)
                                                      clear HO_4
                                                      clear HI629
                                                      clear HB
                                                      have HO_4 := n0_
                                                      have HO640 := n1_
                                                      have HI629 := n2_
                                                      have HB := n3_
                                                      clear n0_ n1_ n2_ n3_
                                                      clear hb ho20
                                                      obtain ⟨Ao21, co21, eo21⟩ := Kd.R_slice HO640.out
                                                      subst eo21
                                                      obtain ⟨ado21, fo21, _⟩ := Kd.at_int (Kd.R_reads' HO640.out).2.2 0 (by decide) (by rw [Ny638.out]; simp)
                                                      cases fo21
                                                      refine hK.out _ _ trivial (fun hHeld => ?_)
                                                      clear hK K
                                                      refine norm_ (a' := ?_) ?_ ?_
                                                      rotate_left
                                                      · show Act.put _ (some 24) _ = _
                                                        simp only [Act.put, List.setIfInBounds_toArray, List.set_cons_zero, List.set_cons_succ, i64_w, i32_w]
                                                        rfl
                                                      refine pure_ (i := 8) (N := some 27) (v := ?_) (a' := ?_) #[true, true, true, false, false, true, true, true, true, false, false, true, true, false, false, false, false, false] rfl rfl (any_of HT_.out (by kernel_rfl)) (fun _ _ _ h => h) (Or.inl ⟨by rfl, ?_⟩) ?_ ?_
                                                      rotate_left
                                                      · intro w'
                                                        go_simp
                                                        with_reducible rfl
                                                      rotate_left
                                                      · simp only [Act.put, List.setIfInBounds_toArray, List.set_cons_zero, List.set_cons_succ, i64_w, i32_w]
                                                        rfl
                                                      exact norm_ (by first | (simp only [putAll, Act.put, List.setIfInBounds_toArray, List.set_cons_zero, List.set_cons_succ]; done) | (simp only [putAll, Act.put, List.setIfInBounds_toArray, List.set_cons_zero, List.set_cons_succ]; rfl)) (hJ5 (.slice (some ado21) y638.length co21, ado21) _ ⟨(by (with_reducible repeat (first | apply Kd.R_alloc | apply Kd.R_drewN | apply Kd.R_drew)); exact HO640.out), (by (with_reducible repeat (first | apply Kd.R_alloc | apply Kd.R_drewN | apply Kd.R_drew)); exact HO_4.out), ⟨_, rfl⟩, (by repeat (first | (with_reducible first | exact HI629.out | apply IsS94.alloc | apply IsS94.drewN | apply IsS94.drew | apply IsS94.set_1) | exact HI629.out)), (by repeat (first | (with_reducible first | exact HB.out | apply below_alloc | apply pw_below_drewN | apply below_drew1 | refine below_set ?_ (IsS94.ge HI629.out)) | exact HB.out))⟩)
                                                    · skip
                                                      refine Kd.R_lit_step (Kd.int .i64) _ 3 ?hg (N := 29) ?hd (xs := ([2, 4, 12, 12] : List Int)) (inner := [.int .i64 2, .int .i64 4, .int .i64 12, .int .i64 12]) (ok := fun _ => True) (okp := fun _ => True) ?hr ?hp (fun _ hk => hk) trivial (Below.refl _ _) (Nat.le_refl _) (by simp) ?_; (case hd => rfl); (case hg => rfl); (case hr => first | (go_simp; done) | (go_simp; rfl)); (case hp => exact (Reps.one (show Kd.M (Kd.int .i64) _ _ _ 2 [.int .i64 2] from rfl) (Reps.one (show Kd.M (Kd.int .i64) _ _ _ 4 [.int .i64 4] from rfl) (Reps.one (show Kd.M (Kd.int .i64) _ _ _ 12 [.int .i64 12] from rfl) (Reps.one (show Kd.M (Kd.int .i64) _ _ _ 12 [.int .i64 12] from rfl) (Reps.none _ _))))))
                                                      intro v643 w19 ho20 hb hg_ hnew_
                                                      clear hg_ hnew_
                                                      (first | rw [← Ny642.out] at ho20 | (simp only [Int.reduceToNat] at ho20; rw [← Ny642.out] at ho20))
                                                      have n0_ := Aside0.mk (Kd.R_below (by (with_reducible repeat (first | apply Kd.R_alloc | apply Kd.R_drewN | apply Kd.R_drew)); exact HO_4.out) hb)
                                                      have n1_ := Aside0.mk (Kd.R_lower ho20 (below_size (by repeat (first | (with_reducible first | exact HB.out | apply below_alloc | apply pw_below_drewN | apply below_drew1 | refine below_set ?_ (IsS94.ge HI629.out)) | exact HB.out))))
                                                      have n2_ := Aside0.mk (IsS94.below (by repeat (first | (with_reducible first | exact HI629.out | apply IsS94.alloc | apply IsS94.drewN | apply IsS94.drew | apply IsS94.set_1) | exact HI629.out)) hb)
                                                      have n3_ := Aside0.mk (below_step (by repeat (first | (with_reducible first | exact HB.out | apply below_alloc | apply pw_below_drewN | apply below_drew1 | refine below_set ?_ (IsS94.ge HI629.out)) | exact HB.out)) hb)
                                                      clear HO_4
                                                      clear HI629
                                                      clear HB
                                                      have HO_4 := n0_
                                                      have HO644 := n1_
                                                      have HI629 := n2_
                                                      have HB := n3_
                                                      clear n0_ n1_ n2_ n3_
                                                      clear hb ho20
                                                      obtain ⟨Ao21, co21, eo21⟩ := Kd.R_slice HO644.out
                                                      subst eo21
                                                      obtain ⟨ado21, fo21, _⟩ := Kd.at_int (Kd.R_reads' HO644.out).2.2 0 (by decide) (by rw [Ny642.out]; simp)
                                                      cases fo21
                                                      refine hK.out _ _ trivial (fun hHeld => ?_)
                                                      clear hK K
                                                      refine norm_ (a' := ?_) ?_ ?_
                                                      rotate_left
                                                      · show Act.put _ (some 29) _ = _
                                                        simp only [Act.put, List.setIfInBounds_toArray, List.set_cons_zero, List.set_cons_succ, i64_w, i32_w]
                                                        rfl
                                                      refine pure_ (i := 13) (N := some 32) (v := ?_) (a' := ?_) #[true, true, true, false, false, false, true, true, false, false, true, true, true, true, false, false, false, false] rfl rfl (any_of HT_.out (by kernel_rfl)) (fun _ _ _ h => h) (Or.inl ⟨by rfl, ?_⟩) ?_ ?_
                                                      rotate_left
                                                      · intro w'
                                                        go_simp
                                                        with_reducible rfl
                                                      rotate_left
                                                      · simp only [Act.put, List.setIfInBounds_toArray, List.set_cons_zero, List.set_cons_succ, i64_w, i32_w]
                                                        rfl
                                                      exact norm_ (by first | (simp only [putAll, Act.put, List.setIfInBounds_toArray, List.set_cons_zero, List.set_cons_succ]; done) | (simp only [putAll, Act.put, List.setIfInBounds_toArray, List.set_cons_zero, List.set_cons_succ]; rfl)) (hJ10 (.slice (some ado21) y642.length co21, ado21) _ ⟨(by (with_reducible repeat (first | apply Kd.R_alloc | apply Kd.R_drewN | apply Kd.R_drew)); exact HO644.out), (by (with_reducible repeat (first | apply Kd.R_alloc | apply Kd.R_drewN | apply Kd.R_drew)); exact HO_4.out), ⟨_, rfl⟩, (by repeat (first | (with_reducible first | exact HI629.out | apply IsS94.alloc | apply IsS94.drewN | apply IsS94.drew | apply IsS94.set_1) | exact HI629.out)), (by repeat (first | (with_reducible first | exact HB.out | apply below_alloc | apply pw_below_drewN | apply below_drew1 | refine below_set ?_ (IsS94.ge HI629.out)) | exact HB.out))⟩)
                                                  · skip
                                                    rintro ⟨v643, adz_v643⟩ w22 ⟨h0_, h1_, h2_, h3_, h4_⟩
                                                    have n0_ : Aside0 (Kd.R (Kd.int .i64) 3 w22 w.heap.size (fun _ => True) v643 y642) := ⟨h0_⟩
                                                    have n1_ : Aside0 (Kd.R k56 56 w22 w.heap.size (fun _ => True) (.slice Ao17 x4_1.length co17) x4_1) := ⟨h1_⟩
                                                    have n2_ : Aside0 (∃ c_, (v643 : Value) = .slice (some adz_v643) y642.length c_) := ⟨h2_⟩
                                                    have n3_ : Aside0 (IsS94 w w22 g629 t627 x630001_1) := ⟨h3_⟩
                                                    have n4_ : Aside0 (Below w.heap.size w w22) := ⟨h4_⟩
                                                    clear HO_4
                                                    clear HI629
                                                    clear HB
                                                    clear h0_ h1_ h2_ h3_ h4_
                                                    have HO644 := n0_
                                                    have HO_4 := n1_
                                                    have HA_HO644 := n2_
                                                    have HI629 := n3_
                                                    have HB := n4_
                                                    clear n0_ n1_ n2_ n3_ n4_
                                                    have hHeld := trivial
                                                    obtain ⟨co23, eo23⟩ := HA_HO644.out
                                                    clear HA_HO644
                                                    subst eo23
                                                    refine norm_ (a' := ?_) ?_ ?_
                                                    rotate_left
                                                    · simp only [putAll, Act.put, List.setIfInBounds_toArray, List.set_cons_zero, List.set_cons_succ]
                                                      rfl
                                                    refine three_ (i := 3) (j := 5) (k := 14) (Ni := some 22) (Nj := some 24) (Nk := some 33) #[true, true, true, true, false, false, true, true, false, false, true, true, true, true, false, false, false, false] #[true, true, true, false, false, true, true, true, false, false, true, true, true, true, false, false, false, false] #[true, true, true, false, false, false, true, true, false, false, true, true, true, true, true, false, false, false] rfl rfl rfl rfl rfl rfl (three_of HT_.out (by kernel_rfl)) (by decide) (by decide) (by decide) (fun K hK => ?_) (fun K hK => ?_) (fun K hK => ?_)
                                                    · skip
                                                      refine goes_ Try.func61 (by kernel_rfl) rfl #[.pointer (some ⟨g629, 0, none⟩), .int .i64 2] (by rfl) rfl rfl (by (try simp only [List.map_toArray, List.map_cons, List.map_nil]); first | done | rfl | (simp only [List.length_drop, List.length_take]; rfl)) ?_
                                                      with_reducible refine (spec_l20Rd_pick.calls k1 g629 t627 x630001_1 2 t636 t637 w _ ?side1 ?side2 A10.out).mono ?_
                                                      (case side1 => repeat (first | (with_reducible first | exact HI629.out | apply IsS94.alloc | apply IsS94.drewN | apply IsS94.drew | apply IsS94.set_1) | exact HI629.out))
                                                      (case side2 => repeat (first | (with_reducible first | exact HB.out | apply below_alloc | apply pw_below_drewN | apply below_drew1 | refine below_set ?_ (IsS94.ge HI629.out)) | exact HB.out))
                                                      rintro e w24 ⟨rfl, hi, hb, hk⟩
                                                      refine ⟨_, rfl, ?_⟩
                                                      have n0_ := Aside0.mk (Kd.R_mono (Kd.R_keep (IsS94.apart (show IsS94 w _ g629 t627 x630001_1 from by repeat (first | (with_reducible first | exact HI629.out | apply IsS94.alloc | apply IsS94.drewN | apply IsS94.drew | apply IsS94.set_1) | exact HI629.out)) (by (with_reducible repeat (first | apply Kd.R_alloc | apply Kd.R_drewN | apply Kd.R_drew)); exact HO_4.out) (by decide)) hk (fun _ h => h.2)) (fun _ h => h.1))
                                                      have n1_ := Aside0.mk (Kd.R_mono (Kd.R_keep (IsS94.apart (show IsS94 w _ g629 t627 x630001_1 from by repeat (first | (with_reducible first | exact HI629.out | apply IsS94.alloc | apply IsS94.drewN | apply IsS94.drew | apply IsS94.set_1) | exact HI629.out)) (by (with_reducible repeat (first | apply Kd.R_alloc | apply Kd.R_drewN | apply Kd.R_drew)); exact HO644.out) (by decide)) hk (fun _ h => h.2)) (fun _ h => h.1))
                                                      have n2_ := Aside0.mk (hb)
                                                      have n3_ := Aside0.mk (hi)
                                                      clear HO_4
                                                      clear HO644
                                                      clear HB
                                                      clear HI629
                                                      have HO_4 := n0_
                                                      have HO644 := n1_
                                                      have HB := n2_
                                                      have HI629 := n3_
                                                      clear n0_ n1_ n2_ n3_
                                                      (try clear hb)
                                                      (try clear hb2)
                                                      (try clear hk)
                                                      (try clear hi)
                                                      refine hK.out _ _ trivial (fun hHeld => ?_)
                                                      clear hK K
                                                      refine norm_ (a' := ?_) ?_ ?_
                                                      rotate_left
                                                      · show Act.put _ (some 22) _ = _
                                                        simp only [Act.put, List.setIfInBounds_toArray, List.set_cons_zero, List.set_cons_succ, i64_w, i32_w]
                                                        rfl
                                                      refine pure_ (i := 4) (N := some 23) (v := ?_) (a' := ?_) #[true, true, true, true, true, false, true, true, false, false, true, true, true, true, false, false, false, false] rfl rfl (any_of HT_.out (by kernel_rfl)) (fun _ _ _ h => h) (Or.inl ⟨by rfl, ?_⟩) ?_ ?_
                                                      rotate_left
                                                      · intro w'
                                                        go_simp
                                                        with_reducible rfl
                                                      rotate_left
                                                      · simp only [Act.put, List.setIfInBounds_toArray, List.set_cons_zero, List.set_cons_succ, i64_w, i32_w]
                                                        rfl
                                                      exact norm_ (by first | (simp only [putAll, Act.put, List.setIfInBounds_toArray, List.set_cons_zero, List.set_cons_succ]; done) | (simp only [putAll, Act.put, List.setIfInBounds_toArray, List.set_cons_zero, List.set_cons_succ]; rfl)) (hJ3_10 (.slice (some adz_v643) y642.length co23, adz_v643) _ ⟨(by (with_reducible repeat (first | apply Kd.R_alloc | apply Kd.R_drewN | apply Kd.R_drew)); exact HO644.out), (by (with_reducible repeat (first | apply Kd.R_alloc | apply Kd.R_drewN | apply Kd.R_drew)); exact HO_4.out), ⟨_, rfl⟩, (by repeat (first | (with_reducible first | exact HI629.out | apply IsS94.alloc | apply IsS94.drewN | apply IsS94.drew | apply IsS94.set_1) | exact HI629.out)), (by repeat (first | (with_reducible first | exact HB.out | apply below_alloc | apply pw_below_drewN | apply below_drew1 | refine below_set ?_ (IsS94.ge HI629.out)) | exact HB.out))⟩)
                                                    · skip
                                                      refine Kd.R_lit_step (Kd.int .i64) _ 3 ?hg (N := 24) ?hd (xs := ([2, 4, 4, 12] : List Int)) (inner := [.int .i64 2, .int .i64 4, .int .i64 4, .int .i64 12]) (ok := fun _ => True) (okp := fun _ => True) ?hr ?hp (fun _ hk => hk) trivial (Below.refl _ _) (Nat.le_refl _) (by simp) ?_; (case hd => rfl); (case hg => rfl); (case hr => first | (go_simp; done) | (go_simp; rfl)); (case hp => exact (Reps.one (show Kd.M (Kd.int .i64) _ _ _ 2 [.int .i64 2] from rfl) (Reps.one (show Kd.M (Kd.int .i64) _ _ _ 4 [.int .i64 4] from rfl) (Reps.one (show Kd.M (Kd.int .i64) _ _ _ 4 [.int .i64 4] from rfl) (Reps.one (show Kd.M (Kd.int .i64) _ _ _ 12 [.int .i64 12] from rfl) (Reps.none _ _))))))
                                                      intro v639 w24 ho25 hb hg_ hnew_
                                                      clear hg_ hnew_
                                                      (first | rw [← Ny638.out] at ho25 | (simp only [Int.reduceToNat] at ho25; rw [← Ny638.out] at ho25))
                                                      have n0_ := Aside0.mk (Kd.R_below (by (with_reducible repeat (first | apply Kd.R_alloc | apply Kd.R_drewN | apply Kd.R_drew)); exact HO_4.out) hb)
                                                      have n1_ := Aside0.mk (Kd.R_elder' (by (with_reducible repeat (first | apply Kd.R_alloc | apply Kd.R_drewN | apply Kd.R_drew)); exact HO644.out) (Kd.R_base ho25) hb)
                                                      have n2_ := Aside0.mk (Kd.R_lower (Kd.R_new' ho25 (Kd.R_lt (by (with_reducible repeat (first | apply Kd.R_alloc | apply Kd.R_drewN | apply Kd.R_drew)); exact HO644.out))) (below_size (by repeat (first | (with_reducible first | exact HB.out | apply below_alloc | apply pw_below_drewN | apply below_drew1 | refine below_set ?_ (IsS94.ge HI629.out)) | exact HB.out))))
                                                      have n3_ := Aside0.mk (IsS94.below (by repeat (first | (with_reducible first | exact HI629.out | apply IsS94.alloc | apply IsS94.drewN | apply IsS94.drew | apply IsS94.set_1) | exact HI629.out)) hb)
                                                      have n4_ := Aside0.mk (below_step (by repeat (first | (with_reducible first | exact HB.out | apply below_alloc | apply pw_below_drewN | apply below_drew1 | refine below_set ?_ (IsS94.ge HI629.out)) | exact HB.out)) hb)
                                                      clear HO_4
                                                      clear HO644
                                                      clear HI629
                                                      clear HB
                                                      have HO_4 := n0_
                                                      have HO644 := n1_
                                                      have HO640 := n2_
                                                      have HI629 := n3_
                                                      have HB := n4_
                                                      clear n0_ n1_ n2_ n3_ n4_
                                                      clear hb ho25
                                                      obtain ⟨Ao26, co26, eo26⟩ := Kd.R_slice HO640.out
                                                      subst eo26
                                                      obtain ⟨ado26, fo26, _⟩ := Kd.at_int (Kd.R_reads' HO640.out).2.2 0 (by decide) (by rw [Ny638.out]; simp)
                                                      cases fo26
                                                      refine hK.out _ _ trivial (fun hHeld => ?_)
                                                      clear hK K
                                                      refine norm_ (a' := ?_) ?_ ?_
                                                      rotate_left
                                                      · show Act.put _ (some 24) _ = _
                                                        simp only [Act.put, List.setIfInBounds_toArray, List.set_cons_zero, List.set_cons_succ, i64_w, i32_w]
                                                        rfl
                                                      refine pure_ (i := 8) (N := some 27) (v := ?_) (a' := ?_) #[true, true, true, false, false, true, true, true, true, false, true, true, true, true, false, false, false, false] rfl rfl (any_of HT_.out (by kernel_rfl)) (fun _ _ _ h => h) (Or.inl ⟨by rfl, ?_⟩) ?_ ?_
                                                      rotate_left
                                                      · intro w'
                                                        go_simp
                                                        with_reducible rfl
                                                      rotate_left
                                                      · simp only [Act.put, List.setIfInBounds_toArray, List.set_cons_zero, List.set_cons_succ, i64_w, i32_w]
                                                        rfl
                                                      exact norm_ (by first | (simp only [putAll, Act.put, List.setIfInBounds_toArray, List.set_cons_zero, List.set_cons_succ]; done) | (simp only [putAll, Act.put, List.setIfInBounds_toArray, List.set_cons_zero, List.set_cons_succ]; rfl)) (hJ5_10 (.slice (some ado26) y638.length co26, ado26, .slice (some adz_v643) y642.length co23, adz_v643) _ ⟨(by (with_reducible repeat (first | apply Kd.R_alloc | apply Kd.R_drewN | apply Kd.R_drew)); exact Kd.R_mono HO640.out (fun _ hk => hk.2)), (by (with_reducible repeat (first | apply Kd.R_alloc | apply Kd.R_drewN | apply Kd.R_drew)); exact Kd.R_mono HO644.out (fun _ hk => hk.2)), (by (with_reducible repeat (first | apply Kd.R_alloc | apply Kd.R_drewN | apply Kd.R_drew)); exact HO_4.out), ⟨_, rfl⟩, ⟨_, rfl⟩, (by repeat (first | (with_reducible first | exact HI629.out | apply IsS94.alloc | apply IsS94.drewN | apply IsS94.drew | apply IsS94.set_1) | exact HI629.out)), (by repeat (first | (with_reducible first | exact HB.out | apply below_alloc | apply pw_below_drewN | apply below_drew1 | refine below_set ?_ (IsS94.ge HI629.out)) | exact HB.out))⟩)
                                                    · skip
                                                      (have p645 : 0 ≤ ((ji11) : Int) := of_decide_eq_true (by first | (with_reducible assumption) | assumption); have q645 : (ji11) < (y642.length : Int) := of_decide_eq_true (by first | (with_reducible assumption) | assumption); obtain ⟨ad645, e645, hx645_0⟩ := Kd.at_int (Kd.R_reads' HO644.out).2.2 (ji11) p645 q645; obtain rfl : adz_v643 = ad645 := (by injection e645))
                                                      refine value_ (w1 := ?_) (v := ?_) (by rfl) rfl ?_ ?_
                                                      rotate_left 2
                                                      · go_simp
                                                        constructor
                                                        · rfl
                                                        · rfl
                                                      clear hx645_0
                                                      refine hK.out _ _ trivial (fun hHeld => ?_)
                                                      clear hK K
                                                      refine norm_ (a' := ?_) ?_ ?_
                                                      rotate_left
                                                      · show Act.put _ (some 33) _ = _
                                                        simp only [Act.put, List.setIfInBounds_toArray, List.set_cons_zero, List.set_cons_succ, i64_w, i32_w]
                                                        rfl
                                                      exact norm_ (by first | (simp only [putAll, Act.put, List.setIfInBounds_toArray, List.set_cons_zero, List.set_cons_succ]; done) | (simp only [putAll, Act.put, List.setIfInBounds_toArray, List.set_cons_zero, List.set_cons_succ]; rfl)) (hJ10_14 (.slice (some adz_v643) y642.length co23, adz_v643) _ ⟨(by (with_reducible repeat (first | apply Kd.R_alloc | apply Kd.R_drewN | apply Kd.R_drew)); exact HO644.out), (by (with_reducible repeat (first | apply Kd.R_alloc | apply Kd.R_drewN | apply Kd.R_drew)); exact HO_4.out), ⟨_, rfl⟩, (by repeat (first | (with_reducible first | exact HI629.out | apply IsS94.alloc | apply IsS94.drewN | apply IsS94.drew | apply IsS94.set_1) | exact HI629.out)), (by repeat (first | (with_reducible first | exact HB.out | apply below_alloc | apply pw_below_drewN | apply below_drew1 | refine below_set ?_ (IsS94.ge HI629.out)) | exact HB.out))⟩)
                                                · skip
                                                  rintro ⟨v639, adz_v639⟩ w22 ⟨h0_, h1_, h2_, h3_, h4_⟩
                                                  have n0_ : Aside0 (Kd.R (Kd.int .i64) 3 w22 w.heap.size (fun _ => True) v639 y638) := ⟨h0_⟩
                                                  have n1_ : Aside0 (Kd.R k56 56 w22 w.heap.size (fun _ => True) (.slice Ao17 x4_1.length co17) x4_1) := ⟨h1_⟩
                                                  have n2_ : Aside0 (∃ c_, (v639 : Value) = .slice (some adz_v639) y638.length c_) := ⟨h2_⟩
                                                  have n3_ : Aside0 (IsS94 w w22 g629 t627 x630001_1) := ⟨h3_⟩
                                                  have n4_ : Aside0 (Below w.heap.size w w22) := ⟨h4_⟩
                                                  clear HO_4
                                                  clear HI629
                                                  clear HB
                                                  clear h0_ h1_ h2_ h3_ h4_
                                                  have HO640 := n0_
                                                  have HO_4 := n1_
                                                  have HA_HO640 := n2_
                                                  have HI629 := n3_
                                                  have HB := n4_
                                                  clear n0_ n1_ n2_ n3_ n4_
                                                  have hHeld := trivial
                                                  obtain ⟨co23, eo23⟩ := HA_HO640.out
                                                  clear HA_HO640
                                                  subst eo23
                                                  refine norm_ (a' := ?_) ?_ ?_
                                                  rotate_left
                                                  · simp only [putAll, Act.put, List.setIfInBounds_toArray, List.set_cons_zero, List.set_cons_succ]
                                                    rfl
                                                  refine three_ (i := 3) (j := 9) (k := 10) (Ni := some 22) (Nj := some 28) (Nk := some 29) #[true, true, true, true, false, true, true, true, true, false, false, true, true, false, false, false, false, false] #[true, true, true, false, false, true, true, true, true, true, false, true, true, false, false, false, false, false] #[true, true, true, false, false, true, true, true, true, false, true, true, true, false, false, false, false, false] rfl rfl rfl rfl rfl rfl (three_of HT_.out (by kernel_rfl)) (by decide) (by decide) (by decide) (fun K hK => ?_) (fun K hK => ?_) (fun K hK => ?_)
                                                  · skip
                                                    refine goes_ Try.func61 (by kernel_rfl) rfl #[.pointer (some ⟨g629, 0, none⟩), .int .i64 2] (by rfl) rfl rfl (by (try simp only [List.map_toArray, List.map_cons, List.map_nil]); first | done | rfl | (simp only [List.length_drop, List.length_take]; rfl)) ?_
                                                    with_reducible refine (spec_l20Rd_pick.calls k1 g629 t627 x630001_1 2 t636 t637 w _ ?side1 ?side2 A10.out).mono ?_
                                                    (case side1 => repeat (first | (with_reducible first | exact HI629.out | apply IsS94.alloc | apply IsS94.drewN | apply IsS94.drew | apply IsS94.set_1) | exact HI629.out))
                                                    (case side2 => repeat (first | (with_reducible first | exact HB.out | apply below_alloc | apply pw_below_drewN | apply below_drew1 | refine below_set ?_ (IsS94.ge HI629.out)) | exact HB.out))
                                                    rintro e w24 ⟨rfl, hi, hb, hk⟩
                                                    refine ⟨_, rfl, ?_⟩
                                                    have n0_ := Aside0.mk (Kd.R_mono (Kd.R_keep (IsS94.apart (show IsS94 w _ g629 t627 x630001_1 from by repeat (first | (with_reducible first | exact HI629.out | apply IsS94.alloc | apply IsS94.drewN | apply IsS94.drew | apply IsS94.set_1) | exact HI629.out)) (by (with_reducible repeat (first | apply Kd.R_alloc | apply Kd.R_drewN | apply Kd.R_drew)); exact HO_4.out) (by decide)) hk (fun _ h => h.2)) (fun _ h => h.1))
                                                    have n1_ := Aside0.mk (Kd.R_mono (Kd.R_keep (IsS94.apart (show IsS94 w _ g629 t627 x630001_1 from by repeat (first | (with_reducible first | exact HI629.out | apply IsS94.alloc | apply IsS94.drewN | apply IsS94.drew | apply IsS94.set_1) | exact HI629.out)) (by (with_reducible repeat (first | apply Kd.R_alloc | apply Kd.R_drewN | apply Kd.R_drew)); exact HO640.out) (by decide)) hk (fun _ h => h.2)) (fun _ h => h.1))
                                                    have n2_ := Aside0.mk (hb)
                                                    have n3_ := Aside0.mk (hi)
                                                    clear HO_4
                                                    clear HO640
                                                    clear HB
                                                    clear HI629
                                                    have HO_4 := n0_
                                                    have HO640 := n1_
                                                    have HB := n2_
                                                    have HI629 := n3_
                                                    clear n0_ n1_ n2_ n3_
                                                    (try clear hb)
                                                    (try clear hb2)
                                                    (try clear hk)
                                                    (try clear hi)
                                                    refine hK.out _ _ trivial (fun hHeld => ?_)
                                                    clear hK K
                                                    refine norm_ (a' := ?_) ?_ ?_
                                                    rotate_left
                                                    · show Act.put _ (some 22) _ = _
                                                      simp only [Act.put, List.setIfInBounds_toArray, List.set_cons_zero, List.set_cons_succ, i64_w, i32_w]
                                                      rfl
                                                    refine pure_ (i := 4) (N := some 23) (v := ?_) (a' := ?_) #[true, true, true, true, true, true, true, true, true, false, false, true, true, false, false, false, false, false] rfl rfl (any_of HT_.out (by kernel_rfl)) (fun _ _ _ h => h) (Or.inl ⟨by rfl, ?_⟩) ?_ ?_
                                                    rotate_left
                                                    · intro w'
                                                      go_simp
                                                      with_reducible rfl
                                                    rotate_left
                                                    · simp only [Act.put, List.setIfInBounds_toArray, List.set_cons_zero, List.set_cons_succ, i64_w, i32_w]
                                                      rfl
                                                    exact norm_ (by first | (simp only [putAll, Act.put, List.setIfInBounds_toArray, List.set_cons_zero, List.set_cons_succ]; done) | (simp only [putAll, Act.put, List.setIfInBounds_toArray, List.set_cons_zero, List.set_cons_succ]; rfl)) (hJ3_5 (.slice (some adz_v639) y638.length co23, adz_v639) _ ⟨(by (with_reducible repeat (first | apply Kd.R_alloc | apply Kd.R_drewN | apply Kd.R_drew)); exact HO640.out), (by (with_reducible repeat (first | apply Kd.R_alloc | apply Kd.R_drewN | apply Kd.R_drew)); exact HO_4.out), ⟨_, rfl⟩, (by repeat (first | (with_reducible first | exact HI629.out | apply IsS94.alloc | apply IsS94.drewN | apply IsS94.drew | apply IsS94.set_1) | exact HI629.out)), (by repeat (first | (with_reducible first | exact HB.out | apply below_alloc | apply pw_below_drewN | apply below_drew1 | refine below_set ?_ (IsS94.ge HI629.out)) | exact HB.out))⟩)
                                                  · skip
                                                    (have p641 : 0 ≤ ((ji11) : Int) := of_decide_eq_true (by first | (with_reducible assumption) | assumption); have q641 : (ji11) < (y638.length : Int) := of_decide_eq_true (by first | (with_reducible assumption) | assumption); obtain ⟨ad641, e641, hx641_0⟩ := Kd.at_int (Kd.R_reads' HO640.out).2.2 (ji11) p641 q641; obtain rfl : adz_v639 = ad641 := (by injection e641))
                                                    refine value_ (w1 := ?_) (v := ?_) (by rfl) rfl ?_ ?_
                                                    rotate_left 2
                                                    · go_simp
                                                      constructor
                                                      · rfl
                                                      · rfl
                                                    clear hx641_0
                                                    refine hK.out _ _ trivial (fun hHeld => ?_)
                                                    clear hK K
                                                    refine norm_ (a' := ?_) ?_ ?_
                                                    rotate_left
                                                    · show Act.put _ (some 28) _ = _
                                                      simp only [Act.put, List.setIfInBounds_toArray, List.set_cons_zero, List.set_cons_succ, i64_w, i32_w]
                                                      rfl
                                                    exact norm_ (by first | (simp only [putAll, Act.put, List.setIfInBounds_toArray, List.set_cons_zero, List.set_cons_succ]; done) | (simp only [putAll, Act.put, List.setIfInBounds_toArray, List.set_cons_zero, List.set_cons_succ]; rfl)) (hJ5_9 (.slice (some adz_v639) y638.length co23, adz_v639) _ ⟨(by (with_reducible repeat (first | apply Kd.R_alloc | apply Kd.R_drewN | apply Kd.R_drew)); exact HO640.out), (by (with_reducible repeat (first | apply Kd.R_alloc | apply Kd.R_drewN | apply Kd.R_drew)); exact HO_4.out), ⟨_, rfl⟩, (by repeat (first | (with_reducible first | exact HI629.out | apply IsS94.alloc | apply IsS94.drewN | apply IsS94.drew | apply IsS94.set_1) | exact HI629.out)), (by repeat (first | (with_reducible first | exact HB.out | apply below_alloc | apply pw_below_drewN | apply below_drew1 | refine below_set ?_ (IsS94.ge HI629.out)) | exact HB.out))⟩)
                                                  · skip
                                                    refine Kd.R_lit_step (Kd.int .i64) _ 3 ?hg (N := 29) ?hd (xs := ([2, 4, 12, 12] : List Int)) (inner := [.int .i64 2, .int .i64 4, .int .i64 12, .int .i64 12]) (ok := fun _ => True) (okp := fun _ => True) ?hr ?hp (fun _ hk => hk) trivial (Below.refl _ _) (Nat.le_refl _) (by simp) ?_; (case hd => rfl); (case hg => rfl); (case hr => first | (go_simp; done) | (go_simp; rfl)); (case hp => exact (Reps.one (show Kd.M (Kd.int .i64) _ _ _ 2 [.int .i64 2] from rfl) (Reps.one (show Kd.M (Kd.int .i64) _ _ _ 4 [.int .i64 4] from rfl) (Reps.one (show Kd.M (Kd.int .i64) _ _ _ 12 [.int .i64 12] from rfl) (Reps.one (show Kd.M (Kd.int .i64) _ _ _ 12 [.int .i64 12] from rfl) (Reps.none _ _))))))
                                                    intro v643 w24 ho25 hb hg_ hnew_
                                                    clear hg_ hnew_
                                                    (first | rw [← Ny642.out] at ho25 | (simp only [Int.reduceToNat] at ho25; rw [← Ny642.out] at ho25))
                                                    have n0_ := Aside0.mk (Kd.R_below (by (with_reducible repeat (first | apply Kd.R_alloc | apply Kd.R_drewN | apply Kd.R_drew)); exact HO_4.out) hb)
                                                    have n1_ := Aside0.mk (Kd.R_elder' (by (with_reducible repeat (first | apply Kd.R_alloc | apply Kd.R_drewN | apply Kd.R_drew)); exact HO640.out) (Kd.R_base ho25) hb)
                                                    have n2_ := Aside0.mk (Kd.R_lower (Kd.R_new' ho25 (Kd.R_lt (by (with_reducible repeat (first | apply Kd.R_alloc | apply Kd.R_drewN | apply Kd.R_drew)); exact HO640.out))) (below_size (by repeat (first | (with_reducible first | exact HB.out | apply below_alloc | apply pw_below_drewN | apply below_drew1 | refine below_set ?_ (IsS94.ge HI629.out)) | exact HB.out))))
                                                    have n3_ := Aside0.mk (IsS94.below (by repeat (first | (with_reducible first | exact HI629.out | apply IsS94.alloc | apply IsS94.drewN | apply IsS94.drew | apply IsS94.set_1) | exact HI629.out)) hb)
                                                    have n4_ := Aside0.mk (below_step (by repeat (first | (with_reducible first | exact HB.out | apply below_alloc | apply pw_below_drewN | apply below_drew1 | refine below_set ?_ (IsS94.ge HI629.out)) | exact HB.out)) hb)
                                                    clear HO_4
                                                    clear HO640
                                                    clear HI629
                                                    clear HB
                                                    have HO_4 := n0_
                                                    have HO640 := n1_
                                                    have HO644 := n2_
                                                    have HI629 := n3_
                                                    have HB := n4_
                                                    clear n0_ n1_ n2_ n3_ n4_
                                                    clear hb ho25
                                                    obtain ⟨Ao26, co26, eo26⟩ := Kd.R_slice HO644.out
                                                    subst eo26
                                                    obtain ⟨ado26, fo26, _⟩ := Kd.at_int (Kd.R_reads' HO644.out).2.2 0 (by decide) (by rw [Ny642.out]; simp)
                                                    cases fo26
                                                    refine hK.out _ _ trivial (fun hHeld => ?_)
                                                    clear hK K
                                                    refine norm_ (a' := ?_) ?_ ?_
                                                    rotate_left
                                                    · show Act.put _ (some 29) _ = _
                                                      simp only [Act.put, List.setIfInBounds_toArray, List.set_cons_zero, List.set_cons_succ, i64_w, i32_w]
                                                      rfl
                                                    refine pure_ (i := 13) (N := some 32) (v := ?_) (a' := ?_) #[true, true, true, false, false, true, true, true, true, false, true, true, true, true, false, false, false, false] rfl rfl (any_of HT_.out (by kernel_rfl)) (fun _ _ _ h => h) (Or.inl ⟨by rfl, ?_⟩) ?_ ?_
                                                    rotate_left
                                                    · intro w'
                                                      go_simp
                                                      with_reducible rfl
                                                    rotate_left
                                                    · simp only [Act.put, List.setIfInBounds_toArray, List.set_cons_zero, List.set_cons_succ, i64_w, i32_w]
                                                      rfl
                                                    exact norm_ (by first | (simp only [putAll, Act.put, List.setIfInBounds_toArray, List.set_cons_zero, List.set_cons_succ]; done) | (simp only [putAll, Act.put, List.setIfInBounds_toArray, List.set_cons_zero, List.set_cons_succ]; rfl)) (hJ5_10 (.slice (some adz_v639) y638.length co23, adz_v639, .slice (some ado26) y642.length co26, ado26) _ ⟨(by (with_reducible repeat (first | apply Kd.R_alloc | apply Kd.R_drewN | apply Kd.R_drew)); exact Kd.R_mono HO640.out (fun _ hk => hk.2)), (by (with_reducible repeat (first | apply Kd.R_alloc | apply Kd.R_drewN | apply Kd.R_drew)); exact Kd.R_mono HO644.out (fun _ hk => hk.2)), (by (with_reducible repeat (first | apply Kd.R_alloc | apply Kd.R_drewN | apply Kd.R_drew)); exact HO_4.out), ⟨_, rfl⟩, ⟨_, rfl⟩, (by repeat (first | (with_reducible first | exact HI629.out | apply IsS94.alloc | apply IsS94.drewN | apply IsS94.drew | apply IsS94.set_1) | exact HI629.out)), (by repeat (first | (with_reducible first | exact HB.out | apply below_alloc | apply pw_below_drewN | apply below_drew1 | refine below_set ?_ (IsS94.ge HI629.out)) | exact HB.out))⟩)
                                              · skip
                                                rintro _ w20 ⟨h0_, h1_, h2_⟩
                                                have n0_ : Aside0 (Kd.R k56 56 w20 w.heap.size (fun _ => True) (.slice Ao17 x4_1.length co17) x4_1) := ⟨h0_⟩
                                                have n1_ : Aside0 (IsS94 w w20 g629 t627 t637) := ⟨h1_⟩
                                                have n2_ : Aside0 (Below w.heap.size w w20) := ⟨h2_⟩
                                                clear HO_4
                                                clear HI629
                                                clear HB
                                                clear h0_ h1_ h2_
                                                have HO_4 := n0_
                                                have HI629 := n1_
                                                have HB := n2_
                                                clear n0_ n1_ n2_
                                                have hHeld := trivial
                                                refine norm_ (a' := ?_) ?_ ?_
                                                rotate_left
                                                · simp only [putAll, Act.put, List.setIfInBounds_toArray, List.set_cons_zero, List.set_cons_succ]
                                                  rfl
                                                refine two_ (i := 5) (j := 10) (Ni := some 24) (Nj := some 29) #[true, true, true, true, true, true, true, true, false, false, false, true, true, false, false, false, false, false] #[true, true, true, true, true, false, true, true, false, false, true, true, true, false, false, false, false, false] rfl rfl rfl rfl (two_of HT_.out (by kernel_rfl)) (by decide) (by decide) (fun K hK => ?_) (fun K hK => ?_)
                                                · skip
                                                  refine Kd.R_lit_step (Kd.int .i64) _ 3 ?hg (N := 24) ?hd (xs := ([2, 4, 4, 12] : List Int)) (inner := [.int .i64 2, .int .i64 4, .int .i64 4, .int .i64 12]) (ok := fun _ => True) (okp := fun _ => True) ?hr ?hp (fun _ hk => hk) trivial (Below.refl _ _) (Nat.le_refl _) (by simp) ?_; (case hd => rfl); (case hg => rfl); (case hr => first | (go_simp; done) | (go_simp; rfl)); (case hp => exact (Reps.one (show Kd.M (Kd.int .i64) _ _ _ 2 [.int .i64 2] from rfl) (Reps.one (show Kd.M (Kd.int .i64) _ _ _ 4 [.int .i64 4] from rfl) (Reps.one (show Kd.M (Kd.int .i64) _ _ _ 4 [.int .i64 4] from rfl) (Reps.one (show Kd.M (Kd.int .i64) _ _ _ 12 [.int .i64 12] from rfl) (Reps.none _ _))))))
                                                  intro v639 w21 ho22 hb hg_ hnew_
                                                  clear hg_ hnew_
                                                  (first | rw [← Ny638.out] at ho22 | (simp only [Int.reduceToNat] at ho22; rw [← Ny638.out] at ho22))
                                                  have n0_ := Aside0.mk (Kd.R_below (by (with_reducible repeat (first | apply Kd.R_alloc | apply Kd.R_drewN | apply Kd.R_drew)); exact HO_4.out) hb)
                                                  have n1_ := Aside0.mk (Kd.R_lower ho22 (below_size (by repeat (first | (with_reducible first | exact HB.out | apply below_alloc | apply pw_below_drewN | apply below_drew1 | refine below_set ?_ (IsS94.ge HI629.out)) | exact HB.out))))
                                                  have n2_ := Aside0.mk (IsS94.below (by repeat (first | (with_reducible first | exact HI629.out | apply IsS94.alloc | apply IsS94.drewN | apply IsS94.drew | apply IsS94.set_1) | exact HI629.out)) hb)
                                                  have n3_ := Aside0.mk (below_step (by repeat (first | (with_reducible first | exact HB.out | apply below_alloc | apply pw_below_drewN | apply below_drew1 | refine below_set ?_ (IsS94.ge HI629.out)) | exact HB.out)) hb)
                                                  clear HO_4
                                                  clear HI629
                                                  clear HB
                                                  have HO_4 := n0_
                                                  have HO640 := n1_
                                                  have HI629 := n2_
                                                  have HB := n3_
                                                  clear n0_ n1_ n2_ n3_
                                                  clear hb ho22
                                                  obtain ⟨Ao23, co23, eo23⟩ := Kd.R_slice HO640.out
                                                  subst eo23
                                                  obtain ⟨ado23, fo23, _⟩ := Kd.at_int (Kd.R_reads' HO640.out).2.2 0 (by decide) (by rw [Ny638.out]; simp)
                                                  cases fo23
                                                  refine hK.out _ _ trivial (fun hHeld => ?_)
                                                  clear hK K
                                                  refine norm_ (a' := ?_) ?_ ?_
                                                  rotate_left
                                                  · show Act.put _ (some 24) _ = _
                                                    simp only [Act.put, List.setIfInBounds_toArray, List.set_cons_zero, List.set_cons_succ, i64_w, i32_w]
                                                    rfl
                                                  refine pure_ (i := 8) (N := some 27) (v := ?_) (a' := ?_) #[true, true, true, true, true, true, true, true, true, false, false, true, true, false, false, false, false, false] rfl rfl (any_of HT_.out (by kernel_rfl)) (fun _ _ _ h => h) (Or.inl ⟨by rfl, ?_⟩) ?_ ?_
                                                  rotate_left
                                                  · intro w'
                                                    go_simp
                                                    with_reducible rfl
                                                  rotate_left
                                                  · simp only [Act.put, List.setIfInBounds_toArray, List.set_cons_zero, List.set_cons_succ, i64_w, i32_w]
                                                    rfl
                                                  exact norm_ (by first | (simp only [putAll, Act.put, List.setIfInBounds_toArray, List.set_cons_zero, List.set_cons_succ]; done) | (simp only [putAll, Act.put, List.setIfInBounds_toArray, List.set_cons_zero, List.set_cons_succ]; rfl)) (hJ3_5 (.slice (some ado23) y638.length co23, ado23) _ ⟨(by (with_reducible repeat (first | apply Kd.R_alloc | apply Kd.R_drewN | apply Kd.R_drew)); exact HO640.out), (by (with_reducible repeat (first | apply Kd.R_alloc | apply Kd.R_drewN | apply Kd.R_drew)); exact HO_4.out), ⟨_, rfl⟩, (by repeat (first | (with_reducible first | exact HI629.out | apply IsS94.alloc | apply IsS94.drewN | apply IsS94.drew | apply IsS94.set_1) | exact HI629.out)), (by repeat (first | (with_reducible first | exact HB.out | apply below_alloc | apply pw_below_drewN | apply below_drew1 | refine below_set ?_ (IsS94.ge HI629.out)) | exact HB.out))⟩)
                                                · skip
                                                  refine Kd.R_lit_step (Kd.int .i64) _ 3 ?hg (N := 29) ?hd (xs := ([2, 4, 12, 12] : List Int)) (inner := [.int .i64 2, .int .i64 4, .int .i64 12, .int .i64 12]) (ok := fun _ => True) (okp := fun _ => True) ?hr ?hp (fun _ hk => hk) trivial (Below.refl _ _) (Nat.le_refl _) (by simp) ?_; (case hd => rfl); (case hg => rfl); (case hr => first | (go_simp; done) | (go_simp; rfl)); (case hp => exact (Reps.one (show Kd.M (Kd.int .i64) _ _ _ 2 [.int .i64 2] from rfl) (Reps.one (show Kd.M (Kd.int .i64) _ _ _ 4 [.int .i64 4] from rfl) (Reps.one (show Kd.M (Kd.int .i64) _ _ _ 12 [.int .i64 12] from rfl) (Reps.one (show Kd.M (Kd.int .i64) _ _ _ 12 [.int .i64 12] from rfl) (Reps.none _ _))))))
                                                  intro v643 w21 ho22 hb hg_ hnew_
                                                  clear hg_ hnew_
                                                  (first | rw [← Ny642.out] at ho22 | (simp only [Int.reduceToNat] at ho22; rw [← Ny642.out] at ho22))
                                                  have n0_ := Aside0.mk (Kd.R_below (by (with_reducible repeat (first | apply Kd.R_alloc | apply Kd.R_drewN | apply Kd.R_drew)); exact HO_4.out) hb)
                                                  have n1_ := Aside0.mk (Kd.R_lower ho22 (below_size (by repeat (first | (with_reducible first | exact HB.out | apply below_alloc | apply pw_below_drewN | apply below_drew1 | refine below_set ?_ (IsS94.ge HI629.out)) | exact HB.out))))
                                                  have n2_ := Aside0.mk (IsS94.below (by repeat (first | (with_reducible first | exact HI629.out | apply IsS94.alloc | apply IsS94.drewN | apply IsS94.drew | apply IsS94.set_1) | exact HI629.out)) hb)
                                                  have n3_ := Aside0.mk (below_step (by repeat (first | (with_reducible first | exact HB.out | apply below_alloc | apply pw_below_drewN | apply below_drew1 | refine below_set ?_ (IsS94.ge HI629.out)) | exact HB.out)) hb)
                                                  clear HO_4
                                                  clear HI629
                                                  clear HB
                                                  have HO_4 := n0_
                                                  have HO644 := n1_
                                                  have HI629 := n2_
                                                  have HB := n3_
                                                  clear n0_ n1_ n2_ n3_
                                                  clear hb ho22
                                                  obtain ⟨Ao23, co23, eo23⟩ := Kd.R_slice HO644.out
                                                  subst eo23
                                                  obtain ⟨ado23, fo23, _⟩ := Kd.at_int (Kd.R_reads' HO644.out).2.2 0 (by decide) (by rw [Ny642.out]; simp)
                                                  cases fo23
                                                  refine hK.out _ _ trivial (fun hHeld => ?_)
                                                  clear hK K
                                                  refine norm_ (a' := ?_) ?_ ?_
                                                  rotate_left
                                                  · show Act.put _ (some 29) _ = _
                                                    simp only [Act.put, List.setIfInBounds_toArray, List.set_cons_zero, List.set_cons_succ, i64_w, i32_w]
                                                    rfl
                                                  refine pure_ (i := 13) (N := some 32) (v := ?_) (a' := ?_) #[true, true, true, true, true, false, true, true, false, false, true, true, true, true, false, false, false, false] rfl rfl (any_of HT_.out (by kernel_rfl)) (fun _ _ _ h => h) (Or.inl ⟨by rfl, ?_⟩) ?_ ?_
                                                  rotate_left
                                                  · intro w'
                                                    go_simp
                                                    with_reducible rfl
                                                  rotate_left
                                                  · simp only [Act.put, List.setIfInBounds_toArray, List.set_cons_zero, List.set_cons_succ, i64_w, i32_w]
                                                    rfl
                                                  exact norm_ (by first | (simp only [putAll, Act.put, List.setIfInBounds_toArray, List.set_cons_zero, List.set_cons_succ]; done) | (simp only [putAll, Act.put, List.setIfInBounds_toArray, List.set_cons_zero, List.set_cons_succ]; rfl)) (hJ3_10 (.slice (some ado23) y642.length co23, ado23) _ ⟨(by (with_reducible repeat (first | apply Kd.R_alloc | apply Kd.R_drewN | apply Kd.R_drew)); exact HO644.out), (by (with_reducible repeat (first | apply Kd.R_alloc | apply Kd.R_drewN | apply Kd.R_drew)); exact HO_4.out), ⟨_, rfl⟩, (by repeat (first | (with_reducible first | exact HI629.out | apply IsS94.alloc | apply IsS94.drewN | apply IsS94.drew | apply IsS94.set_1) | exact HI629.out)), (by repeat (first | (with_reducible first | exact HB.out | apply below_alloc | apply pw_below_drewN | apply below_drew1 | refine below_set ?_ (IsS94.ge HI629.out)) | exact HB.out))⟩)
                                            · skip
                                              rintro ⟨v643, adz_v643⟩ w22 ⟨h0_, h1_, h2_, h3_, h4_⟩
                                              have n0_ : Aside0 (Kd.R (Kd.int .i64) 3 w22 w.heap.size (fun _ => True) v643 y642) := ⟨h0_⟩
                                              have n1_ : Aside0 (Kd.R k56 56 w22 w.heap.size (fun _ => True) (.slice Ao17 x4_1.length co17) x4_1) := ⟨h1_⟩
                                              have n2_ : Aside0 (∃ c_, (v643 : Value) = .slice (some adz_v643) y642.length c_) := ⟨h2_⟩
                                              have n3_ : Aside0 (IsS94 w w22 g629 t627 x630001_1) := ⟨h3_⟩
                                              have n4_ : Aside0 (Below w.heap.size w w22) := ⟨h4_⟩
                                              clear HO_4
                                              clear HI629
                                              clear HB
                                              clear h0_ h1_ h2_ h3_ h4_
                                              have HO644 := n0_
                                              have HO_4 := n1_
                                              have HA_HO644 := n2_
                                              have HI629 := n3_
                                              have HB := n4_
                                              clear n0_ n1_ n2_ n3_ n4_
                                              have hHeld := trivial
                                              obtain ⟨co23, eo23⟩ := HA_HO644.out
                                              clear HA_HO644
                                              subst eo23
                                              refine norm_ (a' := ?_) ?_ ?_
                                              rotate_left
                                              · simp only [putAll, Act.put, List.setIfInBounds_toArray, List.set_cons_zero, List.set_cons_succ]
                                                rfl
                                              refine two_ (i := 3) (j := 5) (Ni := some 22) (Nj := some 24) #[true, true, true, true, false, false, true, true, false, false, true, true, true, true, true, false, false, false] #[true, true, true, false, false, true, true, true, false, false, true, true, true, true, true, false, false, false] rfl rfl rfl rfl (two_of HT_.out (by kernel_rfl)) (by decide) (by decide) (fun K hK => ?_) (fun K hK => ?_)
                                              · skip
                                                refine goes_ Try.func61 (by kernel_rfl) rfl #[.pointer (some ⟨g629, 0, none⟩), .int .i64 2] (by rfl) rfl rfl (by (try simp only [List.map_toArray, List.map_cons, List.map_nil]); first | done | rfl | (simp only [List.length_drop, List.length_take]; rfl)) ?_
                                                with_reducible refine (spec_l20Rd_pick.calls k1 g629 t627 x630001_1 2 t636 t637 w _ ?side1 ?side2 A10.out).mono ?_
                                                (case side1 => repeat (first | (with_reducible first | exact HI629.out | apply IsS94.alloc | apply IsS94.drewN | apply IsS94.drew | apply IsS94.set_1) | exact HI629.out))
                                                (case side2 => repeat (first | (with_reducible first | exact HB.out | apply below_alloc | apply pw_below_drewN | apply below_drew1 | refine below_set ?_ (IsS94.ge HI629.out)) | exact HB.out))
                                                rintro e w24 ⟨rfl, hi, hb, hk⟩
                                                refine ⟨_, rfl, ?_⟩
                                                have n0_ := Aside0.mk (Kd.R_mono (Kd.R_keep (IsS94.apart (show IsS94 w _ g629 t627 x630001_1 from by repeat (first | (with_reducible first | exact HI629.out | apply IsS94.alloc | apply IsS94.drewN | apply IsS94.drew | apply IsS94.set_1) | exact HI629.out)) (by (with_reducible repeat (first | apply Kd.R_alloc | apply Kd.R_drewN | apply Kd.R_drew)); exact HO_4.out) (by decide)) hk (fun _ h => h.2)) (fun _ h => h.1))
                                                have n1_ := Aside0.mk (Kd.R_mono (Kd.R_keep (IsS94.apart (show IsS94 w _ g629 t627 x630001_1 from by repeat (first | (with_reducible first | exact HI629.out | apply IsS94.alloc | apply IsS94.drewN | apply IsS94.drew | apply IsS94.set_1) | exact HI629.out)) (by (with_reducible repeat (first | apply Kd.R_alloc | apply Kd.R_drewN | apply Kd.R_drew)); exact HO644.out) (by decide)) hk (fun _ h => h.2)) (fun _ h => h.1))
                                                have n2_ := Aside0.mk (hb)
                                                have n3_ := Aside0.mk (hi)
                                                clear HO_4
                                                clear HO644
                                                clear HB
                                                clear HI629
                                                have HO_4 := n0_
                                                have HO644 := n1_
                                                have HB := n2_
                                                have HI629 := n3_
                                                clear n0_ n1_ n2_ n3_
                                                (try clear hb)
                                                (try clear hb2)
                                                (try clear hk)
                                                (try clear hi)
                                                refine hK.out _ _ trivial (fun hHeld => ?_)
                                                clear hK K
                                                refine norm_ (a' := ?_) ?_ ?_
                                                rotate_left
                                                · show Act.put _ (some 22) _ = _
                                                  simp only [Act.put, List.setIfInBounds_toArray, List.set_cons_zero, List.set_cons_succ, i64_w, i32_w]
                                                  rfl
                                                refine pure_ (i := 4) (N := some 23) (v := ?_) (a' := ?_) #[true, true, true, true, true, false, true, true, false, false, true, true, true, true, true, false, false, false] rfl rfl (any_of HT_.out (by kernel_rfl)) (fun _ _ _ h => h) (Or.inl ⟨by rfl, ?_⟩) ?_ ?_
                                                rotate_left
                                                · intro w'
                                                  go_simp
                                                  with_reducible rfl
                                                rotate_left
                                                · simp only [Act.put, List.setIfInBounds_toArray, List.set_cons_zero, List.set_cons_succ, i64_w, i32_w]
                                                  rfl
                                                exact norm_ (by first | (simp only [putAll, Act.put, List.setIfInBounds_toArray, List.set_cons_zero, List.set_cons_succ]; done) | (simp only [putAll, Act.put, List.setIfInBounds_toArray, List.set_cons_zero, List.set_cons_succ]; rfl)) (hJ3_10_14 (.slice (some adz_v643) y642.length co23, adz_v643) _ ⟨(by (with_reducible repeat (first | apply Kd.R_alloc | apply Kd.R_drewN | apply Kd.R_drew)); exact HO644.out), (by (with_reducible repeat (first | apply Kd.R_alloc | apply Kd.R_drewN | apply Kd.R_drew)); exact HO_4.out), ⟨_, rfl⟩, (by repeat (first | (with_reducible first | exact HI629.out | apply IsS94.alloc | apply IsS94.drewN | apply IsS94.drew | apply IsS94.set_1) | exact HI629.out)), (by repeat (first | (with_reducible first | exact HB.out | apply below_alloc | apply pw_below_drewN | apply below_drew1 | refine below_set ?_ (IsS94.ge HI629.out)) | exact HB.out))⟩)
                                              · skip
                                                refine Kd.R_lit_step (Kd.int .i64) _ 3 ?hg (N := 24) ?hd (xs := ([2, 4, 4, 12] : List Int)) (inner := [.int .i64 2, .int .i64 4, .int .i64 4, .int .i64 12]) (ok := fun _ => True) (okp := fun _ => True) ?hr ?hp (fun _ hk => hk) trivial (Below.refl _ _) (Nat.le_refl _) (by simp) ?_; (case hd => rfl); (case hg => rfl); (case hr => first | (go_simp; done) | (go_simp; rfl)); (case hp => exact (Reps.one (show Kd.M (Kd.int .i64) _ _ _ 2 [.int .i64 2] from rfl) (Reps.one (show Kd.M (Kd.int .i64) _ _ _ 4 [.int .i64 4] from rfl) (Reps.one (show Kd.M (Kd.int .i64) _ _ _ 4 [.int .i64 4] from rfl) (Reps.one (show Kd.M (Kd.int .i64) _ _ _ 12 [.int .i64 12] from rfl) (Reps.none _ _))))))
                                                intro v639 w24 ho25 hb hg_ hnew_
                                                clear hg_ hnew_
                                                (first | rw [← Ny638.out] at ho25 | (simp only [Int.reduceToNat] at ho25; rw [← Ny638.out] at ho25))
                                                have n0_ := Aside0.mk (Kd.R_below (by (with_reducible repeat (first | apply Kd.R_alloc | apply Kd.R_drewN | apply Kd.R_drew)); exact HO_4.out) hb)
                                                have n1_ := Aside0.mk (Kd.R_elder' (by (with_reducible repeat (first | apply Kd.R_alloc | apply Kd.R_drewN | apply Kd.R_drew)); exact HO644.out) (Kd.R_base ho25) hb)
                                                have n2_ := Aside0.mk (Kd.R_lower (Kd.R_new' ho25 (Kd.R_lt (by (with_reducible repeat (first | apply Kd.R_alloc | apply Kd.R_drewN | apply Kd.R_drew)); exact HO644.out))) (below_size (by repeat (first | (with_reducible first | exact HB.out | apply below_alloc | apply pw_below_drewN | apply below_drew1 | refine below_set ?_ (IsS94.ge HI629.out)) | exact HB.out))))
                                                have n3_ := Aside0.mk (IsS94.below (by repeat (first | (with_reducible first | exact HI629.out | apply IsS94.alloc | apply IsS94.drewN | apply IsS94.drew | apply IsS94.set_1) | exact HI629.out)) hb)
                                                have n4_ := Aside0.mk (below_step (by repeat (first | (with_reducible first | exact HB.out | apply below_alloc | apply pw_below_drewN | apply below_drew1 | refine below_set ?_ (IsS94.ge HI629.out)) | exact HB.out)) hb)
                                                clear HO_4
                                                clear HO644
                                                clear HI629
                                                clear HB
                                                have HO_4 := n0_
                                                have HO644 := n1_
                                                have HO640 := n2_
                                                have HI629 := n3_
                                                have HB := n4_
                                                clear n0_ n1_ n2_ n3_ n4_
                                                clear hb ho25
                                                obtain ⟨Ao26, co26, eo26⟩ := Kd.R_slice HO640.out
                                                subst eo26
                                                obtain ⟨ado26, fo26, _⟩ := Kd.at_int (Kd.R_reads' HO640.out).2.2 0 (by decide) (by rw [Ny638.out]; simp)
                                                cases fo26
                                                refine hK.out _ _ trivial (fun hHeld => ?_)
                                                clear hK K
                                                refine norm_ (a' := ?_) ?_ ?_
                                                rotate_left
                                                · show Act.put _ (some 24) _ = _
                                                  simp only [Act.put, List.setIfInBounds_toArray, List.set_cons_zero, List.set_cons_succ, i64_w, i32_w]
                                                  rfl
                                                refine pure_ (i := 8) (N := some 27) (v := ?_) (a' := ?_) #[true, true, true, false, false, true, true, true, true, false, true, true, true, true, true, false, false, false] rfl rfl (any_of HT_.out (by kernel_rfl)) (fun _ _ _ h => h) (Or.inl ⟨by rfl, ?_⟩) ?_ ?_
                                                rotate_left
                                                · intro w'
                                                  go_simp
                                                  with_reducible rfl
                                                rotate_left
                                                · simp only [Act.put, List.setIfInBounds_toArray, List.set_cons_zero, List.set_cons_succ, i64_w, i32_w]
                                                  rfl
                                                exact norm_ (by first | (simp only [putAll, Act.put, List.setIfInBounds_toArray, List.set_cons_zero, List.set_cons_succ]; done) | (simp only [putAll, Act.put, List.setIfInBounds_toArray, List.set_cons_zero, List.set_cons_succ]; rfl)) (hJ5_10_14 (.slice (some ado26) y638.length co26, ado26, .slice (some adz_v643) y642.length co23, adz_v643) _ ⟨(by (with_reducible repeat (first | apply Kd.R_alloc | apply Kd.R_drewN | apply Kd.R_drew)); exact Kd.R_mono HO640.out (fun _ hk => hk.2)), (by (with_reducible repeat (first | apply Kd.R_alloc | apply Kd.R_drewN | apply Kd.R_drew)); exact Kd.R_mono HO644.out (fun _ hk => hk.2)), (by (with_reducible repeat (first | apply Kd.R_alloc | apply Kd.R_drewN | apply Kd.R_drew)); exact HO_4.out), ⟨_, rfl⟩, ⟨_, rfl⟩, (by repeat (first | (with_reducible first | exact HI629.out | apply IsS94.alloc | apply IsS94.drewN | apply IsS94.drew | apply IsS94.set_1) | exact HI629.out)), (by repeat (first | (with_reducible first | exact HB.out | apply below_alloc | apply pw_below_drewN | apply below_drew1 | refine below_set ?_ (IsS94.ge HI629.out)) | exact HB.out))⟩)
                                          · skip
                                            rintro ⟨v639, adz_v639, v643, adz_v643⟩ w25 ⟨h0_, h1_, h2_, h3_, h4_, h5_, h6_⟩
                                            have n0_ : Aside0 (Kd.R (Kd.int .i64) 3 w25 w.heap.size (fun k_ => some k_ ≠ (v643 : Value).ownBlock) v639 y638) := ⟨h0_⟩
                                            have n1_ : Aside0 (Kd.R (Kd.int .i64) 3 w25 w.heap.size (fun k_ => some k_ ≠ (v639 : Value).ownBlock) v643 y642) := ⟨h1_⟩
                                            have n2_ : Aside0 (Kd.R k56 56 w25 w.heap.size (fun _ => True) (.slice Ao17 x4_1.length co17) x4_1) := ⟨h2_⟩
                                            have n3_ : Aside0 (∃ c_, (v639 : Value) = .slice (some adz_v639) y638.length c_) := ⟨h3_⟩
                                            have n4_ : Aside0 (∃ c_, (v643 : Value) = .slice (some adz_v643) y642.length c_) := ⟨h4_⟩
                                            have n5_ : Aside0 (IsS94 w w25 g629 t627 x630001_1) := ⟨h5_⟩
                                            have n6_ : Aside0 (Below w.heap.size w w25) := ⟨h6_⟩
                                            clear HO_4
                                            clear HI629
                                            clear HB
                                            clear h0_ h1_ h2_ h3_ h4_ h5_ h6_
                                            have HO640 := n0_
                                            have HO644 := n1_
                                            have HO_4 := n2_
                                            have HA_HO640 := n3_
                                            have HA_HO644 := n4_
                                            have HI629 := n5_
                                            have HB := n6_
                                            clear n0_ n1_ n2_ n3_ n4_ n5_ n6_
                                            have hHeld := trivial
                                            obtain ⟨co26, eo26⟩ := HA_HO640.out
                                            clear HA_HO640
                                            subst eo26
                                            obtain ⟨co27, eo27⟩ := HA_HO644.out
                                            clear HA_HO644
                                            subst eo27
                                            refine norm_ (a' := ?_) ?_ ?_
                                            rotate_left
                                            · simp only [putAll, Act.put, List.setIfInBounds_toArray, List.set_cons_zero, List.set_cons_succ]
                                              rfl
                                            refine three_ (i := 3) (j := 9) (k := 14) (Ni := some 22) (Nj := some 28) (Nk := some 33) #[true, true, true, true, false, true, true, true, true, false, true, true, true, true, false, false, false, false] #[true, true, true, false, false, true, true, true, true, true, true, true, true, true, false, false, false, false] #[true, true, true, false, false, true, true, true, true, false, true, true, true, true, true, false, false, false] rfl rfl rfl rfl rfl rfl (three_of HT_.out (by kernel_rfl)) (by decide) (by decide) (by decide) (fun K hK => ?_) (fun K hK => ?_) (fun K hK => ?_)
                                            · skip
                                              refine goes_ Try.func61 (by kernel_rfl) rfl #[.pointer (some ⟨g629, 0, none⟩), .int .i64 2] (by rfl) rfl rfl (by (try simp only [List.map_toArray, List.map_cons, List.map_nil]); first | done | rfl | (simp only [List.length_drop, List.length_take]; rfl)) ?_
                                              with_reducible refine (spec_l20Rd_pick.calls k1 g629 t627 x630001_1 2 t636 t637 w _ ?side1 ?side2 A10.out).mono ?_
                                              (case side1 => repeat (first | (with_reducible first | exact HI629.out | apply IsS94.alloc | apply IsS94.drewN | apply IsS94.drew | apply IsS94.set_1) | exact HI629.out))
                                              (case side2 => repeat (first | (with_reducible first | exact HB.out | apply below_alloc | apply pw_below_drewN | apply below_drew1 | refine below_set ?_ (IsS94.ge HI629.out)) | exact HB.out))
                                              rintro e w28 ⟨rfl, hi, hb, hk⟩
                                              refine ⟨_, rfl, ?_⟩
                                              have n0_ := Aside0.mk (Kd.R_mono (Kd.R_keep (IsS94.apart (show IsS94 w _ g629 t627 x630001_1 from by repeat (first | (with_reducible first | exact HI629.out | apply IsS94.alloc | apply IsS94.drewN | apply IsS94.drew | apply IsS94.set_1) | exact HI629.out)) (by (with_reducible repeat (first | apply Kd.R_alloc | apply Kd.R_drewN | apply Kd.R_drew)); exact HO_4.out) (by decide)) hk (fun _ h => h.2)) (fun _ h => h.1))
                                              have n1_ := Aside0.mk (Kd.R_mono (Kd.R_keep (IsS94.apart (show IsS94 w _ g629 t627 x630001_1 from by repeat (first | (with_reducible first | exact HI629.out | apply IsS94.alloc | apply IsS94.drewN | apply IsS94.drew | apply IsS94.set_1) | exact HI629.out)) (by (with_reducible repeat (first | apply Kd.R_alloc | apply Kd.R_drewN | apply Kd.R_drew)); exact HO640.out) (by decide)) hk (fun _ h => h.2)) (fun _ h => h.1))
                                              have n2_ := Aside0.mk (Kd.R_mono (Kd.R_keep (IsS94.apart (show IsS94 w _ g629 t627 x630001_1 from by repeat (first | (with_reducible first | exact HI629.out | apply IsS94.alloc | apply IsS94.drewN | apply IsS94.drew | apply IsS94.set_1) | exact HI629.out)) (by (with_reducible repeat (first | apply Kd.R_alloc | apply Kd.R_drewN | apply Kd.R_drew)); exact HO644.out) (by decide)) hk (fun _ h => h.2)) (fun _ h => h.1))
                                              have n3_ := Aside0.mk (hb)
                                              have n4_ := Aside0.mk (hi)
                                              clear HO_4
                                              clear HO640
                                              clear HO644
                                              clear HB
                                              clear HI629
                                              have HO_4 := n0_
                                              have HO640 := n1_
                                              have HO644 := n2_
                                              have HB := n3_
                                              have HI629 := n4_
                                              clear n0_ n1_ n2_ n3_ n4_
                                              (try clear hb)
                                              (try clear hb2)
                                              (try clear hk)
                                              (try clear hi)
                                              refine hK.out _ _ trivial (fun hHeld => ?_)
                                              clear hK K
                                              refine norm_ (a' := ?_) ?_ ?_
                                              rotate_left
                                              · show Act.put _ (some 22) _ = _
                                                simp only [Act.put, List.setIfInBounds_toArray, List.set_cons_zero, List.set_cons_succ, i64_w, i32_w]
                                                rfl
                                              refine pure_ (i := 4) (N := some 23) (v := ?_) (a' := ?_) #[true, true, true, true, true, true, true, true, true, false, true, true, true, true, false, false, false, false] rfl rfl (any_of HT_.out (by kernel_rfl)) (fun _ _ _ h => h) (Or.inl ⟨by rfl, ?_⟩) ?_ ?_
                                              rotate_left
                                              · intro w'
                                                go_simp
                                                with_reducible rfl
                                              rotate_left
                                              · simp only [Act.put, List.setIfInBounds_toArray, List.set_cons_zero, List.set_cons_succ, i64_w, i32_w]
                                                rfl
                                              exact norm_ (by first | (simp only [putAll, Act.put, List.setIfInBounds_toArray, List.set_cons_zero, List.set_cons_succ]; done) | (simp only [putAll, Act.put, List.setIfInBounds_toArray, List.set_cons_zero, List.set_cons_succ]; rfl)) (hJ3_5_10 (.slice (some adz_v639) y638.length co26, adz_v639, .slice (some adz_v643) y642.length co27, adz_v643) _ ⟨(by (with_reducible repeat (first | apply Kd.R_alloc | apply Kd.R_drewN | apply Kd.R_drew)); exact HO640.out), (by (with_reducible repeat (first | apply Kd.R_alloc | apply Kd.R_drewN | apply Kd.R_drew)); exact HO644.out), (by (with_reducible repeat (first | apply Kd.R_alloc | apply Kd.R_drewN | apply Kd.R_drew)); exact HO_4.out), ⟨_, rfl⟩, ⟨_, rfl⟩, (by repeat (first | (with_reducible first | exact HI629.out | apply IsS94.alloc | apply IsS94.drewN | apply IsS94.drew | apply IsS94.set_1) | exact HI629.out)), (by repeat (first | (with_reducible first | exact HB.out | apply below_alloc | apply pw_below_drewN | apply below_drew1 | refine below_set ?_ (IsS94.ge HI629.out)) | exact HB.out))⟩)
                                            · skip
                                              (have p641 : 0 ≤ ((ji11) : Int) := of_decide_eq_true (by first | (with_reducible assumption) | assumption); have q641 : (ji11) < (y638.length : Int) := of_decide_eq_true (by first | (with_reducible assumption) | assumption); obtain ⟨ad641, e641, hx641_0⟩ := Kd.at_int (Kd.R_reads' HO640.out).2.2 (ji11) p641 q641; obtain rfl : adz_v639 = ad641 := (by injection e641))
                                              refine value_ (w1 := ?_) (v := ?_) (by rfl) rfl ?_ ?_
                                              rotate_left 2
                                              · go_simp
                                                constructor
                                                · rfl
                                                · rfl
                                              clear hx641_0
                                              refine hK.out _ _ trivial (fun hHeld => ?_)
                                              clear hK K
                                              refine norm_ (a' := ?_) ?_ ?_
                                              rotate_left
                                              · show Act.put _ (some 28) _ = _
                                                simp only [Act.put, List.setIfInBounds_toArray, List.set_cons_zero, List.set_cons_succ, i64_w, i32_w]
                                                rfl
                                              exact norm_ (by first | (simp only [putAll, Act.put, List.setIfInBounds_toArray, List.set_cons_zero, List.set_cons_succ]; done) | (simp only [putAll, Act.put, List.setIfInBounds_toArray, List.set_cons_zero, List.set_cons_succ]; rfl)) (hJ5_9_10 (.slice (some adz_v639) y638.length co26, adz_v639, .slice (some adz_v643) y642.length co27, adz_v643) _ ⟨(by (with_reducible repeat (first | apply Kd.R_alloc | apply Kd.R_drewN | apply Kd.R_drew)); exact HO640.out), (by (with_reducible repeat (first | apply Kd.R_alloc | apply Kd.R_drewN | apply Kd.R_drew)); exact HO644.out), (by (with_reducible repeat (first | apply Kd.R_alloc | apply Kd.R_drewN | apply Kd.R_drew)); exact HO_4.out), ⟨_, rfl⟩, ⟨_, rfl⟩, (by repeat (first | (with_reducible first | exact HI629.out | apply IsS94.alloc | apply IsS94.drewN | apply IsS94.drew | apply IsS94.set_1) | exact HI629.out)), (by repeat (first | (with_reducible first | exact HB.out | apply below_alloc | apply pw_below_drewN | apply below_drew1 | refine below_set ?_ (IsS94.ge HI629.out)) | exact HB.out))⟩)
                                            · skip
                                              (have p645 : 0 ≤ ((ji11) : Int) := of_decide_eq_true (by first | (with_reducible assumption) | assumption); have q645 : (ji11) < (y642.length : Int) := of_decide_eq_true (by first | (with_reducible assumption) | assumption); obtain ⟨ad645, e645, hx645_0⟩ := Kd.at_int (Kd.R_reads' HO644.out).2.2 (ji11) p645 q645; obtain rfl : adz_v643 = ad645 := (by injection e645))
                                              refine value_ (w1 := ?_) (v := ?_) (by rfl) rfl ?_ ?_
                                              rotate_left 2
                                              · go_simp
                                                constructor
                                                · rfl
                                                · rfl
                                              clear hx645_0
                                              refine hK.out _ _ trivial (fun hHeld => ?_)
                                              clear hK K
                                              refine norm_ (a' := ?_) ?_ ?_
                                              rotate_left
                                              · show Act.put _ (some 33) _ = _
                                                simp only [Act.put, List.setIfInBounds_toArray, List.set_cons_zero, List.set_cons_succ, i64_w, i32_w]
                                                rfl
                                              exact norm_ (by first | (simp only [putAll, Act.put, List.setIfInBounds_toArray, List.set_cons_zero, List.set_cons_succ]; done) | (simp only [putAll, Act.put, List.setIfInBounds_toArray, List.set_cons_zero, List.set_cons_succ]; rfl)) (hJ5_10_14 (.slice (some adz_v639) y638.length co26, adz_v639, .slice (some adz_v643) y642.length co27, adz_v643) _ ⟨(by (with_reducible repeat (first | apply Kd.R_alloc | apply Kd.R_drewN | apply Kd.R_drew)); exact HO640.out), (by (with_reducible repeat (first | apply Kd.R_alloc | apply Kd.R_drewN | apply Kd.R_drew)); exact HO644.out), (by (with_reducible repeat (first | apply Kd.R_alloc | apply Kd.R_drewN | apply Kd.R_drew)); exact HO_4.out), ⟨_, rfl⟩, ⟨_, rfl⟩, (by repeat (first | (with_reducible first | exact HI629.out | apply IsS94.alloc | apply IsS94.drewN | apply IsS94.drew | apply IsS94.set_1) | exact HI629.out)), (by repeat (first | (with_reducible first | exact HB.out | apply below_alloc | apply pw_below_drewN | apply below_drew1 | refine below_set ?_ (IsS94.ge HI629.out)) | exact HB.out))⟩)
                                        · skip
                                          rintro ⟨v639, adz_v639⟩ w22 ⟨h0_, h1_, h2_, h3_, h4_⟩
                                          have n0_ : Aside0 (Kd.R (Kd.int .i64) 3 w22 w.heap.size (fun _ => True) v639 y638) := ⟨h0_⟩
                                          have n1_ : Aside0 (Kd.R k56 56 w22 w.heap.size (fun _ => True) (.slice Ao17 x4_1.length co17) x4_1) := ⟨h1_⟩
                                          have n2_ : Aside0 (∃ c_, (v639 : Value) = .slice (some adz_v639) y638.length c_) := ⟨h2_⟩
                                          have n3_ : Aside0 (IsS94 w w22 g629 t627 x630001_1) := ⟨h3_⟩
                                          have n4_ : Aside0 (Below w.heap.size w w22) := ⟨h4_⟩
                                          clear HO_4
                                          clear HI629
                                          clear HB
                                          clear h0_ h1_ h2_ h3_ h4_
                                          have HO640 := n0_
                                          have HO_4 := n1_
                                          have HA_HO640 := n2_
                                          have HI629 := n3_
                                          have HB := n4_
                                          clear n0_ n1_ n2_ n3_ n4_
                                          have hHeld := trivial
                                          obtain ⟨co23, eo23⟩ := HA_HO640.out
                                          clear HA_HO640
                                          subst eo23
                                          refine norm_ (a' := ?_) ?_ ?_
                                          rotate_left
                                          · simp only [putAll, Act.put, List.setIfInBounds_toArray, List.set_cons_zero, List.set_cons_succ]
                                            rfl
                                          refine two_ (i := 3) (j := 10) (Ni := some 22) (Nj := some 29) #[true, true, true, true, false, true, true, true, true, true, false, true, true, false, false, false, false, false] #[true, true, true, false, false, true, true, true, true, true, true, true, true, false, false, false, false, false] rfl rfl rfl rfl (two_of HT_.out (by kernel_rfl)) (by decide) (by decide) (fun K hK => ?_) (fun K hK => ?_)
                                          · skip
                                            refine goes_ Try.func61 (by kernel_rfl) rfl #[.pointer (some ⟨g629, 0, none⟩), .int .i64 2] (by rfl) rfl rfl (by (try simp only [List.map_toArray, List.map_cons, List.map_nil]); first | done | rfl | (simp only [List.length_drop, List.length_take]; rfl)) ?_
                                            with_reducible refine (spec_l20Rd_pick.calls k1 g629 t627 x630001_1 2 t636 t637 w _ ?side1 ?side2 A10.out).mono ?_
                                            (case side1 => repeat (first | (with_reducible first | exact HI629.out | apply IsS94.alloc | apply IsS94.drewN | apply IsS94.drew | apply IsS94.set_1) | exact HI629.out))
                                            (case side2 => repeat (first | (with_reducible first | exact HB.out | apply below_alloc | apply pw_below_drewN | apply below_drew1 | refine below_set ?_ (IsS94.ge HI629.out)) | exact HB.out))
                                            rintro e w24 ⟨rfl, hi, hb, hk⟩
                                            refine ⟨_, rfl, ?_⟩
                                            have n0_ := Aside0.mk (Kd.R_mono (Kd.R_keep (IsS94.apart (show IsS94 w _ g629 t627 x630001_1 from by repeat (first | (with_reducible first | exact HI629.out | apply IsS94.alloc | apply IsS94.drewN | apply IsS94.drew | apply IsS94.set_1) | exact HI629.out)) (by (with_reducible repeat (first | apply Kd.R_alloc | apply Kd.R_drewN | apply Kd.R_drew)); exact HO_4.out) (by decide)) hk (fun _ h => h.2)) (fun _ h => h.1))
                                            have n1_ := Aside0.mk (Kd.R_mono (Kd.R_keep (IsS94.apart (show IsS94 w _ g629 t627 x630001_1 from by repeat (first | (with_reducible first | exact HI629.out | apply IsS94.alloc | apply IsS94.drewN | apply IsS94.drew | apply IsS94.set_1) | exact HI629.out)) (by (with_reducible repeat (first | apply Kd.R_alloc | apply Kd.R_drewN | apply Kd.R_drew)); exact HO640.out) (by decide)) hk (fun _ h => h.2)) (fun _ h => h.1))
                                            have n2_ := Aside0.mk (hb)
                                            have n3_ := Aside0.mk (hi)
                                            clear HO_4
                                            clear HO640
                                            clear HB
                                            clear HI629
                                            have HO_4 := n0_
                                            have HO640 := n1_
                                            have HB := n2_
                                            have HI629 := n3_
                                            clear n0_ n1_ n2_ n3_
                                            (try clear hb)
                                            (try clear hb2)
                                            (try clear hk)
                                            (try clear hi)
                                            refine hK.out _ _ trivial (fun hHeld => ?_)
                                            clear hK K
                                            refine norm_ (a' := ?_) ?_ ?_
                                            rotate_left
                                            · show Act.put _ (some 22) _ = _
                                              simp only [Act.put, List.setIfInBounds_toArray, List.set_cons_zero, List.set_cons_succ, i64_w, i32_w]
                                              rfl
                                            refine pure_ (i := 4) (N := some 23) (v := ?_) (a' := ?_) #[true, true, true, true, true, true, true, true, true, true, false, true, true, false, false, false, false, false] rfl rfl (any_of HT_.out (by kernel_rfl)) (fun _ _ _ h => h) (Or.inl ⟨by rfl, ?_⟩) ?_ ?_
                                            rotate_left
                                            · intro w'
                                              go_simp
                                              with_reducible rfl
                                            rotate_left
                                            · simp only [Act.put, List.setIfInBounds_toArray, List.set_cons_zero, List.set_cons_succ, i64_w, i32_w]
                                              rfl
                                            exact norm_ (by first | (simp only [putAll, Act.put, List.setIfInBounds_toArray, List.set_cons_zero, List.set_cons_succ]; done) | (simp only [putAll, Act.put, List.setIfInBounds_toArray, List.set_cons_zero, List.set_cons_succ]; rfl)) (hJ3_5_9 (.slice (some adz_v639) y638.length co23, adz_v639) _ ⟨(by (with_reducible repeat (first | apply Kd.R_alloc | apply Kd.R_drewN | apply Kd.R_drew)); exact HO640.out), (by (with_reducible repeat (first | apply Kd.R_alloc | apply Kd.R_drewN | apply Kd.R_drew)); exact HO_4.out), ⟨_, rfl⟩, (by repeat (first | (with_reducible first | exact HI629.out | apply IsS94.alloc | apply IsS94.drewN | apply IsS94.drew | apply IsS94.set_1) | exact HI629.out)), (by repeat (first | (with_reducible first | exact HB.out | apply below_alloc | apply pw_below_drewN | apply below_drew1 | refine below_set ?_ (IsS94.ge HI629.out)) | exact HB.out))⟩)
                                          · skip
                                            refine Kd.R_lit_step (Kd.int .i64) _ 3 ?hg (N := 29) ?hd (xs := ([2, 4, 12, 12] : List Int)) (inner := [.int .i64 2, .int .i64 4, .int .i64 12, .int .i64 12]) (ok := fun _ => True) (okp := fun _ => True) ?hr ?hp (fun _ hk => hk) trivial (Below.refl _ _) (Nat.le_refl _) (by simp) ?_; (case hd => rfl); (case hg => rfl); (case hr => first | (go_simp; done) | (go_simp; rfl)); (case hp => exact (Reps.one (show Kd.M (Kd.int .i64) _ _ _ 2 [.int .i64 2] from rfl) (Reps.one (show Kd.M (Kd.int .i64) _ _ _ 4 [.int .i64 4] from rfl) (Reps.one (show Kd.M (Kd.int .i64) _ _ _ 12 [.int .i64 12] from rfl) (Reps.one (show Kd.M (Kd.int .i64) _ _ _ 12 [.int .i64 12] from rfl) (Reps.none _ _))))))
                                            intro v643 w24 ho25 hb hg_ hnew_
                                            clear hg_ hnew_
                                            (first | rw [← Ny642.out] at ho25 | (simp only [Int.reduceToNat] at ho25; rw [← Ny642.out] at ho25))
                                            have n0_ := Aside0.mk (Kd.R_below (by (with_reducible repeat (first | apply Kd.R_alloc | apply Kd.R_drewN | apply Kd.R_drew)); exact HO_4.out) hb)
                                            have n1_ := Aside0.mk (Kd.R_elder' (by (with_reducible repeat (first | apply Kd.R_alloc | apply Kd.R_drewN | apply Kd.R_drew)); exact HO640.out) (Kd.R_base ho25) hb)
                                            have n2_ := Aside0.mk (Kd.R_lower (Kd.R_new' ho25 (Kd.R_lt (by (with_reducible repeat (first | apply Kd.R_alloc | apply Kd.R_drewN | apply Kd.R_drew)); exact HO640.out))) (below_size (by repeat (first | (with_reducible first | exact HB.out | apply below_alloc | apply pw_below_drewN | apply below_drew1 | refine below_set ?_ (IsS94.ge HI629.out)) | exact HB.out))))
                                            have n3_ := Aside0.mk (IsS94.below (by repeat (first | (with_reducible first | exact HI629.out | apply IsS94.alloc | apply IsS94.drewN | apply IsS94.drew | apply IsS94.set_1) | exact HI629.out)) hb)
                                            have n4_ := Aside0.mk (below_step (by repeat (first | (with_reducible first | exact HB.out | apply below_alloc | apply pw_below_drewN | apply below_drew1 | refine below_set ?_ (IsS94.ge HI629.out)) | exact HB.out)) hb)
                                            clear HO_4
                                            clear HO640
                                            clear HI629
                                            clear HB
                                            have HO_4 := n0_
                                            have HO640 := n1_
                                            have HO644 := n2_
                                            have HI629 := n3_
                                            have HB := n4_
                                            clear n0_ n1_ n2_ n3_ n4_
                                            clear hb ho25
                                            obtain ⟨Ao26, co26, eo26⟩ := Kd.R_slice HO644.out
                                            subst eo26
                                            obtain ⟨ado26, fo26, _⟩ := Kd.at_int (Kd.R_reads' HO644.out).2.2 0 (by decide) (by rw [Ny642.out]; simp)
                                            cases fo26
                                            refine hK.out _ _ trivial (fun hHeld => ?_)
                                            clear hK K
                                            refine norm_ (a' := ?_) ?_ ?_
                                            rotate_left
                                            · show Act.put _ (some 29) _ = _
                                              simp only [Act.put, List.setIfInBounds_toArray, List.set_cons_zero, List.set_cons_succ, i64_w, i32_w]
                                              rfl
                                            refine pure_ (i := 13) (N := some 32) (v := ?_) (a' := ?_) #[true, true, true, false, false, true, true, true, true, true, true, true, true, true, false, false, false, false] rfl rfl (any_of HT_.out (by kernel_rfl)) (fun _ _ _ h => h) (Or.inl ⟨by rfl, ?_⟩) ?_ ?_
                                            rotate_left
                                            · intro w'
                                              go_simp
                                              with_reducible rfl
                                            rotate_left
                                            · simp only [Act.put, List.setIfInBounds_toArray, List.set_cons_zero, List.set_cons_succ, i64_w, i32_w]
                                              rfl
                                            exact norm_ (by first | (simp only [putAll, Act.put, List.setIfInBounds_toArray, List.set_cons_zero, List.set_cons_succ]; done) | (simp only [putAll, Act.put, List.setIfInBounds_toArray, List.set_cons_zero, List.set_cons_succ]; rfl)) (hJ5_9_10 (.slice (some adz_v639) y638.length co23, adz_v639, .slice (some ado26) y642.length co26, ado26) _ ⟨(by (with_reducible repeat (first | apply Kd.R_alloc | apply Kd.R_drewN | apply Kd.R_drew)); exact Kd.R_mono HO640.out (fun _ hk => hk.2)), (by (with_reducible repeat (first | apply Kd.R_alloc | apply Kd.R_drewN | apply Kd.R_drew)); exact Kd.R_mono HO644.out (fun _ hk => hk.2)), (by (with_reducible repeat (first | apply Kd.R_alloc | apply Kd.R_drewN | apply Kd.R_drew)); exact HO_4.out), ⟨_, rfl⟩, ⟨_, rfl⟩, (by repeat (first | (with_reducible first | exact HI629.out | apply IsS94.alloc | apply IsS94.drewN | apply IsS94.drew | apply IsS94.set_1) | exact HI629.out)), (by repeat (first | (with_reducible first | exact HB.out | apply below_alloc | apply pw_below_drewN | apply below_drew1 | refine below_set ?_ (IsS94.ge HI629.out)) | exact HB.out))⟩)
                                      · skip
                                        rintro ⟨v643, adz_v643⟩ w23 ⟨h0_, h1_, h2_, h3_, h4_⟩
                                        have n0_ : Aside0 (Kd.R (Kd.int .i64) 3 w23 w.heap.size (fun _ => True) v643 y642) := ⟨h0_⟩
                                        have n1_ : Aside0 (Kd.R k56 56 w23 w.heap.size (fun _ => True) (.slice Ao17 x4_1.length co17) x4_1) := ⟨h1_⟩
                                        have n2_ : Aside0 (∃ c_, (v643 : Value) = .slice (some adz_v643) y642.length c_) := ⟨h2_⟩
                                        have n3_ : Aside0 (IsS94 w w23 g629 t627 t637) := ⟨h3_⟩
                                        have n4_ : Aside0 (Below w.heap.size w w23) := ⟨h4_⟩
                                        clear HO_4
                                        clear HI629
                                        clear HB
                                        clear h0_ h1_ h2_ h3_ h4_
                                        have HO644 := n0_
                                        have HO_4 := n1_
                                        have HA_HO644 := n2_
                                        have HI629 := n3_
                                        have HB := n4_
                                        clear n0_ n1_ n2_ n3_ n4_
                                        have hHeld := trivial
                                        obtain ⟨co24, eo24⟩ := HA_HO644.out
                                        clear HA_HO644
                                        subst eo24
                                        refine norm_ (a' := ?_) ?_ ?_
                                        rotate_left
                                        · simp only [putAll, Act.put, List.setIfInBounds_toArray, List.set_cons_zero, List.set_cons_succ]
                                          rfl
                                        refine two_ (i := 5) (j := 14) (Ni := some 24) (Nj := some 33) #[true, true, true, true, true, true, true, true, false, false, true, true, true, true, false, false, false, false] #[true, true, true, true, true, false, true, true, false, false, true, true, true, true, true, false, false, false] rfl rfl rfl rfl (two_of HT_.out (by kernel_rfl)) (by decide) (by decide) (fun K hK => ?_) (fun K hK => ?_)
                                        · skip
                                          refine Kd.R_lit_step (Kd.int .i64) _ 3 ?hg (N := 24) ?hd (xs := ([2, 4, 4, 12] : List Int)) (inner := [.int .i64 2, .int .i64 4, .int .i64 4, .int .i64 12]) (ok := fun _ => True) (okp := fun _ => True) ?hr ?hp (fun _ hk => hk) trivial (Below.refl _ _) (Nat.le_refl _) (by simp) ?_; (case hd => rfl); (case hg => rfl); (case hr => first | (go_simp; done) | (go_simp; rfl)); (case hp => exact (Reps.one (show Kd.M (Kd.int .i64) _ _ _ 2 [.int .i64 2] from rfl) (Reps.one (show Kd.M (Kd.int .i64) _ _ _ 4 [.int .i64 4] from rfl) (Reps.one (show Kd.M (Kd.int .i64) _ _ _ 4 [.int .i64 4] from rfl) (Reps.one (show Kd.M (Kd.int .i64) _ _ _ 12 [.int .i64 12] from rfl) (Reps.none _ _))))))
                                          intro v639 w25 ho26 hb hg_ hnew_
                                          clear hg_ hnew_
                                          (first | rw [← Ny638.out] at ho26 | (simp only [Int.reduceToNat] at ho26; rw [← Ny638.out] at ho26))
                                          have n0_ := Aside0.mk (Kd.R_below (by (with_reducible repeat (first | apply Kd.R_alloc | apply Kd.R_drewN | apply Kd.R_drew)); exact HO_4.out) hb)
                                          have n1_ := Aside0.mk (Kd.R_elder' (by (with_reducible repeat (first | apply Kd.R_alloc | apply Kd.R_drewN | apply Kd.R_drew)); exact HO644.out) (Kd.R_base ho26) hb)
                                          have n2_ := Aside0.mk (Kd.R_lower (Kd.R_new' ho26 (Kd.R_lt (by (with_reducible repeat (first | apply Kd.R_alloc | apply Kd.R_drewN | apply Kd.R_drew)); exact HO644.out))) (below_size (by repeat (first | (with_reducible first | exact HB.out | apply below_alloc | apply pw_below_drewN | apply below_drew1 | refine below_set ?_ (IsS94.ge HI629.out)) | exact HB.out))))
                                          have n3_ := Aside0.mk (IsS94.below (by repeat (first | (with_reducible first | exact HI629.out | apply IsS94.alloc | apply IsS94.drewN | apply IsS94.drew | apply IsS94.set_1) | exact HI629.out)) hb)
                                          have n4_ := Aside0.mk (below_step (by repeat (first | (with_reducible first | exact HB.out | apply below_alloc | apply pw_below_drewN | apply below_drew1 | refine below_set ?_ (IsS94.ge HI629.out)) | exact HB.out)) hb)
                                          clear HO_4
                                          clear HO644
                                          clear HI629
                                          clear HB
                                          have HO_4 := n0_
                                          have HO644 := n1_
                                          have HO640 := n2_
                                          have HI629 := n3_
                                          have HB := n4_
                                          clear n0_ n1_ n2_ n3_ n4_
                                          clear hb ho26
                                          obtain ⟨Ao27, co27, eo27⟩ := Kd.R_slice HO640.out
                                          subst eo27
                                          obtain ⟨ado27, fo27, _⟩ := Kd.at_int (Kd.R_reads' HO640.out).2.2 0 (by decide) (by rw [Ny638.out]; simp)
                                          cases fo27
                                          refine hK.out _ _ trivial (fun hHeld => ?_)
                                          clear hK K
                                          refine norm_ (a' := ?_) ?_ ?_
                                          rotate_left
                                          · show Act.put _ (some 24) _ = _
                                            simp only [Act.put, List.setIfInBounds_toArray, List.set_cons_zero, List.set_cons_succ, i64_w, i32_w]
                                            rfl
                                          refine pure_ (i := 8) (N := some 27) (v := ?_) (a' := ?_) #[true, true, true, true, true, true, true, true, true, false, true, true, true, true, false, false, false, false] rfl rfl (any_of HT_.out (by kernel_rfl)) (fun _ _ _ h => h) (Or.inl ⟨by rfl, ?_⟩) ?_ ?_
                                          rotate_left
                                          · intro w'
                                            go_simp
                                            with_reducible rfl
                                          rotate_left
                                          · simp only [Act.put, List.setIfInBounds_toArray, List.set_cons_zero, List.set_cons_succ, i64_w, i32_w]
                                            rfl
                                          exact norm_ (by first | (simp only [putAll, Act.put, List.setIfInBounds_toArray, List.set_cons_zero, List.set_cons_succ]; done) | (simp only [putAll, Act.put, List.setIfInBounds_toArray, List.set_cons_zero, List.set_cons_succ]; rfl)) (hJ3_5_10 (.slice (some ado27) y638.length co27, ado27, .slice (some adz_v643) y642.length co24, adz_v643) _ ⟨(by (with_reducible repeat (first | apply Kd.R_alloc | apply Kd.R_drewN | apply Kd.R_drew)); exact Kd.R_mono HO640.out (fun _ hk => hk.2)), (by (with_reducible repeat (first | apply Kd.R_alloc | apply Kd.R_drewN | apply Kd.R_drew)); exact Kd.R_mono HO644.out (fun _ hk => hk.2)), (by (with_reducible repeat (first | apply Kd.R_alloc | apply Kd.R_drewN | apply Kd.R_drew)); exact HO_4.out), ⟨_, rfl⟩, ⟨_, rfl⟩, (by repeat (first | (with_reducible first | exact HI629.out | apply IsS94.alloc | apply IsS94.drewN | apply IsS94.drew | apply IsS94.set_1) | exact HI629.out)), (by repeat (first | (with_reducible first | exact HB.out | apply below_alloc | apply pw_below_drewN | apply below_drew1 | refine below_set ?_ (IsS94.ge HI629.out)) | exact HB.out))⟩)
                                        · skip
                                          (have p645 : 0 ≤ ((ji11) : Int) := of_decide_eq_true (by first | (with_reducible assumption) | assumption); have q645 : (ji11) < (y642.length : Int) := of_decide_eq_true (by first | (with_reducible assumption) | assumption); obtain ⟨ad645, e645, hx645_0⟩ := Kd.at_int (Kd.R_reads' HO644.out).2.2 (ji11) p645 q645; obtain rfl : adz_v643 = ad645 := (by injection e645))
                                          refine value_ (w1 := ?_) (v := ?_) (by rfl) rfl ?_ ?_
                                          rotate_left 2
                                          · go_simp
                                            constructor
                                            · rfl
                                            · rfl
                                          clear hx645_0
                                          refine hK.out _ _ trivial (fun hHeld => ?_)
                                          clear hK K
                                          refine norm_ (a' := ?_) ?_ ?_
                                          rotate_left
                                          · show Act.put _ (some 33) _ = _
                                            simp only [Act.put, List.setIfInBounds_toArray, List.set_cons_zero, List.set_cons_succ, i64_w, i32_w]
                                            rfl
                                          exact norm_ (by first | (simp only [putAll, Act.put, List.setIfInBounds_toArray, List.set_cons_zero, List.set_cons_succ]; done) | (simp only [putAll, Act.put, List.setIfInBounds_toArray, List.set_cons_zero, List.set_cons_succ]; rfl)) (hJ3_10_14 (.slice (some adz_v643) y642.length co24, adz_v643) _ ⟨(by (with_reducible repeat (first | apply Kd.R_alloc | apply Kd.R_drewN | apply Kd.R_drew)); exact HO644.out), (by (with_reducible repeat (first | apply Kd.R_alloc | apply Kd.R_drewN | apply Kd.R_drew)); exact HO_4.out), ⟨_, rfl⟩, (by repeat (first | (with_reducible first | exact HI629.out | apply IsS94.alloc | apply IsS94.drewN | apply IsS94.drew | apply IsS94.set_1) | exact HI629.out)), (by repeat (first | (with_reducible first | exact HB.out | apply below_alloc | apply pw_below_drewN | apply below_drew1 | refine below_set ?_ (IsS94.ge HI629.out)) | exact HB.out))⟩)
                                    · skip
                                      rintro ⟨v639, adz_v639⟩ w23 ⟨h0_, h1_, h2_, h3_, h4_⟩
                                      have n0_ : Aside0 (Kd.R (Kd.int .i64) 3 w23 w.heap.size (fun _ => True) v639 y638) := ⟨h0_⟩
                                      have n1_ : Aside0 (Kd.R k56 56 w23 w.heap.size (fun _ => True) (.slice Ao17 x4_1.length co17) x4_1) := ⟨h1_⟩
                                      have n2_ : Aside0 (∃ c_, (v639 : Value) = .slice (some adz_v639) y638.length c_) := ⟨h2_⟩
                                      have n3_ : Aside0 (IsS94 w w23 g629 t627 t637) := ⟨h3_⟩
                                      have n4_ : Aside0 (Below w.heap.size w w23) := ⟨h4_⟩
                                      clear HO_4
                                      clear HI629
                                      clear HB
                                      clear h0_ h1_ h2_ h3_ h4_
                                      have HO640 := n0_
                                      have HO_4 := n1_
                                      have HA_HO640 := n2_
                                      have HI629 := n3_
                                      have HB := n4_
                                      clear n0_ n1_ n2_ n3_ n4_
                                      have hHeld := trivial
                                      obtain ⟨co24, eo24⟩ := HA_HO640.out
                                      clear HA_HO640
                                      subst eo24
                                      refine norm_ (a' := ?_) ?_ ?_
                                      rotate_left
                                      · simp only [putAll, Act.put, List.setIfInBounds_toArray, List.set_cons_zero, List.set_cons_succ]
                                        rfl
                                      refine two_ (i := 9) (j := 10) (Ni := some 28) (Nj := some 29) #[true, true, true, true, true, true, true, true, true, true, false, true, true, false, false, false, false, false] #[true, true, true, true, true, true, true, true, true, false, true, true, true, false, false, false, false, false] rfl rfl rfl rfl (two_of HT_.out (by kernel_rfl)) (by decide) (by decide) (fun K hK => ?_) (fun K hK => ?_)
                                      · skip
                                        (have p641 : 0 ≤ ((ji11) : Int) := of_decide_eq_true (by first | (with_reducible assumption) | assumption); have q641 : (ji11) < (y638.length : Int) := of_decide_eq_true (by first | (with_reducible assumption) | assumption); obtain ⟨ad641, e641, hx641_0⟩ := Kd.at_int (Kd.R_reads' HO640.out).2.2 (ji11) p641 q641; obtain rfl : adz_v639 = ad641 := (by injection e641))
                                        refine value_ (w1 := ?_) (v := ?_) (by rfl) rfl ?_ ?_
                                        rotate_left 2
                                        · go_simp
                                          constructor
                                          · rfl
                                          · rfl
                                        clear hx641_0
                                        refine hK.out _ _ trivial (fun hHeld => ?_)
                                        clear hK K
                                        refine norm_ (a' := ?_) ?_ ?_
                                        rotate_left
                                        · show Act.put _ (some 28) _ = _
                                          simp only [Act.put, List.setIfInBounds_toArray, List.set_cons_zero, List.set_cons_succ, i64_w, i32_w]
                                          rfl
                                        exact norm_ (by first | (simp only [putAll, Act.put, List.setIfInBounds_toArray, List.set_cons_zero, List.set_cons_succ]; done) | (simp only [putAll, Act.put, List.setIfInBounds_toArray, List.set_cons_zero, List.set_cons_succ]; rfl)) (hJ3_5_9 (.slice (some adz_v639) y638.length co24, adz_v639) _ ⟨(by (with_reducible repeat (first | apply Kd.R_alloc | apply Kd.R_drewN | apply Kd.R_drew)); exact HO640.out), (by (with_reducible repeat (first | apply Kd.R_alloc | apply Kd.R_drewN | apply Kd.R_drew)); exact HO_4.out), ⟨_, rfl⟩, (by repeat (first | (with_reducible first | exact HI629.out | apply IsS94.alloc | apply IsS94.drewN | apply IsS94.drew | apply IsS94.set_1) | exact HI629.out)), (by repeat (first | (with_reducible first | exact HB.out | apply below_alloc | apply pw_below_drewN | apply below_drew1 | refine below_set ?_ (IsS94.ge HI629.out)) | exact HB.out))⟩)
                                      · skip
                                        refine Kd.R_lit_step (Kd.int .i64) _ 3 ?hg (N := 29) ?hd (xs := ([2, 4, 12, 12] : List Int)) (inner := [.int .i64 2, .int .i64 4, .int .i64 12, .int .i64 12]) (ok := fun _ => True) (okp := fun _ => True) ?hr ?hp (fun _ hk => hk) trivial (Below.refl _ _) (Nat.le_refl _) (by simp) ?_; (case hd => rfl); (case hg => rfl); (case hr => first | (go_simp; done) | (go_simp; rfl)); (case hp => exact (Reps.one (show Kd.M (Kd.int .i64) _ _ _ 2 [.int .i64 2] from rfl) (Reps.one (show Kd.M (Kd.int .i64) _ _ _ 4 [.int .i64 4] from rfl) (Reps.one (show Kd.M (Kd.int .i64) _ _ _ 12 [.int .i64 12] from rfl) (Reps.one (show Kd.M (Kd.int .i64) _ _ _ 12 [.int .i64 12] from rfl) (Reps.none _ _))))))
                                        intro v643 w25 ho26 hb hg_ hnew_
                                        clear hg_ hnew_
                                        (first | rw [← Ny642.out] at ho26 | (simp only [Int.reduceToNat] at ho26; rw [← Ny642.out] at ho26))
                                        have n0_ := Aside0.mk (Kd.R_below (by (with_reducible repeat (first | apply Kd.R_alloc | apply Kd.R_drewN | apply Kd.R_drew)); exact HO_4.out) hb)
                                        have n1_ := Aside0.mk (Kd.R_elder' (by (with_reducible repeat (first | apply Kd.R_alloc | apply Kd.R_drewN | apply Kd.R_drew)); exact HO640.out) (Kd.R_base ho26) hb)
                                        have n2_ := Aside0.mk (Kd.R_lower (Kd.R_new' ho26 (Kd.R_lt (by (with_reducible repeat (first | apply Kd.R_alloc | apply Kd.R_drewN | apply Kd.R_drew)); exact HO640.out))) (below_size (by repeat (first | (with_reducible first | exact HB.out | apply below_alloc | apply pw_below_drewN | apply below_drew1 | refine below_set ?_ (IsS94.ge HI629.out)) | exact HB.out))))
                                        have n3_ := Aside0.mk (IsS94.below (by repeat (first | (with_reducible first | exact HI629.out | apply IsS94.alloc | apply IsS94.drewN | apply IsS94.drew | apply IsS94.set_1) | exact HI629.out)) hb)
                                        have n4_ := Aside0.mk (below_step (by repeat (first | (with_reducible first | exact HB.out | apply below_alloc | apply pw_below_drewN | apply below_drew1 | refine below_set ?_ (IsS94.ge HI629.out)) | exact HB.out)) hb)
                                        clear HO_4
                                        clear HO640
                                        clear HI629
                                        clear HB
                                        have HO_4 := n0_
                                        have HO640 := n1_
                                        have HO644 := n2_
                                        have HI629 := n3_
                                        have HB := n4_
                                        clear n0_ n1_ n2_ n3_ n4_
                                        clear hb ho26
                                        obtain ⟨Ao27, co27, eo27⟩ := Kd.R_slice HO644.out
                                        subst eo27
                                        obtain ⟨ado27, fo27, _⟩ := Kd.at_int (Kd.R_reads' HO644.out).2.2 0 (by decide) (by rw [Ny642.out]; simp)
                                        cases fo27
                                        refine hK.out _ _ trivial (fun hHeld => ?_)
                                        clear hK K
                                        refine norm_ (a' := ?_) ?_ ?_
                                        rotate_left
                                        · show Act.put _ (some 29) _ = _
                                          simp only [Act.put, List.setIfInBounds_toArray, List.set_cons_zero, List.set_cons_succ, i64_w, i32_w]
                                          rfl
                                        refine pure_ (i := 13) (N := some 32) (v := ?_) (a' := ?_) #[true, true, true, true, true, true, true, true, true, false, true, true, true, true, false, false, false, false] rfl rfl (any_of HT_.out (by kernel_rfl)) (fun _ _ _ h => h) (Or.inl ⟨by rfl, ?_⟩) ?_ ?_
                                        rotate_left
                                        · intro w'
                                          go_simp
                                          with_reducible rfl
                                        rotate_left
                                        · simp only [Act.put, List.setIfInBounds_toArray, List.set_cons_zero, List.set_cons_succ, i64_w, i32_w]
                                          rfl
                                        exact norm_ (by first | (simp only [putAll, Act.put, List.setIfInBounds_toArray, List.set_cons_zero, List.set_cons_succ]; done) | (simp only [putAll, Act.put, List.setIfInBounds_toArray, List.set_cons_zero, List.set_cons_succ]; rfl)) (hJ3_5_10 (.slice (some adz_v639) y638.length co24, adz_v639, .slice (some ado27) y642.length co27, ado27) _ ⟨(by (with_reducible repeat (first | apply Kd.R_alloc | apply Kd.R_drewN | apply Kd.R_drew)); exact Kd.R_mono HO640.out (fun _ hk => hk.2)), (by (with_reducible repeat (first | apply Kd.R_alloc | apply Kd.R_drewN | apply Kd.R_drew)); exact Kd.R_mono HO644.out (fun _ hk => hk.2)), (by (with_reducible repeat (first | apply Kd.R_alloc | apply Kd.R_drewN | apply Kd.R_drew)); exact HO_4.out), ⟨_, rfl⟩, ⟨_, rfl⟩, (by repeat (first | (with_reducible first | exact HI629.out | apply IsS94.alloc | apply IsS94.drewN | apply IsS94.drew | apply IsS94.set_1) | exact HI629.out)), (by repeat (first | (with_reducible first | exact HB.out | apply below_alloc | apply pw_below_drewN | apply below_drew1 | refine below_set ?_ (IsS94.ge HI629.out)) | exact HB.out))⟩)
                                  · skip
                                    rintro ⟨v639, adz_v639, v643, adz_v643⟩ w25 ⟨h0_, h1_, h2_, h3_, h4_, h5_, h6_⟩
                                    have n0_ : Aside0 (Kd.R (Kd.int .i64) 3 w25 w.heap.size (fun k_ => some k_ ≠ (v643 : Value).ownBlock) v639 y638) := ⟨h0_⟩
                                    have n1_ : Aside0 (Kd.R (Kd.int .i64) 3 w25 w.heap.size (fun k_ => some k_ ≠ (v639 : Value).ownBlock) v643 y642) := ⟨h1_⟩
                                    have n2_ : Aside0 (Kd.R k56 56 w25 w.heap.size (fun _ => True) (.slice Ao17 x4_1.length co17) x4_1) := ⟨h2_⟩
                                    have n3_ : Aside0 (∃ c_, (v639 : Value) = .slice (some adz_v639) y638.length c_) := ⟨h3_⟩
                                    have n4_ : Aside0 (∃ c_, (v643 : Value) = .slice (some adz_v643) y642.length c_) := ⟨h4_⟩
                                    have n5_ : Aside0 (IsS94 w w25 g629 t627 x630001_1) := ⟨h5_⟩
                                    have n6_ : Aside0 (Below w.heap.size w w25) := ⟨h6_⟩
                                    clear HO_4
                                    clear HI629
                                    clear HB
                                    clear h0_ h1_ h2_ h3_ h4_ h5_ h6_
                                    have HO640 := n0_
                                    have HO644 := n1_
                                    have HO_4 := n2_
                                    have HA_HO640 := n3_
                                    have HA_HO644 := n4_
                                    have HI629 := n5_
                                    have HB := n6_
                                    clear n0_ n1_ n2_ n3_ n4_ n5_ n6_
                                    have hHeld := trivial
                                    obtain ⟨co26, eo26⟩ := HA_HO640.out
                                    clear HA_HO640
                                    subst eo26
                                    obtain ⟨co27, eo27⟩ := HA_HO644.out
                                    clear HA_HO644
                                    subst eo27
                                    refine norm_ (a' := ?_) ?_ ?_
                                    rotate_left
                                    · simp only [putAll, Act.put, List.setIfInBounds_toArray, List.set_cons_zero, List.set_cons_succ]
                                      rfl
                                    refine two_ (i := 3) (j := 9) (Ni := some 22) (Nj := some 28) #[true, true, true, true, false, true, true, true, true, false, true, true, true, true, true, false, false, false] #[true, true, true, false, false, true, true, true, true, true, true, true, true, true, true, false, false, false] rfl rfl rfl rfl (two_of HT_.out (by kernel_rfl)) (by decide) (by decide) (fun K hK => ?_) (fun K hK => ?_)
                                    · skip
                                      refine goes_ Try.func61 (by kernel_rfl) rfl #[.pointer (some ⟨g629, 0, none⟩), .int .i64 2] (by rfl) rfl rfl (by (try simp only [List.map_toArray, List.map_cons, List.map_nil]); first | done | rfl | (simp only [List.length_drop, List.length_take]; rfl)) ?_
                                      with_reducible refine (spec_l20Rd_pick.calls k1 g629 t627 x630001_1 2 t636 t637 w _ ?side1 ?side2 A10.out).mono ?_
                                      (case side1 => repeat (first | (with_reducible first | exact HI629.out | apply IsS94.alloc | apply IsS94.drewN | apply IsS94.drew | apply IsS94.set_1) | exact HI629.out))
                                      (case side2 => repeat (first | (with_reducible first | exact HB.out | apply below_alloc | apply pw_below_drewN | apply below_drew1 | refine below_set ?_ (IsS94.ge HI629.out)) | exact HB.out))
                                      rintro e w28 ⟨rfl, hi, hb, hk⟩
                                      refine ⟨_, rfl, ?_⟩
                                      have n0_ := Aside0.mk (Kd.R_mono (Kd.R_keep (IsS94.apart (show IsS94 w _ g629 t627 x630001_1 from by repeat (first | (with_reducible first | exact HI629.out | apply IsS94.alloc | apply IsS94.drewN | apply IsS94.drew | apply IsS94.set_1) | exact HI629.out)) (by (with_reducible repeat (first | apply Kd.R_alloc | apply Kd.R_drewN | apply Kd.R_drew)); exact HO_4.out) (by decide)) hk (fun _ h => h.2)) (fun _ h => h.1))
                                      have n1_ := Aside0.mk (Kd.R_mono (Kd.R_keep (IsS94.apart (show IsS94 w _ g629 t627 x630001_1 from by repeat (first | (with_reducible first | exact HI629.out | apply IsS94.alloc | apply IsS94.drewN | apply IsS94.drew | apply IsS94.set_1) | exact HI629.out)) (by (with_reducible repeat (first | apply Kd.R_alloc | apply Kd.R_drewN | apply Kd.R_drew)); exact HO640.out) (by decide)) hk (fun _ h => h.2)) (fun _ h => h.1))
                                      have n2_ := Aside0.mk (Kd.R_mono (Kd.R_keep (IsS94.apart (show IsS94 w _ g629 t627 x630001_1 from by repeat (first | (with_reducible first | exact HI629.out | apply IsS94.alloc | apply IsS94.drewN | apply IsS94.drew | apply IsS94.set_1) | exact HI629.out)) (by (with_reducible repeat (first | apply Kd.R_alloc | apply Kd.R_drewN | apply Kd.R_drew)); exact HO644.out) (by decide)) hk (fun _ h => h.2)) (fun _ h => h.1))
                                      have n3_ := Aside0.mk (hb)
                                      have n4_ := Aside0.mk (hi)
                                      clear HO_4
                                      clear HO640
                                      clear HO644
                                      clear HB
                                      clear HI629
                                      have HO_4 := n0_
                                      have HO640 := n1_
                                      have HO644 := n2_
                                      have HB := n3_
                                      have HI629 := n4_
                                      clear n0_ n1_ n2_ n3_ n4_
                                      (try clear hb)
                                      (try clear hb2)
                                      (try clear hk)
                                      (try clear hi)
                                      refine hK.out _ _ trivial (fun hHeld => ?_)
                                      clear hK K
                                      refine norm_ (a' := ?_) ?_ ?_
                                      rotate_left
                                      · show Act.put _ (some 22) _ = _
                                        simp only [Act.put, List.setIfInBounds_toArray, List.set_cons_zero, List.set_cons_succ, i64_w, i32_w]
                                        rfl
                                      refine pure_ (i := 4) (N := some 23) (v := ?_) (a' := ?_) #[true, true, true, true, true, true, true, true, true, false, true, true, true, true, true, false, false, false] rfl rfl (any_of HT_.out (by kernel_rfl)) (fun _ _ _ h => h) (Or.inl ⟨by rfl, ?_⟩) ?_ ?_
                                      rotate_left
                                      · intro w'
                                        go_simp
                                        with_reducible rfl
                                      rotate_left
                                      · simp only [Act.put, List.setIfInBounds_toArray, List.set_cons_zero, List.set_cons_succ, i64_w, i32_w]
                                        rfl
                                      exact norm_ (by first | (simp only [putAll, Act.put, List.setIfInBounds_toArray, List.set_cons_zero, List.set_cons_succ]; done) | (simp only [putAll, Act.put, List.setIfInBounds_toArray, List.set_cons_zero, List.set_cons_succ]; rfl)) (hJ3_5_10_14 (.slice (some adz_v639) y638.length co26, adz_v639, .slice (some adz_v643) y642.length co27, adz_v643) _ ⟨(by (with_reducible repeat (first | apply Kd.R_alloc | apply Kd.R_drewN | apply Kd.R_drew)); exact HO640.out), (by (with_reducible repeat (first | apply Kd.R_alloc | apply Kd.R_drewN | apply Kd.R_drew)); exact HO644.out), (by (with_reducible repeat (first | apply Kd.R_alloc | apply Kd.R_drewN | apply Kd.R_drew)); exact HO_4.out), ⟨_, rfl⟩, ⟨_, rfl⟩, (by repeat (first | (with_reducible first | exact HI629.out | apply IsS94.alloc | apply IsS94.drewN | apply IsS94.drew | apply IsS94.set_1) | exact HI629.out)), (by repeat (first | (with_reducible first | exact HB.out | apply below_alloc | apply pw_below_drewN | apply below_drew1 | refine below_set ?_ (IsS94.ge HI629.out)) | exact HB.out))⟩)
                                    · skip
                                      (have p641 : 0 ≤ ((ji11) : Int) := of_decide_eq_true (by first | (with_reducible assumption) | assumption); have q641 : (ji11) < (y638.length : Int) := of_decide_eq_true (by first | (with_reducible assumption) | assumption); obtain ⟨ad641, e641, hx641_0⟩ := Kd.at_int (Kd.R_reads' HO640.out).2.2 (ji11) p641 q641; obtain rfl : adz_v639 = ad641 := (by injection e641))
                                      refine value_ (w1 := ?_) (v := ?_) (by rfl) rfl ?_ ?_
                                      rotate_left 2
                                      · go_simp
                                        constructor
                                        · rfl
                                        · rfl
                                      clear hx641_0
                                      refine hK.out _ _ trivial (fun hHeld => ?_)
                                      clear hK K
                                      refine norm_ (a' := ?_) ?_ ?_
                                      rotate_left
                                      · show Act.put _ (some 28) _ = _
                                        simp only [Act.put, List.setIfInBounds_toArray, List.set_cons_zero, List.set_cons_succ, i64_w, i32_w]
                                        rfl
                                      exact norm_ (by first | (simp only [putAll, Act.put, List.setIfInBounds_toArray, List.set_cons_zero, List.set_cons_succ]; done) | (simp only [putAll, Act.put, List.setIfInBounds_toArray, List.set_cons_zero, List.set_cons_succ]; rfl)) (hJ5_9_10_14 (.slice (some adz_v639) y638.length co26, adz_v639, .slice (some adz_v643) y642.length co27, adz_v643) _ ⟨(by (with_reducible repeat (first | apply Kd.R_alloc | apply Kd.R_drewN | apply Kd.R_drew)); exact HO640.out), (by (with_reducible repeat (first | apply Kd.R_alloc | apply Kd.R_drewN | apply Kd.R_drew)); exact HO644.out), (by (with_reducible repeat (first | apply Kd.R_alloc | apply Kd.R_drewN | apply Kd.R_drew)); exact HO_4.out), ⟨_, rfl⟩, ⟨_, rfl⟩, (by repeat (first | (with_reducible first | exact HI629.out | apply IsS94.alloc | apply IsS94.drewN | apply IsS94.drew | apply IsS94.set_1) | exact HI629.out)), (by repeat (first | (with_reducible first | exact HB.out | apply below_alloc | apply pw_below_drewN | apply below_drew1 | refine below_set ?_ (IsS94.ge HI629.out)) | exact HB.out))⟩)
                                · skip
                                  rintro ⟨v639, adz_v639, v643, adz_v643⟩ w25 ⟨h0_, h1_, h2_, h3_, h4_, h5_, h6_⟩
                                  have n0_ : Aside0 (Kd.R (Kd.int .i64) 3 w25 w.heap.size (fun k_ => some k_ ≠ (v643 : Value).ownBlock) v639 y638) := ⟨h0_⟩
                                  have n1_ : Aside0 (Kd.R (Kd.int .i64) 3 w25 w.heap.size (fun k_ => some k_ ≠ (v639 : Value).ownBlock) v643 y642) := ⟨h1_⟩
                                  have n2_ : Aside0 (Kd.R k56 56 w25 w.heap.size (fun _ => True) (.slice Ao17 x4_1.length co17) x4_1) := ⟨h2_⟩
                                  have n3_ : Aside0 (∃ c_, (v639 : Value) = .slice (some adz_v639) y638.length c_) := ⟨h3_⟩
                                  have n4_ : Aside0 (∃ c_, (v643 : Value) = .slice (some adz_v643) y642.length c_) := ⟨h4_⟩
                                  have n5_ : Aside0 (IsS94 w w25 g629 t627 x630001_1) := ⟨h5_⟩
                                  have n6_ : Aside0 (Below w.heap.size w w25) := ⟨h6_⟩
                                  clear HO_4
                                  clear HI629
                                  clear HB
                                  clear h0_ h1_ h2_ h3_ h4_ h5_ h6_
                                  have HO640 := n0_
                                  have HO644 := n1_
                                  have HO_4 := n2_
                                  have HA_HO640 := n3_
                                  have HA_HO644 := n4_
                                  have HI629 := n5_
                                  have HB := n6_
                                  clear n0_ n1_ n2_ n3_ n4_ n5_ n6_
                                  have hHeld := trivial
                                  obtain ⟨co26, eo26⟩ := HA_HO640.out
                                  clear HA_HO640
                                  subst eo26
                                  obtain ⟨co27, eo27⟩ := HA_HO644.out
                                  clear HA_HO644
                                  subst eo27
                                  refine norm_ (a' := ?_) ?_ ?_
                                  rotate_left
                                  · simp only [putAll, Act.put, List.setIfInBounds_toArray, List.set_cons_zero, List.set_cons_succ]
                                    rfl
                                  refine two_ (i := 3) (j := 14) (Ni := some 22) (Nj := some 33) #[true, true, true, true, false, true, true, true, true, true, true, true, true, true, false, false, false, false] #[true, true, true, false, false, true, true, true, true, true, true, true, true, true, true, false, false, false] rfl rfl rfl rfl (two_of HT_.out (by kernel_rfl)) (by decide) (by decide) (fun K hK => ?_) (fun K hK => ?_)
                                  · skip
                                    refine goes_ Try.func61 (by kernel_rfl) rfl #[.pointer (some ⟨g629, 0, none⟩), .int .i64 2] (by rfl) rfl rfl (by (try simp only [List.map_toArray, List.map_cons, List.map_nil]); first | done | rfl | (simp only [List.length_drop, List.length_take]; rfl)) ?_
                                    with_reducible refine (spec_l20Rd_pick.calls k1 g629 t627 x630001_1 2 t636 t637 w _ ?side1 ?side2 A10.out).mono ?_
                                    (case side1 => repeat (first | (with_reducible first | exact HI629.out | apply IsS94.alloc | apply IsS94.drewN | apply IsS94.drew | apply IsS94.set_1) | exact HI629.out))
                                    (case side2 => repeat (first | (with_reducible first | exact HB.out | apply below_alloc | apply pw_below_drewN | apply below_drew1 | refine below_set ?_ (IsS94.ge HI629.out)) | exact HB.out))
                                    rintro e w28 ⟨rfl, hi, hb, hk⟩
                                    refine ⟨_, rfl, ?_⟩
                                    have n0_ := Aside0.mk (Kd.R_mono (Kd.R_keep (IsS94.apart (show IsS94 w _ g629 t627 x630001_1 from by repeat (first | (with_reducible first | exact HI629.out | apply IsS94.alloc | apply IsS94.drewN | apply IsS94.drew | apply IsS94.set_1) | exact HI629.out)) (by (with_reducible repeat (first | apply Kd.R_alloc | apply Kd.R_drewN | apply Kd.R_drew)); exact HO_4.out) (by decide)) hk (fun _ h => h.2)) (fun _ h => h.1))
                                    have n1_ := Aside0.mk (Kd.R_mono (Kd.R_keep (IsS94.apart (show IsS94 w _ g629 t627 x630001_1 from by repeat (first | (with_reducible first | exact HI629.out | apply IsS94.alloc | apply IsS94.drewN | apply IsS94.drew | apply IsS94.set_1) | exact HI629.out)) (by (with_reducible repeat (first | apply Kd.R_alloc | apply Kd.R_drewN | apply Kd.R_drew)); exact HO640.out) (by decide)) hk (fun _ h => h.2)) (fun _ h => h.1))
                                    have n2_ := Aside0.mk (Kd.R_mono (Kd.R_keep (IsS94.apart (show IsS94 w _ g629 t627 x630001_1 from by repeat (first | (with_reducible first | exact HI629.out | apply IsS94.alloc | apply IsS94.drewN | apply IsS94.drew | apply IsS94.set_1) | exact HI629.out)) (by (with_reducible repeat (first | apply Kd.R_alloc | apply Kd.R_drewN | apply Kd.R_drew)); exact HO644.out) (by decide)) hk (fun _ h => h.2)) (fun _ h => h.1))
                                    have n3_ := Aside0.mk (hb)
                                    have n4_ := Aside0.mk (hi)
                                    clear HO_4
                                    clear HO640
                                    clear HO644
                                    clear HB
                                    clear HI629
                                    have HO_4 := n0_
                                    have HO640 := n1_
                                    have HO644 := n2_
                                    have HB := n3_
                                    have HI629 := n4_
                                    clear n0_ n1_ n2_ n3_ n4_
                                    (try clear hb)
                                    (try clear hb2)
                                    (try clear hk)
                                    (try clear hi)
                                    refine hK.out _ _ trivial (fun hHeld => ?_)
                                    clear hK K
                                    refine norm_ (a' := ?_) ?_ ?_
                                    rotate_left
                                    · show Act.put _ (some 22) _ = _
                                      simp only [Act.put, List.setIfInBounds_toArray, List.set_cons_zero, List.set_cons_succ, i64_w, i32_w]
                                      rfl
                                    refine pure_ (i := 4) (N := some 23) (v := ?_) (a' := ?_) #[true, true, true, true, true, true, true, true, true, true, true, true, true, true, false, false, false, false] rfl rfl (any_of HT_.out (by kernel_rfl)) (fun _ _ _ h => h) (Or.inl ⟨by rfl, ?_⟩) ?_ ?_
                                    rotate_left
                                    · intro w'
                                      go_simp
                                      with_reducible rfl
                                    rotate_left
                                    · simp only [Act.put, List.setIfInBounds_toArray, List.set_cons_zero, List.set_cons_succ, i64_w, i32_w]
                                      rfl
                                    exact norm_ (by first | (simp only [putAll, Act.put, List.setIfInBounds_toArray, List.set_cons_zero, List.set_cons_succ]; done) | (simp only [putAll, Act.put, List.setIfInBounds_toArray, List.set_cons_zero, List.set_cons_succ]; rfl)) (hJ3_5_9_10 (.slice (some adz_v639) y638.length co26, adz_v639, .slice (some adz_v643) y642.length co27, adz_v643) _ ⟨(by (with_reducible repeat (first | apply Kd.R_alloc | apply Kd.R_drewN | apply Kd.R_drew)); exact HO640.out), (by (with_reducible repeat (first | apply Kd.R_alloc | apply Kd.R_drewN | apply Kd.R_drew)); exact HO644.out), (by (with_reducible repeat (first | apply Kd.R_alloc | apply Kd.R_drewN | apply Kd.R_drew)); exact HO_4.out), ⟨_, rfl⟩, ⟨_, rfl⟩, (by repeat (first | (with_reducible first | exact HI629.out | apply IsS94.alloc | apply IsS94.drewN | apply IsS94.drew | apply IsS94.set_1) | exact HI629.out)), (by repeat (first | (with_reducible first | exact HB.out | apply below_alloc | apply pw_below_drewN | apply below_drew1 | refine below_set ?_ (IsS94.ge HI629.out)) | exact HB.out))⟩)
                                  · skip
                                    (have p645 : 0 ≤ ((ji11) : Int) := of_decide_eq_true (by first | (with_reducible assumption) | assumption); have q645 : (ji11) < (y642.length : Int) := of_decide_eq_true (by first | (with_reducible assumption) | assumption); obtain ⟨ad645, e645, hx645_0⟩ := Kd.at_int (Kd.R_reads' HO644.out).2.2 (ji11) p645 q645; obtain rfl : adz_v643 = ad645 := (by injection e645))
                                    refine value_ (w1 := ?_) (v := ?_) (by rfl) rfl ?_ ?_
                                    rotate_left 2
                                    · go_simp
                                      constructor
                                      · rfl
                                      · rfl
                                    clear hx645_0
                                    refine hK.out _ _ trivial (fun hHeld => ?_)
                                    clear hK K
                                    refine norm_ (a' := ?_) ?_ ?_
                                    rotate_left
                                    · show Act.put _ (some 33) _ = _
                                      simp only [Act.put, List.setIfInBounds_toArray, List.set_cons_zero, List.set_cons_succ, i64_w, i32_w]
                                      rfl
                                    exact norm_ (by first | (simp only [putAll, Act.put, List.setIfInBounds_toArray, List.set_cons_zero, List.set_cons_succ]; done) | (simp only [putAll, Act.put, List.setIfInBounds_toArray, List.set_cons_zero, List.set_cons_succ]; rfl)) (hJ5_9_10_14 (.slice (some adz_v639) y638.length co26, adz_v639, .slice (some adz_v643) y642.length co27, adz_v643) _ ⟨(by (with_reducible repeat (first | apply Kd.R_alloc | apply Kd.R_drewN | apply Kd.R_drew)); exact HO640.out), (by (with_reducible repeat (first | apply Kd.R_alloc | apply Kd.R_drewN | apply Kd.R_drew)); exact HO644.out), (by (with_reducible repeat (first | apply Kd.R_alloc | apply Kd.R_drewN | apply Kd.R_drew)); exact HO_4.out), ⟨_, rfl⟩, ⟨_, rfl⟩, (by repeat (first | (with_reducible first | exact HI629.out | apply IsS94.alloc | apply IsS94.drewN | apply IsS94.drew | apply IsS94.set_1) | exact HI629.out)), (by repeat (first | (with_reducible first | exact HB.out | apply below_alloc | apply pw_below_drewN | apply below_drew1 | refine below_set ?_ (IsS94.ge HI629.out)) | exact HB.out))⟩)
                              · skip
                                rintro ⟨v643, adz_v643⟩ w23 ⟨h0_, h1_, h2_, h3_, h4_⟩
                                have n0_ : Aside0 (Kd.R (Kd.int .i64) 3 w23 w.heap.size (fun _ => True) v643 y642) := ⟨h0_⟩
                                have n1_ : Aside0 (Kd.R k56 56 w23 w.heap.size (fun _ => True) (.slice Ao17 x4_1.length co17) x4_1) := ⟨h1_⟩
                                have n2_ : Aside0 (∃ c_, (v643 : Value) = .slice (some adz_v643) y642.length c_) := ⟨h2_⟩
                                have n3_ : Aside0 (IsS94 w w23 g629 t627 t637) := ⟨h3_⟩
                                have n4_ : Aside0 (Below w.heap.size w w23) := ⟨h4_⟩
                                clear HO_4
                                clear HI629
                                clear HB
                                clear h0_ h1_ h2_ h3_ h4_
                                have HO644 := n0_
                                have HO_4 := n1_
                                have HA_HO644 := n2_
                                have HI629 := n3_
                                have HB := n4_
                                clear n0_ n1_ n2_ n3_ n4_
                                have hHeld := trivial
                                obtain ⟨co24, eo24⟩ := HA_HO644.out
                                clear HA_HO644
                                subst eo24
                                refine norm_ (a' := ?_) ?_ ?_
                                rotate_left
                                · simp only [putAll, Act.put, List.setIfInBounds_toArray, List.set_cons_zero, List.set_cons_succ]
                                  rfl
                                refine one_ (i := 5) (N := some 24) #[true, true, true, true, true, true, true, true, false, false, true, true, true, true, true, false, false, false] rfl rfl (one_of HT_.out (by kernel_rfl)) (by decide) (fun K hK => ?_)
                                refine Kd.R_lit_step (Kd.int .i64) _ 3 ?hg (N := 24) ?hd (xs := ([2, 4, 4, 12] : List Int)) (inner := [.int .i64 2, .int .i64 4, .int .i64 4, .int .i64 12]) (ok := fun _ => True) (okp := fun _ => True) ?hr ?hp (fun _ hk => hk) trivial (Below.refl _ _) (Nat.le_refl _) (by simp) ?_; (case hd => rfl); (case hg => rfl); (case hr => first | (go_simp; done) | (go_simp; rfl)); (case hp => exact (Reps.one (show Kd.M (Kd.int .i64) _ _ _ 2 [.int .i64 2] from rfl) (Reps.one (show Kd.M (Kd.int .i64) _ _ _ 4 [.int .i64 4] from rfl) (Reps.one (show Kd.M (Kd.int .i64) _ _ _ 4 [.int .i64 4] from rfl) (Reps.one (show Kd.M (Kd.int .i64) _ _ _ 12 [.int .i64 12] from rfl) (Reps.none _ _))))))
                                intro v639 w25 ho26 hb hg_ hnew_
                                clear hg_ hnew_
                                (first | rw [← Ny638.out] at ho26 | (simp only [Int.reduceToNat] at ho26; rw [← Ny638.out] at ho26))
                                have n0_ := Aside0.mk (Kd.R_below (by (with_reducible repeat (first | apply Kd.R_alloc | apply Kd.R_drewN | apply Kd.R_drew)); exact HO_4.out) hb)
                                have n1_ := Aside0.mk (Kd.R_elder' (by (with_reducible repeat (first | apply Kd.R_alloc | apply Kd.R_drewN | apply Kd.R_drew)); exact HO644.out) (Kd.R_base ho26) hb)
                                have n2_ := Aside0.mk (Kd.R_lower (Kd.R_new' ho26 (Kd.R_lt (by (with_reducible repeat (first | apply Kd.R_alloc | apply Kd.R_drewN | apply Kd.R_drew)); exact HO644.out))) (below_size (by repeat (first | (with_reducible first | exact HB.out | apply below_alloc | apply pw_below_drewN | apply below_drew1 | refine below_set ?_ (IsS94.ge HI629.out)) | exact HB.out))))
                                have n3_ := Aside0.mk (IsS94.below (by repeat (first | (with_reducible first | exact HI629.out | apply IsS94.alloc | apply IsS94.drewN | apply IsS94.drew | apply IsS94.set_1) | exact HI629.out)) hb)
                                have n4_ := Aside0.mk (below_step (by repeat (first | (with_reducible first | exact HB.out | apply below_alloc | apply pw_below_drewN | apply below_drew1 | refine below_set ?_ (IsS94.ge HI629.out)) | exact HB.out)) hb)
                                clear HO_4
                                clear HO644
                                clear HI629
                                clear HB
                                have HO_4 := n0_
                                have HO644 := n1_
                                have HO640 := n2_
                                have HI629 := n3_
                                have HB := n4_
                                clear n0_ n1_ n2_ n3_ n4_
                                clear hb ho26
                                obtain ⟨Ao27, co27, eo27⟩ := Kd.R_slice HO640.out
                                subst eo27
                                obtain ⟨ado27, fo27, _⟩ := Kd.at_int (Kd.R_reads' HO640.out).2.2 0 (by decide) (by rw [Ny638.out]; simp)
                                cases fo27
                                refine hK.out _ _ trivial (fun hHeld => ?_)
                                clear hK K
                                refine norm_ (a' := ?_) ?_ ?_
                                rotate_left
                                · show Act.put _ (some 24) _ = _
                                  simp only [Act.put, List.setIfInBounds_toArray, List.set_cons_zero, List.set_cons_succ, i64_w, i32_w]
                                  rfl
                                refine pure_ (i := 8) (N := some 27) (v := ?_) (a' := ?_) #[true, true, true, true, true, true, true, true, true, false, true, true, true, true, true, false, false, false] rfl rfl (any_of HT_.out (by kernel_rfl)) (fun _ _ _ h => h) (Or.inl ⟨by rfl, ?_⟩) ?_ ?_
                                rotate_left
                                · intro w'
                                  go_simp
                                  with_reducible rfl
                                rotate_left
                                · simp only [Act.put, List.setIfInBounds_toArray, List.set_cons_zero, List.set_cons_succ, i64_w, i32_w]
                                  rfl
                                exact norm_ (by first | (simp only [putAll, Act.put, List.setIfInBounds_toArray, List.set_cons_zero, List.set_cons_succ]; done) | (simp only [putAll, Act.put, List.setIfInBounds_toArray, List.set_cons_zero, List.set_cons_succ]; rfl)) (hJ3_5_10_14 (.slice (some ado27) y638.length co27, ado27, .slice (some adz_v643) y642.length co24, adz_v643) _ ⟨(by (with_reducible repeat (first | apply Kd.R_alloc | apply Kd.R_drewN | apply Kd.R_drew)); exact Kd.R_mono HO640.out (fun _ hk => hk.2)), (by (with_reducible repeat (first | apply Kd.R_alloc | apply Kd.R_drewN | apply Kd.R_drew)); exact Kd.R_mono HO644.out (fun _ hk => hk.2)), (by (with_reducible repeat (first | apply Kd.R_alloc | apply Kd.R_drewN | apply Kd.R_drew)); exact HO_4.out), ⟨_, rfl⟩, ⟨_, rfl⟩, (by repeat (first | (with_reducible first | exact HI629.out | apply IsS94.alloc | apply IsS94.drewN | apply IsS94.drew | apply IsS94.set_1) | exact HI629.out)), (by repeat (first | (with_reducible first | exact HB.out | apply below_alloc | apply pw_below_drewN | apply below_drew1 | refine below_set ?_ (IsS94.ge HI629.out)) | exact HB.out))⟩)
                            · skip
                              rintro ⟨v639, adz_v639, v643, adz_v643⟩ w26 ⟨h0_, h1_, h2_, h3_, h4_, h5_, h6_⟩
                              have n0_ : Aside0 (Kd.R (Kd.int .i64) 3 w26 w.heap.size (fun k_ => some k_ ≠ (v643 : Value).ownBlock) v639 y638) := ⟨h0_⟩
                              have n1_ : Aside0 (Kd.R (Kd.int .i64) 3 w26 w.heap.size (fun k_ => some k_ ≠ (v639 : Value).ownBlock) v643 y642) := ⟨h1_⟩
                              have n2_ : Aside0 (Kd.R k56 56 w26 w.heap.size (fun _ => True) (.slice Ao17 x4_1.length co17) x4_1) := ⟨h2_⟩
                              have n3_ : Aside0 (∃ c_, (v639 : Value) = .slice (some adz_v639) y638.length c_) := ⟨h3_⟩
                              have n4_ : Aside0 (∃ c_, (v643 : Value) = .slice (some adz_v643) y642.length c_) := ⟨h4_⟩
                              have n5_ : Aside0 (IsS94 w w26 g629 t627 t637) := ⟨h5_⟩
                              have n6_ : Aside0 (Below w.heap.size w w26) := ⟨h6_⟩
                              clear HO_4
                              clear HI629
                              clear HB
                              clear h0_ h1_ h2_ h3_ h4_ h5_ h6_
                              have HO640 := n0_
                              have HO644 := n1_
                              have HO_4 := n2_
                              have HA_HO640 := n3_
                              have HA_HO644 := n4_
                              have HI629 := n5_
                              have HB := n6_
                              clear n0_ n1_ n2_ n3_ n4_ n5_ n6_
                              have hHeld := trivial
                              obtain ⟨co27, eo27⟩ := HA_HO640.out
                              clear HA_HO640
                              subst eo27
                              obtain ⟨co28, eo28⟩ := HA_HO644.out
                              clear HA_HO644
                              subst eo28
                              refine norm_ (a' := ?_) ?_ ?_
                              rotate_left
                              · simp only [putAll, Act.put, List.setIfInBounds_toArray, List.set_cons_zero, List.set_cons_succ]
                                rfl
                              refine two_ (i := 9) (j := 14) (Ni := some 28) (Nj := some 33) #[true, true, true, true, true, true, true, true, true, true, true, true, true, true, false, false, false, false] #[true, true, true, true, true, true, true, true, true, false, true, true, true, true, true, false, false, false] rfl rfl rfl rfl (two_of HT_.out (by kernel_rfl)) (by decide) (by decide) (fun K hK => ?_) (fun K hK => ?_)
                              · skip
                                (have p641 : 0 ≤ ((ji11) : Int) := of_decide_eq_true (by first | (with_reducible assumption) | assumption); have q641 : (ji11) < (y638.length : Int) := of_decide_eq_true (by first | (with_reducible assumption) | assumption); obtain ⟨ad641, e641, hx641_0⟩ := Kd.at_int (Kd.R_reads' HO640.out).2.2 (ji11) p641 q641; obtain rfl : adz_v639 = ad641 := (by injection e641))
                                refine value_ (w1 := ?_) (v := ?_) (by rfl) rfl ?_ ?_
                                rotate_left 2
                                · go_simp
                                  constructor
                                  · rfl
                                  · rfl
                                clear hx641_0
                                refine hK.out _ _ trivial (fun hHeld => ?_)
                                clear hK K
                                refine norm_ (a' := ?_) ?_ ?_
                                rotate_left
                                · show Act.put _ (some 28) _ = _
                                  simp only [Act.put, List.setIfInBounds_toArray, List.set_cons_zero, List.set_cons_succ, i64_w, i32_w]
                                  rfl
                                exact norm_ (by first | (simp only [putAll, Act.put, List.setIfInBounds_toArray, List.set_cons_zero, List.set_cons_succ]; done) | (simp only [putAll, Act.put, List.setIfInBounds_toArray, List.set_cons_zero, List.set_cons_succ]; rfl)) (hJ3_5_9_10 (.slice (some adz_v639) y638.length co27, adz_v639, .slice (some adz_v643) y642.length co28, adz_v643) _ ⟨(by (with_reducible repeat (first | apply Kd.R_alloc | apply Kd.R_drewN | apply Kd.R_drew)); exact HO640.out), (by (with_reducible repeat (first | apply Kd.R_alloc | apply Kd.R_drewN | apply Kd.R_drew)); exact HO644.out), (by (with_reducible repeat (first | apply Kd.R_alloc | apply Kd.R_drewN | apply Kd.R_drew)); exact HO_4.out), ⟨_, rfl⟩, ⟨_, rfl⟩, (by repeat (first | (with_reducible first | exact HI629.out | apply IsS94.alloc | apply IsS94.drewN | apply IsS94.drew | apply IsS94.set_1) | exact HI629.out)), (by repeat (first | (with_reducible first | exact HB.out | apply below_alloc | apply pw_below_drewN | apply below_drew1 | refine below_set ?_ (IsS94.ge HI629.out)) | exact HB.out))⟩)
                              · skip
                                (have p645 : 0 ≤ ((ji11) : Int) := of_decide_eq_true (by first | (with_reducible assumption) | assumption); have q645 : (ji11) < (y642.length : Int) := of_decide_eq_true (by first | (with_reducible assumption) | assumption); obtain ⟨ad645, e645, hx645_0⟩ := Kd.at_int (Kd.R_reads' HO644.out).2.2 (ji11) p645 q645; obtain rfl : adz_v643 = ad645 := (by injection e645))
                                refine value_ (w1 := ?_) (v := ?_) (by rfl) rfl ?_ ?_
                                rotate_left 2
                                · go_simp
                                  constructor
                                  · rfl
                                  · rfl
                                clear hx645_0
                                refine hK.out _ _ trivial (fun hHeld => ?_)
                                clear hK K
                                refine norm_ (a' := ?_) ?_ ?_
                                rotate_left
                                · show Act.put _ (some 33) _ = _
                                  simp only [Act.put, List.setIfInBounds_toArray, List.set_cons_zero, List.set_cons_succ, i64_w, i32_w]
                                  rfl
                                exact norm_ (by first | (simp only [putAll, Act.put, List.setIfInBounds_toArray, List.set_cons_zero, List.set_cons_succ]; done) | (simp only [putAll, Act.put, List.setIfInBounds_toArray, List.set_cons_zero, List.set_cons_succ]; rfl)) (hJ3_5_10_14 (.slice (some adz_v639) y638.length co27, adz_v639, .slice (some adz_v643) y642.length co28, adz_v643) _ ⟨(by (with_reducible repeat (first | apply Kd.R_alloc | apply Kd.R_drewN | apply Kd.R_drew)); exact HO640.out), (by (with_reducible repeat (first | apply Kd.R_alloc | apply Kd.R_drewN | apply Kd.R_drew)); exact HO644.out), (by (with_reducible repeat (first | apply Kd.R_alloc | apply Kd.R_drewN | apply Kd.R_drew)); exact HO_4.out), ⟨_, rfl⟩, ⟨_, rfl⟩, (by repeat (first | (with_reducible first | exact HI629.out | apply IsS94.alloc | apply IsS94.drewN | apply IsS94.drew | apply IsS94.set_1) | exact HI629.out)), (by repeat (first | (with_reducible first | exact HB.out | apply below_alloc | apply pw_below_drewN | apply below_drew1 | refine below_set ?_ (IsS94.ge HI629.out)) | exact HB.out))⟩)
                          · skip
                            rintro ⟨v639, adz_v639⟩ w23 ⟨h0_, h1_, h2_, h3_, h4_⟩
                            have n0_ : Aside0 (Kd.R (Kd.int .i64) 3 w23 w.heap.size (fun _ => True) v639 y638) := ⟨h0_⟩
                            have n1_ : Aside0 (Kd.R k56 56 w23 w.heap.size (fun _ => True) (.slice Ao17 x4_1.length co17) x4_1) := ⟨h1_⟩
                            have n2_ : Aside0 (∃ c_, (v639 : Value) = .slice (some adz_v639) y638.length c_) := ⟨h2_⟩
                            have n3_ : Aside0 (IsS94 w w23 g629 t627 t637) := ⟨h3_⟩
                            have n4_ : Aside0 (Below w.heap.size w w23) := ⟨h4_⟩
                            clear HO_4
                            clear HI629
                            clear HB
                            clear h0_ h1_ h2_ h3_ h4_
                            have HO640 := n0_
                            have HO_4 := n1_
                            have HA_HO640 := n2_
                            have HI629 := n3_
                            have HB := n4_
                            clear n0_ n1_ n2_ n3_ n4_
                            have hHeld := trivial
                            obtain ⟨co24, eo24⟩ := HA_HO640.out
                            clear HA_HO640
                            subst eo24
                            refine norm_ (a' := ?_) ?_ ?_
                            rotate_left
                            · simp only [putAll, Act.put, List.setIfInBounds_toArray, List.set_cons_zero, List.set_cons_succ]
                              rfl
                            refine one_ (i := 10) (N := some 29) #[true, true, true, true, true, true, true, true, true, true, true, true, true, false, false, false, false, false] rfl rfl (one_of HT_.out (by kernel_rfl)) (by decide) (fun K hK => ?_)
                            refine Kd.R_lit_step (Kd.int .i64) _ 3 ?hg (N := 29) ?hd (xs := ([2, 4, 12, 12] : List Int)) (inner := [.int .i64 2, .int .i64 4, .int .i64 12, .int .i64 12]) (ok := fun _ => True) (okp := fun _ => True) ?hr ?hp (fun _ hk => hk) trivial (Below.refl _ _) (Nat.le_refl _) (by simp) ?_; (case hd => rfl); (case hg => rfl); (case hr => first | (go_simp; done) | (go_simp; rfl)); (case hp => exact (Reps.one (show Kd.M (Kd.int .i64) _ _ _ 2 [.int .i64 2] from rfl) (Reps.one (show Kd.M (Kd.int .i64) _ _ _ 4 [.int .i64 4] from rfl) (Reps.one (show Kd.M (Kd.int .i64) _ _ _ 12 [.int .i64 12] from rfl) (Reps.one (show Kd.M (Kd.int .i64) _ _ _ 12 [.int .i64 12] from rfl) (Reps.none _ _))))))
                            intro v643 w25 ho26 hb hg_ hnew_
                            clear hg_ hnew_
                            (first | rw [← Ny642.out] at ho26 | (simp only [Int.reduceToNat] at ho26; rw [← Ny642.out] at ho26))
                            have n0_ := Aside0.mk (Kd.R_below (by (with_reducible repeat (first | apply Kd.R_alloc | apply Kd.R_drewN | apply Kd.R_drew)); exact HO_4.out) hb)
                            have n1_ := Aside0.mk (Kd.R_elder' (by (with_reducible repeat (first | apply Kd.R_alloc | apply Kd.R_drewN | apply Kd.R_drew)); exact HO640.out) (Kd.R_base ho26) hb)
                            have n2_ := Aside0.mk (Kd.R_lower (Kd.R_new' ho26 (Kd.R_lt (by (with_reducible repeat (first | apply Kd.R_alloc | apply Kd.R_drewN | apply Kd.R_drew)); exact HO640.out))) (below_size (by repeat (first | (with_reducible first | exact HB.out | apply below_alloc | apply pw_below_drewN | apply below_drew1 | refine below_set ?_ (IsS94.ge HI629.out)) | exact HB.out))))
                            have n3_ := Aside0.mk (IsS94.below (by repeat (first | (with_reducible first | exact HI629.out | apply IsS94.alloc | apply IsS94.drewN | apply IsS94.drew | apply IsS94.set_1) | exact HI629.out)) hb)
                            have n4_ := Aside0.mk (below_step (by repeat (first | (with_reducible first | exact HB.out | apply below_alloc | apply pw_below_drewN | apply below_drew1 | refine below_set ?_ (IsS94.ge HI629.out)) | exact HB.out)) hb)
                            clear HO_4
                            clear HO640
                            clear HI629
                            clear HB
                            have HO_4 := n0_
                            have HO640 := n1_
                            have HO644 := n2_
                            have HI629 := n3_
                            have HB := n4_
                            clear n0_ n1_ n2_ n3_ n4_
                            clear hb ho26
                            obtain ⟨Ao27, co27, eo27⟩ := Kd.R_slice HO644.out
                            subst eo27
                            obtain ⟨ado27, fo27, _⟩ := Kd.at_int (Kd.R_reads' HO644.out).2.2 0 (by decide) (by rw [Ny642.out]; simp)
                            cases fo27
                            refine hK.out _ _ trivial (fun hHeld => ?_)
                            clear hK K
                            refine norm_ (a' := ?_) ?_ ?_
                            rotate_left
                            · show Act.put _ (some 29) _ = _
                              simp only [Act.put, List.setIfInBounds_toArray, List.set_cons_zero, List.set_cons_succ, i64_w, i32_w]
                              rfl
                            refine pure_ (i := 13) (N := some 32) (v := ?_) (a' := ?_) #[true, true, true, true, true, true, true, true, true, true, true, true, true, true, false, false, false, false] rfl rfl (any_of HT_.out (by kernel_rfl)) (fun _ _ _ h => h) (Or.inl ⟨by rfl, ?_⟩) ?_ ?_
                            rotate_left
                            · intro w'
                              go_simp
                              with_reducible rfl
                            rotate_left
                            · simp only [Act.put, List.setIfInBounds_toArray, List.set_cons_zero, List.set_cons_succ, i64_w, i32_w]
                              rfl
                            exact norm_ (by first | (simp only [putAll, Act.put, List.setIfInBounds_toArray, List.set_cons_zero, List.set_cons_succ]; done) | (simp only [putAll, Act.put, List.setIfInBounds_toArray, List.set_cons_zero, List.set_cons_succ]; rfl)) (hJ3_5_9_10 (.slice (some adz_v639) y638.length co24, adz_v639, .slice (some ado27) y642.length co27, ado27) _ ⟨(by (with_reducible repeat (first | apply Kd.R_alloc | apply Kd.R_drewN | apply Kd.R_drew)); exact Kd.R_mono HO640.out (fun _ hk => hk.2)), (by (with_reducible repeat (first | apply Kd.R_alloc | apply Kd.R_drewN | apply Kd.R_drew)); exact Kd.R_mono HO644.out (fun _ hk => hk.2)), (by (with_reducible repeat (first | apply Kd.R_alloc | apply Kd.R_drewN | apply Kd.R_drew)); exact HO_4.out), ⟨_, rfl⟩, ⟨_, rfl⟩, (by repeat (first | (with_reducible first | exact HI629.out | apply IsS94.alloc | apply IsS94.drewN | apply IsS94.drew | apply IsS94.set_1) | exact HI629.out)), (by repeat (first | (with_reducible first | exact HB.out | apply below_alloc | apply pw_below_drewN | apply below_drew1 | refine below_set ?_ (IsS94.ge HI629.out)) | exact HB.out))⟩)
                        · skip
                          rintro ⟨v639, adz_v639, v643, adz_v643⟩ w25 ⟨h0_, h1_, h2_, h3_, h4_, h5_, h6_⟩
                          have n0_ : Aside0 (Kd.R (Kd.int .i64) 3 w25 w.heap.size (fun k_ => some k_ ≠ (v643 : Value).ownBlock) v639 y638) := ⟨h0_⟩
                          have n1_ : Aside0 (Kd.R (Kd.int .i64) 3 w25 w.heap.size (fun k_ => some k_ ≠ (v639 : Value).ownBlock) v643 y642) := ⟨h1_⟩
                          have n2_ : Aside0 (Kd.R k56 56 w25 w.heap.size (fun _ => True) (.slice Ao17 x4_1.length co17) x4_1) := ⟨h2_⟩
                          have n3_ : Aside0 (∃ c_, (v639 : Value) = .slice (some adz_v639) y638.length c_) := ⟨h3_⟩
                          have n4_ : Aside0 (∃ c_, (v643 : Value) = .slice (some adz_v643) y642.length c_) := ⟨h4_⟩
                          have n5_ : Aside0 (IsS94 w w25 g629 t627 x630001_1) := ⟨h5_⟩
                          have n6_ : Aside0 (Below w.heap.size w w25) := ⟨h6_⟩
                          clear HO_4
                          clear HI629
                          clear HB
                          clear h0_ h1_ h2_ h3_ h4_ h5_ h6_
                          have HO640 := n0_
                          have HO644 := n1_
                          have HO_4 := n2_
                          have HA_HO640 := n3_
                          have HA_HO644 := n4_
                          have HI629 := n5_
                          have HB := n6_
                          clear n0_ n1_ n2_ n3_ n4_ n5_ n6_
                          have hHeld := trivial
                          obtain ⟨co26, eo26⟩ := HA_HO640.out
                          clear HA_HO640
                          subst eo26
                          obtain ⟨co27, eo27⟩ := HA_HO644.out
                          clear HA_HO644
                          subst eo27
                          refine norm_ (a' := ?_) ?_ ?_
                          rotate_left
                          · simp only [putAll, Act.put, List.setIfInBounds_toArray, List.set_cons_zero, List.set_cons_succ]
                            rfl
                          refine one_ (i := 3) (N := some 22) #[true, true, true, true, false, true, true, true, true, true, true, true, true, true, true, false, false, false] rfl rfl (one_of HT_.out (by kernel_rfl)) (by decide) (fun K hK => ?_)
                          refine goes_ Try.func61 (by kernel_rfl) rfl #[.pointer (some ⟨g629, 0, none⟩), .int .i64 2] (by rfl) rfl rfl (by (try simp only [List.map_toArray, List.map_cons, List.map_nil]); first | done | rfl | (simp only [List.length_drop, List.length_take]; rfl)) ?_
                          with_reducible refine (spec_l20Rd_pick.calls k1 g629 t627 x630001_1 2 t636 t637 w _ ?side1 ?side2 A10.out).mono ?_
                          (case side1 => repeat (first | (with_reducible first | exact HI629.out | apply IsS94.alloc | apply IsS94.drewN | apply IsS94.drew | apply IsS94.set_1) | exact HI629.out))
                          (case side2 => repeat (first | (with_reducible first | exact HB.out | apply below_alloc | apply pw_below_drewN | apply below_drew1 | refine below_set ?_ (IsS94.ge HI629.out)) | exact HB.out))
                          rintro e w28 ⟨rfl, hi, hb, hk⟩
                          refine ⟨_, rfl, ?_⟩
                          have n0_ := Aside0.mk (Kd.R_mono (Kd.R_keep (IsS94.apart (show IsS94 w _ g629 t627 x630001_1 from by repeat (first | (with_reducible first | exact HI629.out | apply IsS94.alloc | apply IsS94.drewN | apply IsS94.drew | apply IsS94.set_1) | exact HI629.out)) (by (with_reducible repeat (first | apply Kd.R_alloc | apply Kd.R_drewN | apply Kd.R_drew)); exact HO_4.out) (by decide)) hk (fun _ h => h.2)) (fun _ h => h.1))
                          have n1_ := Aside0.mk (Kd.R_mono (Kd.R_keep (IsS94.apart (show IsS94 w _ g629 t627 x630001_1 from by repeat (first | (with_reducible first | exact HI629.out | apply IsS94.alloc | apply IsS94.drewN | apply IsS94.drew | apply IsS94.set_1) | exact HI629.out)) (by (with_reducible repeat (first | apply Kd.R_alloc | apply Kd.R_drewN | apply Kd.R_drew)); exact HO640.out) (by decide)) hk (fun _ h => h.2)) (fun _ h => h.1))
                          have n2_ := Aside0.mk (Kd.R_mono (Kd.R_keep (IsS94.apart (show IsS94 w _ g629 t627 x630001_1 from by repeat (first | (with_reducible first | exact HI629.out | apply IsS94.alloc | apply IsS94.drewN | apply IsS94.drew | apply IsS94.set_1) | exact HI629.out)) (by (with_reducible repeat (first | apply Kd.R_alloc | apply Kd.R_drewN | apply Kd.R_drew)); exact HO644.out) (by decide)) hk (fun _ h => h.2)) (fun _ h => h.1))
                          have n3_ := Aside0.mk (hb)
                          have n4_ := Aside0.mk (hi)
                          clear HO_4
                          clear HO640
                          clear HO644
                          clear HB
                          clear HI629
                          have HO_4 := n0_
                          have HO640 := n1_
                          have HO644 := n2_
                          have HB := n3_
                          have HI629 := n4_
                          clear n0_ n1_ n2_ n3_ n4_
                          (try clear hb)
                          (try clear hb2)
                          (try clear hk)
                          (try clear hi)
                          refine hK.out _ _ trivial (fun hHeld => ?_)
                          clear hK K
                          refine norm_ (a' := ?_) ?_ ?_
                          rotate_left
                          · show Act.put _ (some 22) _ = _
                            simp only [Act.put, List.setIfInBounds_toArray, List.set_cons_zero, List.set_cons_succ, i64_w, i32_w]
                            rfl
                          refine pure_ (i := 4) (N := some 23) (v := ?_) (a' := ?_) #[true, true, true, true, true, true, true, true, true, true, true, true, true, true, true, false, false, false] rfl rfl (any_of HT_.out (by kernel_rfl)) (fun _ _ _ h => h) (Or.inl ⟨by rfl, ?_⟩) ?_ ?_
                          rotate_left
                          · intro w'
                            go_simp
                            with_reducible rfl
                          rotate_left
                          · simp only [Act.put, List.setIfInBounds_toArray, List.set_cons_zero, List.set_cons_succ, i64_w, i32_w]
                            rfl
                          exact norm_ (by first | (simp only [putAll, Act.put, List.setIfInBounds_toArray, List.set_cons_zero, List.set_cons_succ]; done) | (simp only [putAll, Act.put, List.setIfInBounds_toArray, List.set_cons_zero, List.set_cons_succ]; rfl)) (hJ3_5_9_10_14 (.slice (some adz_v639) y638.length co26, adz_v639, .slice (some adz_v643) y642.length co27, adz_v643) _ ⟨(by (with_reducible repeat (first | apply Kd.R_alloc | apply Kd.R_drewN | apply Kd.R_drew)); exact HO640.out), (by (with_reducible repeat (first | apply Kd.R_alloc | apply Kd.R_drewN | apply Kd.R_drew)); exact HO644.out), (by (with_reducible repeat (first | apply Kd.R_alloc | apply Kd.R_drewN | apply Kd.R_drew)); exact HO_4.out), ⟨_, rfl⟩, ⟨_, rfl⟩, (by repeat (first | (with_reducible first | exact HI629.out | apply IsS94.alloc | apply IsS94.drewN | apply IsS94.drew | apply IsS94.set_1) | exact HI629.out)), (by repeat (first | (with_reducible first | exact HB.out | apply below_alloc | apply pw_below_drewN | apply below_drew1 | refine below_set ?_ (IsS94.ge HI629.out)) | exact HB.out))⟩)
                      · skip
                        rintro ⟨v639, adz_v639, v643, adz_v643⟩ w26 ⟨h0_, h1_, h2_, h3_, h4_, h5_, h6_⟩
                        have n0_ : Aside0 (Kd.R (Kd.int .i64) 3 w26 w.heap.size (fun k_ => some k_ ≠ (v643 : Value).ownBlock) v639 y638) := ⟨h0_⟩
                        have n1_ : Aside0 (Kd.R (Kd.int .i64) 3 w26 w.heap.size (fun k_ => some k_ ≠ (v639 : Value).ownBlock) v643 y642) := ⟨h1_⟩
                        have n2_ : Aside0 (Kd.R k56 56 w26 w.heap.size (fun _ => True) (.slice Ao17 x4_1.length co17) x4_1) := ⟨h2_⟩
                        have n3_ : Aside0 (∃ c_, (v639 : Value) = .slice (some adz_v639) y638.length c_) := ⟨h3_⟩
                        have n4_ : Aside0 (∃ c_, (v643 : Value) = .slice (some adz_v643) y642.length c_) := ⟨h4_⟩
                        have n5_ : Aside0 (IsS94 w w26 g629 t627 t637) := ⟨h5_⟩
                        have n6_ : Aside0 (Below w.heap.size w w26) := ⟨h6_⟩
                        clear HO_4
                        clear HI629
                        clear HB
                        clear h0_ h1_ h2_ h3_ h4_ h5_ h6_
                        have HO640 := n0_
                        have HO644 := n1_
                        have HO_4 := n2_
                        have HA_HO640 := n3_
                        have HA_HO644 := n4_
                        have HI629 := n5_
                        have HB := n6_
                        clear n0_ n1_ n2_ n3_ n4_ n5_ n6_
                        have hHeld := trivial
                        obtain ⟨co27, eo27⟩ := HA_HO640.out
                        clear HA_HO640
                        subst eo27
                        obtain ⟨co28, eo28⟩ := HA_HO644.out
                        clear HA_HO644
                        subst eo28
                        refine norm_ (a' := ?_) ?_ ?_
                        rotate_left
                        · simp only [putAll, Act.put, List.setIfInBounds_toArray, List.set_cons_zero, List.set_cons_succ]
                          rfl
                        refine one_ (i := 9) (N := some 28) #[true, true, true, true, true, true, true, true, true, true, true, true, true, true, true, false, false, false] rfl rfl (one_of HT_.out (by kernel_rfl)) (by decide) (fun K hK => ?_)
                        (have p641 : 0 ≤ ((ji11) : Int) := of_decide_eq_true (by first | (with_reducible assumption) | assumption); have q641 : (ji11) < (y638.length : Int) := of_decide_eq_true (by first | (with_reducible assumption) | assumption); obtain ⟨ad641, e641, hx641_0⟩ := Kd.at_int (Kd.R_reads' HO640.out).2.2 (ji11) p641 q641; obtain rfl : adz_v639 = ad641 := (by injection e641))
                        refine value_ (w1 := ?_) (v := ?_) (by rfl) rfl ?_ ?_
                        rotate_left 2
                        · go_simp
                          constructor
                          · rfl
                          · rfl
                        clear hx641_0
                        refine hK.out _ _ trivial (fun hHeld => ?_)
                        clear hK K
                        refine norm_ (a' := ?_) ?_ ?_
                        rotate_left
                        · show Act.put _ (some 28) _ = _
                          simp only [Act.put, List.setIfInBounds_toArray, List.set_cons_zero, List.set_cons_succ, i64_w, i32_w]
                          rfl
                        exact norm_ (by first | (simp only [putAll, Act.put, List.setIfInBounds_toArray, List.set_cons_zero, List.set_cons_succ]; done) | (simp only [putAll, Act.put, List.setIfInBounds_toArray, List.set_cons_zero, List.set_cons_succ]; rfl)) (hJ3_5_9_10_14 (.slice (some adz_v639) y638.length co27, adz_v639, .slice (some adz_v643) y642.length co28, adz_v643) _ ⟨(by (with_reducible repeat (first | apply Kd.R_alloc | apply Kd.R_drewN | apply Kd.R_drew)); exact HO640.out), (by (with_reducible repeat (first | apply Kd.R_alloc | apply Kd.R_drewN | apply Kd.R_drew)); exact HO644.out), (by (with_reducible repeat (first | apply Kd.R_alloc | apply Kd.R_drewN | apply Kd.R_drew)); exact HO_4.out), ⟨_, rfl⟩, ⟨_, rfl⟩, (by repeat (first | (with_reducible first | exact HI629.out | apply IsS94.alloc | apply IsS94.drewN | apply IsS94.drew | apply IsS94.set_1) | exact HI629.out)), (by repeat (first | (with_reducible first | exact HB.out | apply below_alloc | apply pw_below_drewN | apply below_drew1 | refine below_set ?_ (IsS94.ge HI629.out)) | exact HB.out))⟩)
                    · skip
                      rintro ⟨v639, adz_v639, v643, adz_v643⟩ w26 ⟨h0_, h1_, h2_, h3_, h4_, h5_, h6_⟩
                      have n0_ : Aside0 (Kd.R (Kd.int .i64) 3 w26 w.heap.size (fun k_ => some k_ ≠ (v643 : Value).ownBlock) v639 y638) := ⟨h0_⟩
                      have n1_ : Aside0 (Kd.R (Kd.int .i64) 3 w26 w.heap.size (fun k_ => some k_ ≠ (v639 : Value).ownBlock) v643 y642) := ⟨h1_⟩
                      have n2_ : Aside0 (Kd.R k56 56 w26 w.heap.size (fun _ => True) (.slice Ao17 x4_1.length co17) x4_1) := ⟨h2_⟩
                      have n3_ : Aside0 (∃ c_, (v639 : Value) = .slice (some adz_v639) y638.length c_) := ⟨h3_⟩
                      have n4_ : Aside0 (∃ c_, (v643 : Value) = .slice (some adz_v643) y642.length c_) := ⟨h4_⟩
                      have n5_ : Aside0 (IsS94 w w26 g629 t627 t637) := ⟨h5_⟩
                      have n6_ : Aside0 (Below w.heap.size w w26) := ⟨h6_⟩
                      clear HO_4
                      clear HI629
                      clear HB
                      clear h0_ h1_ h2_ h3_ h4_ h5_ h6_
                      have HO640 := n0_
                      have HO644 := n1_
                      have HO_4 := n2_
                      have HA_HO640 := n3_
                      have HA_HO644 := n4_
                      have HI629 := n5_
                      have HB := n6_
                      clear n0_ n1_ n2_ n3_ n4_ n5_ n6_
                      have hHeld := trivial
                      obtain ⟨co27, eo27⟩ := HA_HO640.out
                      clear HA_HO640
                      subst eo27
                      obtain ⟨co28, eo28⟩ := HA_HO644.out
                      clear HA_HO644
                      subst eo28
                      refine norm_ (a' := ?_) ?_ ?_
                      rotate_left
                      · simp only [putAll, Act.put, List.setIfInBounds_toArray, List.set_cons_zero, List.set_cons_succ]
                        rfl
                      refine one_ (i := 14) (N := some 33) #[true, true, true, true, true, true, true, true, true, true, true, true, true, true, true, false, false, false] rfl rfl (one_of HT_.out (by kernel_rfl)) (by decide) (fun K hK => ?_)
                      (have p645 : 0 ≤ ((ji11) : Int) := of_decide_eq_true (by first | (with_reducible assumption) | assumption); have q645 : (ji11) < (y642.length : Int) := of_decide_eq_true (by first | (with_reducible assumption) | assumption); obtain ⟨ad645, e645, hx645_0⟩ := Kd.at_int (Kd.R_reads' HO644.out).2.2 (ji11) p645 q645; obtain rfl : adz_v643 = ad645 := (by injection e645))
                      refine value_ (w1 := ?_) (v := ?_) (by rfl) rfl ?_ ?_
                      rotate_left 2
                      · go_simp
                        constructor
                        · rfl
                        · rfl
                      clear hx645_0
                      refine hK.out _ _ trivial (fun hHeld => ?_)
                      clear hK K
                      refine norm_ (a' := ?_) ?_ ?_
                      rotate_left
                      · show Act.put _ (some 33) _ = _
                        simp only [Act.put, List.setIfInBounds_toArray, List.set_cons_zero, List.set_cons_succ, i64_w, i32_w]
                        rfl
                      exact norm_ (by first | (simp only [putAll, Act.put, List.setIfInBounds_toArray, List.set_cons_zero, List.set_cons_succ]; done) | (simp only [putAll, Act.put, List.setIfInBounds_toArray, List.set_cons_zero, List.set_cons_succ]; rfl)) (hJ3_5_9_10_14 (.slice (some adz_v639) y638.length co27, adz_v639, .slice (some adz_v643) y642.length co28, adz_v643) _ ⟨(by (with_reducible repeat (first | apply Kd.R_alloc | apply Kd.R_drewN | apply Kd.R_drew)); exact HO640.out), (by (with_reducible repeat (first | apply Kd.R_alloc | apply Kd.R_drewN | apply Kd.R_drew)); exact HO644.out), (by (with_reducible repeat (first | apply Kd.R_alloc | apply Kd.R_drewN | apply Kd.R_drew)); exact HO_4.out), ⟨_, rfl⟩, ⟨_, rfl⟩, (by repeat (first | (with_reducible first | exact HI629.out | apply IsS94.alloc | apply IsS94.drewN | apply IsS94.drew | apply IsS94.set_1) | exact HI629.out)), (by repeat (first | (with_reducible first | exact HB.out | apply below_alloc | apply pw_below_drewN | apply below_drew1 | refine below_set ?_ (IsS94.ge HI629.out)) | exact HB.out))⟩)
                  rintro ⟨v639, adz_v639, v643, adz_v643⟩ w26 ⟨h0_, h1_, h2_, h3_, h4_, h5_, h6_⟩
                  have n0_ : Aside0 (Kd.R (Kd.int .i64) 3 w26 w.heap.size (fun k_ => some k_ ≠ (v643 : Value).ownBlock) v639 y638) := ⟨h0_⟩
                  have n1_ : Aside0 (Kd.R (Kd.int .i64) 3 w26 w.heap.size (fun k_ => some k_ ≠ (v639 : Value).ownBlock) v643 y642) := ⟨h1_⟩
                  have n2_ : Aside0 (Kd.R k56 56 w26 w.heap.size (fun _ => True) (.slice Ao17 x4_1.length co17) x4_1) := ⟨h2_⟩
                  have n3_ : Aside0 (∃ c_, (v639 : Value) = .slice (some adz_v639) y638.length c_) := ⟨h3_⟩
                  have n4_ : Aside0 (∃ c_, (v643 : Value) = .slice (some adz_v643) y642.length c_) := ⟨h4_⟩
                  have n5_ : Aside0 (IsS94 w w26 g629 t627 t637) := ⟨h5_⟩
                  have n6_ : Aside0 (Below w.heap.size w w26) := ⟨h6_⟩
                  clear HO_4
                  clear HI629
                  clear HB
                  clear h0_ h1_ h2_ h3_ h4_ h5_ h6_
                  have HO640 := n0_
                  have HO644 := n1_
                  have HO_4 := n2_
                  have HA_HO640 := n3_
                  have HA_HO644 := n4_
                  have HI629 := n5_
                  have HB := n6_
                  clear n0_ n1_ n2_ n3_ n4_ n5_ n6_
                  have hHeld := trivial
                  obtain ⟨co27, eo27⟩ := HA_HO640.out
                  clear HA_HO640
                  subst eo27
                  obtain ⟨co28, eo28⟩ := HA_HO644.out
                  clear HA_HO644
                  subst eo28
                  have p16 : 0 ≤ (x5_1 : Int) := of_decide_eq_true (by first | (with_reducible assumption) | assumption)
                  have q16 : (x5_1 : Int) < ((x4_1.length : Int) : Int) := of_decide_eq_true (by first | (with_reducible assumption) | assumption)
                  obtain ⟨go16, co16, eo16, gb16, gl16, cl16, HG16⟩ := Kd.R_form HO_4.out (by omega)
                  (first | cases eo16 | (injection eo16 with ea_ en_ ec_; (first | subst ea_ | (injection ea_ with ea_; subst ea_)); subst ec_; clear en_))
                  have GB16 := Aside0.mk gb16
                  have GG16 := Aside0.mk HG16
                  clear gb16 gl16 HG16
                  obtain ⟨ce16, hcl16, hM16, hcc16, hfr16⟩ := Kd.R_elem HO_4.out z56 (x5_1 : Int) p16 q16
                  obtain rfl := k56_openM hM16
                  have hx16_0 : World.cell? _ ⟨go16, (x5_1 : Int).toNat * 3, none⟩ = some (.int .i64 ((rd_T56 x4_1 x5_1).f0)) := hcc16 0 _ rfl
                  have hx16_1 : World.cell? _ ⟨go16, (x5_1 : Int).toNat * 3 + 1, none⟩ = some (.int .i64 ((rd_T56 x4_1 x5_1).f1)) := hcc16 1 _ rfl
                  have hx16_2 : World.cell? _ ⟨go16, (x5_1 : Int).toNat * 3 + 2, none⟩ = some (.int .i64 ((rd_T56 x4_1 x5_1).f2)) := hcc16 2 _ rfl
                  have hf16_0 : World.frozen? _ ⟨go16, (x5_1 : Int).toNat * 3, none⟩ = false := hfr16 0
                  have hf16_1 : World.frozen? _ ⟨go16, (x5_1 : Int).toNat * 3 + 1, none⟩ = false := hfr16 1
                  have hf16_2 : World.frozen? _ ⟨go16, (x5_1 : Int).toNat * 3 + 2, none⟩ = false := hfr16 2
                  clear hcl16 hcc16 hfr16 hM16
                  replace p16 := eq_true p16
                  replace q16 := eq_true q16
                  have HN629_go16 := Aside0.mk (show g629 ≠ go16 from by have h_ := IsS94.own_ne HI629.out HO_4.out (by decide); intro e_; exact h_ (by rw [e_]; rfl))
                  obtain ⟨ce29, hcl29, hM29, hcc29, hfr29⟩ := Kd.R_elem HO_4.out z56 (x5_1 : Int) (of_decide_eq_true (by first | (with_reducible assumption) | assumption)) (by have h_ : (x5_1 : Int) < ((x4_1.length : Int) : Int) := of_decide_eq_true (by first | (with_reducible assumption) | assumption); first | exact h_ | (have e_ := (Kd.R_reads' HO_4.out).1; omega) | simpa using h_)
                  obtain rfl := k56_openM hM29
                  have HP29 := (Kd.R_seg HO_4.out (x5_1 : Int) (of_decide_eq_true (by first | (with_reducible assumption) | assumption)) (by have h_ : (x5_1 : Int) < ((x4_1.length : Int) : Int) := of_decide_eq_true (by first | (with_reducible assumption) | assumption); first | exact h_ | (have e_ := (Kd.R_reads' HO_4.out).1; omega) | simpa using h_) (seg := [.int .i64 (wrap64 (1 + t636)), .int .i64 (rd y638 (ji11)), .int .i64 (rd y642 (ji11))]) (j := 0) hcl29 hcc29 (show 3 ≤ 3 from by decide) (x' := (⟨wrap64 (1 + t636), rd y638 (ji11), rd y642 (ji11)⟩ : S56)) (k56_mkM _ _ _ (⟨wrap64 (1 + t636), rd y638 (ji11), rd y642 (ji11)⟩ : S56) ) (fun _ hk => hk)).1
                  rw [← Ny646.out] at HP29
                  have HQ29 := Aside0.mk HP29
                  clear hcl29 hcc29 hfr29 hM29 HP29
                  refine norm_ (a' := ?_) ?_ ?_
                  rotate_left
                  · simp only [putAll, Act.put, List.setIfInBounds_toArray, List.set_cons_zero, List.set_cons_succ]
                    rfl
                  refine pure_ (i := 15) (N := some 34) (v := ?_) (a' := ?_) #[true, true, true, true, true, true, true, true, true, true, true, true, true, true, true, true, false, false] rfl rfl (any_of HT_.out (by kernel_rfl)) (fun _ _ _ h => h) (Or.inl ⟨by rfl, ?_⟩) ?_ ?_
                  rotate_left
                  · intro w'
                    go_simp
                    with_reducible rfl
                  rotate_left
                  · simp only [Act.put, List.setIfInBounds_toArray, List.set_cons_zero, List.set_cons_succ, i64_w, i32_w]
                    rfl
                  refine pure_ (i := 16) (N := some 35) (v := ?_) (a' := ?_) #[true, true, true, true, true, true, true, true, true, true, true, true, true, true, true, true, true, false] rfl rfl (any_of HT_.out (by kernel_rfl)) (fun _ _ _ h => h) (Or.inl ⟨by rfl, ?_⟩) ?_ ?_
                  rotate_left
                  · intro w'
                    go_simp
                    with_reducible rfl
                  rotate_left
                  · simp only [Act.put, List.setIfInBounds_toArray, List.set_cons_zero, List.set_cons_succ, i64_w, i32_w]
                    rfl
                  refine last_ (i := 17) (N := none) #[true, true, true, true, true, true, true, true, true, true, true, true, true, true, true, true, true, true] rfl rfl (one_of HT_.out (by kernel_rfl)) (by decide) (fun K hK => ?_)
                  refine skip_ (w1 := ?_) (by rfl) rfl ?_ ?_
                  rotate_left
                  · go_simp
                    rfl
                  refine hK.out _ _ ?_
                  clear hK K
                  refine done_ (done_of HT_.out (by kernel_rfl)) ?_
                  try go_wp2
                  go_roundg k1
                  case measure => have := HK1.out; omega
                  case rel => exact ⟨(y646), (wrap64 (x5_1 + 1)), (t637), (by first | rfl | (simp; done) | (simp [*]; done)), H', ⟨by have := HK1.out; omega⟩, ⟨by (with_reducible repeat (first | apply Kd.R_alloc | apply Kd.R_drewN | apply Kd.R_drew)); exact HQ29.out⟩, ⟨by repeat (first | (with_reducible first | exact HI629.out | apply IsS94.alloc | apply IsS94.drewN | apply IsS94.drew | apply IsS94.set_1 | refine IsS94.far ?_ HN629_go16.out _ | refine IsS94.far ?_ HN629_go16.out _ | refine IsS94.far ?_ HN629_go16.out _) | exact HI629.out)⟩, ⟨by repeat (first | (with_reducible first | exact HB.out | apply below_alloc | apply pw_below_drewN | apply below_drew1 | refine below_set ?_ GB16.out | refine below_set ?_ GB16.out | refine below_set ?_ GB16.out | refine below_set ?_ (IsS94.ge HI629.out)) | exact HB.out)⟩⟩
                · rw [if_neg c15] at H
                  exact absurd H (by simp)
              · rw [if_neg c14] at H
                exact absurd H (by simp)
            · rw [if_neg c13] at H
              exact absurd H (by simp)
          · rw [if_neg c12] at H
            exact absurd H (by simp)
        · rw [if_neg c9] at H
          have c9b0 : decide (x5_1 < (x4_1.length : Int)) = false := decide_eq_false c9
          clear c9
          obtain rfl := Option.some.inj H
          obtain ⟨Ao30, co30, eo30⟩ := Kd.R_slice HO_4.out
          subst eo30
          go_wp2
          go_ret
          exact ⟨_, by first | rfl | (simp [errW_none, errW_some] <;> rfl) | (simp [*, errW_none, errW_some] <;> rfl), by (with_reducible repeat (first | apply Kd.R_alloc | apply Kd.R_drewN | apply Kd.R_drew)); exact HO_4.out, by repeat (first | (with_reducible first | exact HB.out | apply below_alloc | apply pw_below_drewN | apply below_drew1 | refine below_set ?_ (IsS94.ge HI629.out)) | exact HB.out)⟩
  · rw [if_neg c5] at H
    have c5b0 : (t634 == 0) = false := beq_eq_false_iff_ne.mpr c5
    have c5b1 : (t634 != 0) = true := bne_iff_ne.mpr c5
    obtain rfl := Option.some.inj H
    go_enter Try.func44, Try.ntmps44
    go_wp2_with (first | ((with_reducible refine gate_callee (f := 60) rfl ?_); refine goesL_ (some 7) rfl rfl Try.func60 (by kernel_rfl) rfl #[.slice A0 l0.length c0] rfl (by (try simp only [List.map_toArray, List.map_cons, List.map_nil]); first | done | rfl | (simp only [List.length_drop, List.length_take]; rfl)) ?_; (with_reducible refine (spec_l20Open.calls _ _ l0 t627 t628 w _ ?side1 ?side2 ?side3 A2.out).mono ?_); (case side1 => repeat (first | (with_reducible first | exact HB.out | apply below_alloc | apply pw_below_drewN | apply below_drew1) | exact HB.out)); (case side2 => exact HR0.out); (case side3 => exact HC0.out); rintro e w31 ⟨g629, rfl, hi, hb, hb2⟩; refine ⟨_, rfl, ?_⟩; have n0_ := Aside0.mk (hb); have n1_ := Aside0.mk (hi); clear HB; have HB := n0_; have HI629 := n1_; clear n0_ n1_; (try clear hb); (try clear hb2); (try clear hk); (try clear hi)) | ((with_reducible refine gate_callee (f := 76) rfl ?_); refine goesL_ (some 9) rfl rfl Try.func76 (by kernel_rfl) rfl #[.pointer (some ⟨g629, 0, none⟩), .int .i64 12] rfl (by (try simp only [List.map_toArray, List.map_cons, List.map_nil]); first | done | rfl | (simp only [List.length_drop, List.length_take]; rfl)) ?_; (with_reducible refine (spec_l20Set.calls k g629 t627 t628 12 t630 t633 w _ ?side1 ?side2 A3.out).mono ?_); (case side1 => repeat (first | (with_reducible first | exact HI629.out | apply IsS94.alloc | apply IsS94.drewN | apply IsS94.drew | apply IsS94.set_1) | exact HI629.out)); (case side2 => repeat (first | (with_reducible first | exact HB.out | apply below_alloc | apply pw_below_drewN | apply below_drew1 | refine below_set ?_ (IsS94.ge HI629.out)) | exact HB.out)); rintro e w32 ⟨v631, rfl, ho0, hi, hb, hk⟩; refine ⟨_, rfl, ?_⟩; have n0_ := Aside0.mk (Kd.R_lower ho0 (below_size (by repeat (first | (with_reducible first | exact HB.out | apply below_alloc | apply pw_below_drewN | apply below_drew1 | refine below_set ?_ (IsS94.ge HI629.out)) | exact HB.out)))); have n1_ := Aside0.mk (hb); have n2_ := Aside0.mk (hi); clear HB; clear HI629; have HO632 := n0_; have HB := n1_; have HI629 := n2_; clear n0_ n1_ n2_; (try clear hb); (try clear hb2); (try clear hk); (try clear hi); (try clear ho0)) | ((with_reducible refine gate_callee (f := 61) rfl ?_); refine goesL_ (some 11) rfl rfl Try.func61 (by kernel_rfl) rfl #[.pointer (some ⟨g629, 0, none⟩), .int .i64 2] rfl (by (try simp only [List.map_toArray, List.map_cons, List.map_nil]); first | done | rfl | (simp only [List.length_drop, List.length_take]; rfl)) ?_; (with_reducible refine (spec_l20Rd_pick.calls k g629 t627 t633 2 t634 t635 w _ ?side1 ?side2 A4.out).mono ?_); (case side1 => repeat (first | (with_reducible first | exact HI629.out | apply IsS94.alloc | apply IsS94.drewN | apply IsS94.drew | apply IsS94.set_1) | exact HI629.out)); (case side2 => repeat (first | (with_reducible first | exact HB.out | apply below_alloc | apply pw_below_drewN | apply below_drew1 | refine below_set ?_ (IsS94.ge HI629.out)) | exact HB.out)); rintro e w33 ⟨rfl, hi, hb, hk⟩; refine ⟨_, rfl, ?_⟩; have n0_ := Aside0.mk (Kd.R_mono (Kd.R_keep (IsS94.apart (show IsS94 w _ g629 t627 t633 from by repeat (first | (with_reducible first | exact HI629.out | apply IsS94.alloc | apply IsS94.drewN | apply IsS94.drew | apply IsS94.set_1) | exact HI629.out)) (by (with_reducible repeat (first | apply Kd.R_alloc | apply Kd.R_drewN | apply Kd.R_drew)); exact HO632.out) (by decide)) hk (fun _ h => h.2)) (fun _ h => h.1)); have n1_ := Aside0.mk (hb); have n2_ := Aside0.mk (hi); clear HO632; clear HB; clear HI629; have HO632 := n0_; have HB := n1_; have HI629 := n2_; clear n0_ n1_ n2_; (try clear hb); (try clear hb2); (try clear hk); (try clear hi)))
    go_ret
    exact ⟨_, by first | rfl | (simp [errW_none, errW_some] <;> rfl) | (simp [*, errW_none, errW_some] <;> rfl), by (with_reducible repeat (first | apply Kd.R_alloc | apply Kd.R_drewN | apply Kd.R_drew)); exact HO632.out, by repeat (first | (with_reducible first | exact HB.out | apply below_alloc | apply pw_below_drewN | apply below_drew1 | refine below_set ?_ (IsS94.ge HI629.out)) | exact HB.out)⟩

end Go.Proofs.Ytgcjadhmkhpbnaa.P
