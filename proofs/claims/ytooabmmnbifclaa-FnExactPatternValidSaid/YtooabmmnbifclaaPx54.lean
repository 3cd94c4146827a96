-- Laid by a program of this work.
import Derived.Test.YtooabmmnbifclaaPx0
import Derived.Test.YtooabmmnbifclaaPx14
namespace Go.Proofs.Ytooabmmnbifclaa.P
open Go.RowKit Go.Proofs.YtooabmmnbifclaaW.PrintWords Go.Proofs.YtooabmmnbifclaaW.PrintLast Go.Proofs.YtooabmmnbifclaaW.PrintMore
attribute [local go_sem] max2_int min2_int max_two min_two max_three min_three max_four min_four   -- for this text's walks alone
set_option linter.unusedVariables false
set_option linter.unusedSimpArgs false

/-! ### impl_PatternValid: function 44 -/
mutual
def impl_PatternValid.j0 : Nat → List Bool → Bool → Int → Int → Option (Bool)
  | 0, _, _, _, _ => none
  | k + 1, x1, x16, x450000, x450001 => if x16 = true then (some false) else (impl_PatternValid.l0 k x1 0 x450000 x450001)
def impl_PatternValid.l0 : Nat → List Bool → Int → Int → Int → Option (Bool)
  | 0, _, _, _, _ => none
  | k + 1, x1, x5, x450000, x450001 => if (wrap64 (x5 + x450001)) ≤ 120 then (if 0 ≤ x5 then (if x5 ≤ (wrap64 (x5 + x450001)) then (if (wrap64 (x5 + x450001)) ≤ (x1.length : Int) then (impl_PatternValid.l1 k x1 x5 0 ((x1.take ((wrap64 (x5 + x450001)) : Int).toNat).drop (x5 : Int).toNat) (((x1.take ((wrap64 (x5 + x450001)) : Int).toNat).drop (x5 : Int).toNat).length : Int) 0 x450000 x450001) else (none)) else (none)) else (none)) else (some true)
def impl_PatternValid.l1 : Nat → List Bool → Int → Int → List Bool → Int → Int → Int → Int → Option (Bool)
  | 0, _, _, _, _, _, _, _, _ => none
  | k + 1, x1, x5, x6, x32, x33, x34, x450000, x450001 => if x34 < x33 then (if 0 ≤ x34 then (if x34 < (x32.length : Int) then (if rdOf false x32 x34 = true then (impl_PatternValid.l1 k x1 x5 (wrap64 (x6 + 1)) x32 x33 (wrap64 (x34 + 1)) x450000 x450001) else (impl_PatternValid.l1 k x1 x5 x6 x32 x33 (wrap64 (x34 + 1)) x450000 x450001)) else (none)) else (none)) else (if x6 = x450000 then (impl_PatternValid.l0 k x1 (wrap64 (x5 + x450001)) x450000 x450001) else (some false))
end
def impl_PatternValid.f (k : Nat) (a0_0 : Int) (a0_1 : Int) (l1 : List Bool) : Option (Bool) := (impl_SupplyValid.f a0_0 a0_1).bind fun t450 => (if t450 = true then (impl_PatternValid.j0 k l1 ((l1.length : Int) != 120) a0_0 a0_1) else (impl_PatternValid.j0 k l1 true a0_0 a0_1))
theorem impl_PatternValid.mono_l : ∀ k, (∀ y0 y1 y2 y3, LeO (impl_PatternValid.j0 k y0 y1 y2 y3) (impl_PatternValid.j0 (k + 1) y0 y1 y2 y3)) ∧ (∀ y0 y1 y2 y3, LeO (impl_PatternValid.l0 k y0 y1 y2 y3) (impl_PatternValid.l0 (k + 1) y0 y1 y2 y3)) ∧ (∀ y0 y1 y2 y3 y4 y5 y6 y7, LeO (impl_PatternValid.l1 k y0 y1 y2 y3 y4 y5 y6 y7) (impl_PatternValid.l1 (k + 1) y0 y1 y2 y3 y4 y5 y6 y7))
  | 0 => ⟨fun _ _ _ _ r h => by simp [impl_PatternValid.j0] at h, fun _ _ _ _ r h => by simp [impl_PatternValid.l0] at h, fun _ _ _ _ _ _ _ _ r h => by simp [impl_PatternValid.l1] at h⟩
  | k + 1 => by
    obtain ⟨ih0, ih1, ih2⟩ := impl_PatternValid.mono_l k
    refine ⟨?_, ?_, ?_⟩
    · intro y0 y1 y2 y3
      unfold impl_PatternValid.j0
      repeat' first
      | (with_reducible exact ih0 _ _ _ _)
      | (with_reducible exact ih1 _ _ _ _)
      | (with_reducible exact ih2 _ _ _ _ _ _ _ _)
      | (with_reducible exact LeO.refl _)
      | (with_reducible exact LeO.none _)
      | (with_reducible refine LeO.ite ?_ ?_)
      | (with_reducible refine LeO.bind ?_ (fun _ => ?_))
      | exact ih0 _ _ _ _
      | exact ih1 _ _ _ _
      | exact ih2 _ _ _ _ _ _ _ _
      | exact LeO.none _
      | refine LeO.ite ?_ ?_
      | refine LeO.bind ?_ (fun _ => ?_)
    · intro y0 y1 y2 y3
      unfold impl_PatternValid.l0
      repeat' first
      | (with_reducible exact ih0 _ _ _ _)
      | (with_reducible exact ih1 _ _ _ _)
      | (with_reducible exact ih2 _ _ _ _ _ _ _ _)
      | (with_reducible exact LeO.refl _)
      | (with_reducible exact LeO.none _)
      | (with_reducible refine LeO.ite ?_ ?_)
      | (with_reducible refine LeO.bind ?_ (fun _ => ?_))
      | exact ih0 _ _ _ _
      | exact ih1 _ _ _ _
      | exact ih2 _ _ _ _ _ _ _ _
      | exact LeO.none _
      | refine LeO.ite ?_ ?_
      | refine LeO.bind ?_ (fun _ => ?_)
    · intro y0 y1 y2 y3 y4 y5 y6 y7
      unfold impl_PatternValid.l1
      repeat' first
      | (with_reducible exact ih0 _ _ _ _)
      | (with_reducible exact ih1 _ _ _ _)
      | (with_reducible exact ih2 _ _ _ _ _ _ _ _)
      | (with_reducible exact LeO.refl _)
      | (with_reducible exact LeO.none _)
      | (with_reducible refine LeO.ite ?_ ?_)
      | (with_reducible refine LeO.bind ?_ (fun _ => ?_))
      | exact ih0 _ _ _ _
      | exact ih1 _ _ _ _
      | exact ih2 _ _ _ _ _ _ _ _
      | exact LeO.none _
      | refine LeO.ite ?_ ?_
      | refine LeO.bind ?_ (fun _ => ?_)
theorem impl_PatternValid.mono : ∀ a0 a1 a2 k, LeO (impl_PatternValid.f k a0 a1 a2) (impl_PatternValid.f (k + 1) a0 a1 a2) := by
  intro a0 a1 a2 k
  obtain ⟨ih0, ih1, ih2⟩ := impl_PatternValid.mono_l k
  unfold impl_PatternValid.f
  repeat' first
      | (with_reducible exact ih0 _ _ _ _)
      | (with_reducible exact ih1 _ _ _ _)
      | (with_reducible exact ih2 _ _ _ _ _ _ _ _)
      | (with_reducible exact LeO.refl _)
      | (with_reducible exact LeO.none _)
      | (with_reducible refine LeO.ite ?_ ?_)
      | (with_reducible refine LeO.bind ?_ (fun _ => ?_))
      | exact ih0 _ _ _ _
      | exact ih1 _ _ _ _
      | exact ih2 _ _ _ _ _ _ _ _
      | exact LeO.none _
      | refine LeO.ite ?_ ?_
      | refine LeO.bind ?_ (fun _ => ?_)
set_option maxHeartbeats 8000000 in
set_option maxRecDepth 100000 in
theorem impl_PatternValid.calls (k : Nat) (a0_0 : Int) (a0_1 : Int) (A1 : Option Addr) (c1 : Nat) (l1 : List Bool) (r : Bool) (w : World) (hr1 : Kd.C Kd.bool w A1 l1.length l1) (hc1 : l1.length ≤ c1) (h : impl_PatternValid.f k a0_0 a0_1 l1 = some r) :
    Calls Try.prog 44 #[.agg #[.int .i64 a0_0, .int .i64 a0_1], .slice A1 l1.length c1] w fun e w' => e = .returned (.bool r) ∧ Below w.heap.size w w' := by
  have hu37 := Try.underlying37
  have HR1 := Aside0.mk hr1
  have HC1 := Aside0.mk hc1
  clear hr1 hc1
  have HB := Aside0.mk (Below.refl w.heap.size w)
  have H : ((impl_SupplyValid.f a0_0 a0_1).bind fun t450 => (if t450 = true then (impl_PatternValid.j0 k l1 ((l1.length : Int) != 120) a0_0 a0_1) else (impl_PatternValid.j0 k l1 true a0_0 a0_1))) = some r := h
  clear h
  have HC3 := Aside0.mk H
  clear H
  go_enter Try.func44, Try.ntmps44
  go_upto_region 1 with (first | ((with_reducible refine gate_dst (N := 2) rfl ?_); (try (refine gate_guard (by rfl) ?_; dsimp only)); refine box_event ?hg (N := 2) ?hd (cs := #[.int .i64 a0_0, .int .i64 a0_1]) (t := 37) ?hr ?_; (case hd => rfl); (case hg => rfl); (case hr => first | (go_simp; done) | (go_simp; rfl)); intro gb449 hg w4 hbox hb; have n0_ := Aside0.mk (below_step (by repeat (first | (with_reducible first | exact HB.out | apply below_alloc | apply pw_below_drewN | apply below_drew1) | exact HB.out)) hb); have n1_ := Aside0.mk (hbox); have n2_ := Aside0.mk ((by rw [hg]; exact (below_size (by repeat (first | (with_reducible first | exact HB.out | apply below_alloc | apply pw_below_drewN | apply below_drew1) | exact HB.out))) : w.heap.size ≤ gb449)); have n3_ := Aside0.mk ((by rw [hg]; exact (below_size (by repeat (first | (with_reducible first | exact HB.out | apply below_alloc | apply pw_below_drewN | apply below_drew1) | exact HB.out))) : w.heap.size ≤ gb449)); clear HB; have HB := n0_; have BK449 := n1_; have GW449 := n2_; have GE449 := n3_; clear n0_ n1_ n2_ n3_; clear hb hbox hg))
  (try simp only [Act.put, List.setIfInBounds_toArray, List.set_cons_zero, List.set_cons_succ])
  go_cut [16] (fun v16 wc => ∃ (kq : Nat) (x16_2 : Bool), v16 = .bool x16_2 ∧ Aside0 (impl_PatternValid.j0 kq l1 x16_2 a0_0 a0_1 = some r) ∧ Aside0 (kq ≤ k) ∧ Aside0 (wc.heap[gb449]? = some (.cells #[.int .i64 a0_0, .int .i64 a0_1] 37 (0, 0))) ∧ Aside0 (Below w.heap.size w wc))
  case first =>
    have H := HC3.out
    clear HC3
    replace H := Option.bind_eq_some_iff.mp H
    obtain ⟨t450, A50, H⟩ := H
    replace H : (if t450 = true then (impl_PatternValid.j0 k l1 ((l1.length : Int) != 120) a0_0 a0_1) else (impl_PatternValid.j0 k l1 true a0_0 a0_1)) = some r := H
    have A5 := Aside0.mk A50
    clear A50
    by_cases c6 : t450 = true
    · subst c6
      have H1 : (impl_PatternValid.j0 k l1 ((l1.length : Int) != 120) a0_0 a0_1) = some r := by rw [if_pos rfl] at H; exact H
      clear H
      have H := H1
      clear H1
      have H' := Aside0.mk H
      clear H
      have hcz7_0 : w4.cell? ⟨gb449, 0, none⟩ = some (.int .i64 a0_0) := (blk_cell BK449.out 0).trans rfl
      have hcz7_1 : w4.cell? ⟨gb449, 1, none⟩ = some (.int .i64 a0_1) := (blk_cell BK449.out 1).trans rfl
      have hfz7_0 := blk_frozen BK449.out 0
      have hfz7_1 := blk_frozen BK449.out 1
      go_wp2_with (first | ((with_reducible refine gate_callee (f := 25) rfl ?_); refine goesL_ (some 10) rfl rfl Try.func25 (by kernel_rfl) rfl #[.agg #[.int .i64 a0_0, .int .i64 a0_1]] rfl (by (try simp only [List.map_toArray, List.map_cons, List.map_nil]); first | done | rfl | (simp only [List.length_drop, List.length_take]; rfl)) ?_; (with_reducible refine (impl_SupplyValid.calls a0_0 a0_1 true _ A5.out).mono ?_); rintro e w8 ⟨rfl, hb⟩; refine ⟨_, rfl, ?_⟩; have n0_ := Aside0.mk (blk_below (g := gb449) (o := .cells #[.int .i64 a0_0, .int .i64 a0_1] 37 (0, 0)) (by (with_reducible repeat (first | refine blk_drewN ?_ _ | refine blk_drew ?_ | refine blk_alloc ?_ _)); exact BK449.out) hb); have n1_ := Aside0.mk (below_step (by repeat (first | (with_reducible first | exact HB.out | apply below_alloc | apply pw_below_drewN | apply below_drew1 | refine below_set ?_ GE449.out) | exact HB.out)) hb); clear BK449; clear HB; have BK449 := n0_; have HB := n1_; clear n0_ n1_; (try clear hb); (try clear hb2); (try clear hk); (try clear hi)))
      go_meet
      case rel => exact ⟨_, (((l1.length : Int) != 120)), (by first | rfl | (simp; done) | (simp [*]; done)), H', ⟨by first | omega | exact Nat.le_refl _⟩, ⟨by (with_reducible repeat (first | refine blk_drewN ?_ _ | refine blk_drew ?_ | refine blk_alloc ?_ _)); exact BK449.out⟩, ⟨by repeat (first | (with_reducible first | exact HB.out | apply below_alloc | apply pw_below_drewN | apply below_drew1 | refine below_set ?_ GE449.out) | exact HB.out)⟩⟩
    · replace c6 := Bool.eq_false_iff.mpr c6
      subst c6
      have H1 : (impl_PatternValid.j0 k l1 true a0_0 a0_1) = some r := by rw [if_neg (show ¬ (false = true) by decide)] at H; exact H
      clear H
      have H := H1
      clear H1
      have H' := Aside0.mk H
      clear H
      have hcz9_0 : w4.cell? ⟨gb449, 0, none⟩ = some (.int .i64 a0_0) := (blk_cell BK449.out 0).trans rfl
      have hcz9_1 : w4.cell? ⟨gb449, 1, none⟩ = some (.int .i64 a0_1) := (blk_cell BK449.out 1).trans rfl
      have hfz9_0 := blk_frozen BK449.out 0
      have hfz9_1 := blk_frozen BK449.out 1
      go_wp2_with (first | ((with_reducible refine gate_callee (f := 25) rfl ?_); refine goesL_ (some 10) rfl rfl Try.func25 (by kernel_rfl) rfl #[.agg #[.int .i64 a0_0, .int .i64 a0_1]] rfl (by (try simp only [List.map_toArray, List.map_cons, List.map_nil]); first | done | rfl | (simp only [List.length_drop, List.length_take]; rfl)) ?_; (with_reducible refine (impl_SupplyValid.calls a0_0 a0_1 false _ A5.out).mono ?_); rintro e w10 ⟨rfl, hb⟩; refine ⟨_, rfl, ?_⟩; have n0_ := Aside0.mk (blk_below (g := gb449) (o := .cells #[.int .i64 a0_0, .int .i64 a0_1] 37 (0, 0)) (by (with_reducible repeat (first | refine blk_drewN ?_ _ | refine blk_drew ?_ | refine blk_alloc ?_ _)); exact BK449.out) hb); have n1_ := Aside0.mk (below_step (by repeat (first | (with_reducible first | exact HB.out | apply below_alloc | apply pw_below_drewN | apply below_drew1 | refine below_set ?_ GE449.out) | exact HB.out)) hb); clear BK449; clear HB; have BK449 := n0_; have HB := n1_; clear n0_ n1_; (try clear hb); (try clear hb2); (try clear hk); (try clear hi)))
      go_meet
      case rel => exact ⟨_, (true), (by first | rfl | (simp; done) | (simp [*]; done)), H', ⟨by first | omega | exact Nat.le_refl _⟩, ⟨by (with_reducible repeat (first | refine blk_drewN ?_ _ | refine blk_drew ?_ | refine blk_alloc ?_ _)); exact BK449.out⟩, ⟨by repeat (first | (with_reducible first | exact HB.out | apply below_alloc | apply pw_below_drewN | apply below_drew1 | refine below_set ?_ GE449.out) | exact HB.out)⟩⟩
  case rest =>
    clear HC3
    try clear c1
    try clear c2
    try clear p2
    try clear c4
    try clear c6
    try clear hcz7_0
    try clear hcz7_1
    try clear hcz9_0
    try clear hcz9_1
    try clear hfz7_0
    try clear hfz7_1
    try clear hfz9_0
    try clear hfz9_1
    obtain ⟨kq, x16_2, rfl, HA, HJ2, BK449, HB⟩ := hcut
    cases kq with
    | zero => exact absurd HA.out (by simp [impl_PatternValid.j0])
    | succ kj2 =>
      have H := HA.out
      clear HA
      simp only [impl_PatternValid.j0] at H
      by_cases c11 : x16_2 = true
      · subst c11
        have H1 : (some false) = some r := by rw [if_pos rfl] at H; exact H
        clear H
        have H := H1
        clear H1
        obtain rfl := Option.some.inj H
        go_wp2
        go_ret
        exact ⟨by first | rfl | (simp [errW_none, errW_some] <;> rfl) | (simp [*, errW_none, errW_some] <;> rfl), by repeat (first | (with_reducible first | exact HB.out | apply below_alloc | apply pw_below_drewN | apply below_drew1 | refine below_set ?_ GE449.out) | exact HB.out)⟩
      · replace c11 := Bool.eq_false_iff.mpr c11
        subst c11
        have H1 : (impl_PatternValid.l0 kj2 l1 0 a0_0 a0_1) = some r := by rw [if_neg (show ¬ (false = true) by decide)] at H; exact H
        clear H
        have H := H1
        clear H1
        have H' := Aside0.mk H
        clear H
        go_wp2
        go_loopg [5] kj2 (fun kq v5 w' => ∃ (x5_2 : Int), v5 = .int .i64 x5_2 ∧ Aside0 (impl_PatternValid.l0 kq l1 x5_2 a0_0 a0_1 = some r) ∧ Aside0 (kq ≤ kj2) ∧ Aside0 (w'.heap[gb449]? = some (.cells #[.int .i64 a0_0, .int .i64 a0_1] 37 (0, 0))) ∧ Aside0 (Below w.heap.size w w'))
        case atStart => exact ⟨(0), (by first | rfl | (simp; done) | (simp [*]; done)), H', ⟨Nat.le_refl _⟩, ⟨by (with_reducible repeat (first | refine blk_drewN ?_ _ | refine blk_drew ?_ | refine blk_alloc ?_ _)); exact BK449.out⟩, ⟨by repeat (first | (with_reducible first | exact HB.out | apply below_alloc | apply pw_below_drewN | apply below_drew1 | refine below_set ?_ GE449.out) | exact HB.out)⟩⟩
        case round =>
          clear H'
          try clear c1
          try clear c2
          try clear p2
          try clear c4
          try clear c6
          try clear c11
          try clear hcz7_0
          try clear hcz7_1
          try clear hcz9_0
          try clear hcz9_1
          try clear hfz7_0
          try clear hfz7_1
          try clear hfz9_0
          try clear hfz9_1
          try clear p2
          obtain ⟨x5_2, rfl, HA, HK2, BK449, HB⟩ := hrel
          cases gk with
          | zero => exact absurd HA.out (by simp [impl_PatternValid.l0])
          | succ k2 =>
            have H := HA.out
            clear HA
            simp only [impl_PatternValid.l0] at H
            by_cases c12 : (wrap64 (x5_2 + a0_1)) ≤ 120
            · rw [if_pos c12] at H
              have c12b0 : decide ((wrap64 (x5_2 + a0_1)) ≤ 120) = true := decide_eq_true c12
              clear c12
              by_cases c13 : 0 ≤ x5_2
              · rw [if_pos c13] at H
                have c13b0 := eq_true c13
                have c13b1 : decide (0 ≤ x5_2) = true := decide_eq_true c13
                clear c13
                by_cases c14 : x5_2 ≤ (wrap64 (x5_2 + a0_1))
                · rw [if_pos c14] at H
                  have c14b0 := eq_true c14
                  have c14b1 : decide (x5_2 ≤ (wrap64 (x5_2 + a0_1))) = true := decide_eq_true c14
                  by_cases c15 : (wrap64 (x5_2 + a0_1)) ≤ (l1.length : Int)
                  · rw [if_pos c15] at H
                    have c15b0 := eq_true c15
                    have c15b1 : decide ((wrap64 (x5_2 + a0_1)) ≤ (l1.length : Int)) = true := decide_eq_true c15
                    have HLEN := Aside0.mk (show ((l1.take ((wrap64 (x5_2 + a0_1)) : Int).toNat).drop (x5_2 : Int).toNat).length = ((wrap64 (x5_2 + a0_1)) : Int).toNat - (x5_2 : Int).toNat by rw [List.length_drop, List.length_take]; have := c15; omega)
                    have H' := Aside0.mk H
                    clear H
                    have hcz16_0 : wr.cell? ⟨gb449, 0, none⟩ = some (.int .i64 a0_0) := (blk_cell BK449.out 0).trans rfl
                    have hcz16_1 : wr.cell? ⟨gb449, 1, none⟩ = some (.int .i64 a0_1) := (blk_cell BK449.out 1).trans rfl
                    have hfz16_0 := blk_frozen BK449.out 0
                    have hfz16_1 := blk_frozen BK449.out 1
                    obtain ⟨i017, hi017, _, hsz17, _⟩ := info_parts info4
                    obtain ⟨A17, hcut17, hA17, hC17⟩ := print_mid_of (P := Try.prog) Value.bool false 60 4 .i64 .i64 Try.underlying60 hi017 hsz17 A1 c1 l1 x5_2 (wrap64 (x5_2 + a0_1)) (of_decide_eq_true (by first | (with_reducible assumption) | assumption)) (by first | omega | exact of_decide_eq_true (by first | (with_reducible assumption) | assumption)) (of_decide_eq_true (by first | (with_reducible assumption) | assumption)) HC1.out
                    have HR451 := Aside0.mk (Kd.C_of_reads (h1 := fun _ => rfl) (hA17 _ (Kd.reads_of_C HR1.out)))
                    have HC451 := Aside0.mk hC17
                    clear hA17 hC17 hi017 hsz17
                    go_wp2
                    go_loopg [6, 34] k2 (fun kq v6 v34 w' => ∃ (x6_3 : Int) (x34_3 : Int), v6 = .int .i64 x6_3 ∧ v34 = .int .i64 x34_3 ∧ Aside0 (impl_PatternValid.l1 kq l1 x5_2 x6_3 ((l1.take ((wrap64 (x5_2 + a0_1)) : Int).toNat).drop (x5_2 : Int).toNat) (((l1.take ((wrap64 (x5_2 + a0_1)) : Int).toNat).drop (x5_2 : Int).toNat).length : Int) x34_3 a0_0 a0_1 = some r) ∧ Aside0 (kq ≤ k2) ∧ Aside0 (w'.heap[gb449]? = some (.cells #[.int .i64 a0_0, .int .i64 a0_1] 37 (0, 0))) ∧ Aside0 (Below w.heap.size w w'))
                    case atStart => exact ⟨(0), (0), (by first | rfl | (simp; done) | (simp [*]; done)), (by first | rfl | (simp; done) | (simp [*]; done)), H', ⟨Nat.le_refl _⟩, ⟨by (with_reducible repeat (first | refine blk_drewN ?_ _ | refine blk_drew ?_ | refine blk_alloc ?_ _)); exact BK449.out⟩, ⟨by repeat (first | (with_reducible first | exact HB.out | apply below_alloc | apply pw_below_drewN | apply below_drew1 | refine below_set ?_ GE449.out) | exact HB.out)⟩⟩
                    case round =>
                      clear H'
                      try clear c1
                      try clear c2
                      try clear p2
                      try clear c4
                      try clear c6
                      try clear p6
                      try clear c11
                      try clear c12
                      try clear c12b0
                      try clear c13
                      try clear c13b0
                      try clear c13b1
                      try clear c14
                      try clear c14b0
                      try clear c14b1
                      try clear c15
                      try clear c15b0
                      try clear c15b1
                      try clear hcz16_0
                      try clear hcz16_1
                      try clear hcz7_0
                      try clear hcz7_1
                      try clear hcz9_0
                      try clear hcz9_1
                      try clear hfz16_0
                      try clear hfz16_1
                      try clear hfz7_0
                      try clear hfz7_1
                      try clear hfz9_0
                      try clear hfz9_1
                      try clear p2
                      obtain ⟨x6_3, x34_3, rfl, rfl, HA, HK3, BK449, HB⟩ := hrel
                      cases gk with
                      | zero => exact absurd HA.out (by simp [impl_PatternValid.l1])
                      | succ k3 =>
                        have H := HA.out
                        clear HA
                        simp only [impl_PatternValid.l1] at H
                        by_cases c18 : x34_3 < (((l1.take ((wrap64 (x5_2 + a0_1)) : Int).toNat).drop (x5_2 : Int).toNat).length : Int)
                        · rw [if_pos c18] at H
                          have c18b0 : decide (x34_3 < (((l1.take ((wrap64 (x5_2 + a0_1)) : Int).toNat).drop (x5_2 : Int).toNat).length : Int)) = true := decide_eq_true c18
                          have c18w : decide (x34_3 < ((((wrap64 (x5_2 + a0_1)) : Int).toNat - (x5_2 : Int).toNat : Nat) : Int)) = true := by rw [← HLEN.out]; exact c18b0
                          clear c18
                          by_cases c19 : 0 ≤ x34_3
                          · rw [if_pos c19] at H
                            have c19b0 : decide (0 ≤ x34_3) = true := decide_eq_true c19
                            clear c19
                            by_cases c20 : x34_3 < (((l1.take ((wrap64 (x5_2 + a0_1)) : Int).toNat).drop (x5_2 : Int).toNat).length : Int)
                            · rw [if_pos c20] at H
                              have c20b0 : decide (x34_3 < (((l1.take ((wrap64 (x5_2 + a0_1)) : Int).toNat).drop (x5_2 : Int).toNat).length : Int)) = true := decide_eq_true c20
                              have c20w : decide (x34_3 < ((((wrap64 (x5_2 + a0_1)) : Int).toNat - (x5_2 : Int).toNat : Nat) : Int)) = true := by rw [← HLEN.out]; exact c20b0
                              clear c20
                              obtain ⟨bq21, hbq21⟩ : ∃ b_ : Bool, b_ = (rdOf false ((l1.take ((wrap64 (x5_2 + a0_1)) : Int).toNat).drop (x5_2 : Int).toNat) x34_3) := ⟨_, rfl⟩
                              replace H : (if bq21 = true then (impl_PatternValid.l1 k3 l1 x5_2 (wrap64 (x6_3 + 1)) ((l1.take ((wrap64 (x5_2 + a0_1)) : Int).toNat).drop (x5_2 : Int).toNat) (((l1.take ((wrap64 (x5_2 + a0_1)) : Int).toNat).drop (x5_2 : Int).toNat).length : Int) (wrap64 (x34_3 + 1)) a0_0 a0_1) else (impl_PatternValid.l1 k3 l1 x5_2 x6_3 ((l1.take ((wrap64 (x5_2 + a0_1)) : Int).toNat).drop (x5_2 : Int).toNat) (((l1.take ((wrap64 (x5_2 + a0_1)) : Int).toNat).drop (x5_2 : Int).toNat).length : Int) (wrap64 (x34_3 + 1)) a0_0 a0_1)) = some r := by rw [← hbq21] at H; exact H
                              have Nbq21 := Aside0.mk hbq21
                              clear hbq21
                              by_cases c22 : bq21 = true
                              · subst c22
                                have H1 : (impl_PatternValid.l1 k3 l1 x5_2 (wrap64 (x6_3 + 1)) ((l1.take ((wrap64 (x5_2 + a0_1)) : Int).toNat).drop (x5_2 : Int).toNat) (((l1.take ((wrap64 (x5_2 + a0_1)) : Int).toNat).drop (x5_2 : Int).toNat).length : Int) (wrap64 (x34_3 + 1)) a0_0 a0_1) = some r := by rw [if_pos rfl] at H; exact H
                                clear H
                                have H := H1
                                clear H1
                                have H' := Aside0.mk H
                                clear H
                                have p452 : 0 ≤ (x34_3 : Int) := of_decide_eq_true (by first | (with_reducible assumption) | assumption)
                                have q452 : x34_3 < (((l1.take ((wrap64 (x5_2 + a0_1)) : Int).toNat).drop (x5_2 : Int).toNat).length : Int) := of_decide_eq_true (by first | (with_reducible assumption) | assumption)
                                obtain ⟨ad452, e452, hx452_0⟩ := Kd.at_bool HR451.out x34_3 p452 q452
                                (try rw [← Nbq21.out] at hx452_0)
                                cases e452
                                replace hx452_0 := (HB.out.cell (World.block_lt_of_cell? w _ hx452_0)).trans hx452_0
                                replace p452 := eq_true p452
                                replace q452 := eq_true q452
                                have q452w := eq_true (show x34_3 < ((((wrap64 (x5_2 + a0_1)) : Int).toNat - (x5_2 : Int).toNat : Nat) : Int) by rw [← HLEN.out]; exact of_eq_true q452)
                                go_wp2
                                go_roundg k3
                                case measure => have := HJ2.out; have := HK2.out; have := HK3.out; omega
                                case rel => exact ⟨(wrap64 (x6_3 + 1)), (wrap64 (x34_3 + 1)), (by first | rfl | (simp; done) | (simp [*]; done)), (by first | rfl | (simp; done) | (simp [*]; done)), H', ⟨by have := HJ2.out; have := HK2.out; have := HK3.out; omega⟩, ⟨by (with_reducible repeat (first | refine blk_drewN ?_ _ | refine blk_drew ?_ | refine blk_alloc ?_ _)); exact BK449.out⟩, ⟨by repeat (first | (with_reducible first | exact HB.out | apply below_alloc | apply pw_below_drewN | apply below_drew1 | refine below_set ?_ GE449.out) | exact HB.out)⟩⟩
                              · replace c22 := Bool.eq_false_iff.mpr c22
                                subst c22
                                have H1 : (impl_PatternValid.l1 k3 l1 x5_2 x6_3 ((l1.take ((wrap64 (x5_2 + a0_1)) : Int).toNat).drop (x5_2 : Int).toNat) (((l1.take ((wrap64 (x5_2 + a0_1)) : Int).toNat).drop (x5_2 : Int).toNat).length : Int) (wrap64 (x34_3 + 1)) a0_0 a0_1) = some r := by rw [if_neg (show ¬ (false = true) by decide)] at H; exact H
                                clear H
                                have H := H1
                                clear H1
                                have H' := Aside0.mk H
                                clear H
                                have p452 : 0 ≤ (x34_3 : Int) := of_decide_eq_true (by first | (with_reducible assumption) | assumption)
                                have q452 : x34_3 < (((l1.take ((wrap64 (x5_2 + a0_1)) : Int).toNat).drop (x5_2 : Int).toNat).length : Int) := of_decide_eq_true (by first | (with_reducible assumption) | assumption)
                                obtain ⟨ad452, e452, hx452_0⟩ := Kd.at_bool HR451.out x34_3 p452 q452
                                (try rw [← Nbq21.out] at hx452_0)
                                cases e452
                                replace hx452_0 := (HB.out.cell (World.block_lt_of_cell? w _ hx452_0)).trans hx452_0
                                replace p452 := eq_true p452
                                replace q452 := eq_true q452
                                have q452w := eq_true (show x34_3 < ((((wrap64 (x5_2 + a0_1)) : Int).toNat - (x5_2 : Int).toNat : Nat) : Int) by rw [← HLEN.out]; exact of_eq_true q452)
                                go_wp2
                                go_roundg k3
                                case measure => have := HJ2.out; have := HK2.out; have := HK3.out; omega
                                case rel => exact ⟨(x6_3), (wrap64 (x34_3 + 1)), (by first | rfl | (simp; done) | (simp [*]; done)), (by first | rfl | (simp; done) | (simp [*]; done)), H', ⟨by have := HJ2.out; have := HK2.out; have := HK3.out; omega⟩, ⟨by (with_reducible repeat (first | refine blk_drewN ?_ _ | refine blk_drew ?_ | refine blk_alloc ?_ _)); exact BK449.out⟩, ⟨by repeat (first | (with_reducible first | exact HB.out | apply below_alloc | apply pw_below_drewN | apply below_drew1 | refine below_set ?_ GE449.out) | exact HB.out)⟩⟩
                            · rw [if_neg c20] at H
                              exact absurd H (by simp)
                          · rw [if_neg c19] at H
                            exact absurd H (by simp)
                        · rw [if_neg c18] at H
                          have c18b0 : decide (x34_3 < (((l1.take ((wrap64 (x5_2 + a0_1)) : Int).toNat).drop (x5_2 : Int).toNat).length : Int)) = false := decide_eq_false c18
                          have c18w : decide (x34_3 < ((((wrap64 (x5_2 + a0_1)) : Int).toNat - (x5_2 : Int).toNat : Nat) : Int)) = false := by rw [← HLEN.out]; exact c18b0
                          clear c18
                          by_cases c23 : x6_3 = a0_0
                          · rw [if_pos c23] at H
                            have c23b0 : (x6_3 == a0_0) = true := beq_iff_eq.mpr c23
                            have c23b1 : (x6_3 != a0_0) = false := bne_eq_false_iff_eq.mpr c23
                            clear c23
                            have H' := Aside0.mk H
                            clear H
                            have hcz24_0 : wr.cell? ⟨gb449, 0, none⟩ = some (.int .i64 a0_0) := (blk_cell BK449.out 0).trans rfl
                            have hcz24_1 : wr.cell? ⟨gb449, 1, none⟩ = some (.int .i64 a0_1) := (blk_cell BK449.out 1).trans rfl
                            have hfz24_0 := blk_frozen BK449.out 0
                            have hfz24_1 := blk_frozen BK449.out 1
                            go_wp2
                            go_roundg k3
                            case measure => have := HJ2.out; have := HK2.out; have := HK3.out; omega
                            case rel => exact ⟨(wrap64 (x5_2 + a0_1)), (by first | rfl | (simp; done) | (simp [*]; done)), H', ⟨by have := HJ2.out; have := HK2.out; have := HK3.out; omega⟩, ⟨by (with_reducible repeat (first | refine blk_drewN ?_ _ | refine blk_drew ?_ | refine blk_alloc ?_ _)); exact BK449.out⟩, ⟨by repeat (first | (with_reducible first | exact HB.out | apply below_alloc | apply pw_below_drewN | apply below_drew1 | refine below_set ?_ GE449.out) | exact HB.out)⟩⟩
                          · rw [if_neg c23] at H
                            have c23b0 : (x6_3 == a0_0) = false := beq_eq_false_iff_ne.mpr c23
                            have c23b1 : (x6_3 != a0_0) = true := bne_iff_ne.mpr c23
                            obtain rfl := Option.some.inj H
                            have hcz25_0 : wr.cell? ⟨gb449, 0, none⟩ = some (.int .i64 a0_0) := (blk_cell BK449.out 0).trans rfl
                            have hcz25_1 : wr.cell? ⟨gb449, 1, none⟩ = some (.int .i64 a0_1) := (blk_cell BK449.out 1).trans rfl
                            have hfz25_0 := blk_frozen BK449.out 0
                            have hfz25_1 := blk_frozen BK449.out 1
                            go_wp2
                            go_ret
                            exact ⟨by first | rfl | (simp [errW_none, errW_some] <;> rfl) | (simp [*, errW_none, errW_some] <;> rfl), by repeat (first | (with_reducible first | exact HB.out | apply below_alloc | apply pw_below_drewN | apply below_drew1 | refine below_set ?_ GE449.out) | exact HB.out)⟩
                  · rw [if_neg c15] at H
                    exact absurd H (by simp)
                · rw [if_neg c14] at H
                  exact absurd H (by simp)
              · rw [if_neg c13] at H
                exact absurd H (by simp)
            · rw [if_neg c12] at H
              have c12b0 : decide ((wrap64 (x5_2 + a0_1)) ≤ 120) = false := decide_eq_false c12
              clear c12
              obtain rfl := Option.some.inj H
              have hcz26_0 : wr.cell? ⟨gb449, 0, none⟩ = some (.int .i64 a0_0) := (blk_cell BK449.out 0).trans rfl
              have hcz26_1 : wr.cell? ⟨gb449, 1, none⟩ = some (.int .i64 a0_1) := (blk_cell BK449.out 1).trans rfl
              have hfz26_0 := blk_frozen BK449.out 0
              have hfz26_1 := blk_frozen BK449.out 1
              go_wp2
              go_ret
              exact ⟨by first | rfl | (simp [errW_none, errW_some] <;> rfl) | (simp [*, errW_none, errW_some] <;> rfl), by repeat (first | (with_reducible first | exact HB.out | apply below_alloc | apply pw_below_drewN | apply below_drew1 | refine below_set ?_ GE449.out) | exact HB.out)⟩

end Go.Proofs.Ytooabmmnbifclaa.P
