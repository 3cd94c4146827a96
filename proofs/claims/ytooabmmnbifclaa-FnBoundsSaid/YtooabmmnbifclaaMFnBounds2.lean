/- The law FnBounds for every input, part 2 of its proof: what the program's functions answer, and the plain law. No condition. -/
import Derived.Test.YtooabmmnbifclaaMFnBounds1
import Derived.Test.YtooabmmnbifclaaWMore
import Derived.Laws.BitsLemmas
-- Laid by a program of this work.
namespace Go.Proofs.Ytooabmmnbifclaa.P
open Go.RowKit Go.Proofs.YtooabmmnbifclaaW.PrintWords Go.Proofs.YtooabmmnbifclaaW.PrintLast Go.Proofs.YtooabmmnbifclaaW.PrintMore
attribute [local go_sem] max2_int min2_int max_two min_two max_three min_three max_four min_four   -- for this text's walks alone
set_option linter.unusedVariables false
set_option linter.unusedSimpArgs false

/-! ### spec_l20Flow: function 56 -/
def spec_l20Flow.f (k : Nat) (s0_0 : List Int) (s0_1 : Int) (a1 : Int) : Option (Int × Int × Int) := (spec_l20Rd_pick.f k s0_0 s0_1 21).bind fun bt286 => ((spec_l20Rd_pick.f k s0_0 bt286.2 7).bind fun bt288 => ((spec_l20Rd_odd.f k s0_0 bt288.2 a1).bind fun bt291 => (if bt291.1 = true then ((some (([(⟨(-1), 0⟩ : S25), (⟨0, 21⟩ : S25), (⟨21, 0⟩ : S25), (⟨0, (-1)⟩ : S25)] : List (S25)) : List (S25))).bind fun y293 => ((spec_l20Rd_pick.f k s0_0 bt291.2 4).bind fun bt296 => (if 0 ≤ bt296.1 then (if bt296.1 < (y293.length : Int) then (some ((rd_T25 y293 bt296.1).f0, (rd_T25 y293 bt296.1).f1, bt296.2)) else (none)) else (none)))) else (some (bt286.1, bt288.1, bt291.2)))))
theorem spec_l20Flow.mono : ∀ a0 a1 a2 k, LeO (spec_l20Flow.f k a0 a1 a2) (spec_l20Flow.f (k + 1) a0 a1 a2) := by
  intro a0 a1 a2 k
  unfold spec_l20Flow.f
  repeat' first
      | (with_reducible exact spec_l20Rd_odd.mono _ _ _ _)
      | (with_reducible exact spec_l20Rd_pick.mono _ _ _ _)
      | (with_reducible exact LeO.refl _)
      | (with_reducible exact LeO.none _)
      | (with_reducible refine LeO.ite ?_ ?_)
      | (with_reducible refine LeO.bind ?_ (fun _ => ?_))
      | exact spec_l20Rd_odd.mono _ _ _ _
      | exact spec_l20Rd_pick.mono _ _ _ _
      | exact LeO.none _
      | refine LeO.ite ?_ ?_
      | refine LeO.bind ?_ (fun _ => ?_)
set_option maxHeartbeats 8000000 in
set_option maxRecDepth 100000 in
theorem spec_l20Flow.calls (k : Nat) (g : Nat) (s0_0 : List Int) (s0_1 : Int) (a1 : Int) (r1 : Int) (r2 : Int) (r3 : Int) (w0 w : World) (hI : IsS84 w0 w g s0_0 s0_1) (hB : Below w0.heap.size w0 w) (h : spec_l20Flow.f k s0_0 s0_1 a1 = some (r1, r2, r3)) :
    Calls Try.prog 56 #[.pointer (some ⟨g, 0, none⟩), .int .i64 a1] w fun e w' => e = .returned (.agg #[.int .i64 r1, .int .i64 r2]) ∧ IsS84 w0 w' g s0_0 r3 ∧ Below w0.heap.size w0 w' ∧ KeepBut w w' g none := by
  have hu25 := Try.underlying25
  have HI0 := Aside0.mk hI
  have HK := Aside0.mk (KeepBut.refl w g none)
  have HL := Aside0.mk hB.size
  clear hI
  have HW0 := Aside0.mk hB.size
  have HB := Aside0.mk hB
  clear hB
  have H : ((spec_l20Rd_pick.f k s0_0 s0_1 21).bind fun bt286 => ((spec_l20Rd_pick.f k s0_0 bt286.2 7).bind fun bt288 => ((spec_l20Rd_odd.f k s0_0 bt288.2 a1).bind fun bt291 => (if bt291.1 = true then ((some (([(⟨(-1), 0⟩ : S25), (⟨0, 21⟩ : S25), (⟨21, 0⟩ : S25), (⟨0, (-1)⟩ : S25)] : List (S25)) : List (S25))).bind fun y293 => ((spec_l20Rd_pick.f k s0_0 bt291.2 4).bind fun bt296 => (if 0 ≤ bt296.1 then (if bt296.1 < (y293.length : Int) then (some ((rd_T25 y293 bt296.1).f0, (rd_T25 y293 bt296.1).f1, bt296.2)) else (none)) else (none)))) else (some (bt286.1, bt288.1, bt291.2)))))) = some (r1, r2, r3) := h
  clear h
  replace H := Option.bind_eq_some_iff.mp H
  obtain ⟨⟨t286, t287⟩, A30, H⟩ := H
  replace H : ((spec_l20Rd_pick.f k s0_0 t287 7).bind fun bt288 => ((spec_l20Rd_odd.f k s0_0 bt288.2 a1).bind fun bt291 => (if bt291.1 = true then ((some (([(⟨(-1), 0⟩ : S25), (⟨0, 21⟩ : S25), (⟨21, 0⟩ : S25), (⟨0, (-1)⟩ : S25)] : List (S25)) : List (S25))).bind fun y293 => ((spec_l20Rd_pick.f k s0_0 bt291.2 4).bind fun bt296 => (if 0 ≤ bt296.1 then (if bt296.1 < (y293.length : Int) then (some ((rd_T25 y293 bt296.1).f0, (rd_T25 y293 bt296.1).f1, bt296.2)) else (none)) else (none)))) else (some (t286, bt288.1, bt291.2))))) = some (r1, r2, r3) := H
  have A3 := Aside0.mk A30
  clear A30
  replace H := Option.bind_eq_some_iff.mp H
  obtain ⟨⟨t288, t289⟩, A40, H⟩ := H
  replace H : ((spec_l20Rd_odd.f k s0_0 t289 a1).bind fun bt291 => (if bt291.1 = true then ((some (([(⟨(-1), 0⟩ : S25), (⟨0, 21⟩ : S25), (⟨21, 0⟩ : S25), (⟨0, (-1)⟩ : S25)] : List (S25)) : List (S25))).bind fun y293 => ((spec_l20Rd_pick.f k s0_0 bt291.2 4).bind fun bt296 => (if 0 ≤ bt296.1 then (if bt296.1 < (y293.length : Int) then (some ((rd_T25 y293 bt296.1).f0, (rd_T25 y293 bt296.1).f1, bt296.2)) else (none)) else (none)))) else (some (t286, t288, bt291.2)))) = some (r1, r2, r3) := H
  have A4 := Aside0.mk A40
  clear A40
  replace H := Option.bind_eq_some_iff.mp H
  obtain ⟨⟨t291, t292⟩, A50, H⟩ := H
  replace H : (if t291 = true then ((some (([(⟨(-1), 0⟩ : S25), (⟨0, 21⟩ : S25), (⟨21, 0⟩ : S25), (⟨0, (-1)⟩ : S25)] : List (S25)) : List (S25))).bind fun y293 => ((spec_l20Rd_pick.f k s0_0 t292 4).bind fun bt296 => (if 0 ≤ bt296.1 then (if bt296.1 < (y293.length : Int) then (some ((rd_T25 y293 bt296.1).f0, (rd_T25 y293 bt296.1).f1, bt296.2)) else (none)) else (none)))) else (some (t286, t288, t292))) = some (r1, r2, r3) := H
  have A5 := Aside0.mk A50
  clear A50
  by_cases c6 : t291 = true
  · subst c6
    have H1 : ((some (([(⟨(-1), 0⟩ : S25), (⟨0, 21⟩ : S25), (⟨21, 0⟩ : S25), (⟨0, (-1)⟩ : S25)] : List (S25)) : List (S25))).bind fun y293 => ((spec_l20Rd_pick.f k s0_0 t292 4).bind fun bt296 => (if 0 ≤ bt296.1 then (if bt296.1 < (y293.length : Int) then (some ((rd_T25 y293 bt296.1).f0, (rd_T25 y293 bt296.1).f1, bt296.2)) else (none)) else (none)))) = some (r1, r2, r3) := by rw [if_pos rfl] at H; exact H
    clear H
    have H := H1
    clear H1
    obtain ⟨y293, hy293⟩ : ∃ y_ : List (S25), y_ = (([(⟨(-1), 0⟩ : S25), (⟨0, 21⟩ : S25), (⟨21, 0⟩ : S25), (⟨0, (-1)⟩ : S25)] : List (S25))) := ⟨_, rfl⟩
    replace H : ((spec_l20Rd_pick.f k s0_0 t292 4).bind fun bt296 => (if 0 ≤ bt296.1 then (if bt296.1 < (y293.length : Int) then (some ((rd_T25 y293 bt296.1).f0, (rd_T25 y293 bt296.1).f1, bt296.2)) else (none)) else (none))) = some (r1, r2, r3) := by first | (rw [hy293]; with_reducible exact H) | (have H2_ := (Option.bind_some _ _).symm.trans H; rw [hy293]; with_reducible exact H2_) | (have H2_ := (Option.bind_some _ _).symm.trans H; with_reducible exact H2_) | with_reducible exact H | (rw [hy293]; exact H) | exact H
    have Ny293 := Aside0.mk hy293
    clear hy293
    replace H := Option.bind_eq_some_iff.mp H
    obtain ⟨⟨t296, t297⟩, A70, H⟩ := H
    replace H : (if 0 ≤ t296 then (if t296 < (y293.length : Int) then (some ((rd_T25 y293 t296).f0, (rd_T25 y293 t296).f1, t297)) else (none)) else (none)) = some (r1, r2, r3) := H
    have A7 := Aside0.mk A70
    clear A70
    by_cases c8 : 0 ≤ t296
    · rw [if_pos c8] at H
      have c8b0 : decide (0 ≤ t296) = true := decide_eq_true c8
      clear c8
      by_cases c9 : t296 < (y293.length : Int)
      · rw [if_pos c9] at H
        have c9b0 : decide (t296 < (y293.length : Int)) = true := decide_eq_true c9
        clear c9
        simp only [Option.some.injEq, Prod.mk.injEq] at H
        obtain ⟨rfl, rfl, rfl⟩ := H
        go_enter Try.func56, Try.ntmps56
        go_wp2_with (first | ((with_reducible refine gate_dst (N := 4) rfl ?_); refine box_event ?hg (N := 4) ?hd (cs := #[.int .i64 0, .int .i64 0]) (t := 25) ?hr ?_; (case hd => rfl); (case hg => rfl); (case hr => first | (go_simp; done) | (go_simp; rfl)); intro gb285 hg w10 hbox hb; have n0_ := Aside0.mk (IsS84.below (by repeat (first | (with_reducible first | exact HI0.out | apply IsS84.alloc | apply IsS84.drewN | apply IsS84.drew | apply IsS84.set_1) | exact HI0.out)) hb); have n1_ := Aside0.mk (KeepBut.trans (by repeat (first | (with_reducible first | exact HK.out | apply KeepBut.set_ | apply keep_drewN | apply keep_drew | apply keep_alloc) | exact HK.out)) (KeepBut.of_below hb g none) (.inl rfl)); have n2_ := Aside0.mk (below_step (by repeat (first | (with_reducible first | exact HB.out | apply below_alloc | apply pw_below_drewN | apply below_drew1 | refine below_set ?_ (IsS84.ge HI0.out)) | exact HB.out)) hb); have n3_ := Aside0.mk (hbox); have n4_ := Aside0.mk ((by rw [hg]; exact (keep_size (w := w) (g := g) (row := none) (by repeat (first | (with_reducible first | exact HK.out | apply KeepBut.set_ | apply keep_drewN | apply keep_drew | apply keep_alloc) | exact HK.out))) : w.heap.size ≤ gb285)); have n5_ := Aside0.mk ((Nat.le_trans HW0.out (by rw [hg]; exact (keep_size (w := w) (g := g) (row := none) (by repeat (first | (with_reducible first | exact HK.out | apply KeepBut.set_ | apply keep_drewN | apply keep_drew | apply keep_alloc) | exact HK.out))) : w.heap.size ≤ gb285) : w0.heap.size ≤ gb285)); have n6_ := Aside0.mk ((by rw [hg]; exact Nat.ne_of_lt (IsS84.lt (show IsS84 w0 _ g s0_0 s0_1 from by repeat (first | (with_reducible first | exact HI0.out | apply IsS84.alloc | apply IsS84.drewN | apply IsS84.drew | apply IsS84.set_1) | exact HI0.out))) : g ≠ gb285)); have n7_ := Aside0.mk ((by rw [hg]; exact Nat.ne_of_gt (IsS84.lt (show IsS84 w0 _ g s0_0 s0_1 from by repeat (first | (with_reducible first | exact HI0.out | apply IsS84.alloc | apply IsS84.drewN | apply IsS84.drew | apply IsS84.set_1) | exact HI0.out))) : gb285 ≠ g)); clear HI0; clear HK; clear HB; have HI0 := n0_; have HK := n1_; have HB := n2_; have BK285 := n3_; have GW285 := n4_; have GE285 := n5_; have NB0_285 := n6_; have NB285_0 := n7_; clear n0_ n1_ n2_ n3_ n4_ n5_ n6_ n7_; clear hb hbox hg) | ((with_reducible refine gate_callee (f := 58) rfl ?_); refine goesL_ (some 7) rfl rfl Try.func58 (by kernel_rfl) rfl #[.pointer (some ⟨g, 0, none⟩), .int .i64 21] rfl (by (try simp only [List.map_toArray, List.map_cons, List.map_nil]); first | done | rfl | (simp only [List.length_drop, List.length_take]; rfl)) ?_; (with_reducible refine (spec_l20Rd_pick.calls k g s0_0 s0_1 21 t286 t287 w0 _ ?side1 ?side2 A3.out).mono ?_); (case side1 => repeat (first | (with_reducible first | exact HI0.out | apply IsS84.alloc | apply IsS84.drewN | apply IsS84.drew | apply IsS84.set_1 | refine IsS84.far ?_ NB0_285.out _) | exact HI0.out)); (case side2 => repeat (first | (with_reducible first | exact HB.out | apply below_alloc | apply pw_below_drewN | apply below_drew1 | refine below_set ?_ (IsS84.ge HI0.out) | refine below_set ?_ GE285.out) | exact HB.out)); rintro e w11 ⟨rfl, hi, hb, hk⟩; refine ⟨_, rfl, ?_⟩; have n0_ := Aside0.mk (KeepBut.blk hk (g' := gb285) (o := .cells #[.int .i64 0, .int .i64 0] 25 (0, 0)) (by (with_reducible repeat (first | refine blk_drewN ?_ _ | refine blk_drew ?_ | refine blk_alloc ?_ _)); exact BK285.out) NB285_0.out (by simp)); have n1_ := Aside0.mk (KeepBut.trans (by repeat (first | (with_reducible first | exact HK.out | apply KeepBut.set_ | apply keep_drewN | apply keep_drew | apply keep_alloc | refine keep_far ?_ GW285.out _) | exact HK.out)) hk (.inl rfl)); have n2_ := Aside0.mk (hb); have n3_ := Aside0.mk (hi); clear BK285; clear HK; clear HB; clear HI0; have BK285 := n0_; have HK := n1_; have HB := n2_; have HI0 := n3_; clear n0_ n1_ n2_ n3_; (try clear hb); (try clear hb2); (try clear hk); (try clear hi)) | ((with_reducible refine gate_callee (f := 58) rfl ?_); refine goesL_ (some 9) rfl rfl Try.func58 (by kernel_rfl) rfl #[.pointer (some ⟨g, 0, none⟩), .int .i64 7] rfl (by (try simp only [List.map_toArray, List.map_cons, List.map_nil]); first | done | rfl | (simp only [List.length_drop, List.length_take]; rfl)) ?_; (with_reducible refine (spec_l20Rd_pick.calls k g s0_0 t287 7 t288 t289 w0 _ ?side1 ?side2 A4.out).mono ?_); (case side1 => repeat (first | (with_reducible first | exact HI0.out | apply IsS84.alloc | apply IsS84.drewN | apply IsS84.drew | apply IsS84.set_1 | refine IsS84.far ?_ NB0_285.out _) | exact HI0.out)); (case side2 => repeat (first | (with_reducible first | exact HB.out | apply below_alloc | apply pw_below_drewN | apply below_drew1 | refine below_set ?_ (IsS84.ge HI0.out) | refine below_set ?_ GE285.out) | exact HB.out)); rintro e w12 ⟨rfl, hi, hb, hk⟩; refine ⟨_, rfl, ?_⟩; have n0_ := Aside0.mk (KeepBut.blk hk (g' := gb285) (o := .cells #[.int .i64 0, .int .i64 0] 25 (0, 0)) (by (with_reducible repeat (first | refine blk_drewN ?_ _ | refine blk_drew ?_ | refine blk_alloc ?_ _)); exact BK285.out) NB285_0.out (by simp)); have n1_ := Aside0.mk (KeepBut.trans (by repeat (first | (with_reducible first | exact HK.out | apply KeepBut.set_ | apply keep_drewN | apply keep_drew | apply keep_alloc | refine keep_far ?_ GW285.out _) | exact HK.out)) hk (.inl rfl)); have n2_ := Aside0.mk (hb); have n3_ := Aside0.mk (hi); clear BK285; clear HK; clear HB; clear HI0; have BK285 := n0_; have HK := n1_; have HB := n2_; have HI0 := n3_; clear n0_ n1_ n2_ n3_; (try clear hb); (try clear hb2); (try clear hk); (try clear hi)) | ((with_reducible refine gate_dst (N := 5) rfl ?_); refine box_event ?hg (N := 5) ?hd (cs := #[.int .i64 0, .int .i64 0]) (t := 25) ?hr ?_; (case hd => rfl); (case hg => rfl); (case hr => first | (go_simp; done) | (go_simp; rfl)); intro gb290 hg w13 hbox hb; have n0_ := Aside0.mk (IsS84.below (by repeat (first | (with_reducible first | exact HI0.out | apply IsS84.alloc | apply IsS84.drewN | apply IsS84.drew | apply IsS84.set_1 | refine IsS84.far ?_ NB0_285.out _) | exact HI0.out)) hb); have n1_ := Aside0.mk (blk_below (g := gb285) (o := .cells #[.int .i64 0, .int .i64 0] 25 (0, 0)) (by (with_reducible repeat (first | refine blk_drewN ?_ _ | refine blk_drew ?_ | refine blk_alloc ?_ _)); exact BK285.out) hb); have n2_ := Aside0.mk (KeepBut.trans (by repeat (first | (with_reducible first | exact HK.out | apply KeepBut.set_ | apply keep_drewN | apply keep_drew | apply keep_alloc | refine keep_far ?_ GW285.out _) | exact HK.out)) (KeepBut.of_below hb g none) (.inl rfl)); have n3_ := Aside0.mk (below_step (by repeat (first | (with_reducible first | exact HB.out | apply below_alloc | apply pw_below_drewN | apply below_drew1 | refine below_set ?_ (IsS84.ge HI0.out) | refine below_set ?_ GE285.out) | exact HB.out)) hb); have n4_ := Aside0.mk (hbox); have n5_ := Aside0.mk ((by rw [hg]; exact (keep_size (w := w) (g := g) (row := none) (by repeat (first | (with_reducible first | exact HK.out | apply KeepBut.set_ | apply keep_drewN | apply keep_drew | apply keep_alloc | refine keep_far ?_ GW285.out _) | exact HK.out))) : w.heap.size ≤ gb290)); have n6_ := Aside0.mk ((Nat.le_trans HW0.out (by rw [hg]; exact (keep_size (w := w) (g := g) (row := none) (by repeat (first | (with_reducible first | exact HK.out | apply KeepBut.set_ | apply keep_drewN | apply keep_drew | apply keep_alloc | refine keep_far ?_ GW285.out _) | exact HK.out))) : w.heap.size ≤ gb290) : w0.heap.size ≤ gb290)); have n7_ := Aside0.mk ((by rw [hg]; exact Nat.ne_of_lt (blk_lt (g := gb285) (o := .cells #[.int .i64 0, .int .i64 0] 25 (0, 0)) (by (with_reducible repeat (first | refine blk_drewN ?_ _ | refine blk_drew ?_ | refine blk_alloc ?_ _)); exact BK285.out)) : gb285 ≠ gb290)); have n8_ := Aside0.mk ((by rw [hg]; exact Nat.ne_of_gt (blk_lt (g := gb285) (o := .cells #[.int .i64 0, .int .i64 0] 25 (0, 0)) (by (with_reducible repeat (first | refine blk_drewN ?_ _ | refine blk_drew ?_ | refine blk_alloc ?_ _)); exact BK285.out)) : gb290 ≠ gb285)); have n9_ := Aside0.mk ((by rw [hg]; exact Nat.ne_of_lt (IsS84.lt (show IsS84 w0 _ g s0_0 t289 from by repeat (first | (with_reducible first | exact HI0.out | apply IsS84.alloc | apply IsS84.drewN | apply IsS84.drew | apply IsS84.set_1 | refine IsS84.far ?_ NB0_285.out _) | exact HI0.out))) : g ≠ gb290)); have n10_ := Aside0.mk ((by rw [hg]; exact Nat.ne_of_gt (IsS84.lt (show IsS84 w0 _ g s0_0 t289 from by repeat (first | (with_reducible first | exact HI0.out | apply IsS84.alloc | apply IsS84.drewN | apply IsS84.drew | apply IsS84.set_1 | refine IsS84.far ?_ NB0_285.out _) | exact HI0.out))) : gb290 ≠ g)); clear HI0; clear BK285; clear HK; clear HB; have HI0 := n0_; have BK285 := n1_; have HK := n2_; have HB := n3_; have BK290 := n4_; have GW290 := n5_; have GE290 := n6_; have NB285_290 := n7_; have NB290_285 := n8_; have NB0_290 := n9_; have NB290_0 := n10_; clear n0_ n1_ n2_ n3_ n4_ n5_ n6_ n7_ n8_ n9_ n10_; clear hb hbox hg; have hnb14 := NB290_285.out; have hnc14 := NB285_290.out; have hnb15 := NB290_0.out; have hnc15 := NB0_290.out; have hcz16_0 : w13.cell? ⟨gb290, 0, none⟩ = some (.int .i64 0) := (blk_cell BK290.out 0).trans rfl; have hcz16_1 : w13.cell? ⟨gb290, 1, none⟩ = some (.int .i64 0) := (blk_cell BK290.out 1).trans rfl; have hfz16_0 := blk_frozen BK290.out 0; have hfz16_1 := blk_frozen BK290.out 1) | ((with_reducible refine gate_callee (f := 60) rfl ?_); refine goesL_ (some 13) rfl rfl Try.func60 (by kernel_rfl) rfl #[.pointer (some ⟨g, 0, none⟩), .int .i64 a1] rfl (by (try simp only [List.map_toArray, List.map_cons, List.map_nil]); first | done | rfl | (simp only [List.length_drop, List.length_take]; rfl)) ?_; (with_reducible refine (spec_l20Rd_odd.calls k g s0_0 t289 a1 true t292 w0 _ ?side1 ?side2 A5.out).mono ?_); (case side1 => repeat (first | (with_reducible first | exact HI0.out | apply IsS84.alloc | apply IsS84.drewN | apply IsS84.drew | apply IsS84.set_1 | refine IsS84.far ?_ NB0_285.out _ | refine IsS84.far ?_ NB0_290.out _) | exact HI0.out)); (case side2 => repeat (first | (with_reducible first | exact HB.out | apply below_alloc | apply pw_below_drewN | apply below_drew1 | refine below_set ?_ (IsS84.ge HI0.out) | refine below_set ?_ GE285.out | refine below_set ?_ GE290.out) | exact HB.out)); rintro e w17 ⟨rfl, hi, hb, hk⟩; refine ⟨_, rfl, ?_⟩; have n0_ := Aside0.mk (KeepBut.blk hk (g' := gb285) (o := .cells #[.int .i64 0, .int .i64 0] 25 (0, 0)) (by (with_reducible repeat (first | refine blk_drewN ?_ _ | refine blk_drew ?_ | refine blk_alloc ?_ _)); refine blk_far ?_ NB285_290.out _; (with_reducible repeat (first | refine blk_drewN ?_ _ | refine blk_drew ?_ | refine blk_alloc ?_ _)); refine blk_far ?_ NB285_290.out _; (with_reducible repeat (first | refine blk_drewN ?_ _ | refine blk_drew ?_ | refine blk_alloc ?_ _)); exact BK285.out) NB285_0.out (by simp)); have n1_ := Aside0.mk (KeepBut.blk hk (g' := gb290) (o := .cells #[.int .i64 t286, .int .i64 t288] 25 (0, 0)) (by (with_reducible repeat (first | refine blk_drewN ?_ _ | refine blk_drew ?_ | refine blk_alloc ?_ _)); refine blk_put (cs := #[.int .i64 t286, .int .i64 0]) ?_ 1 _ rfl; (with_reducible repeat (first | refine blk_drewN ?_ _ | refine blk_drew ?_ | refine blk_alloc ?_ _)); refine blk_put (cs := #[.int .i64 0, .int .i64 0]) ?_ 0 _ rfl; (with_reducible repeat (first | refine blk_drewN ?_ _ | refine blk_drew ?_ | refine blk_alloc ?_ _)); exact BK290.out) NB290_0.out (by simp)); have n2_ := Aside0.mk (KeepBut.trans (by repeat (first | (with_reducible first | exact HK.out | apply KeepBut.set_ | apply keep_drewN | apply keep_drew | apply keep_alloc | refine keep_far ?_ GW285.out _ | refine keep_far ?_ GW290.out _) | exact HK.out)) hk (.inl rfl)); have n3_ := Aside0.mk (hb); have n4_ := Aside0.mk (hi); clear BK285; clear BK290; clear HK; clear HB; clear HI0; have BK285 := n0_; have BK290 := n1_; have HK := n2_; have HB := n3_; have HI0 := n4_; clear n0_ n1_ n2_ n3_ n4_; (try clear hb); (try clear hb2); (try clear hk); (try clear hi)) | ((with_reducible refine gate_dst (N := 18) rfl ?_); refine Kd.R_lit k25 _ 25 ?hg (N := 18) ?hd (xs := ([(⟨(-1), 0⟩ : S25), (⟨0, 21⟩ : S25), (⟨21, 0⟩ : S25), (⟨0, (-1)⟩ : S25)] : List (S25))) (inner := [.int .i64 (-1), .int .i64 0, .int .i64 0, .int .i64 21, .int .i64 21, .int .i64 0, .int .i64 0, .int .i64 (-1)]) (ok := fun _ => True) (okp := fun _ => True) ?hr ?hp (fun _ hk => hk) trivial (Below.refl _ _) (Nat.le_refl _) (by simp) ?_; (case hd => rfl); (case hg => rfl); (case hr => first | (go_simp; done) | (go_simp; rfl)); (case hp => exact (Reps.c2 (show Kd.M k25 _ _ _ (⟨(-1), 0⟩ : S25) [.int .i64 (-1), .int .i64 0] from (k25_mkM _ _ _ (⟨(-1), 0⟩ : S25) )) (Reps.c2 (show Kd.M k25 _ _ _ (⟨0, 21⟩ : S25) [.int .i64 0, .int .i64 21] from (k25_mkM _ _ _ (⟨0, 21⟩ : S25) )) (Reps.c2 (show Kd.M k25 _ _ _ (⟨21, 0⟩ : S25) [.int .i64 21, .int .i64 0] from (k25_mkM _ _ _ (⟨21, 0⟩ : S25) )) (Reps.c2 (show Kd.M k25 _ _ _ (⟨0, (-1)⟩ : S25) [.int .i64 0, .int .i64 (-1)] from (k25_mkM _ _ _ (⟨0, (-1)⟩ : S25) )) (Reps.none _ _)))))); intro v294 w18 ho19 hb hg_ hnew_; clear hg_ hnew_; (first | rw [← Ny293.out] at ho19 | (simp only [Int.reduceToNat] at ho19; rw [← Ny293.out] at ho19)); have n0_ := Aside0.mk (Kd.R_lower (Kd.R_newB (Kd.R_newB ho19 (g := gb285) (o := .cells #[.int .i64 0, .int .i64 0] 25 (0, 0)) (by (with_reducible repeat (first | refine blk_drewN ?_ _ | refine blk_drew ?_ | refine blk_alloc ?_ _)); exact BK285.out)) (g := gb290) (o := .cells #[.int .i64 t286, .int .i64 t288] 25 (0, 0)) (by (with_reducible repeat (first | refine blk_drewN ?_ _ | refine blk_drew ?_ | refine blk_alloc ?_ _)); exact BK290.out)) (keep_size (w := w) (g := g) (row := none) (by repeat (first | (with_reducible first | exact HK.out | apply KeepBut.set_ | apply keep_drewN | apply keep_drew | apply keep_alloc | refine keep_far ?_ GW285.out _ | refine keep_far ?_ GW290.out _) | exact HK.out)))); have n1_ := Aside0.mk (IsS84.below (by repeat (first | (with_reducible first | exact HI0.out | apply IsS84.alloc | apply IsS84.drewN | apply IsS84.drew | apply IsS84.set_1 | refine IsS84.far ?_ NB0_285.out _ | refine IsS84.far ?_ NB0_290.out _) | exact HI0.out)) hb); have n2_ := Aside0.mk (blk_below (g := gb285) (o := .cells #[.int .i64 0, .int .i64 0] 25 (0, 0)) (by (with_reducible repeat (first | refine blk_drewN ?_ _ | refine blk_drew ?_ | refine blk_alloc ?_ _)); exact BK285.out) hb); have n3_ := Aside0.mk (blk_below (g := gb290) (o := .cells #[.int .i64 t286, .int .i64 t288] 25 (0, 0)) (by (with_reducible repeat (first | refine blk_drewN ?_ _ | refine blk_drew ?_ | refine blk_alloc ?_ _)); exact BK290.out) hb); have n4_ := Aside0.mk (KeepBut.trans (by repeat (first | (with_reducible first | exact HK.out | apply KeepBut.set_ | apply keep_drewN | apply keep_drew | apply keep_alloc | refine keep_far ?_ GW285.out _ | refine keep_far ?_ GW290.out _) | exact HK.out)) (KeepBut.of_below hb g none) (.inl rfl)); have n5_ := Aside0.mk (below_step (by repeat (first | (with_reducible first | exact HB.out | apply below_alloc | apply pw_below_drewN | apply below_drew1 | refine below_set ?_ (IsS84.ge HI0.out) | refine below_set ?_ GE285.out | refine below_set ?_ GE290.out) | exact HB.out)) hb); clear HI0; clear BK285; clear BK290; clear HK; clear HB; have HO295 := n0_; have HI0 := n1_; have BK285 := n2_; have BK290 := n3_; have HK := n4_; have HB := n5_; clear n0_ n1_ n2_ n3_ n4_ n5_; clear hb ho19) | ((with_reducible refine gate_callee (f := 58) rfl ?_); refine goesL_ (some 20) rfl rfl Try.func58 (by kernel_rfl) rfl #[.pointer (some ⟨g, 0, none⟩), .int .i64 4] rfl (by (try simp only [List.map_toArray, List.map_cons, List.map_nil]); first | done | rfl | (simp only [List.length_drop, List.length_take]; rfl)) ?_; (with_reducible refine (spec_l20Rd_pick.calls k g s0_0 t292 4 t296 t297 w0 _ ?side1 ?side2 A7.out).mono ?_); (case side1 => repeat (first | (with_reducible first | exact HI0.out | apply IsS84.alloc | apply IsS84.drewN | apply IsS84.drew | apply IsS84.set_1 | refine IsS84.far ?_ NB0_285.out _ | refine IsS84.far ?_ NB0_290.out _) | exact HI0.out)); (case side2 => repeat (first | (with_reducible first | exact HB.out | apply below_alloc | apply pw_below_drewN | apply below_drew1 | refine below_set ?_ (IsS84.ge HI0.out) | refine below_set ?_ GE285.out | refine below_set ?_ GE290.out) | exact HB.out)); rintro e w20 ⟨rfl, hi, hb, hk⟩; refine ⟨_, rfl, ?_⟩; have n0_ := Aside0.mk (KeepBut.blk hk (g' := gb285) (o := .cells #[.int .i64 0, .int .i64 0] 25 (0, 0)) (by (with_reducible repeat (first | refine blk_drewN ?_ _ | refine blk_drew ?_ | refine blk_alloc ?_ _)); exact BK285.out) NB285_0.out (by simp)); have n1_ := Aside0.mk (KeepBut.blk hk (g' := gb290) (o := .cells #[.int .i64 t286, .int .i64 t288] 25 (0, 0)) (by (with_reducible repeat (first | refine blk_drewN ?_ _ | refine blk_drew ?_ | refine blk_alloc ?_ _)); exact BK290.out) NB290_0.out (by simp)); have n2_ := Aside0.mk (Kd.R_mono (Kd.R_keep (IsS84.apart (show IsS84 w0 _ g s0_0 t292 from by repeat (first | (with_reducible first | exact HI0.out | apply IsS84.alloc | apply IsS84.drewN | apply IsS84.drew | apply IsS84.set_1 | refine IsS84.far ?_ NB0_285.out _ | refine IsS84.far ?_ NB0_290.out _) | exact HI0.out)) (by (with_reducible repeat (first | apply Kd.R_alloc | apply Kd.R_drewN | apply Kd.R_drew)); exact HO295.out) (by decide)) hk (fun _ h => h.2)) (fun _ h => h.1)); have n3_ := Aside0.mk (KeepBut.trans (by repeat (first | (with_reducible first | exact HK.out | apply KeepBut.set_ | apply keep_drewN | apply keep_drew | apply keep_alloc | refine keep_far ?_ GW285.out _ | refine keep_far ?_ GW290.out _) | exact HK.out)) hk (.inl rfl)); have n4_ := Aside0.mk (hb); have n5_ := Aside0.mk (hi); clear BK285; clear BK290; clear HO295; clear HK; clear HB; clear HI0; have BK285 := n0_; have BK290 := n1_; have HO295 := n2_; have HK := n3_; have HB := n4_; have HI0 := n5_; clear n0_ n1_ n2_ n3_ n4_ n5_; (try clear hb); (try clear hb2); (try clear hk); (try clear hi); obtain ⟨Ao21, co21, eo21⟩ := Kd.R_slice HO295.out; subst eo21; have p298 : 0 ≤ (t296 : Int) := of_decide_eq_true (by first | (with_reducible assumption) | assumption); have q298 : t296 < (y293.length : Int) := of_decide_eq_true (by first | (with_reducible assumption) | assumption); obtain ⟨ad298, e298, hx298_0, hx298_1⟩ := at_T25 (Kd.R_reads' HO295.out).2.2 t296 p298 q298; cases e298; replace p298 := eq_true p298; replace q298 := eq_true q298; have hnb22 := NB285_0.out; have hnc22 := NB0_285.out; have hcz23_0 : w20.cell? ⟨gb285, 0, none⟩ = some (.int .i64 0) := (blk_cell BK285.out 0).trans rfl; have hcz23_1 : w20.cell? ⟨gb285, 1, none⟩ = some (.int .i64 0) := (blk_cell BK285.out 1).trans rfl; have hfz23_0 := blk_frozen BK285.out 0; have hfz23_1 := blk_frozen BK285.out 1))
        refine bodyPost_ret (results_cell_row rfl _ _ gb285 25 #[.int .i64 ((rd_T25 y293 t296).f0), .int .i64 ((rd_T25 y293 t296).f1)] (0, 0) _ rfl (by (with_reducible repeat (first | refine blk_drewN ?_ _ | refine blk_drew ?_ | refine blk_alloc ?_ _)); refine blk_put (cs := #[.int .i64 ((rd_T25 y293 t296).f0), .int .i64 0]) ?_ 1 _ rfl; (with_reducible repeat (first | refine blk_drewN ?_ _ | refine blk_drew ?_ | refine blk_alloc ?_ _)); refine blk_put (cs := #[.int .i64 0, .int .i64 0]) ?_ 0 _ rfl; (with_reducible repeat (first | refine blk_drewN ?_ _ | refine blk_drew ?_ | refine blk_alloc ?_ _)); exact BK285.out) Try.underlying25 rfl (by kernel_rfl)) rfl ?_
        exact ⟨by first | rfl | (simp [errW_none, errW_some] <;> rfl) | (simp [*, errW_none, errW_some] <;> rfl), by repeat (first | (with_reducible first | exact HI0.out | apply IsS84.alloc | apply IsS84.drewN | apply IsS84.drew | apply IsS84.set_1 | refine IsS84.far ?_ NB0_285.out _ | refine IsS84.far ?_ NB0_290.out _) | exact HI0.out), by repeat (first | (with_reducible first | exact HB.out | apply below_alloc | apply pw_below_drewN | apply below_drew1 | refine below_set ?_ (IsS84.ge HI0.out) | refine below_set ?_ GE285.out | refine below_set ?_ GE290.out) | exact HB.out), by repeat (first | (with_reducible first | exact HK.out | apply KeepBut.set_ | apply keep_drewN | apply keep_drew | apply keep_alloc | refine keep_far ?_ GW285.out _ | refine keep_far ?_ GW290.out _) | exact HK.out)⟩
      · rw [if_neg c9] at H
        exact absurd H (by simp)
    · rw [if_neg c8] at H
      exact absurd H (by simp)
  · replace c6 := Bool.eq_false_iff.mpr c6
    subst c6
    have H1 : (some (t286, t288, t292)) = some (r1, r2, r3) := by rw [if_neg (show ¬ (false = true) by decide)] at H; exact H
    clear H
    have H := H1
    clear H1
    simp only [Option.some.injEq, Prod.mk.injEq] at H
    obtain ⟨rfl, rfl, rfl⟩ := H
    go_enter Try.func56, Try.ntmps56
    go_wp2_with (first | ((with_reducible refine gate_dst (N := 4) rfl ?_); refine box_event ?hg (N := 4) ?hd (cs := #[.int .i64 0, .int .i64 0]) (t := 25) ?hr ?_; (case hd => rfl); (case hg => rfl); (case hr => first | (go_simp; done) | (go_simp; rfl)); intro gb285 hg w24 hbox hb; have n0_ := Aside0.mk (IsS84.below (by repeat (first | (with_reducible first | exact HI0.out | apply IsS84.alloc | apply IsS84.drewN | apply IsS84.drew | apply IsS84.set_1) | exact HI0.out)) hb); have n1_ := Aside0.mk (KeepBut.trans (by repeat (first | (with_reducible first | exact HK.out | apply KeepBut.set_ | apply keep_drewN | apply keep_drew | apply keep_alloc) | exact HK.out)) (KeepBut.of_below hb g none) (.inl rfl)); have n2_ := Aside0.mk (below_step (by repeat (first | (with_reducible first | exact HB.out | apply below_alloc | apply pw_below_drewN | apply below_drew1 | refine below_set ?_ (IsS84.ge HI0.out)) | exact HB.out)) hb); have n3_ := Aside0.mk (hbox); have n4_ := Aside0.mk ((by rw [hg]; exact (keep_size (w := w) (g := g) (row := none) (by repeat (first | (with_reducible first | exact HK.out | apply KeepBut.set_ | apply keep_drewN | apply keep_drew | apply keep_alloc) | exact HK.out))) : w.heap.size ≤ gb285)); have n5_ := Aside0.mk ((Nat.le_trans HW0.out (by rw [hg]; exact (keep_size (w := w) (g := g) (row := none) (by repeat (first | (with_reducible first | exact HK.out | apply KeepBut.set_ | apply keep_drewN | apply keep_drew | apply keep_alloc) | exact HK.out))) : w.heap.size ≤ gb285) : w0.heap.size ≤ gb285)); have n6_ := Aside0.mk ((by rw [hg]; exact Nat.ne_of_lt (IsS84.lt (show IsS84 w0 _ g s0_0 s0_1 from by repeat (first | (with_reducible first | exact HI0.out | apply IsS84.alloc | apply IsS84.drewN | apply IsS84.drew | apply IsS84.set_1) | exact HI0.out))) : g ≠ gb285)); have n7_ := Aside0.mk ((by rw [hg]; exact Nat.ne_of_gt (IsS84.lt (show IsS84 w0 _ g s0_0 s0_1 from by repeat (first | (with_reducible first | exact HI0.out | apply IsS84.alloc | apply IsS84.drewN | apply IsS84.drew | apply IsS84.set_1) | exact HI0.out))) : gb285 ≠ g)); clear HI0; clear HK; clear HB; have HI0 := n0_; have HK := n1_; have HB := n2_; have BK285 := n3_; have GW285 := n4_; have GE285 := n5_; have NB0_285 := n6_; have NB285_0 := n7_; clear n0_ n1_ n2_ n3_ n4_ n5_ n6_ n7_; clear hb hbox hg) | ((with_reducible refine gate_callee (f := 58) rfl ?_); refine goesL_ (some 7) rfl rfl Try.func58 (by kernel_rfl) rfl #[.pointer (some ⟨g, 0, none⟩), .int .i64 21] rfl (by (try simp only [List.map_toArray, List.map_cons, List.map_nil]); first | done | rfl | (simp only [List.length_drop, List.length_take]; rfl)) ?_; (with_reducible refine (spec_l20Rd_pick.calls k g s0_0 s0_1 21 t286 t287 w0 _ ?side1 ?side2 A3.out).mono ?_); (case side1 => repeat (first | (with_reducible first | exact HI0.out | apply IsS84.alloc | apply IsS84.drewN | apply IsS84.drew | apply IsS84.set_1 | refine IsS84.far ?_ NB0_285.out _) | exact HI0.out)); (case side2 => repeat (first | (with_reducible first | exact HB.out | apply below_alloc | apply pw_below_drewN | apply below_drew1 | refine below_set ?_ (IsS84.ge HI0.out) | refine below_set ?_ GE285.out) | exact HB.out)); rintro e w25 ⟨rfl, hi, hb, hk⟩; refine ⟨_, rfl, ?_⟩; have n0_ := Aside0.mk (KeepBut.blk hk (g' := gb285) (o := .cells #[.int .i64 0, .int .i64 0] 25 (0, 0)) (by (with_reducible repeat (first | refine blk_drewN ?_ _ | refine blk_drew ?_ | refine blk_alloc ?_ _)); exact BK285.out) NB285_0.out (by simp)); have n1_ := Aside0.mk (KeepBut.trans (by repeat (first | (with_reducible first | exact HK.out | apply KeepBut.set_ | apply keep_drewN | apply keep_drew | apply keep_alloc | refine keep_far ?_ GW285.out _) | exact HK.out)) hk (.inl rfl)); have n2_ := Aside0.mk (hb); have n3_ := Aside0.mk (hi); clear BK285; clear HK; clear HB; clear HI0; have BK285 := n0_; have HK := n1_; have HB := n2_; have HI0 := n3_; clear n0_ n1_ n2_ n3_; (try clear hb); (try clear hb2); (try clear hk); (try clear hi)) | ((with_reducible refine gate_callee (f := 58) rfl ?_); refine goesL_ (some 9) rfl rfl Try.func58 (by kernel_rfl) rfl #[.pointer (some ⟨g, 0, none⟩), .int .i64 7] rfl (by (try simp only [List.map_toArray, List.map_cons, List.map_nil]); first | done | rfl | (simp only [List.length_drop, List.length_take]; rfl)) ?_; (with_reducible refine (spec_l20Rd_pick.calls k g s0_0 t287 7 t288 t289 w0 _ ?side1 ?side2 A4.out).mono ?_); (case side1 => repeat (first | (with_reducible first | exact HI0.out | apply IsS84.alloc | apply IsS84.drewN | apply IsS84.drew | apply IsS84.set_1 | refine IsS84.far ?_ NB0_285.out _) | exact HI0.out)); (case side2 => repeat (first | (with_reducible first | exact HB.out | apply below_alloc | apply pw_below_drewN | apply below_drew1 | refine below_set ?_ (IsS84.ge HI0.out) | refine below_set ?_ GE285.out) | exact HB.out)); rintro e w26 ⟨rfl, hi, hb, hk⟩; refine ⟨_, rfl, ?_⟩; have n0_ := Aside0.mk (KeepBut.blk hk (g' := gb285) (o := .cells #[.int .i64 0, .int .i64 0] 25 (0, 0)) (by (with_reducible repeat (first | refine blk_drewN ?_ _ | refine blk_drew ?_ | refine blk_alloc ?_ _)); exact BK285.out) NB285_0.out (by simp)); have n1_ := Aside0.mk (KeepBut.trans (by repeat (first | (with_reducible first | exact HK.out | apply KeepBut.set_ | apply keep_drewN | apply keep_drew | apply keep_alloc | refine keep_far ?_ GW285.out _) | exact HK.out)) hk (.inl rfl)); have n2_ := Aside0.mk (hb); have n3_ := Aside0.mk (hi); clear BK285; clear HK; clear HB; clear HI0; have BK285 := n0_; have HK := n1_; have HB := n2_; have HI0 := n3_; clear n0_ n1_ n2_ n3_; (try clear hb); (try clear hb2); (try clear hk); (try clear hi)) | ((with_reducible refine gate_dst (N := 5) rfl ?_); refine box_event ?hg (N := 5) ?hd (cs := #[.int .i64 0, .int .i64 0]) (t := 25) ?hr ?_; (case hd => rfl); (case hg => rfl); (case hr => first | (go_simp; done) | (go_simp; rfl)); intro gb290 hg w27 hbox hb; have n0_ := Aside0.mk (IsS84.below (by repeat (first | (with_reducible first | exact HI0.out | apply IsS84.alloc | apply IsS84.drewN | apply IsS84.drew | apply IsS84.set_1 | refine IsS84.far ?_ NB0_285.out _) | exact HI0.out)) hb); have n1_ := Aside0.mk (blk_below (g := gb285) (o := .cells #[.int .i64 0, .int .i64 0] 25 (0, 0)) (by (with_reducible repeat (first | refine blk_drewN ?_ _ | refine blk_drew ?_ | refine blk_alloc ?_ _)); exact BK285.out) hb); have n2_ := Aside0.mk (KeepBut.trans (by repeat (first | (with_reducible first | exact HK.out | apply KeepBut.set_ | apply keep_drewN | apply keep_drew | apply keep_alloc | refine keep_far ?_ GW285.out _) | exact HK.out)) (KeepBut.of_below hb g none) (.inl rfl)); have n3_ := Aside0.mk (below_step (by repeat (first | (with_reducible first | exact HB.out | apply below_alloc | apply pw_below_drewN | apply below_drew1 | refine below_set ?_ (IsS84.ge HI0.out) | refine below_set ?_ GE285.out) | exact HB.out)) hb); have n4_ := Aside0.mk (hbox); have n5_ := Aside0.mk ((by rw [hg]; exact (keep_size (w := w) (g := g) (row := none) (by repeat (first | (with_reducible first | exact HK.out | apply KeepBut.set_ | apply keep_drewN | apply keep_drew | apply keep_alloc | refine keep_far ?_ GW285.out _) | exact HK.out))) : w.heap.size ≤ gb290)); have n6_ := Aside0.mk ((Nat.le_trans HW0.out (by rw [hg]; exact (keep_size (w := w) (g := g) (row := none) (by repeat (first | (with_reducible first | exact HK.out | apply KeepBut.set_ | apply keep_drewN | apply keep_drew | apply keep_alloc | refine keep_far ?_ GW285.out _) | exact HK.out))) : w.heap.size ≤ gb290) : w0.heap.size ≤ gb290)); have n7_ := Aside0.mk ((by rw [hg]; exact Nat.ne_of_lt (blk_lt (g := gb285) (o := .cells #[.int .i64 0, .int .i64 0] 25 (0, 0)) (by (with_reducible repeat (first | refine blk_drewN ?_ _ | refine blk_drew ?_ | refine blk_alloc ?_ _)); exact BK285.out)) : gb285 ≠ gb290)); have n8_ := Aside0.mk ((by rw [hg]; exact Nat.ne_of_gt (blk_lt (g := gb285) (o := .cells #[.int .i64 0, .int .i64 0] 25 (0, 0)) (by (with_reducible repeat (first | refine blk_drewN ?_ _ | refine blk_drew ?_ | refine blk_alloc ?_ _)); exact BK285.out)) : gb290 ≠ gb285)); have n9_ := Aside0.mk ((by rw [hg]; exact Nat.ne_of_lt (IsS84.lt (show IsS84 w0 _ g s0_0 t289 from by repeat (first | (with_reducible first | exact HI0.out | apply IsS84.alloc | apply IsS84.drewN | apply IsS84.drew | apply IsS84.set_1 | refine IsS84.far ?_ NB0_285.out _) | exact HI0.out))) : g ≠ gb290)); have n10_ := Aside0.mk ((by rw [hg]; exact Nat.ne_of_gt (IsS84.lt (show IsS84 w0 _ g s0_0 t289 from by repeat (first | (with_reducible first | exact HI0.out | apply IsS84.alloc | apply IsS84.drewN | apply IsS84.drew | apply IsS84.set_1 | refine IsS84.far ?_ NB0_285.out _) | exact HI0.out))) : gb290 ≠ g)); clear HI0; clear BK285; clear HK; clear HB; have HI0 := n0_; have BK285 := n1_; have HK := n2_; have HB := n3_; have BK290 := n4_; have GW290 := n5_; have GE290 := n6_; have NB285_290 := n7_; have NB290_285 := n8_; have NB0_290 := n9_; have NB290_0 := n10_; clear n0_ n1_ n2_ n3_ n4_ n5_ n6_ n7_ n8_ n9_ n10_; clear hb hbox hg; have hnb28 := NB290_285.out; have hnc28 := NB285_290.out; have hnb29 := NB290_0.out; have hnc29 := NB0_290.out; have hcz30_0 : w27.cell? ⟨gb290, 0, none⟩ = some (.int .i64 0) := (blk_cell BK290.out 0).trans rfl; have hcz30_1 : w27.cell? ⟨gb290, 1, none⟩ = some (.int .i64 0) := (blk_cell BK290.out 1).trans rfl; have hfz30_0 := blk_frozen BK290.out 0; have hfz30_1 := blk_frozen BK290.out 1) | ((with_reducible refine gate_callee (f := 60) rfl ?_); refine goesL_ (some 13) rfl rfl Try.func60 (by kernel_rfl) rfl #[.pointer (some ⟨g, 0, none⟩), .int .i64 a1] rfl (by (try simp only [List.map_toArray, List.map_cons, List.map_nil]); first | done | rfl | (simp only [List.length_drop, List.length_take]; rfl)) ?_; (with_reducible refine (spec_l20Rd_odd.calls k g s0_0 t289 a1 false t292 w0 _ ?side1 ?side2 A5.out).mono ?_); (case side1 => repeat (first | (with_reducible first | exact HI0.out | apply IsS84.alloc | apply IsS84.drewN | apply IsS84.drew | apply IsS84.set_1 | refine IsS84.far ?_ NB0_285.out _ | refine IsS84.far ?_ NB0_290.out _) | exact HI0.out)); (case side2 => repeat (first | (with_reducible first | exact HB.out | apply below_alloc | apply pw_below_drewN | apply below_drew1 | refine below_set ?_ (IsS84.ge HI0.out) | refine below_set ?_ GE285.out | refine below_set ?_ GE290.out) | exact HB.out)); rintro e w31 ⟨rfl, hi, hb, hk⟩; refine ⟨_, rfl, ?_⟩; have n0_ := Aside0.mk (KeepBut.blk hk (g' := gb285) (o := .cells #[.int .i64 0, .int .i64 0] 25 (0, 0)) (by (with_reducible repeat (first | refine blk_drewN ?_ _ | refine blk_drew ?_ | refine blk_alloc ?_ _)); refine blk_far ?_ NB285_290.out _; (with_reducible repeat (first | refine blk_drewN ?_ _ | refine blk_drew ?_ | refine blk_alloc ?_ _)); refine blk_far ?_ NB285_290.out _; (with_reducible repeat (first | refine blk_drewN ?_ _ | refine blk_drew ?_ | refine blk_alloc ?_ _)); exact BK285.out) NB285_0.out (by simp)); have n1_ := Aside0.mk (KeepBut.blk hk (g' := gb290) (o := .cells #[.int .i64 t286, .int .i64 t288] 25 (0, 0)) (by (with_reducible repeat (first | refine blk_drewN ?_ _ | refine blk_drew ?_ | refine blk_alloc ?_ _)); refine blk_put (cs := #[.int .i64 t286, .int .i64 0]) ?_ 1 _ rfl; (with_reducible repeat (first | refine blk_drewN ?_ _ | refine blk_drew ?_ | refine blk_alloc ?_ _)); refine blk_put (cs := #[.int .i64 0, .int .i64 0]) ?_ 0 _ rfl; (with_reducible repeat (first | refine blk_drewN ?_ _ | refine blk_drew ?_ | refine blk_alloc ?_ _)); exact BK290.out) NB290_0.out (by simp)); have n2_ := Aside0.mk (KeepBut.trans (by repeat (first | (with_reducible first | exact HK.out | apply KeepBut.set_ | apply keep_drewN | apply keep_drew | apply keep_alloc | refine keep_far ?_ GW285.out _ | refine keep_far ?_ GW290.out _) | exact HK.out)) hk (.inl rfl)); have n3_ := Aside0.mk (hb); have n4_ := Aside0.mk (hi); clear BK285; clear BK290; clear HK; clear HB; clear HI0; have BK285 := n0_; have BK290 := n1_; have HK := n2_; have HB := n3_; have HI0 := n4_; clear n0_ n1_ n2_ n3_ n4_; (try clear hb); (try clear hb2); (try clear hk); (try clear hi); have hcz32_0 : w31.cell? ⟨gb290, 0, none⟩ = some (.int .i64 t286) := (blk_cell BK290.out 0).trans rfl; have hcz32_1 : w31.cell? ⟨gb290, 1, none⟩ = some (.int .i64 t288) := (blk_cell BK290.out 1).trans rfl; have hfz32_0 := blk_frozen BK290.out 0; have hfz32_1 := blk_frozen BK290.out 1; have hnb33 := NB285_0.out; have hnc33 := NB0_285.out; have hcz34_0 : w31.cell? ⟨gb285, 0, none⟩ = some (.int .i64 0) := (blk_cell BK285.out 0).trans rfl; have hcz34_1 : w31.cell? ⟨gb285, 1, none⟩ = some (.int .i64 0) := (blk_cell BK285.out 1).trans rfl; have hfz34_0 := blk_frozen BK285.out 0; have hfz34_1 := blk_frozen BK285.out 1))
    refine bodyPost_ret (results_cell_row rfl _ _ gb285 25 #[.int .i64 t286, .int .i64 t288] (0, 0) _ rfl (by (with_reducible repeat (first | refine blk_drewN ?_ _ | refine blk_drew ?_ | refine blk_alloc ?_ _)); refine blk_put (cs := #[.int .i64 t286, .int .i64 0]) ?_ 1 _ rfl; (with_reducible repeat (first | refine blk_drewN ?_ _ | refine blk_drew ?_ | refine blk_alloc ?_ _)); refine blk_put (cs := #[.int .i64 0, .int .i64 0]) ?_ 0 _ rfl; (with_reducible repeat (first | refine blk_drewN ?_ _ | refine blk_drew ?_ | refine blk_alloc ?_ _)); exact BK285.out) Try.underlying25 rfl (by kernel_rfl)) rfl ?_
    exact ⟨by first | rfl | (simp [errW_none, errW_some] <;> rfl) | (simp [*, errW_none, errW_some] <;> rfl), by repeat (first | (with_reducible first | exact HI0.out | apply IsS84.alloc | apply IsS84.drewN | apply IsS84.drew | apply IsS84.set_1 | refine IsS84.far ?_ NB0_285.out _ | refine IsS84.far ?_ NB0_290.out _) | exact HI0.out), by repeat (first | (with_reducible first | exact HB.out | apply below_alloc | apply pw_below_drewN | apply below_drew1 | refine below_set ?_ (IsS84.ge HI0.out) | refine below_set ?_ GE285.out | refine below_set ?_ GE290.out) | exact HB.out), by repeat (first | (with_reducible first | exact HK.out | apply KeepBut.set_ | apply keep_drewN | apply keep_drew | apply keep_alloc | refine keep_far ?_ GW285.out _ | refine keep_far ?_ GW290.out _) | exact HK.out)⟩

end Go.Proofs.Ytooabmmnbifclaa.P
-- Laid by a program of this work.
namespace Go.Proofs.Ytooabmmnbifclaa.P
open Go.RowKit Go.Proofs.YtooabmmnbifclaaW.PrintWords Go.Proofs.YtooabmmnbifclaaW.PrintLast Go.Proofs.YtooabmmnbifclaaW.PrintMore
attribute [local go_sem] max2_int min2_int max_two min_two max_three min_three max_four min_four   -- for this text's walks alone
set_option linter.unusedVariables false
set_option linter.unusedSimpArgs false

/-! ### spec_l20Link: function 57 -/
def spec_l20Link.f (k : Nat) (s0_0 : List Int) (s0_1 : Int) (a1 : Int) : Option (Int × Int × Int) := (spec_l20Rd_pick.f k s0_0 s0_1 9).bind fun bt307 => ((spec_l20Rd_pick.f k s0_0 bt307.2 9).bind fun bt309 => ((spec_l20Rd_odd.f k s0_0 bt309.2 a1).bind fun bt312 => (if bt312.1 = true then ((some (([(⟨0, 0⟩ : S31), (⟨(-1), 1⟩ : S31), (⟨21, 1⟩ : S31), (⟨0, 21⟩ : S31)] : List (S31)) : List (S31))).bind fun y314 => ((spec_l20Rd_pick.f k s0_0 bt312.2 4).bind fun bt317 => (if 0 ≤ bt317.1 then (if bt317.1 < (y314.length : Int) then (some ((rd_T31 y314 bt317.1).f0, (rd_T31 y314 bt317.1).f1, bt317.2)) else (none)) else (none)))) else (some (bt307.1, wrap64 (1 + bt309.1), bt312.2)))))
theorem spec_l20Link.mono : ∀ a0 a1 a2 k, LeO (spec_l20Link.f k a0 a1 a2) (spec_l20Link.f (k + 1) a0 a1 a2) := by
  intro a0 a1 a2 k
  unfold spec_l20Link.f
  repeat' first
      | (with_reducible exact spec_l20Rd_odd.mono _ _ _ _)
      | (with_reducible exact spec_l20Rd_pick.mono _ _ _ _)
      | (with_reducible exact LeO.refl _)
      | (with_reducible exact LeO.none _)
      | (with_reducible refine LeO.ite ?_ ?_)
      | (with_reducible refine LeO.bind ?_ (fun _ => ?_))
      | exact spec_l20Rd_odd.mono _ _ _ _
      | exact spec_l20Rd_pick.mono _ _ _ _
      | exact LeO.none _
      | refine LeO.ite ?_ ?_
      | refine LeO.bind ?_ (fun _ => ?_)
set_option maxHeartbeats 8000000 in
set_option maxRecDepth 100000 in
theorem spec_l20Link.calls (k : Nat) (g : Nat) (s0_0 : List Int) (s0_1 : Int) (a1 : Int) (r1 : Int) (r2 : Int) (r3 : Int) (w0 w : World) (hI : IsS84 w0 w g s0_0 s0_1) (hB : Below w0.heap.size w0 w) (h : spec_l20Link.f k s0_0 s0_1 a1 = some (r1, r2, r3)) :
    Calls Try.prog 57 #[.pointer (some ⟨g, 0, none⟩), .int .i64 a1] w fun e w' => e = .returned (.agg #[.int .i64 r1, .int .i64 r2]) ∧ IsS84 w0 w' g s0_0 r3 ∧ Below w0.heap.size w0 w' ∧ KeepBut w w' g none := by
  have hu31 := Try.underlying31
  have HI0 := Aside0.mk hI
  have HK := Aside0.mk (KeepBut.refl w g none)
  have HL := Aside0.mk hB.size
  clear hI
  have HW0 := Aside0.mk hB.size
  have HB := Aside0.mk hB
  clear hB
  have H : ((spec_l20Rd_pick.f k s0_0 s0_1 9).bind fun bt307 => ((spec_l20Rd_pick.f k s0_0 bt307.2 9).bind fun bt309 => ((spec_l20Rd_odd.f k s0_0 bt309.2 a1).bind fun bt312 => (if bt312.1 = true then ((some (([(⟨0, 0⟩ : S31), (⟨(-1), 1⟩ : S31), (⟨21, 1⟩ : S31), (⟨0, 21⟩ : S31)] : List (S31)) : List (S31))).bind fun y314 => ((spec_l20Rd_pick.f k s0_0 bt312.2 4).bind fun bt317 => (if 0 ≤ bt317.1 then (if bt317.1 < (y314.length : Int) then (some ((rd_T31 y314 bt317.1).f0, (rd_T31 y314 bt317.1).f1, bt317.2)) else (none)) else (none)))) else (some (bt307.1, wrap64 (1 + bt309.1), bt312.2)))))) = some (r1, r2, r3) := h
  clear h
  replace H := Option.bind_eq_some_iff.mp H
  obtain ⟨⟨t307, t308⟩, A30, H⟩ := H
  replace H : ((spec_l20Rd_pick.f k s0_0 t308 9).bind fun bt309 => ((spec_l20Rd_odd.f k s0_0 bt309.2 a1).bind fun bt312 => (if bt312.1 = true then ((some (([(⟨0, 0⟩ : S31), (⟨(-1), 1⟩ : S31), (⟨21, 1⟩ : S31), (⟨0, 21⟩ : S31)] : List (S31)) : List (S31))).bind fun y314 => ((spec_l20Rd_pick.f k s0_0 bt312.2 4).bind fun bt317 => (if 0 ≤ bt317.1 then (if bt317.1 < (y314.length : Int) then (some ((rd_T31 y314 bt317.1).f0, (rd_T31 y314 bt317.1).f1, bt317.2)) else (none)) else (none)))) else (some (t307, wrap64 (1 + bt309.1), bt312.2))))) = some (r1, r2, r3) := H
  have A3 := Aside0.mk A30
  clear A30
  replace H := Option.bind_eq_some_iff.mp H
  obtain ⟨⟨t309, t310⟩, A40, H⟩ := H
  replace H : ((spec_l20Rd_odd.f k s0_0 t310 a1).bind fun bt312 => (if bt312.1 = true then ((some (([(⟨0, 0⟩ : S31), (⟨(-1), 1⟩ : S31), (⟨21, 1⟩ : S31), (⟨0, 21⟩ : S31)] : List (S31)) : List (S31))).bind fun y314 => ((spec_l20Rd_pick.f k s0_0 bt312.2 4).bind fun bt317 => (if 0 ≤ bt317.1 then (if bt317.1 < (y314.length : Int) then (some ((rd_T31 y314 bt317.1).f0, (rd_T31 y314 bt317.1).f1, bt317.2)) else (none)) else (none)))) else (some (t307, wrap64 (1 + t309), bt312.2)))) = some (r1, r2, r3) := H
  have A4 := Aside0.mk A40
  clear A40
  replace H := Option.bind_eq_some_iff.mp H
  obtain ⟨⟨t312, t313⟩, A50, H⟩ := H
  replace H : (if t312 = true then ((some (([(⟨0, 0⟩ : S31), (⟨(-1), 1⟩ : S31), (⟨21, 1⟩ : S31), (⟨0, 21⟩ : S31)] : List (S31)) : List (S31))).bind fun y314 => ((spec_l20Rd_pick.f k s0_0 t313 4).bind fun bt317 => (if 0 ≤ bt317.1 then (if bt317.1 < (y314.length : Int) then (some ((rd_T31 y314 bt317.1).f0, (rd_T31 y314 bt317.1).f1, bt317.2)) else (none)) else (none)))) else (some (t307, wrap64 (1 + t309), t313))) = some (r1, r2, r3) := H
  have A5 := Aside0.mk A50
  clear A50
  by_cases c6 : t312 = true
  · subst c6
    have H1 : ((some (([(⟨0, 0⟩ : S31), (⟨(-1), 1⟩ : S31), (⟨21, 1⟩ : S31), (⟨0, 21⟩ : S31)] : List (S31)) : List (S31))).bind fun y314 => ((spec_l20Rd_pick.f k s0_0 t313 4).bind fun bt317 => (if 0 ≤ bt317.1 then (if bt317.1 < (y314.length : Int) then (some ((rd_T31 y314 bt317.1).f0, (rd_T31 y314 bt317.1).f1, bt317.2)) else (none)) else (none)))) = some (r1, r2, r3) := by rw [if_pos rfl] at H; exact H
    clear H
    have H := H1
    clear H1
    obtain ⟨y314, hy314⟩ : ∃ y_ : List (S31), y_ = (([(⟨0, 0⟩ : S31), (⟨(-1), 1⟩ : S31), (⟨21, 1⟩ : S31), (⟨0, 21⟩ : S31)] : List (S31))) := ⟨_, rfl⟩
    replace H : ((spec_l20Rd_pick.f k s0_0 t313 4).bind fun bt317 => (if 0 ≤ bt317.1 then (if bt317.1 < (y314.length : Int) then (some ((rd_T31 y314 bt317.1).f0, (rd_T31 y314 bt317.1).f1, bt317.2)) else (none)) else (none))) = some (r1, r2, r3) := by first | (rw [hy314]; with_reducible exact H) | (have H2_ := (Option.bind_some _ _).symm.trans H; rw [hy314]; with_reducible exact H2_) | (have H2_ := (Option.bind_some _ _).symm.trans H; with_reducible exact H2_) | with_reducible exact H | (rw [hy314]; exact H) | exact H
    have Ny314 := Aside0.mk hy314
    clear hy314
    replace H := Option.bind_eq_some_iff.mp H
    obtain ⟨⟨t317, t318⟩, A70, H⟩ := H
    replace H : (if 0 ≤ t317 then (if t317 < (y314.length : Int) then (some ((rd_T31 y314 t317).f0, (rd_T31 y314 t317).f1, t318)) else (none)) else (none)) = some (r1, r2, r3) := H
    have A7 := Aside0.mk A70
    clear A70
    by_cases c8 : 0 ≤ t317
    · rw [if_pos c8] at H
      have c8b0 : decide (0 ≤ t317) = true := decide_eq_true c8
      clear c8
      by_cases c9 : t317 < (y314.length : Int)
      · rw [if_pos c9] at H
        have c9b0 : decide (t317 < (y314.length : Int)) = true := decide_eq_true c9
        clear c9
        simp only [Option.some.injEq, Prod.mk.injEq] at H
        obtain ⟨rfl, rfl, rfl⟩ := H
        go_enter Try.func57, Try.ntmps57
        go_wp2_with (first | ((with_reducible refine gate_dst (N := 4) rfl ?_); refine box_event ?hg (N := 4) ?hd (cs := #[.int .i64 0, .int .i64 0]) (t := 31) ?hr ?_; (case hd => rfl); (case hg => rfl); (case hr => first | (go_simp; done) | (go_simp; rfl)); intro gb306 hg w10 hbox hb; have n0_ := Aside0.mk (IsS84.below (by repeat (first | (with_reducible first | exact HI0.out | apply IsS84.alloc | apply IsS84.drewN | apply IsS84.drew | apply IsS84.set_1) | exact HI0.out)) hb); have n1_ := Aside0.mk (KeepBut.trans (by repeat (first | (with_reducible first | exact HK.out | apply KeepBut.set_ | apply keep_drewN | apply keep_drew | apply keep_alloc) | exact HK.out)) (KeepBut.of_below hb g none) (.inl rfl)); have n2_ := Aside0.mk (below_step (by repeat (first | (with_reducible first | exact HB.out | apply below_alloc | apply pw_below_drewN | apply below_drew1 | refine below_set ?_ (IsS84.ge HI0.out)) | exact HB.out)) hb); have n3_ := Aside0.mk (hbox); have n4_ := Aside0.mk ((by rw [hg]; exact (keep_size (w := w) (g := g) (row := none) (by repeat (first | (with_reducible first | exact HK.out | apply KeepBut.set_ | apply keep_drewN | apply keep_drew | apply keep_alloc) | exact HK.out))) : w.heap.size ≤ gb306)); have n5_ := Aside0.mk ((Nat.le_trans HW0.out (by rw [hg]; exact (keep_size (w := w) (g := g) (row := none) (by repeat (first | (with_reducible first | exact HK.out | apply KeepBut.set_ | apply keep_drewN | apply keep_drew | apply keep_alloc) | exact HK.out))) : w.heap.size ≤ gb306) : w0.heap.size ≤ gb306)); have n6_ := Aside0.mk ((by rw [hg]; exact Nat.ne_of_lt (IsS84.lt (show IsS84 w0 _ g s0_0 s0_1 from by repeat (first | (with_reducible first | exact HI0.out | apply IsS84.alloc | apply IsS84.drewN | apply IsS84.drew | apply IsS84.set_1) | exact HI0.out))) : g ≠ gb306)); have n7_ := Aside0.mk ((by rw [hg]; exact Nat.ne_of_gt (IsS84.lt (show IsS84 w0 _ g s0_0 s0_1 from by repeat (first | (with_reducible first | exact HI0.out | apply IsS84.alloc | apply IsS84.drewN | apply IsS84.drew | apply IsS84.set_1) | exact HI0.out))) : gb306 ≠ g)); clear HI0; clear HK; clear HB; have HI0 := n0_; have HK := n1_; have HB := n2_; have BK306 := n3_; have GW306 := n4_; have GE306 := n5_; have NB0_306 := n6_; have NB306_0 := n7_; clear n0_ n1_ n2_ n3_ n4_ n5_ n6_ n7_; clear hb hbox hg) | ((with_reducible refine gate_callee (f := 58) rfl ?_); refine goesL_ (some 7) rfl rfl Try.func58 (by kernel_rfl) rfl #[.pointer (some ⟨g, 0, none⟩), .int .i64 9] rfl (by (try simp only [List.map_toArray, List.map_cons, List.map_nil]); first | done | rfl | (simp only [List.length_drop, List.length_take]; rfl)) ?_; (with_reducible refine (spec_l20Rd_pick.calls k g s0_0 s0_1 9 t307 t308 w0 _ ?side1 ?side2 A3.out).mono ?_); (case side1 => repeat (first | (with_reducible first | exact HI0.out | apply IsS84.alloc | apply IsS84.drewN | apply IsS84.drew | apply IsS84.set_1 | refine IsS84.far ?_ NB0_306.out _) | exact HI0.out)); (case side2 => repeat (first | (with_reducible first | exact HB.out | apply below_alloc | apply pw_below_drewN | apply below_drew1 | refine below_set ?_ (IsS84.ge HI0.out) | refine below_set ?_ GE306.out) | exact HB.out)); rintro e w11 ⟨rfl, hi, hb, hk⟩; refine ⟨_, rfl, ?_⟩; have n0_ := Aside0.mk (KeepBut.blk hk (g' := gb306) (o := .cells #[.int .i64 0, .int .i64 0] 31 (0, 0)) (by (with_reducible repeat (first | refine blk_drewN ?_ _ | refine blk_drew ?_ | refine blk_alloc ?_ _)); exact BK306.out) NB306_0.out (by simp)); have n1_ := Aside0.mk (KeepBut.trans (by repeat (first | (with_reducible first | exact HK.out | apply KeepBut.set_ | apply keep_drewN | apply keep_drew | apply keep_alloc | refine keep_far ?_ GW306.out _) | exact HK.out)) hk (.inl rfl)); have n2_ := Aside0.mk (hb); have n3_ := Aside0.mk (hi); clear BK306; clear HK; clear HB; clear HI0; have BK306 := n0_; have HK := n1_; have HB := n2_; have HI0 := n3_; clear n0_ n1_ n2_ n3_; (try clear hb); (try clear hb2); (try clear hk); (try clear hi)) | ((with_reducible refine gate_callee (f := 58) rfl ?_); refine goesL_ (some 9) rfl rfl Try.func58 (by kernel_rfl) rfl #[.pointer (some ⟨g, 0, none⟩), .int .i64 9] rfl (by (try simp only [List.map_toArray, List.map_cons, List.map_nil]); first | done | rfl | (simp only [List.length_drop, List.length_take]; rfl)) ?_; (with_reducible refine (spec_l20Rd_pick.calls k g s0_0 t308 9 t309 t310 w0 _ ?side1 ?side2 A4.out).mono ?_); (case side1 => repeat (first | (with_reducible first | exact HI0.out | apply IsS84.alloc | apply IsS84.drewN | apply IsS84.drew | apply IsS84.set_1 | refine IsS84.far ?_ NB0_306.out _) | exact HI0.out)); (case side2 => repeat (first | (with_reducible first | exact HB.out | apply below_alloc | apply pw_below_drewN | apply below_drew1 | refine below_set ?_ (IsS84.ge HI0.out) | refine below_set ?_ GE306.out) | exact HB.out)); rintro e w12 ⟨rfl, hi, hb, hk⟩; refine ⟨_, rfl, ?_⟩; have n0_ := Aside0.mk (KeepBut.blk hk (g' := gb306) (o := .cells #[.int .i64 0, .int .i64 0] 31 (0, 0)) (by (with_reducible repeat (first | refine blk_drewN ?_ _ | refine blk_drew ?_ | refine blk_alloc ?_ _)); exact BK306.out) NB306_0.out (by simp)); have n1_ := Aside0.mk (KeepBut.trans (by repeat (first | (with_reducible first | exact HK.out | apply KeepBut.set_ | apply keep_drewN | apply keep_drew | apply keep_alloc | refine keep_far ?_ GW306.out _) | exact HK.out)) hk (.inl rfl)); have n2_ := Aside0.mk (hb); have n3_ := Aside0.mk (hi); clear BK306; clear HK; clear HB; clear HI0; have BK306 := n0_; have HK := n1_; have HB := n2_; have HI0 := n3_; clear n0_ n1_ n2_ n3_; (try clear hb); (try clear hb2); (try clear hk); (try clear hi)) | ((with_reducible refine gate_dst (N := 5) rfl ?_); refine box_event ?hg (N := 5) ?hd (cs := #[.int .i64 0, .int .i64 0]) (t := 31) ?hr ?_; (case hd => rfl); (case hg => rfl); (case hr => first | (go_simp; done) | (go_simp; rfl)); intro gb311 hg w13 hbox hb; have n0_ := Aside0.mk (IsS84.below (by repeat (first | (with_reducible first | exact HI0.out | apply IsS84.alloc | apply IsS84.drewN | apply IsS84.drew | apply IsS84.set_1 | refine IsS84.far ?_ NB0_306.out _) | exact HI0.out)) hb); have n1_ := Aside0.mk (blk_below (g := gb306) (o := .cells #[.int .i64 0, .int .i64 0] 31 (0, 0)) (by (with_reducible repeat (first | refine blk_drewN ?_ _ | refine blk_drew ?_ | refine blk_alloc ?_ _)); exact BK306.out) hb); have n2_ := Aside0.mk (KeepBut.trans (by repeat (first | (with_reducible first | exact HK.out | apply KeepBut.set_ | apply keep_drewN | apply keep_drew | apply keep_alloc | refine keep_far ?_ GW306.out _) | exact HK.out)) (KeepBut.of_below hb g none) (.inl rfl)); have n3_ := Aside0.mk (below_step (by repeat (first | (with_reducible first | exact HB.out | apply below_alloc | apply pw_below_drewN | apply below_drew1 | refine below_set ?_ (IsS84.ge HI0.out) | refine below_set ?_ GE306.out) | exact HB.out)) hb); have n4_ := Aside0.mk (hbox); have n5_ := Aside0.mk ((by rw [hg]; exact (keep_size (w := w) (g := g) (row := none) (by repeat (first | (with_reducible first | exact HK.out | apply KeepBut.set_ | apply keep_drewN | apply keep_drew | apply keep_alloc | refine keep_far ?_ GW306.out _) | exact HK.out))) : w.heap.size ≤ gb311)); have n6_ := Aside0.mk ((Nat.le_trans HW0.out (by rw [hg]; exact (keep_size (w := w) (g := g) (row := none) (by repeat (first | (with_reducible first | exact HK.out | apply KeepBut.set_ | apply keep_drewN | apply keep_drew | apply keep_alloc | refine keep_far ?_ GW306.out _) | exact HK.out))) : w.heap.size ≤ gb311) : w0.heap.size ≤ gb311)); have n7_ := Aside0.mk ((by rw [hg]; exact Nat.ne_of_lt (blk_lt (g := gb306) (o := .cells #[.int .i64 0, .int .i64 0] 31 (0, 0)) (by (with_reducible repeat (first | refine blk_drewN ?_ _ | refine blk_drew ?_ | refine blk_alloc ?_ _)); exact BK306.out)) : gb306 ≠ gb311)); have n8_ := Aside0.mk ((by rw [hg]; exact Nat.ne_of_gt (blk_lt (g := gb306) (o := .cells #[.int .i64 0, .int .i64 0] 31 (0, 0)) (by (with_reducible repeat (first | refine blk_drewN ?_ _ | refine blk_drew ?_ | refine blk_alloc ?_ _)); exact BK306.out)) : gb311 ≠ gb306)); have n9_ := Aside0.mk ((by rw [hg]; exact Nat.ne_of_lt (IsS84.lt (show IsS84 w0 _ g s0_0 t310 from by repeat (first | (with_reducible first | exact HI0.out | apply IsS84.alloc | apply IsS84.drewN | apply IsS84.drew | apply IsS84.set_1 | refine IsS84.far ?_ NB0_306.out _) | exact HI0.out))) : g ≠ gb311)); have n10_ := Aside0.mk ((by rw [hg]; exact Nat.ne_of_gt (IsS84.lt (show IsS84 w0 _ g s0_0 t310 from by repeat (first | (with_reducible first | exact HI0.out | apply IsS84.alloc | apply IsS84.drewN | apply IsS84.drew | apply IsS84.set_1 | refine IsS84.far ?_ NB0_306.out _) | exact HI0.out))) : gb311 ≠ g)); clear HI0; clear BK306; clear HK; clear HB; have HI0 := n0_; have BK306 := n1_; have HK := n2_; have HB := n3_; have BK311 := n4_; have GW311 := n5_; have GE311 := n6_; have NB306_311 := n7_; have NB311_306 := n8_; have NB0_311 := n9_; have NB311_0 := n10_; clear n0_ n1_ n2_ n3_ n4_ n5_ n6_ n7_ n8_ n9_ n10_; clear hb hbox hg; have hnb14 := NB311_306.out; have hnc14 := NB306_311.out; have hnb15 := NB311_0.out; have hnc15 := NB0_311.out; have hcz16_0 : w13.cell? ⟨gb311, 0, none⟩ = some (.int .i64 0) := (blk_cell BK311.out 0).trans rfl; have hcz16_1 : w13.cell? ⟨gb311, 1, none⟩ = some (.int .i64 0) := (blk_cell BK311.out 1).trans rfl; have hfz16_0 := blk_frozen BK311.out 0; have hfz16_1 := blk_frozen BK311.out 1) | ((with_reducible refine gate_callee (f := 60) rfl ?_); refine goesL_ (some 14) rfl rfl Try.func60 (by kernel_rfl) rfl #[.pointer (some ⟨g, 0, none⟩), .int .i64 a1] rfl (by (try simp only [List.map_toArray, List.map_cons, List.map_nil]); first | done | rfl | (simp only [List.length_drop, List.length_take]; rfl)) ?_; (with_reducible refine (spec_l20Rd_odd.calls k g s0_0 t310 a1 true t313 w0 _ ?side1 ?side2 A5.out).mono ?_); (case side1 => repeat (first | (with_reducible first | exact HI0.out | apply IsS84.alloc | apply IsS84.drewN | apply IsS84.drew | apply IsS84.set_1 | refine IsS84.far ?_ NB0_306.out _ | refine IsS84.far ?_ NB0_311.out _) | exact HI0.out)); (case side2 => repeat (first | (with_reducible first | exact HB.out | apply below_alloc | apply pw_below_drewN | apply below_drew1 | refine below_set ?_ (IsS84.ge HI0.out) | refine below_set ?_ GE306.out | refine below_set ?_ GE311.out) | exact HB.out)); rintro e w17 ⟨rfl, hi, hb, hk⟩; refine ⟨_, rfl, ?_⟩; have n0_ := Aside0.mk (KeepBut.blk hk (g' := gb306) (o := .cells #[.int .i64 0, .int .i64 0] 31 (0, 0)) (by (with_reducible repeat (first | refine blk_drewN ?_ _ | refine blk_drew ?_ | refine blk_alloc ?_ _)); refine blk_far ?_ NB306_311.out _; (with_reducible repeat (first | refine blk_drewN ?_ _ | refine blk_drew ?_ | refine blk_alloc ?_ _)); refine blk_far ?_ NB306_311.out _; (with_reducible repeat (first | refine blk_drewN ?_ _ | refine blk_drew ?_ | refine blk_alloc ?_ _)); exact BK306.out) NB306_0.out (by simp)); have n1_ := Aside0.mk (KeepBut.blk hk (g' := gb311) (o := .cells #[.int .i64 t307, .int .i64 (wrap64 (1 + t309))] 31 (0, 0)) (by (with_reducible repeat (first | refine blk_drewN ?_ _ | refine blk_drew ?_ | refine blk_alloc ?_ _)); refine blk_put (cs := #[.int .i64 t307, .int .i64 0]) ?_ 1 _ rfl; (with_reducible repeat (first | refine blk_drewN ?_ _ | refine blk_drew ?_ | refine blk_alloc ?_ _)); refine blk_put (cs := #[.int .i64 0, .int .i64 0]) ?_ 0 _ rfl; (with_reducible repeat (first | refine blk_drewN ?_ _ | refine blk_drew ?_ | refine blk_alloc ?_ _)); exact BK311.out) NB311_0.out (by simp)); have n2_ := Aside0.mk (KeepBut.trans (by repeat (first | (with_reducible first | exact HK.out | apply KeepBut.set_ | apply keep_drewN | apply keep_drew | apply keep_alloc | refine keep_far ?_ GW306.out _ | refine keep_far ?_ GW311.out _) | exact HK.out)) hk (.inl rfl)); have n3_ := Aside0.mk (hb); have n4_ := Aside0.mk (hi); clear BK306; clear BK311; clear HK; clear HB; clear HI0; have BK306 := n0_; have BK311 := n1_; have HK := n2_; have HB := n3_; have HI0 := n4_; clear n0_ n1_ n2_ n3_ n4_; (try clear hb); (try clear hb2); (try clear hk); (try clear hi)) | ((with_reducible refine gate_dst (N := 19) rfl ?_); refine Kd.R_lit k31 _ 31 ?hg (N := 19) ?hd (xs := ([(⟨0, 0⟩ : S31), (⟨(-1), 1⟩ : S31), (⟨21, 1⟩ : S31), (⟨0, 21⟩ : S31)] : List (S31))) (inner := [.int .i64 0, .int .i64 0, .int .i64 (-1), .int .i64 1, .int .i64 21, .int .i64 1, .int .i64 0, .int .i64 21]) (ok := fun _ => True) (okp := fun _ => True) ?hr ?hp (fun _ hk => hk) trivial (Below.refl _ _) (Nat.le_refl _) (by simp) ?_; (case hd => rfl); (case hg => rfl); (case hr => first | (go_simp; done) | (go_simp; rfl)); (case hp => exact (Reps.c2 (show Kd.M k31 _ _ _ (⟨0, 0⟩ : S31) [.int .i64 0, .int .i64 0] from (k31_mkM _ _ _ (⟨0, 0⟩ : S31) )) (Reps.c2 (show Kd.M k31 _ _ _ (⟨(-1), 1⟩ : S31) [.int .i64 (-1), .int .i64 1] from (k31_mkM _ _ _ (⟨(-1), 1⟩ : S31) )) (Reps.c2 (show Kd.M k31 _ _ _ (⟨21, 1⟩ : S31) [.int .i64 21, .int .i64 1] from (k31_mkM _ _ _ (⟨21, 1⟩ : S31) )) (Reps.c2 (show Kd.M k31 _ _ _ (⟨0, 21⟩ : S31) [.int .i64 0, .int .i64 21] from (k31_mkM _ _ _ (⟨0, 21⟩ : S31) )) (Reps.none _ _)))))); intro v315 w18 ho19 hb hg_ hnew_; clear hg_ hnew_; (first | rw [← Ny314.out] at ho19 | (simp only [Int.reduceToNat] at ho19; rw [← Ny314.out] at ho19)); have n0_ := Aside0.mk (Kd.R_lower (Kd.R_newB (Kd.R_newB ho19 (g := gb306) (o := .cells #[.int .i64 0, .int .i64 0] 31 (0, 0)) (by (with_reducible repeat (first | refine blk_drewN ?_ _ | refine blk_drew ?_ | refine blk_alloc ?_ _)); exact BK306.out)) (g := gb311) (o := .cells #[.int .i64 t307, .int .i64 (wrap64 (1 + t309))] 31 (0, 0)) (by (with_reducible repeat (first | refine blk_drewN ?_ _ | refine blk_drew ?_ | refine blk_alloc ?_ _)); exact BK311.out)) (keep_size (w := w) (g := g) (row := none) (by repeat (first | (with_reducible first | exact HK.out | apply KeepBut.set_ | apply keep_drewN | apply keep_drew | apply keep_alloc | refine keep_far ?_ GW306.out _ | refine keep_far ?_ GW311.out _) | exact HK.out)))); have n1_ := Aside0.mk (IsS84.below (by repeat (first | (with_reducible first | exact HI0.out | apply IsS84.alloc | apply IsS84.drewN | apply IsS84.drew | apply IsS84.set_1 | refine IsS84.far ?_ NB0_306.out _ | refine IsS84.far ?_ NB0_311.out _) | exact HI0.out)) hb); have n2_ := Aside0.mk (blk_below (g := gb306) (o := .cells #[.int .i64 0, .int .i64 0] 31 (0, 0)) (by (with_reducible repeat (first | refine blk_drewN ?_ _ | refine blk_drew ?_ | refine blk_alloc ?_ _)); exact BK306.out) hb); have n3_ := Aside0.mk (blk_below (g := gb311) (o := .cells #[.int .i64 t307, .int .i64 (wrap64 (1 + t309))] 31 (0, 0)) (by (with_reducible repeat (first | refine blk_drewN ?_ _ | refine blk_drew ?_ | refine blk_alloc ?_ _)); exact BK311.out) hb); have n4_ := Aside0.mk (KeepBut.trans (by repeat (first | (with_reducible first | exact HK.out | apply KeepBut.set_ | apply keep_drewN | apply keep_drew | apply keep_alloc | refine keep_far ?_ GW306.out _ | refine keep_far ?_ GW311.out _) | exact HK.out)) (KeepBut.of_below hb g none) (.inl rfl)); have n5_ := Aside0.mk (below_step (by repeat (first | (with_reducible first | exact HB.out | apply below_alloc | apply pw_below_drewN | apply below_drew1 | refine below_set ?_ (IsS84.ge HI0.out) | refine below_set ?_ GE306.out | refine below_set ?_ GE311.out) | exact HB.out)) hb); clear HI0; clear BK306; clear BK311; clear HK; clear HB; have HO316 := n0_; have HI0 := n1_; have BK306 := n2_; have BK311 := n3_; have HK := n4_; have HB := n5_; clear n0_ n1_ n2_ n3_ n4_ n5_; clear hb ho19) | ((with_reducible refine gate_callee (f := 58) rfl ?_); refine goesL_ (some 21) rfl rfl Try.func58 (by kernel_rfl) rfl #[.pointer (some ⟨g, 0, none⟩), .int .i64 4] rfl (by (try simp only [List.map_toArray, List.map_cons, List.map_nil]); first | done | rfl | (simp only [List.length_drop, List.length_take]; rfl)) ?_; (with_reducible refine (spec_l20Rd_pick.calls k g s0_0 t313 4 t317 t318 w0 _ ?side1 ?side2 A7.out).mono ?_); (case side1 => repeat (first | (with_reducible first | exact HI0.out | apply IsS84.alloc | apply IsS84.drewN | apply IsS84.drew | apply IsS84.set_1 | refine IsS84.far ?_ NB0_306.out _ | refine IsS84.far ?_ NB0_311.out _) | exact HI0.out)); (case side2 => repeat (first | (with_reducible first | exact HB.out | apply below_alloc | apply pw_below_drewN | apply below_drew1 | refine below_set ?_ (IsS84.ge HI0.out) | refine below_set ?_ GE306.out | refine below_set ?_ GE311.out) | exact HB.out)); rintro e w20 ⟨rfl, hi, hb, hk⟩; refine ⟨_, rfl, ?_⟩; have n0_ := Aside0.mk (KeepBut.blk hk (g' := gb306) (o := .cells #[.int .i64 0, .int .i64 0] 31 (0, 0)) (by (with_reducible repeat (first | refine blk_drewN ?_ _ | refine blk_drew ?_ | refine blk_alloc ?_ _)); exact BK306.out) NB306_0.out (by simp)); have n1_ := Aside0.mk (KeepBut.blk hk (g' := gb311) (o := .cells #[.int .i64 t307, .int .i64 (wrap64 (1 + t309))] 31 (0, 0)) (by (with_reducible repeat (first | refine blk_drewN ?_ _ | refine blk_drew ?_ | refine blk_alloc ?_ _)); exact BK311.out) NB311_0.out (by simp)); have n2_ := Aside0.mk (Kd.R_mono (Kd.R_keep (IsS84.apart (show IsS84 w0 _ g s0_0 t313 from by repeat (first | (with_reducible first | exact HI0.out | apply IsS84.alloc | apply IsS84.drewN | apply IsS84.drew | apply IsS84.set_1 | refine IsS84.far ?_ NB0_306.out _ | refine IsS84.far ?_ NB0_311.out _) | exact HI0.out)) (by (with_reducible repeat (first | apply Kd.R_alloc | apply Kd.R_drewN | apply Kd.R_drew)); exact HO316.out) (by decide)) hk (fun _ h => h.2)) (fun _ h => h.1)); have n3_ := Aside0.mk (KeepBut.trans (by repeat (first | (with_reducible first | exact HK.out | apply KeepBut.set_ | apply keep_drewN | apply keep_drew | apply keep_alloc | refine keep_far ?_ GW306.out _ | refine keep_far ?_ GW311.out _) | exact HK.out)) hk (.inl rfl)); have n4_ := Aside0.mk (hb); have n5_ := Aside0.mk (hi); clear BK306; clear BK311; clear HO316; clear HK; clear HB; clear HI0; have BK306 := n0_; have BK311 := n1_; have HO316 := n2_; have HK := n3_; have HB := n4_; have HI0 := n5_; clear n0_ n1_ n2_ n3_ n4_ n5_; (try clear hb); (try clear hb2); (try clear hk); (try clear hi); obtain ⟨Ao21, co21, eo21⟩ := Kd.R_slice HO316.out; subst eo21; have p319 : 0 ≤ (t317 : Int) := of_decide_eq_true (by first | (with_reducible assumption) | assumption); have q319 : t317 < (y314.length : Int) := of_decide_eq_true (by first | (with_reducible assumption) | assumption); obtain ⟨ad319, e319, hx319_0, hx319_1⟩ := at_T31 (Kd.R_reads' HO316.out).2.2 t317 p319 q319; cases e319; replace p319 := eq_true p319; replace q319 := eq_true q319; have hnb22 := NB306_0.out; have hnc22 := NB0_306.out; have hcz23_0 : w20.cell? ⟨gb306, 0, none⟩ = some (.int .i64 0) := (blk_cell BK306.out 0).trans rfl; have hcz23_1 : w20.cell? ⟨gb306, 1, none⟩ = some (.int .i64 0) := (blk_cell BK306.out 1).trans rfl; have hfz23_0 := blk_frozen BK306.out 0; have hfz23_1 := blk_frozen BK306.out 1))
        refine bodyPost_ret (results_cell_row rfl _ _ gb306 31 #[.int .i64 ((rd_T31 y314 t317).f0), .int .i64 ((rd_T31 y314 t317).f1)] (0, 0) _ rfl (by (with_reducible repeat (first | refine blk_drewN ?_ _ | refine blk_drew ?_ | refine blk_alloc ?_ _)); refine blk_put (cs := #[.int .i64 ((rd_T31 y314 t317).f0), .int .i64 0]) ?_ 1 _ rfl; (with_reducible repeat (first | refine blk_drewN ?_ _ | refine blk_drew ?_ | refine blk_alloc ?_ _)); refine blk_put (cs := #[.int .i64 0, .int .i64 0]) ?_ 0 _ rfl; (with_reducible repeat (first | refine blk_drewN ?_ _ | refine blk_drew ?_ | refine blk_alloc ?_ _)); exact BK306.out) Try.underlying31 rfl (by kernel_rfl)) rfl ?_
        exact ⟨by first | rfl | (simp [errW_none, errW_some] <;> rfl) | (simp [*, errW_none, errW_some] <;> rfl), by repeat (first | (with_reducible first | exact HI0.out | apply IsS84.alloc | apply IsS84.drewN | apply IsS84.drew | apply IsS84.set_1 | refine IsS84.far ?_ NB0_306.out _ | refine IsS84.far ?_ NB0_311.out _) | exact HI0.out), by repeat (first | (with_reducible first | exact HB.out | apply below_alloc | apply pw_below_drewN | apply below_drew1 | refine below_set ?_ (IsS84.ge HI0.out) | refine below_set ?_ GE306.out | refine below_set ?_ GE311.out) | exact HB.out), by repeat (first | (with_reducible first | exact HK.out | apply KeepBut.set_ | apply keep_drewN | apply keep_drew | apply keep_alloc | refine keep_far ?_ GW306.out _ | refine keep_far ?_ GW311.out _) | exact HK.out)⟩
      · rw [if_neg c9] at H
        exact absurd H (by simp)
    · rw [if_neg c8] at H
      exact absurd H (by simp)
  · replace c6 := Bool.eq_false_iff.mpr c6
    subst c6
    have H1 : (some (t307, wrap64 (1 + t309), t313)) = some (r1, r2, r3) := by rw [if_neg (show ¬ (false = true) by decide)] at H; exact H
    clear H
    have H := H1
    clear H1
    simp only [Option.some.injEq, Prod.mk.injEq] at H
    obtain ⟨rfl, rfl, rfl⟩ := H
    go_enter Try.func57, Try.ntmps57
    go_wp2_with (first | ((with_reducible refine gate_dst (N := 4) rfl ?_); refine box_event ?hg (N := 4) ?hd (cs := #[.int .i64 0, .int .i64 0]) (t := 31) ?hr ?_; (case hd => rfl); (case hg => rfl); (case hr => first | (go_simp; done) | (go_simp; rfl)); intro gb306 hg w24 hbox hb; have n0_ := Aside0.mk (IsS84.below (by repeat (first | (with_reducible first | exact HI0.out | apply IsS84.alloc | apply IsS84.drewN | apply IsS84.drew | apply IsS84.set_1) | exact HI0.out)) hb); have n1_ := Aside0.mk (KeepBut.trans (by repeat (first | (with_reducible first | exact HK.out | apply KeepBut.set_ | apply keep_drewN | apply keep_drew | apply keep_alloc) | exact HK.out)) (KeepBut.of_below hb g none) (.inl rfl)); have n2_ := Aside0.mk (below_step (by repeat (first | (with_reducible first | exact HB.out | apply below_alloc | apply pw_below_drewN | apply below_drew1 | refine below_set ?_ (IsS84.ge HI0.out)) | exact HB.out)) hb); have n3_ := Aside0.mk (hbox); have n4_ := Aside0.mk ((by rw [hg]; exact (keep_size (w := w) (g := g) (row := none) (by repeat (first | (with_reducible first | exact HK.out | apply KeepBut.set_ | apply keep_drewN | apply keep_drew | apply keep_alloc) | exact HK.out))) : w.heap.size ≤ gb306)); have n5_ := Aside0.mk ((Nat.le_trans HW0.out (by rw [hg]; exact (keep_size (w := w) (g := g) (row := none) (by repeat (first | (with_reducible first | exact HK.out | apply KeepBut.set_ | apply keep_drewN | apply keep_drew | apply keep_alloc) | exact HK.out))) : w.heap.size ≤ gb306) : w0.heap.size ≤ gb306)); have n6_ := Aside0.mk ((by rw [hg]; exact Nat.ne_of_lt (IsS84.lt (show IsS84 w0 _ g s0_0 s0_1 from by repeat (first | (with_reducible first | exact HI0.out | apply IsS84.alloc | apply IsS84.drewN | apply IsS84.drew | apply IsS84.set_1) | exact HI0.out))) : g ≠ gb306)); have n7_ := Aside0.mk ((by rw [hg]; exact Nat.ne_of_gt (IsS84.lt (show IsS84 w0 _ g s0_0 s0_1 from by repeat (first | (with_reducible first | exact HI0.out | apply IsS84.alloc | apply IsS84.drewN | apply IsS84.drew | apply IsS84.set_1) | exact HI0.out))) : gb306 ≠ g)); clear HI0; clear HK; clear HB; have HI0 := n0_; have HK := n1_; have HB := n2_; have BK306 := n3_; have GW306 := n4_; have GE306 := n5_; have NB0_306 := n6_; have NB306_0 := n7_; clear n0_ n1_ n2_ n3_ n4_ n5_ n6_ n7_; clear hb hbox hg) | ((with_reducible refine gate_callee (f := 58) rfl ?_); refine goesL_ (some 7) rfl rfl Try.func58 (by kernel_rfl) rfl #[.pointer (some ⟨g, 0, none⟩), .int .i64 9] rfl (by (try simp only [List.map_toArray, List.map_cons, List.map_nil]); first | done | rfl | (simp only [List.length_drop, List.length_take]; rfl)) ?_; (with_reducible refine (spec_l20Rd_pick.calls k g s0_0 s0_1 9 t307 t308 w0 _ ?side1 ?side2 A3.out).mono ?_); (case side1 => repeat (first | (with_reducible first | exact HI0.out | apply IsS84.alloc | apply IsS84.drewN | apply IsS84.drew | apply IsS84.set_1 | refine IsS84.far ?_ NB0_306.out _) | exact HI0.out)); (case side2 => repeat (first | (with_reducible first | exact HB.out | apply below_alloc | apply pw_below_drewN | apply below_drew1 | refine below_set ?_ (IsS84.ge HI0.out) | refine below_set ?_ GE306.out) | exact HB.out)); rintro e w25 ⟨rfl, hi, hb, hk⟩; refine ⟨_, rfl, ?_⟩; have n0_ := Aside0.mk (KeepBut.blk hk (g' := gb306) (o := .cells #[.int .i64 0, .int .i64 0] 31 (0, 0)) (by (with_reducible repeat (first | refine blk_drewN ?_ _ | refine blk_drew ?_ | refine blk_alloc ?_ _)); exact BK306.out) NB306_0.out (by simp)); have n1_ := Aside0.mk (KeepBut.trans (by repeat (first | (with_reducible first | exact HK.out | apply KeepBut.set_ | apply keep_drewN | apply keep_drew | apply keep_alloc | refine keep_far ?_ GW306.out _) | exact HK.out)) hk (.inl rfl)); have n2_ := Aside0.mk (hb); have n3_ := Aside0.mk (hi); clear BK306; clear HK; clear HB; clear HI0; have BK306 := n0_; have HK := n1_; have HB := n2_; have HI0 := n3_; clear n0_ n1_ n2_ n3_; (try clear hb); (try clear hb2); (try clear hk); (try clear hi)) | ((with_reducible refine gate_callee (f := 58) rfl ?_); refine goesL_ (some 9) rfl rfl Try.func58 (by kernel_rfl) rfl #[.pointer (some ⟨g, 0, none⟩), .int .i64 9] rfl (by (try simp only [List.map_toArray, List.map_cons, List.map_nil]); first | done | rfl | (simp only [List.length_drop, List.length_take]; rfl)) ?_; (with_reducible refine (spec_l20Rd_pick.calls k g s0_0 t308 9 t309 t310 w0 _ ?side1 ?side2 A4.out).mono ?_); (case side1 => repeat (first | (with_reducible first | exact HI0.out | apply IsS84.alloc | apply IsS84.drewN | apply IsS84.drew | apply IsS84.set_1 | refine IsS84.far ?_ NB0_306.out _) | exact HI0.out)); (case side2 => repeat (first | (with_reducible first | exact HB.out | apply below_alloc | apply pw_below_drewN | apply below_drew1 | refine below_set ?_ (IsS84.ge HI0.out) | refine below_set ?_ GE306.out) | exact HB.out)); rintro e w26 ⟨rfl, hi, hb, hk⟩; refine ⟨_, rfl, ?_⟩; have n0_ := Aside0.mk (KeepBut.blk hk (g' := gb306) (o := .cells #[.int .i64 0, .int .i64 0] 31 (0, 0)) (by (with_reducible repeat (first | refine blk_drewN ?_ _ | refine blk_drew ?_ | refine blk_alloc ?_ _)); exact BK306.out) NB306_0.out (by simp)); have n1_ := Aside0.mk (KeepBut.trans (by repeat (first | (with_reducible first | exact HK.out | apply KeepBut.set_ | apply keep_drewN | apply keep_drew | apply keep_alloc | refine keep_far ?_ GW306.out _) | exact HK.out)) hk (.inl rfl)); have n2_ := Aside0.mk (hb); have n3_ := Aside0.mk (hi); clear BK306; clear HK; clear HB; clear HI0; have BK306 := n0_; have HK := n1_; have HB := n2_; have HI0 := n3_; clear n0_ n1_ n2_ n3_; (try clear hb); (try clear hb2); (try clear hk); (try clear hi)) | ((with_reducible refine gate_dst (N := 5) rfl ?_); refine box_event ?hg (N := 5) ?hd (cs := #[.int .i64 0, .int .i64 0]) (t := 31) ?hr ?_; (case hd => rfl); (case hg => rfl); (case hr => first | (go_simp; done) | (go_simp; rfl)); intro gb311 hg w27 hbox hb; have n0_ := Aside0.mk (IsS84.below (by repeat (first | (with_reducible first | exact HI0.out | apply IsS84.alloc | apply IsS84.drewN | apply IsS84.drew | apply IsS84.set_1 | refine IsS84.far ?_ NB0_306.out _) | exact HI0.out)) hb); have n1_ := Aside0.mk (blk_below (g := gb306) (o := .cells #[.int .i64 0, .int .i64 0] 31 (0, 0)) (by (with_reducible repeat (first | refine blk_drewN ?_ _ | refine blk_drew ?_ | refine blk_alloc ?_ _)); exact BK306.out) hb); have n2_ := Aside0.mk (KeepBut.trans (by repeat (first | (with_reducible first | exact HK.out | apply KeepBut.set_ | apply keep_drewN | apply keep_drew | apply keep_alloc | refine keep_far ?_ GW306.out _) | exact HK.out)) (KeepBut.of_below hb g none) (.inl rfl)); have n3_ := Aside0.mk (below_step (by repeat (first | (with_reducible first | exact HB.out | apply below_alloc | apply pw_below_drewN | apply below_drew1 | refine below_set ?_ (IsS84.ge HI0.out) | refine below_set ?_ GE306.out) | exact HB.out)) hb); have n4_ := Aside0.mk (hbox); have n5_ := Aside0.mk ((by rw [hg]; exact (keep_size (w := w) (g := g) (row := none) (by repeat (first | (with_reducible first | exact HK.out | apply KeepBut.set_ | apply keep_drewN | apply keep_drew | apply keep_alloc | refine keep_far ?_ GW306.out _) | exact HK.out))) : w.heap.size ≤ gb311)); have n6_ := Aside0.mk ((Nat.le_trans HW0.out (by rw [hg]; exact (keep_size (w := w) (g := g) (row := none) (by repeat (first | (with_reducible first | exact HK.out | apply KeepBut.set_ | apply keep_drewN | apply keep_drew | apply keep_alloc | refine keep_far ?_ GW306.out _) | exact HK.out))) : w.heap.size ≤ gb311) : w0.heap.size ≤ gb311)); have n7_ := Aside0.mk ((by rw [hg]; exact Nat.ne_of_lt (blk_lt (g := gb306) (o := .cells #[.int .i64 0, .int .i64 0] 31 (0, 0)) (by (with_reducible repeat (first | refine blk_drewN ?_ _ | refine blk_drew ?_ | refine blk_alloc ?_ _)); exact BK306.out)) : gb306 ≠ gb311)); have n8_ := Aside0.mk ((by rw [hg]; exact Nat.ne_of_gt (blk_lt (g := gb306) (o := .cells #[.int .i64 0, .int .i64 0] 31 (0, 0)) (by (with_reducible repeat (first | refine blk_drewN ?_ _ | refine blk_drew ?_ | refine blk_alloc ?_ _)); exact BK306.out)) : gb311 ≠ gb306)); have n9_ := Aside0.mk ((by rw [hg]; exact Nat.ne_of_lt (IsS84.lt (show IsS84 w0 _ g s0_0 t310 from by repeat (first | (with_reducible first | exact HI0.out | apply IsS84.alloc | apply IsS84.drewN | apply IsS84.drew | apply IsS84.set_1 | refine IsS84.far ?_ NB0_306.out _) | exact HI0.out))) : g ≠ gb311)); have n10_ := Aside0.mk ((by rw [hg]; exact Nat.ne_of_gt (IsS84.lt (show IsS84 w0 _ g s0_0 t310 from by repeat (first | (with_reducible first | exact HI0.out | apply IsS84.alloc | apply IsS84.drewN | apply IsS84.drew | apply IsS84.set_1 | refine IsS84.far ?_ NB0_306.out _) | exact HI0.out))) : gb311 ≠ g)); clear HI0; clear BK306; clear HK; clear HB; have HI0 := n0_; have BK306 := n1_; have HK := n2_; have HB := n3_; have BK311 := n4_; have GW311 := n5_; have GE311 := n6_; have NB306_311 := n7_; have NB311_306 := n8_; have NB0_311 := n9_; have NB311_0 := n10_; clear n0_ n1_ n2_ n3_ n4_ n5_ n6_ n7_ n8_ n9_ n10_; clear hb hbox hg; have hnb28 := NB311_306.out; have hnc28 := NB306_311.out; have hnb29 := NB311_0.out; have hnc29 := NB0_311.out; have hcz30_0 : w27.cell? ⟨gb311, 0, none⟩ = some (.int .i64 0) := (blk_cell BK311.out 0).trans rfl; have hcz30_1 : w27.cell? ⟨gb311, 1, none⟩ = some (.int .i64 0) := (blk_cell BK311.out 1).trans rfl; have hfz30_0 := blk_frozen BK311.out 0; have hfz30_1 := blk_frozen BK311.out 1) | ((with_reducible refine gate_callee (f := 60) rfl ?_); refine goesL_ (some 14) rfl rfl Try.func60 (by kernel_rfl) rfl #[.pointer (some ⟨g, 0, none⟩), .int .i64 a1] rfl (by (try simp only [List.map_toArray, List.map_cons, List.map_nil]); first | done | rfl | (simp only [List.length_drop, List.length_take]; rfl)) ?_; (with_reducible refine (spec_l20Rd_odd.calls k g s0_0 t310 a1 false t313 w0 _ ?side1 ?side2 A5.out).mono ?_); (case side1 => repeat (first | (with_reducible first | exact HI0.out | apply IsS84.alloc | apply IsS84.drewN | apply IsS84.drew | apply IsS84.set_1 | refine IsS84.far ?_ NB0_306.out _ | refine IsS84.far ?_ NB0_311.out _) | exact HI0.out)); (case side2 => repeat (first | (with_reducible first | exact HB.out | apply below_alloc | apply pw_below_drewN | apply below_drew1 | refine below_set ?_ (IsS84.ge HI0.out) | refine below_set ?_ GE306.out | refine below_set ?_ GE311.out) | exact HB.out)); rintro e w31 ⟨rfl, hi, hb, hk⟩; refine ⟨_, rfl, ?_⟩; have n0_ := Aside0.mk (KeepBut.blk hk (g' := gb306) (o := .cells #[.int .i64 0, .int .i64 0] 31 (0, 0)) (by (with_reducible repeat (first | refine blk_drewN ?_ _ | refine blk_drew ?_ | refine blk_alloc ?_ _)); refine blk_far ?_ NB306_311.out _; (with_reducible repeat (first | refine blk_drewN ?_ _ | refine blk_drew ?_ | refine blk_alloc ?_ _)); refine blk_far ?_ NB306_311.out _; (with_reducible repeat (first | refine blk_drewN ?_ _ | refine blk_drew ?_ | refine blk_alloc ?_ _)); exact BK306.out) NB306_0.out (by simp)); have n1_ := Aside0.mk (KeepBut.blk hk (g' := gb311) (o := .cells #[.int .i64 t307, .int .i64 (wrap64 (1 + t309))] 31 (0, 0)) (by (with_reducible repeat (first | refine blk_drewN ?_ _ | refine blk_drew ?_ | refine blk_alloc ?_ _)); refine blk_put (cs := #[.int .i64 t307, .int .i64 0]) ?_ 1 _ rfl; (with_reducible repeat (first | refine blk_drewN ?_ _ | refine blk_drew ?_ | refine blk_alloc ?_ _)); refine blk_put (cs := #[.int .i64 0, .int .i64 0]) ?_ 0 _ rfl; (with_reducible repeat (first | refine blk_drewN ?_ _ | refine blk_drew ?_ | refine blk_alloc ?_ _)); exact BK311.out) NB311_0.out (by simp)); have n2_ := Aside0.mk (KeepBut.trans (by repeat (first | (with_reducible first | exact HK.out | apply KeepBut.set_ | apply keep_drewN | apply keep_drew | apply keep_alloc | refine keep_far ?_ GW306.out _ | refine keep_far ?_ GW311.out _) | exact HK.out)) hk (.inl rfl)); have n3_ := Aside0.mk (hb); have n4_ := Aside0.mk (hi); clear BK306; clear BK311; clear HK; clear HB; clear HI0; have BK306 := n0_; have BK311 := n1_; have HK := n2_; have HB := n3_; have HI0 := n4_; clear n0_ n1_ n2_ n3_ n4_; (try clear hb); (try clear hb2); (try clear hk); (try clear hi); have hcz32_0 : w31.cell? ⟨gb311, 0, none⟩ = some (.int .i64 t307) := (blk_cell BK311.out 0).trans rfl; have hcz32_1 : w31.cell? ⟨gb311, 1, none⟩ = some (.int .i64 (wrap64 (1 + t309))) := (blk_cell BK311.out 1).trans rfl; have hfz32_0 := blk_frozen BK311.out 0; have hfz32_1 := blk_frozen BK311.out 1; have hnb33 := NB306_0.out; have hnc33 := NB0_306.out; have hcz34_0 : w31.cell? ⟨gb306, 0, none⟩ = some (.int .i64 0) := (blk_cell BK306.out 0).trans rfl; have hcz34_1 : w31.cell? ⟨gb306, 1, none⟩ = some (.int .i64 0) := (blk_cell BK306.out 1).trans rfl; have hfz34_0 := blk_frozen BK306.out 0; have hfz34_1 := blk_frozen BK306.out 1))
    refine bodyPost_ret (results_cell_row rfl _ _ gb306 31 #[.int .i64 t307, .int .i64 (wrap64 (1 + t309))] (0, 0) _ rfl (by (with_reducible repeat (first | refine blk_drewN ?_ _ | refine blk_drew ?_ | refine blk_alloc ?_ _)); refine blk_put (cs := #[.int .i64 t307, .int .i64 0]) ?_ 1 _ rfl; (with_reducible repeat (first | refine blk_drewN ?_ _ | refine blk_drew ?_ | refine blk_alloc ?_ _)); refine blk_put (cs := #[.int .i64 0, .int .i64 0]) ?_ 0 _ rfl; (with_reducible repeat (first | refine blk_drewN ?_ _ | refine blk_drew ?_ | refine blk_alloc ?_ _)); exact BK306.out) Try.underlying31 rfl (by kernel_rfl)) rfl ?_
    exact ⟨by first | rfl | (simp [errW_none, errW_some] <;> rfl) | (simp [*, errW_none, errW_some] <;> rfl), by repeat (first | (with_reducible first | exact HI0.out | apply IsS84.alloc | apply IsS84.drewN | apply IsS84.drew | apply IsS84.set_1 | refine IsS84.far ?_ NB0_306.out _ | refine IsS84.far ?_ NB0_311.out _) | exact HI0.out), by repeat (first | (with_reducible first | exact HB.out | apply below_alloc | apply pw_below_drewN | apply below_drew1 | refine below_set ?_ (IsS84.ge HI0.out) | refine below_set ?_ GE306.out | refine below_set ?_ GE311.out) | exact HB.out), by repeat (first | (with_reducible first | exact HK.out | apply KeepBut.set_ | apply keep_drewN | apply keep_drew | apply keep_alloc | refine keep_far ?_ GW306.out _ | refine keep_far ?_ GW311.out _) | exact HK.out)⟩

end Go.Proofs.Ytooabmmnbifclaa.P
-- Laid by a program of this work.
namespace Go.Proofs.Ytooabmmnbifclaa.P
open Go.RowKit Go.Proofs.YtooabmmnbifclaaW.PrintWords Go.Proofs.YtooabmmnbifclaaW.PrintLast Go.Proofs.YtooabmmnbifclaaW.PrintMore
attribute [local go_sem] max2_int min2_int max_two min_two max_three min_three max_four min_four   -- for this text's walks alone
set_option linter.unusedVariables false
set_option linter.unusedSimpArgs false

/-! ### spec_DrawBacklogBound: function 41 -/
def spec_DrawBacklogBound.f (k : Nat) (l0 : List Int) : Option (Int × Int × Int × Int) := (spec_l20Open.f l0).bind fun bt409 => ((spec_l20Flow.f k bt409.1 bt409.2 12).bind fun bt412 => ((spec_l20Link.f k bt409.1 bt412.2.2 12).bind fun bt415 => (some (bt412.1, bt412.2.1, bt415.1, bt415.2.1))))
theorem spec_DrawBacklogBound.mono : ∀ a0 k, LeO (spec_DrawBacklogBound.f k a0) (spec_DrawBacklogBound.f (k + 1) a0) := by
  intro a0 k
  unfold spec_DrawBacklogBound.f
  repeat' first
      | (with_reducible exact spec_l20Flow.mono _ _ _ _)
      | (with_reducible exact spec_l20Link.mono _ _ _ _)
      | (with_reducible exact LeO.refl _)
      | (with_reducible exact LeO.none _)
      | (with_reducible refine LeO.ite ?_ ?_)
      | (with_reducible refine LeO.bind ?_ (fun _ => ?_))
      | exact spec_l20Flow.mono _ _ _ _
      | exact spec_l20Link.mono _ _ _ _
      | exact LeO.none _
      | refine LeO.ite ?_ ?_
      | refine LeO.bind ?_ (fun _ => ?_)
set_option maxHeartbeats 8000000 in
set_option maxRecDepth 100000 in
theorem spec_DrawBacklogBound.calls (k : Nat) (A0 : Option Addr) (c0 : Nat) (l0 : List Int) (r1 : Int) (r2 : Int) (r3 : Int) (r4 : Int) (w : World) (hr0 : Kd.C (Kd.int .u8) w A0 l0.length l0) (hc0 : l0.length ≤ c0) (h : spec_DrawBacklogBound.f k l0 = some (r1, r2, r3, r4)) :
    Calls Try.prog 41 #[.slice A0 l0.length c0] w fun e w' => e = .returned (.tuple #[.agg #[.int .i64 r1, .int .i64 r2], .agg #[.int .i64 r3, .int .i64 r4]]) ∧ Below w.heap.size w w' := by
  have hu25 := Try.underlying25
  have hu31 := Try.underlying31
  have HR0 := Aside0.mk hr0
  have HC0 := Aside0.mk hc0
  clear hr0 hc0
  have HB := Aside0.mk (Below.refl w.heap.size w)
  have H : ((spec_l20Open.f l0).bind fun bt409 => ((spec_l20Flow.f k bt409.1 bt409.2 12).bind fun bt412 => ((spec_l20Link.f k bt409.1 bt412.2.2 12).bind fun bt415 => (some (bt412.1, bt412.2.1, bt415.1, bt415.2.1))))) = some (r1, r2, r3, r4) := h
  clear h
  replace H := Option.bind_eq_some_iff.mp H
  obtain ⟨⟨t409, t410⟩, A20, H⟩ := H
  replace H : ((spec_l20Flow.f k t409 t410 12).bind fun bt412 => ((spec_l20Link.f k t409 bt412.2.2 12).bind fun bt415 => (some (bt412.1, bt412.2.1, bt415.1, bt415.2.1)))) = some (r1, r2, r3, r4) := H
  have A2 := Aside0.mk A20
  clear A20
  replace H := Option.bind_eq_some_iff.mp H
  obtain ⟨⟨t412, t413, t414⟩, A30, H⟩ := H
  replace H : ((spec_l20Link.f k t409 t414 12).bind fun bt415 => (some (t412, t413, bt415.1, bt415.2.1))) = some (r1, r2, r3, r4) := H
  have A3 := Aside0.mk A30
  clear A30
  replace H := Option.bind_eq_some_iff.mp H
  obtain ⟨⟨t415, t416, t417⟩, A40, H⟩ := H
  replace H : (some (t412, t413, t415, t416)) = some (r1, r2, r3, r4) := H
  have A4 := Aside0.mk A40
  clear A40
  simp only [Option.some.injEq, Prod.mk.injEq] at H
  obtain ⟨rfl, rfl, rfl, rfl⟩ := H
  go_enter Try.func41, Try.ntmps41
  go_wp2_with (first | ((with_reducible refine gate_dst (N := 2) rfl ?_); refine box_event ?hg (N := 2) ?hd (cs := #[.int .i64 0, .int .i64 0]) (t := 25) ?hr ?_; (case hd => rfl); (case hg => rfl); (case hr => first | (go_simp; done) | (go_simp; rfl)); intro gb407 hg w5 hbox hb; have n0_ := Aside0.mk (below_step (by repeat (first | (with_reducible first | exact HB.out | apply below_alloc | apply pw_below_drewN | apply below_drew1) | exact HB.out)) hb); have n1_ := Aside0.mk (hbox); have n2_ := Aside0.mk ((by rw [hg]; exact (below_size (by repeat (first | (with_reducible first | exact HB.out | apply below_alloc | apply pw_below_drewN | apply below_drew1) | exact HB.out))) : w.heap.size ≤ gb407)); have n3_ := Aside0.mk ((by rw [hg]; exact (below_size (by repeat (first | (with_reducible first | exact HB.out | apply below_alloc | apply pw_below_drewN | apply below_drew1) | exact HB.out))) : w.heap.size ≤ gb407)); clear HB; have HB := n0_; have BK407 := n1_; have GW407 := n2_; have GE407 := n3_; clear n0_ n1_ n2_ n3_; clear hb hbox hg) | ((with_reducible refine gate_dst (N := 3) rfl ?_); refine box_event ?hg (N := 3) ?hd (cs := #[.int .i64 0, .int .i64 0]) (t := 31) ?hr ?_; (case hd => rfl); (case hg => rfl); (case hr => first | (go_simp; done) | (go_simp; rfl)); intro gb408 hg w6 hbox hb; have n0_ := Aside0.mk (blk_below (g := gb407) (o := .cells #[.int .i64 0, .int .i64 0] 25 (0, 0)) (by (with_reducible repeat (first | refine blk_drewN ?_ _ | refine blk_drew ?_ | refine blk_alloc ?_ _)); exact BK407.out) hb); have n1_ := Aside0.mk (below_step (by repeat (first | (with_reducible first | exact HB.out | apply below_alloc | apply pw_below_drewN | apply below_drew1 | refine below_set ?_ GE407.out) | exact HB.out)) hb); have n2_ := Aside0.mk (hbox); have n3_ := Aside0.mk ((by rw [hg]; exact (below_size (by repeat (first | (with_reducible first | exact HB.out | apply below_alloc | apply pw_below_drewN | apply below_drew1 | refine below_set ?_ GE407.out) | exact HB.out))) : w.heap.size ≤ gb408)); have n4_ := Aside0.mk ((by rw [hg]; exact (below_size (by repeat (first | (with_reducible first | exact HB.out | apply below_alloc | apply pw_below_drewN | apply below_drew1 | refine below_set ?_ GE407.out) | exact HB.out))) : w.heap.size ≤ gb408)); have n5_ := Aside0.mk ((by rw [hg]; exact Nat.ne_of_lt (blk_lt (g := gb407) (o := .cells #[.int .i64 0, .int .i64 0] 25 (0, 0)) (by (with_reducible repeat (first | refine blk_drewN ?_ _ | refine blk_drew ?_ | refine blk_alloc ?_ _)); exact BK407.out)) : gb407 ≠ gb408)); have n6_ := Aside0.mk ((by rw [hg]; exact Nat.ne_of_gt (blk_lt (g := gb407) (o := .cells #[.int .i64 0, .int .i64 0] 25 (0, 0)) (by (with_reducible repeat (first | refine blk_drewN ?_ _ | refine blk_drew ?_ | refine blk_alloc ?_ _)); exact BK407.out)) : gb408 ≠ gb407)); clear BK407; clear HB; have BK407 := n0_; have HB := n1_; have BK408 := n2_; have GW408 := n3_; have GE408 := n4_; have NB407_408 := n5_; have NB408_407 := n6_; clear n0_ n1_ n2_ n3_ n4_ n5_ n6_; clear hb hbox hg) | ((with_reducible refine gate_callee (f := 54) rfl ?_); refine goesL_ (some 6) rfl rfl Try.func54 (by kernel_rfl) rfl #[.slice A0 l0.length c0] rfl (by (try simp only [List.map_toArray, List.map_cons, List.map_nil]); first | done | rfl | (simp only [List.length_drop, List.length_take]; rfl)) ?_; (with_reducible refine (spec_l20Open.calls _ _ l0 t409 t410 w _ ?side1 ?side2 ?side3 A2.out).mono ?_); (case side1 => repeat (first | (with_reducible first | exact HB.out | apply below_alloc | apply pw_below_drewN | apply below_drew1 | refine below_set ?_ GE407.out | refine below_set ?_ GE408.out) | exact HB.out)); (case side2 => exact HR0.out); (case side3 => exact HC0.out); rintro e w7 ⟨g411, rfl, hi, hb, hb2⟩; refine ⟨_, rfl, ?_⟩; have n0_ := Aside0.mk (blk_below (g := gb407) (o := .cells #[.int .i64 0, .int .i64 0] 25 (0, 0)) (by (with_reducible repeat (first | refine blk_drewN ?_ _ | refine blk_drew ?_ | refine blk_alloc ?_ _)); exact BK407.out) hb2); have n1_ := Aside0.mk (blk_below (g := gb408) (o := .cells #[.int .i64 0, .int .i64 0] 31 (0, 0)) (by (with_reducible repeat (first | refine blk_drewN ?_ _ | refine blk_drew ?_ | refine blk_alloc ?_ _)); exact BK408.out) hb2); have n2_ := Aside0.mk (hb); have n3_ := Aside0.mk (hi); have n4_ := Aside0.mk (IsS84.ne_blk hi (blk_below (g := gb407) (o := .cells #[.int .i64 0, .int .i64 0] 25 (0, 0)) (by (with_reducible repeat (first | refine blk_drewN ?_ _ | refine blk_drew ?_ | refine blk_alloc ?_ _)); exact BK407.out) hb2) (by decide)); have n5_ := Aside0.mk (Ne.symm (IsS84.ne_blk hi (blk_below (g := gb407) (o := .cells #[.int .i64 0, .int .i64 0] 25 (0, 0)) (by (with_reducible repeat (first | refine blk_drewN ?_ _ | refine blk_drew ?_ | refine blk_alloc ?_ _)); exact BK407.out) hb2) (by decide))); have n6_ := Aside0.mk (IsS84.ne_blk hi (blk_below (g := gb408) (o := .cells #[.int .i64 0, .int .i64 0] 31 (0, 0)) (by (with_reducible repeat (first | refine blk_drewN ?_ _ | refine blk_drew ?_ | refine blk_alloc ?_ _)); exact BK408.out) hb2) (by decide)); have n7_ := Aside0.mk (Ne.symm (IsS84.ne_blk hi (blk_below (g := gb408) (o := .cells #[.int .i64 0, .int .i64 0] 31 (0, 0)) (by (with_reducible repeat (first | refine blk_drewN ?_ _ | refine blk_drew ?_ | refine blk_alloc ?_ _)); exact BK408.out) hb2) (by decide))); clear BK407; clear BK408; clear HB; have BK407 := n0_; have BK408 := n1_; have HB := n2_; have HI411 := n3_; have NB411_407 := n4_; have NB407_411 := n5_; have NB411_408 := n6_; have NB408_411 := n7_; clear n0_ n1_ n2_ n3_ n4_ n5_ n6_ n7_; (try clear hb); (try clear hb2); (try clear hk); (try clear hi)) | ((with_reducible refine gate_callee (f := 56) rfl ?_); refine goesL_ (some 8) rfl rfl Try.func56 (by kernel_rfl) rfl #[.pointer (some ⟨g411, 0, none⟩), .int .i64 12] rfl (by (try simp only [List.map_toArray, List.map_cons, List.map_nil]); first | done | rfl | (simp only [List.length_drop, List.length_take]; rfl)) ?_; (with_reducible refine (spec_l20Flow.calls k g411 t409 t410 12 t412 t413 t414 w _ ?side1 ?side2 A3.out).mono ?_); (case side1 => repeat (first | (with_reducible first | exact HI411.out | apply IsS84.alloc | apply IsS84.drewN | apply IsS84.drew | apply IsS84.set_1 | refine IsS84.far ?_ NB411_407.out _ | refine IsS84.far ?_ NB411_408.out _) | exact HI411.out)); (case side2 => repeat (first | (with_reducible first | exact HB.out | apply below_alloc | apply pw_below_drewN | apply below_drew1 | refine below_set ?_ (IsS84.ge HI411.out) | refine below_set ?_ GE407.out | refine below_set ?_ GE408.out) | exact HB.out)); rintro e w8 ⟨rfl, hi, hb, hk⟩; refine ⟨_, rfl, ?_⟩; have n0_ := Aside0.mk (KeepBut.blk hk (g' := gb407) (o := .cells #[.int .i64 0, .int .i64 0] 25 (0, 0)) (by (with_reducible repeat (first | refine blk_drewN ?_ _ | refine blk_drew ?_ | refine blk_alloc ?_ _)); exact BK407.out) NB407_411.out (by simp)); have n1_ := Aside0.mk (KeepBut.blk hk (g' := gb408) (o := .cells #[.int .i64 0, .int .i64 0] 31 (0, 0)) (by (with_reducible repeat (first | refine blk_drewN ?_ _ | refine blk_drew ?_ | refine blk_alloc ?_ _)); exact BK408.out) NB408_411.out (by simp)); have n2_ := Aside0.mk (hb); have n3_ := Aside0.mk (hi); clear BK407; clear BK408; clear HB; clear HI411; have BK407 := n0_; have BK408 := n1_; have HB := n2_; have HI411 := n3_; clear n0_ n1_ n2_ n3_; (try clear hb); (try clear hb2); (try clear hk); (try clear hi)) | ((with_reducible refine gate_callee (f := 57) rfl ?_); refine goesL_ (some 10) rfl rfl Try.func57 (by kernel_rfl) rfl #[.pointer (some ⟨g411, 0, none⟩), .int .i64 12] rfl (by (try simp only [List.map_toArray, List.map_cons, List.map_nil]); first | done | rfl | (simp only [List.length_drop, List.length_take]; rfl)) ?_; (with_reducible refine (spec_l20Link.calls k g411 t409 t414 12 t415 t416 t417 w _ ?side1 ?side2 A4.out).mono ?_); (case side1 => repeat (first | (with_reducible first | exact HI411.out | apply IsS84.alloc | apply IsS84.drewN | apply IsS84.drew | apply IsS84.set_1 | refine IsS84.far ?_ NB411_407.out _ | refine IsS84.far ?_ NB411_408.out _) | exact HI411.out)); (case side2 => repeat (first | (with_reducible first | exact HB.out | apply below_alloc | apply pw_below_drewN | apply below_drew1 | refine below_set ?_ (IsS84.ge HI411.out) | refine below_set ?_ GE407.out | refine below_set ?_ GE408.out) | exact HB.out)); rintro e w9 ⟨rfl, hi, hb, hk⟩; refine ⟨_, rfl, ?_⟩; have n0_ := Aside0.mk (KeepBut.blk hk (g' := gb407) (o := .cells #[.int .i64 0, .int .i64 0] 25 (0, 0)) (by (with_reducible repeat (first | refine blk_drewN ?_ _ | refine blk_drew ?_ | refine blk_alloc ?_ _)); exact BK407.out) NB407_411.out (by simp)); have n1_ := Aside0.mk (KeepBut.blk hk (g' := gb408) (o := .cells #[.int .i64 0, .int .i64 0] 31 (0, 0)) (by (with_reducible repeat (first | refine blk_drewN ?_ _ | refine blk_drew ?_ | refine blk_alloc ?_ _)); exact BK408.out) NB408_411.out (by simp)); have n2_ := Aside0.mk (hb); have n3_ := Aside0.mk (hi); clear BK407; clear BK408; clear HB; clear HI411; have BK407 := n0_; have BK408 := n1_; have HB := n2_; have HI411 := n3_; clear n0_ n1_ n2_ n3_; (try clear hb); (try clear hb2); (try clear hk); (try clear hi); have hnb10 := NB407_408.out; have hnc10 := NB408_407.out; have hnb11 := NB407_411.out; have hnc11 := NB411_407.out; have hcz12_0 : w9.cell? ⟨gb407, 0, none⟩ = some (.int .i64 0) := (blk_cell BK407.out 0).trans rfl; have hcz12_1 : w9.cell? ⟨gb407, 1, none⟩ = some (.int .i64 0) := (blk_cell BK407.out 1).trans rfl; have hfz12_0 := blk_frozen BK407.out 0; have hfz12_1 := blk_frozen BK407.out 1; have hnb13 := NB408_411.out; have hnc13 := NB411_408.out; have hcz14_0 : w9.cell? ⟨gb408, 0, none⟩ = some (.int .i64 0) := (blk_cell BK408.out 0).trans rfl; have hcz14_1 : w9.cell? ⟨gb408, 1, none⟩ = some (.int .i64 0) := (blk_cell BK408.out 1).trans rfl; have hfz14_0 := blk_frozen BK408.out 0; have hfz14_1 := blk_frozen BK408.out 1))
  refine bodyPost_ret (results_cc rfl _ _ gb407 gb408 25 31 #[.int .i64 t412, .int .i64 t413] #[.int .i64 t415, .int .i64 t416] (0, 0) (0, 0) _ _ rfl (by (with_reducible repeat (first | refine blk_drewN ?_ _ | refine blk_drew ?_ | refine blk_alloc ?_ _)); refine blk_far ?_ NB407_408.out _; (with_reducible repeat (first | refine blk_drewN ?_ _ | refine blk_drew ?_ | refine blk_alloc ?_ _)); refine blk_far ?_ NB407_408.out _; (with_reducible repeat (first | refine blk_drewN ?_ _ | refine blk_drew ?_ | refine blk_alloc ?_ _)); refine blk_put (cs := #[.int .i64 t412, .int .i64 0]) ?_ 1 _ rfl; (with_reducible repeat (first | refine blk_drewN ?_ _ | refine blk_drew ?_ | refine blk_alloc ?_ _)); refine blk_put (cs := #[.int .i64 0, .int .i64 0]) ?_ 0 _ rfl; (with_reducible repeat (first | refine blk_drewN ?_ _ | refine blk_drew ?_ | refine blk_alloc ?_ _)); exact BK407.out) Try.underlying25 rfl (by kernel_rfl) rfl (by (with_reducible repeat (first | refine blk_drewN ?_ _ | refine blk_drew ?_ | refine blk_alloc ?_ _)); refine blk_put (cs := #[.int .i64 t415, .int .i64 0]) ?_ 1 _ rfl; (with_reducible repeat (first | refine blk_drewN ?_ _ | refine blk_drew ?_ | refine blk_alloc ?_ _)); refine blk_put (cs := #[.int .i64 0, .int .i64 0]) ?_ 0 _ rfl; (with_reducible repeat (first | refine blk_drewN ?_ _ | refine blk_drew ?_ | refine blk_alloc ?_ _)); refine blk_far ?_ NB408_407.out _; (with_reducible repeat (first | refine blk_drewN ?_ _ | refine blk_drew ?_ | refine blk_alloc ?_ _)); refine blk_far ?_ NB408_407.out _; (with_reducible repeat (first | refine blk_drewN ?_ _ | refine blk_drew ?_ | refine blk_alloc ?_ _)); exact BK408.out) Try.underlying31 rfl (by kernel_rfl)) rfl ?_
  exact ⟨by first | rfl | (simp [errW_none, errW_some] <;> rfl) | (simp [*, errW_none, errW_some] <;> rfl), by repeat (first | (with_reducible first | exact HB.out | apply below_alloc | apply pw_below_drewN | apply below_drew1 | refine below_set ?_ (IsS84.ge HI411.out) | refine below_set ?_ GE407.out | refine below_set ?_ GE408.out) | exact HB.out)⟩

end Go.Proofs.Ytooabmmnbifclaa.P
-- Laid by a program of this work.
namespace Go.Proofs.Ytooabmmnbifclaa.P
open Go.RowKit Go.Proofs.YtooabmmnbifclaaW.PrintWords Go.Proofs.YtooabmmnbifclaaW.PrintLast Go.Proofs.YtooabmmnbifclaaW.PrintMore
attribute [local go_sem] max2_int min2_int max_two min_two max_three min_three max_four min_four   -- for this text's walks alone
set_option linter.unusedVariables false
set_option linter.unusedSimpArgs false

/-! ### laws_FnBounds: function 14 -/
mutual
def laws_FnBounds.j0 : Nat → Int → Int → Bool → Int → Int → Int → Int → Option (Bool)
  | 0, _, _, _, _, _, _, _ => none
  | k + 1, x5, x6, x41, x423000, x423001, x424000, x424001 => if x41 = true then (some false) else (if x5 < 0 then ((spec_FlowValid.f x423000 x423001).bind fun t428 => (if t428 = true then ((spec_LinkValid.f x424000 x424001).bind fun t429 => (if t429 = true then (if x423001 > x424001 then ((laws_alive.f).bind fun t430 => (some t430)) else (some false)) else ((laws_alive.f).bind fun t431 => (some t431)))) else ((laws_alive.f).bind fun t432 => (some t432)))) else (if x424001 < 20 then ((impl_DelayBound.f x423000 x423001 x424000 (wrap64 (x424001 + 1))).bind fun t435 => (if t435 > x6 then (laws_FnBounds.j1 k x5 x6 true x423000 x423001 x424000 x424001 (wrap64 (x423000 + 1)) x423001) else ((impl_BacklogBound.f x423000 x423001 x424000 (wrap64 (x424001 + 1))).bind fun t436 => (laws_FnBounds.j1 k x5 x6 (t436 != x5) x423000 x423001 x424000 x424001 (wrap64 (x423000 + 1)) x423001)))) else (laws_FnBounds.j1 k x5 x6 false x423000 x423001 x424000 x424001 (wrap64 (x423000 + 1)) x423001)))
def laws_FnBounds.j1 : Nat → Int → Int → Bool → Int → Int → Int → Int → Int → Int → Option (Bool)
  | 0, _, _, _, _, _, _, _, _, _ => none
  | k + 1, x5, x6, x90, x423000, x423001, x424000, x424001, x435000, x435001 => if x90 = true then (some false) else (if x423000 < 20 then ((impl_DelayBound.f x435000 x435001 x424000 x424001).bind fun t437 => (if t437 < x6 then (some false) else ((impl_BacklogBound.f x435000 x435001 x424000 x424001).bind fun t438 => (if t438 < x5 then (some false) else ((impl_DelayBound.f 0 x423001 x424000 x424001).bind fun t439 => (some (t439 == x424000))))))) else ((impl_DelayBound.f 0 x423001 x424000 x424001).bind fun t440 => (some (t440 == x424000))))
end
def laws_FnBounds.f (k : Nat) (l0 : List Int) : Option (Bool) := if (l0.length : Int) > 1048576 then (some true) else ((spec_DrawBacklogBound.f k l0).bind fun bt418 => ((impl_BacklogBound.f bt418.1 bt418.2.1 bt418.2.2.1 bt418.2.2.2).bind fun t424 => ((impl_DelayBound.f bt418.1 bt418.2.1 bt418.2.2.1 bt418.2.2.2).bind fun t425 => ((spec_BacklogBound.f bt418.1 bt418.2.1 bt418.2.2.1 bt418.2.2.2).bind fun t426 => (if t424 = t426 then ((spec_DelayBound.f bt418.1 bt418.2.1 bt418.2.2.1 bt418.2.2.2).bind fun t427 => (if t425 = t427 then (laws_FnBounds.j0 k t424 t425 ((decide (t424 < 0)) != (decide (t425 < 0))) bt418.1 bt418.2.1 bt418.2.2.1 bt418.2.2.2) else (laws_FnBounds.j0 k t424 t425 true bt418.1 bt418.2.1 bt418.2.2.1 bt418.2.2.2))) else (laws_FnBounds.j0 k t424 t425 true bt418.1 bt418.2.1 bt418.2.2.1 bt418.2.2.2))))))
theorem laws_FnBounds.mono_l : ∀ k, (∀ y0 y1 y2 y3 y4 y5 y6, LeO (laws_FnBounds.j0 k y0 y1 y2 y3 y4 y5 y6) (laws_FnBounds.j0 (k + 1) y0 y1 y2 y3 y4 y5 y6)) ∧ (∀ y0 y1 y2 y3 y4 y5 y6 y7 y8, LeO (laws_FnBounds.j1 k y0 y1 y2 y3 y4 y5 y6 y7 y8) (laws_FnBounds.j1 (k + 1) y0 y1 y2 y3 y4 y5 y6 y7 y8))
  | 0 => ⟨fun _ _ _ _ _ _ _ r h => by simp [laws_FnBounds.j0] at h, fun _ _ _ _ _ _ _ _ _ r h => by simp [laws_FnBounds.j1] at h⟩
  | k + 1 => by
    obtain ⟨ih0, ih1⟩ := laws_FnBounds.mono_l k
    refine ⟨?_, ?_⟩
    · intro y0 y1 y2 y3 y4 y5 y6
      unfold laws_FnBounds.j0
      repeat' first
      | (with_reducible exact ih0 _ _ _ _ _ _ _)
      | (with_reducible exact ih1 _ _ _ _ _ _ _ _ _)
      | (with_reducible exact spec_DrawBacklogBound.mono _ _)
      | (with_reducible exact LeO.refl _)
      | (with_reducible exact LeO.none _)
      | (with_reducible refine LeO.ite ?_ ?_)
      | (with_reducible refine LeO.bind ?_ (fun _ => ?_))
      | exact ih0 _ _ _ _ _ _ _
      | exact ih1 _ _ _ _ _ _ _ _ _
      | exact spec_DrawBacklogBound.mono _ _
      | exact LeO.none _
      | refine LeO.ite ?_ ?_
      | refine LeO.bind ?_ (fun _ => ?_)
    · intro y0 y1 y2 y3 y4 y5 y6 y7 y8
      unfold laws_FnBounds.j1
      repeat' first
      | (with_reducible exact ih0 _ _ _ _ _ _ _)
      | (with_reducible exact ih1 _ _ _ _ _ _ _ _ _)
      | (with_reducible exact spec_DrawBacklogBound.mono _ _)
      | (with_reducible exact LeO.refl _)
      | (with_reducible exact LeO.none _)
      | (with_reducible refine LeO.ite ?_ ?_)
      | (with_reducible refine LeO.bind ?_ (fun _ => ?_))
      | exact ih0 _ _ _ _ _ _ _
      | exact ih1 _ _ _ _ _ _ _ _ _
      | exact spec_DrawBacklogBound.mono _ _
      | exact LeO.none _
      | refine LeO.ite ?_ ?_
      | refine LeO.bind ?_ (fun _ => ?_)
theorem laws_FnBounds.mono : ∀ a0 k, LeO (laws_FnBounds.f k a0) (laws_FnBounds.f (k + 1) a0) := by
  intro a0 k
  obtain ⟨ih0, ih1⟩ := laws_FnBounds.mono_l k
  unfold laws_FnBounds.f
  repeat' first
      | (with_reducible exact ih0 _ _ _ _ _ _ _)
      | (with_reducible exact ih1 _ _ _ _ _ _ _ _ _)
      | (with_reducible exact spec_DrawBacklogBound.mono _ _)
      | (with_reducible exact LeO.refl _)
      | (with_reducible exact LeO.none _)
      | (with_reducible refine LeO.ite ?_ ?_)
      | (with_reducible refine LeO.bind ?_ (fun _ => ?_))
      | exact ih0 _ _ _ _ _ _ _
      | exact ih1 _ _ _ _ _ _ _ _ _
      | exact spec_DrawBacklogBound.mono _ _
      | exact LeO.none _
      | refine LeO.ite ?_ ?_
      | refine LeO.bind ?_ (fun _ => ?_)
def laws_FnBounds.T16 : Bool × List (List Nat × List Nat) := (true, [([], []), ([0], [0]), ([1], [1]), ([], []), ([2, 3], [2, 3]), ([], []), ([5], [5]), ([4, 6], [4, 6]), ([7, 4, 0, 1, 2, 3, 4, 5, 6, 7], [7])])
def laws_FnBounds.B16 : List Nat := [0, 1, 3, 0, 15, 0, 32, 127, 255]
theorem laws_FnBounds.tab16 : rtab .any (opsOf Try.f14 16) = laws_FnBounds.T16 := by kernel_rfl
theorem laws_FnBounds.bits16 : waitsOk laws_FnBounds.T16.2 laws_FnBounds.B16 = true := by kernel_rfl
set_option maxHeartbeats 8000000 in
set_option maxRecDepth 100000 in
theorem laws_FnBounds.calls (k : Nat) (A0 : Option Addr) (c0 : Nat) (l0 : List Int) (r : Bool) (w : World) (hr0 : Kd.C (Kd.int .u8) w A0 l0.length l0) (hc0 : l0.length ≤ c0) (h : laws_FnBounds.f k l0 = some r) :
    Calls Try.prog 14 #[.slice A0 l0.length c0] w fun e w' => e = .returned (.bool r) ∧ Below w.heap.size w w' := by
  have hu25 := Try.underlying25
  have hu31 := Try.underlying31
  have HR0 := Aside0.mk hr0
  have HC0 := Aside0.mk hc0
  clear hr0 hc0
  have HB := Aside0.mk (Below.refl w.heap.size w)
  have H : (if (l0.length : Int) > 1048576 then (some true) else ((spec_DrawBacklogBound.f k l0).bind fun bt418 => ((impl_BacklogBound.f bt418.1 bt418.2.1 bt418.2.2.1 bt418.2.2.2).bind fun t424 => ((impl_DelayBound.f bt418.1 bt418.2.1 bt418.2.2.1 bt418.2.2.2).bind fun t425 => ((spec_BacklogBound.f bt418.1 bt418.2.1 bt418.2.2.1 bt418.2.2.2).bind fun t426 => (if t424 = t426 then ((spec_DelayBound.f bt418.1 bt418.2.1 bt418.2.2.1 bt418.2.2.2).bind fun t427 => (if t425 = t427 then (laws_FnBounds.j0 k t424 t425 ((decide (t424 < 0)) != (decide (t425 < 0))) bt418.1 bt418.2.1 bt418.2.2.1 bt418.2.2.2) else (laws_FnBounds.j0 k t424 t425 true bt418.1 bt418.2.1 bt418.2.2.1 bt418.2.2.2))) else (laws_FnBounds.j0 k t424 t425 true bt418.1 bt418.2.1 bt418.2.2.1 bt418.2.2.2))))))) = some r := h
  clear h
  by_cases c2 : (l0.length : Int) > 1048576
  · rw [if_pos c2] at H
    have c2b0 : decide (1048576 < (l0.length : Int)) = true := decide_eq_true c2
    have c2b1 : decide (1048576 < l0.length) = true := decide_eq_true (by omega)
    clear c2
    obtain rfl := Option.some.inj H
    go_enter Try.func14, Try.ntmps14
    go_wp2
    go_ret
    exact ⟨by first | rfl | (simp [errW_none, errW_some] <;> rfl) | (simp [*, errW_none, errW_some] <;> rfl), by repeat (first | (with_reducible first | exact HB.out | apply below_alloc | apply pw_below_drewN | apply below_drew1) | exact HB.out)⟩
  · rw [if_neg c2] at H
    have c2b0 : decide (1048576 < (l0.length : Int)) = false := decide_eq_false c2
    have c2b1 : decide (1048576 < l0.length) = false := decide_eq_false (by omega)
    clear c2
    replace H := Option.bind_eq_some_iff.mp H
    obtain ⟨⟨t418, t419, t420, t421⟩, A30, H⟩ := H
    replace H : ((impl_BacklogBound.f t418 t419 t420 t421).bind fun t424 => ((impl_DelayBound.f t418 t419 t420 t421).bind fun t425 => ((spec_BacklogBound.f t418 t419 t420 t421).bind fun t426 => (if t424 = t426 then ((spec_DelayBound.f t418 t419 t420 t421).bind fun t427 => (if t425 = t427 then (laws_FnBounds.j0 k t424 t425 ((decide (t424 < 0)) != (decide (t425 < 0))) t418 t419 t420 t421) else (laws_FnBounds.j0 k t424 t425 true t418 t419 t420 t421))) else (laws_FnBounds.j0 k t424 t425 true t418 t419 t420 t421))))) = some r := H
    have A3 := Aside0.mk A30
    clear A30
    replace H := Option.bind_eq_some_iff.mp H
    obtain ⟨t424, A40, H⟩ := H
    replace H : ((impl_DelayBound.f t418 t419 t420 t421).bind fun t425 => ((spec_BacklogBound.f t418 t419 t420 t421).bind fun t426 => (if t424 = t426 then ((spec_DelayBound.f t418 t419 t420 t421).bind fun t427 => (if t425 = t427 then (laws_FnBounds.j0 k t424 t425 ((decide (t424 < 0)) != (decide (t425 < 0))) t418 t419 t420 t421) else (laws_FnBounds.j0 k t424 t425 true t418 t419 t420 t421))) else (laws_FnBounds.j0 k t424 t425 true t418 t419 t420 t421)))) = some r := H
    have A4 := Aside0.mk A40
    clear A40
    replace H := Option.bind_eq_some_iff.mp H
    obtain ⟨t425, A50, H⟩ := H
    replace H : ((spec_BacklogBound.f t418 t419 t420 t421).bind fun t426 => (if t424 = t426 then ((spec_DelayBound.f t418 t419 t420 t421).bind fun t427 => (if t425 = t427 then (laws_FnBounds.j0 k t424 t425 ((decide (t424 < 0)) != (decide (t425 < 0))) t418 t419 t420 t421) else (laws_FnBounds.j0 k t424 t425 true t418 t419 t420 t421))) else (laws_FnBounds.j0 k t424 t425 true t418 t419 t420 t421))) = some r := H
    have A5 := Aside0.mk A50
    clear A50
    have HC6 := Aside0.mk H
    clear H
    go_enter Try.func14, Try.ntmps14
    go_upto_region 6 with (first | ((with_reducible refine gate_callee (f := 41) rfl ?_); refine goesL_ (some 14) rfl rfl Try.func41 (by kernel_rfl) rfl #[.slice A0 l0.length c0] rfl (by (try simp only [List.map_toArray, List.map_cons, List.map_nil]); first | done | rfl | (simp only [List.length_drop, List.length_take]; rfl)) ?_; (with_reducible refine (spec_DrawBacklogBound.calls k _ _ l0 t418 t419 t420 t421 _ ?side1 ?side2 A3.out).mono ?_); (case side1 => repeat (first | exact HR0.out | (with_reducible refine Kd.C_alloc ?_ _) | (with_reducible refine Kd.C_drewN ?_ _) | (with_reducible refine Kd.C_drew ?_))); (case side2 => exact HC0.out); rintro e w7 ⟨rfl, hb⟩; refine ⟨_, rfl, ?_⟩; have n0_ := Aside0.mk (below_step (by repeat (first | (with_reducible first | exact HB.out | apply below_alloc | apply pw_below_drewN | apply below_drew1) | exact HB.out)) hb); clear HB; have HB := n0_; clear n0_; (try clear hb); (try clear hb2); (try clear hk); (try clear hi)) | ((with_reducible refine gate_dst (N := 3) rfl ?_); refine box_event ?hg (N := 3) ?hd (cs := #[.int .i64 0, .int .i64 0]) (t := 25) ?hr ?_; (case hd => rfl); (case hg => rfl); (case hr => first | (go_simp; done) | (go_simp; rfl)); intro gb422 hg w8 hbox hb; have n0_ := Aside0.mk (below_step (by repeat (first | (with_reducible first | exact HB.out | apply below_alloc | apply pw_below_drewN | apply below_drew1) | exact HB.out)) hb); have n1_ := Aside0.mk (hbox); have n2_ := Aside0.mk ((by rw [hg]; exact (below_size (by repeat (first | (with_reducible first | exact HB.out | apply below_alloc | apply pw_below_drewN | apply below_drew1) | exact HB.out))) : w.heap.size ≤ gb422)); have n3_ := Aside0.mk ((by rw [hg]; exact (below_size (by repeat (first | (with_reducible first | exact HB.out | apply below_alloc | apply pw_below_drewN | apply below_drew1) | exact HB.out))) : w.heap.size ≤ gb422)); clear HB; have HB := n0_; have BK422 := n1_; have GW422 := n2_; have GE422 := n3_; clear n0_ n1_ n2_ n3_; clear hb hbox hg) | ((with_reducible refine gate_dst (N := 4) rfl ?_); refine box_event ?hg (N := 4) ?hd (cs := #[.int .i64 0, .int .i64 0]) (t := 31) ?hr ?_; (case hd => rfl); (case hg => rfl); (case hr => first | (go_simp; done) | (go_simp; rfl)); intro gb423 hg w9 hbox hb; have n0_ := Aside0.mk (blk_below (g := gb422) (o := .cells #[.int .i64 0, .int .i64 0] 25 (0, 0)) (by (with_reducible repeat (first | refine blk_drewN ?_ _ | refine blk_drew ?_ | refine blk_alloc ?_ _)); exact BK422.out) hb); have n1_ := Aside0.mk (below_step (by repeat (first | (with_reducible first | exact HB.out | apply below_alloc | apply pw_below_drewN | apply below_drew1 | refine below_set ?_ GE422.out) | exact HB.out)) hb); have n2_ := Aside0.mk (hbox); have n3_ := Aside0.mk ((by rw [hg]; exact (below_size (by repeat (first | (with_reducible first | exact HB.out | apply below_alloc | apply pw_below_drewN | apply below_drew1 | refine below_set ?_ GE422.out) | exact HB.out))) : w.heap.size ≤ gb423)); have n4_ := Aside0.mk ((by rw [hg]; exact (below_size (by repeat (first | (with_reducible first | exact HB.out | apply below_alloc | apply pw_below_drewN | apply below_drew1 | refine below_set ?_ GE422.out) | exact HB.out))) : w.heap.size ≤ gb423)); have n5_ := Aside0.mk ((by rw [hg]; exact Nat.ne_of_lt (blk_lt (g := gb422) (o := .cells #[.int .i64 0, .int .i64 0] 25 (0, 0)) (by (with_reducible repeat (first | refine blk_drewN ?_ _ | refine blk_drew ?_ | refine blk_alloc ?_ _)); exact BK422.out)) : gb422 ≠ gb423)); have n6_ := Aside0.mk ((by rw [hg]; exact Nat.ne_of_gt (blk_lt (g := gb422) (o := .cells #[.int .i64 0, .int .i64 0] 25 (0, 0)) (by (with_reducible repeat (first | refine blk_drewN ?_ _ | refine blk_drew ?_ | refine blk_alloc ?_ _)); exact BK422.out)) : gb423 ≠ gb422)); clear BK422; clear HB; have BK422 := n0_; have HB := n1_; have BK423 := n2_; have GW423 := n3_; have GE423 := n4_; have NB422_423 := n5_; have NB423_422 := n6_; clear n0_ n1_ n2_ n3_ n4_ n5_ n6_; clear hb hbox hg; have hnb10 := NB422_423.out; have hnc10 := NB423_422.out; have hcz11_0 : w9.cell? ⟨gb422, 0, none⟩ = some (.int .i64 0) := (blk_cell BK422.out 0).trans rfl; have hcz11_1 : w9.cell? ⟨gb422, 1, none⟩ = some (.int .i64 0) := (blk_cell BK422.out 1).trans rfl; have hfz11_0 := blk_frozen BK422.out 0; have hfz11_1 := blk_frozen BK422.out 1; have hcz12_0 : w9.cell? ⟨gb423, 0, none⟩ = some (.int .i64 0) := (blk_cell BK423.out 0).trans rfl; have hcz12_1 : w9.cell? ⟨gb423, 1, none⟩ = some (.int .i64 0) := (blk_cell BK423.out 1).trans rfl; have hfz12_0 := blk_frozen BK423.out 0; have hfz12_1 := blk_frozen BK423.out 1) | ((with_reducible refine gate_callee (f := 30) rfl ?_); refine goesL_ (some 19) rfl rfl Try.func30 (by kernel_rfl) rfl #[.agg #[.int .i64 t418, .int .i64 t419], .agg #[.int .i64 t420, .int .i64 t421]] rfl (by (try simp only [List.map_toArray, List.map_cons, List.map_nil]); first | done | rfl | (simp only [List.length_drop, List.length_take]; rfl)) ?_; (with_reducible refine (impl_BacklogBound.calls t418 t419 t420 t421 t424 _ A4.out).mono ?_); rintro e w13 ⟨rfl, hb⟩; refine ⟨_, rfl, ?_⟩; have n0_ := Aside0.mk (blk_below (g := gb422) (o := .cells #[.int .i64 t418, .int .i64 t419] 25 (0, 0)) (by (with_reducible repeat (first | refine blk_drewN ?_ _ | refine blk_drew ?_ | refine blk_alloc ?_ _)); refine blk_far ?_ NB422_423.out _; (with_reducible repeat (first | refine blk_drewN ?_ _ | refine blk_drew ?_ | refine blk_alloc ?_ _)); refine blk_far ?_ NB422_423.out _; (with_reducible repeat (first | refine blk_drewN ?_ _ | refine blk_drew ?_ | refine blk_alloc ?_ _)); refine blk_put (cs := #[.int .i64 t418, .int .i64 0]) ?_ 1 _ rfl; (with_reducible repeat (first | refine blk_drewN ?_ _ | refine blk_drew ?_ | refine blk_alloc ?_ _)); refine blk_put (cs := #[.int .i64 0, .int .i64 0]) ?_ 0 _ rfl; (with_reducible repeat (first | refine blk_drewN ?_ _ | refine blk_drew ?_ | refine blk_alloc ?_ _)); exact BK422.out) hb); have n1_ := Aside0.mk (blk_below (g := gb423) (o := .cells #[.int .i64 t420, .int .i64 t421] 31 (0, 0)) (by (with_reducible repeat (first | refine blk_drewN ?_ _ | refine blk_drew ?_ | refine blk_alloc ?_ _)); refine blk_put (cs := #[.int .i64 t420, .int .i64 0]) ?_ 1 _ rfl; (with_reducible repeat (first | refine blk_drewN ?_ _ | refine blk_drew ?_ | refine blk_alloc ?_ _)); refine blk_put (cs := #[.int .i64 0, .int .i64 0]) ?_ 0 _ rfl; (with_reducible repeat (first | refine blk_drewN ?_ _ | refine blk_drew ?_ | refine blk_alloc ?_ _)); refine blk_far ?_ NB423_422.out _; (with_reducible repeat (first | refine blk_drewN ?_ _ | refine blk_drew ?_ | refine blk_alloc ?_ _)); refine blk_far ?_ NB423_422.out _; (with_reducible repeat (first | refine blk_drewN ?_ _ | refine blk_drew ?_ | refine blk_alloc ?_ _)); exact BK423.out) hb); have n2_ := Aside0.mk (below_step (by repeat (first | (with_reducible first | exact HB.out | apply below_alloc | apply pw_below_drewN | apply below_drew1 | refine below_set ?_ GE422.out | refine below_set ?_ GE423.out) | exact HB.out)) hb); clear BK422; clear BK423; clear HB; have BK422 := n0_; have BK423 := n1_; have HB := n2_; clear n0_ n1_ n2_; (try clear hb); (try clear hb2); (try clear hk); (try clear hi); have hcz14_0 : w13.cell? ⟨gb422, 0, none⟩ = some (.int .i64 t418) := (blk_cell BK422.out 0).trans rfl; have hcz14_1 : w13.cell? ⟨gb422, 1, none⟩ = some (.int .i64 t419) := (blk_cell BK422.out 1).trans rfl; have hfz14_0 := blk_frozen BK422.out 0; have hfz14_1 := blk_frozen BK422.out 1; have hcz15_0 : w13.cell? ⟨gb423, 0, none⟩ = some (.int .i64 t420) := (blk_cell BK423.out 0).trans rfl; have hcz15_1 : w13.cell? ⟨gb423, 1, none⟩ = some (.int .i64 t421) := (blk_cell BK423.out 1).trans rfl; have hfz15_0 := blk_frozen BK423.out 0; have hfz15_1 := blk_frozen BK423.out 1) | ((with_reducible refine gate_callee (f := 32) rfl ?_); refine goesL_ (some 22) rfl rfl Try.func32 (by kernel_rfl) rfl #[.agg #[.int .i64 t418, .int .i64 t419], .agg #[.int .i64 t420, .int .i64 t421]] rfl (by (try simp only [List.map_toArray, List.map_cons, List.map_nil]); first | done | rfl | (simp only [List.length_drop, List.length_take]; rfl)) ?_; (with_reducible refine (impl_DelayBound.calls t418 t419 t420 t421 t425 _ A5.out).mono ?_); rintro e w16 ⟨rfl, hb⟩; refine ⟨_, rfl, ?_⟩; have n0_ := Aside0.mk (blk_below (g := gb422) (o := .cells #[.int .i64 t418, .int .i64 t419] 25 (0, 0)) (by (with_reducible repeat (first | refine blk_drewN ?_ _ | refine blk_drew ?_ | refine blk_alloc ?_ _)); exact BK422.out) hb); have n1_ := Aside0.mk (blk_below (g := gb423) (o := .cells #[.int .i64 t420, .int .i64 t421] 31 (0, 0)) (by (with_reducible repeat (first | refine blk_drewN ?_ _ | refine blk_drew ?_ | refine blk_alloc ?_ _)); exact BK423.out) hb); have n2_ := Aside0.mk (below_step (by repeat (first | (with_reducible first | exact HB.out | apply below_alloc | apply pw_below_drewN | apply below_drew1 | refine below_set ?_ GE422.out | refine below_set ?_ GE423.out) | exact HB.out)) hb); clear BK422; clear BK423; clear HB; have BK422 := n0_; have BK423 := n1_; have HB := n2_; clear n0_ n1_ n2_; (try clear hb); (try clear hb2); (try clear hk); (try clear hi)))
    (try simp only [Act.put, List.setIfInBounds_toArray, List.set_cons_zero, List.set_cons_succ])
    go_cut [41] (fun v41 wc => ∃ (kq : Nat) (x41_5 : Bool), v41 = .bool x41_5 ∧ Aside0 (laws_FnBounds.j0 kq t424 t425 x41_5 t418 t419 t420 t421 = some r) ∧ Aside0 (kq ≤ k) ∧ Aside0 (wc.heap[gb422]? = some (.cells #[.int .i64 t418, .int .i64 t419] 25 (0, 0))) ∧ Aside0 (wc.heap[gb423]? = some (.cells #[.int .i64 t420, .int .i64 t421] 31 (0, 0))) ∧ Aside0 (Below w.heap.size w wc))
    case first =>
      have H := HC6.out
      clear HC6
      replace H := Option.bind_eq_some_iff.mp H
      obtain ⟨t426, A170, H⟩ := H
      replace H : (if t424 = t426 then ((spec_DelayBound.f t418 t419 t420 t421).bind fun t427 => (if t425 = t427 then (laws_FnBounds.j0 k t424 t425 ((decide (t424 < 0)) != (decide (t425 < 0))) t418 t419 t420 t421) else (laws_FnBounds.j0 k t424 t425 true t418 t419 t420 t421))) else (laws_FnBounds.j0 k t424 t425 true t418 t419 t420 t421)) = some r := H
      have A17 := Aside0.mk A170
      clear A170
      by_cases c18 : t424 = t426
      · rw [if_pos c18] at H
        have c18b0 : (t424 == t426) = true := beq_iff_eq.mpr c18
        have c18b1 : (t424 != t426) = false := bne_eq_false_iff_eq.mpr c18
        clear c18
        (first | rw [c18b0] | (simp only [i64_w, i32_w]; rw [c18b0]) | skip)
        replace H := Option.bind_eq_some_iff.mp H
        obtain ⟨t427, A190, H⟩ := H
        replace H : (if t425 = t427 then (laws_FnBounds.j0 k t424 t425 ((decide (t424 < 0)) != (decide (t425 < 0))) t418 t419 t420 t421) else (laws_FnBounds.j0 k t424 t425 true t418 t419 t420 t421)) = some r := H
        have A19 := Aside0.mk A190
        clear A190
        by_cases c20 : t425 = t427
        · rw [if_pos c20] at H
          have c20b0 : (t425 == t427) = true := beq_iff_eq.mpr c20
          have c20b1 : (t425 != t427) = false := bne_eq_false_iff_eq.mpr c20
          clear c20
          have H' := Aside0.mk H
          clear H
          have hnb21 := NB422_423.out
          have hnc21 := NB423_422.out
          have hcz22_0 : w16.cell? ⟨gb422, 0, none⟩ = some (.int .i64 t418) := (blk_cell BK422.out 0).trans rfl
          have hcz22_1 : w16.cell? ⟨gb422, 1, none⟩ = some (.int .i64 t419) := (blk_cell BK422.out 1).trans rfl
          have hfz22_0 := blk_frozen BK422.out 0
          have hfz22_1 := blk_frozen BK422.out 1
          have hcz23_0 : w16.cell? ⟨gb423, 0, none⟩ = some (.int .i64 t420) := (blk_cell BK423.out 0).trans rfl
          have hcz23_1 : w16.cell? ⟨gb423, 1, none⟩ = some (.int .i64 t421) := (blk_cell BK423.out 1).trans rfl
          have hfz23_0 := blk_frozen BK423.out 0
          have hfz23_1 := blk_frozen BK423.out 1
          go_wp2_with (first | ((with_reducible refine gate_callee (f := 29) rfl ?_); refine goesL_ (some 26) rfl rfl Try.func29 (by kernel_rfl) rfl #[.agg #[.int .i64 t418, .int .i64 t419], .agg #[.int .i64 t420, .int .i64 t421]] rfl (by (try simp only [List.map_toArray, List.map_cons, List.map_nil]); first | done | rfl | (simp only [List.length_drop, List.length_take]; rfl)) ?_; (with_reducible refine (spec_BacklogBound.calls t418 t419 t420 t421 t426 _ A17.out).mono ?_); rintro e w24 ⟨rfl, hb⟩; refine ⟨_, rfl, ?_⟩; have n0_ := Aside0.mk (blk_below (g := gb422) (o := .cells #[.int .i64 t418, .int .i64 t419] 25 (0, 0)) (by (with_reducible repeat (first | refine blk_drewN ?_ _ | refine blk_drew ?_ | refine blk_alloc ?_ _)); exact BK422.out) hb); have n1_ := Aside0.mk (blk_below (g := gb423) (o := .cells #[.int .i64 t420, .int .i64 t421] 31 (0, 0)) (by (with_reducible repeat (first | refine blk_drewN ?_ _ | refine blk_drew ?_ | refine blk_alloc ?_ _)); exact BK423.out) hb); have n2_ := Aside0.mk (below_step (by repeat (first | (with_reducible first | exact HB.out | apply below_alloc | apply pw_below_drewN | apply below_drew1 | refine below_set ?_ GE422.out | refine below_set ?_ GE423.out) | exact HB.out)) hb); clear BK422; clear BK423; clear HB; have BK422 := n0_; have BK423 := n1_; have HB := n2_; clear n0_ n1_ n2_; (try clear hb); (try clear hb2); (try clear hk); (try clear hi); have hcz25_0 : w24.cell? ⟨gb422, 0, none⟩ = some (.int .i64 t418) := (blk_cell BK422.out 0).trans rfl; have hcz25_1 : w24.cell? ⟨gb422, 1, none⟩ = some (.int .i64 t419) := (blk_cell BK422.out 1).trans rfl; have hfz25_0 := blk_frozen BK422.out 0; have hfz25_1 := blk_frozen BK422.out 1; have hcz26_0 : w24.cell? ⟨gb423, 0, none⟩ = some (.int .i64 t420) := (blk_cell BK423.out 0).trans rfl; have hcz26_1 : w24.cell? ⟨gb423, 1, none⟩ = some (.int .i64 t421) := (blk_cell BK423.out 1).trans rfl; have hfz26_0 := blk_frozen BK423.out 0; have hfz26_1 := blk_frozen BK423.out 1) | (go_at_call 31; (with_reducible refine (spec_DelayBound.calls t418 t419 t420 t421 t427 _ A19.out).mono ?_); rintro e w27 ⟨rfl, hb⟩; have n0_ := Aside0.mk (blk_below (g := gb422) (o := .cells #[.int .i64 t418, .int .i64 t419] 25 (0, 0)) (by (with_reducible repeat (first | refine blk_drewN ?_ _ | refine blk_drew ?_ | refine blk_alloc ?_ _)); exact BK422.out) hb); have n1_ := Aside0.mk (blk_below (g := gb423) (o := .cells #[.int .i64 t420, .int .i64 t421] 31 (0, 0)) (by (with_reducible repeat (first | refine blk_drewN ?_ _ | refine blk_drew ?_ | refine blk_alloc ?_ _)); exact BK423.out) hb); have n2_ := Aside0.mk (below_step (by repeat (first | (with_reducible first | exact HB.out | apply below_alloc | apply pw_below_drewN | apply below_drew1 | refine below_set ?_ GE422.out | refine below_set ?_ GE423.out) | exact HB.out)) hb); clear BK422; clear BK423; clear HB; have BK422 := n0_; have BK423 := n1_; have HB := n2_; clear n0_ n1_ n2_; (try clear hb); (try clear hb2); (try clear hk); (try clear hi)))
          go_meet
          case rel => exact ⟨_, (((decide (t424 < 0)) != (decide (t425 < 0)))), (by first | rfl | (simp; done) | (simp [*]; done)), H', ⟨by first | omega | exact Nat.le_refl _⟩, ⟨by (with_reducible repeat (first | refine blk_drewN ?_ _ | refine blk_drew ?_ | refine blk_alloc ?_ _)); exact BK422.out⟩, ⟨by (with_reducible repeat (first | refine blk_drewN ?_ _ | refine blk_drew ?_ | refine blk_alloc ?_ _)); exact BK423.out⟩, ⟨by repeat (first | (with_reducible first | exact HB.out | apply below_alloc | apply pw_below_drewN | apply below_drew1 | refine below_set ?_ GE422.out | refine below_set ?_ GE423.out) | exact HB.out)⟩⟩
        · rw [if_neg c20] at H
          have c20b0 : (t425 == t427) = false := beq_eq_false_iff_ne.mpr c20
          have c20b1 : (t425 != t427) = true := bne_iff_ne.mpr c20
          have H' := Aside0.mk H
          clear H
          have hnb28 := NB422_423.out
          have hnc28 := NB423_422.out
          have hcz29_0 : w16.cell? ⟨gb422, 0, none⟩ = some (.int .i64 t418) := (blk_cell BK422.out 0).trans rfl
          have hcz29_1 : w16.cell? ⟨gb422, 1, none⟩ = some (.int .i64 t419) := (blk_cell BK422.out 1).trans rfl
          have hfz29_0 := blk_frozen BK422.out 0
          have hfz29_1 := blk_frozen BK422.out 1
          have hcz30_0 : w16.cell? ⟨gb423, 0, none⟩ = some (.int .i64 t420) := (blk_cell BK423.out 0).trans rfl
          have hcz30_1 : w16.cell? ⟨gb423, 1, none⟩ = some (.int .i64 t421) := (blk_cell BK423.out 1).trans rfl
          have hfz30_0 := blk_frozen BK423.out 0
          have hfz30_1 := blk_frozen BK423.out 1
          go_wp2_with (first | ((with_reducible refine gate_callee (f := 29) rfl ?_); refine goesL_ (some 26) rfl rfl Try.func29 (by kernel_rfl) rfl #[.agg #[.int .i64 t418, .int .i64 t419], .agg #[.int .i64 t420, .int .i64 t421]] rfl (by (try simp only [List.map_toArray, List.map_cons, List.map_nil]); first | done | rfl | (simp only [List.length_drop, List.length_take]; rfl)) ?_; (with_reducible refine (spec_BacklogBound.calls t418 t419 t420 t421 t426 _ A17.out).mono ?_); rintro e w31 ⟨rfl, hb⟩; refine ⟨_, rfl, ?_⟩; have n0_ := Aside0.mk (blk_below (g := gb422) (o := .cells #[.int .i64 t418, .int .i64 t419] 25 (0, 0)) (by (with_reducible repeat (first | refine blk_drewN ?_ _ | refine blk_drew ?_ | refine blk_alloc ?_ _)); exact BK422.out) hb); have n1_ := Aside0.mk (blk_below (g := gb423) (o := .cells #[.int .i64 t420, .int .i64 t421] 31 (0, 0)) (by (with_reducible repeat (first | refine blk_drewN ?_ _ | refine blk_drew ?_ | refine blk_alloc ?_ _)); exact BK423.out) hb); have n2_ := Aside0.mk (below_step (by repeat (first | (with_reducible first | exact HB.out | apply below_alloc | apply pw_below_drewN | apply below_drew1 | refine below_set ?_ GE422.out | refine below_set ?_ GE423.out) | exact HB.out)) hb); clear BK422; clear BK423; clear HB; have BK422 := n0_; have BK423 := n1_; have HB := n2_; clear n0_ n1_ n2_; (try clear hb); (try clear hb2); (try clear hk); (try clear hi); have hcz32_0 : w31.cell? ⟨gb422, 0, none⟩ = some (.int .i64 t418) := (blk_cell BK422.out 0).trans rfl; have hcz32_1 : w31.cell? ⟨gb422, 1, none⟩ = some (.int .i64 t419) := (blk_cell BK422.out 1).trans rfl; have hfz32_0 := blk_frozen BK422.out 0; have hfz32_1 := blk_frozen BK422.out 1; have hcz33_0 : w31.cell? ⟨gb423, 0, none⟩ = some (.int .i64 t420) := (blk_cell BK423.out 0).trans rfl; have hcz33_1 : w31.cell? ⟨gb423, 1, none⟩ = some (.int .i64 t421) := (blk_cell BK423.out 1).trans rfl; have hfz33_0 := blk_frozen BK423.out 0; have hfz33_1 := blk_frozen BK423.out 1) | (go_at_call 31; (with_reducible refine (spec_DelayBound.calls t418 t419 t420 t421 t427 _ A19.out).mono ?_); rintro e w34 ⟨rfl, hb⟩; have n0_ := Aside0.mk (blk_below (g := gb422) (o := .cells #[.int .i64 t418, .int .i64 t419] 25 (0, 0)) (by (with_reducible repeat (first | refine blk_drewN ?_ _ | refine blk_drew ?_ | refine blk_alloc ?_ _)); exact BK422.out) hb); have n1_ := Aside0.mk (blk_below (g := gb423) (o := .cells #[.int .i64 t420, .int .i64 t421] 31 (0, 0)) (by (with_reducible repeat (first | refine blk_drewN ?_ _ | refine blk_drew ?_ | refine blk_alloc ?_ _)); exact BK423.out) hb); have n2_ := Aside0.mk (below_step (by repeat (first | (with_reducible first | exact HB.out | apply below_alloc | apply pw_below_drewN | apply below_drew1 | refine below_set ?_ GE422.out | refine below_set ?_ GE423.out) | exact HB.out)) hb); clear BK422; clear BK423; clear HB; have BK422 := n0_; have BK423 := n1_; have HB := n2_; clear n0_ n1_ n2_; (try clear hb); (try clear hb2); (try clear hk); (try clear hi)))
          go_meet
          case rel => exact ⟨_, (true), (by first | rfl | (simp; done) | (simp [*]; done)), H', ⟨by first | omega | exact Nat.le_refl _⟩, ⟨by (with_reducible repeat (first | refine blk_drewN ?_ _ | refine blk_drew ?_ | refine blk_alloc ?_ _)); exact BK422.out⟩, ⟨by (with_reducible repeat (first | refine blk_drewN ?_ _ | refine blk_drew ?_ | refine blk_alloc ?_ _)); exact BK423.out⟩, ⟨by repeat (first | (with_reducible first | exact HB.out | apply below_alloc | apply pw_below_drewN | apply below_drew1 | refine below_set ?_ GE422.out | refine below_set ?_ GE423.out) | exact HB.out)⟩⟩
      · rw [if_neg c18] at H
        have c18b0 : (t424 == t426) = false := beq_eq_false_iff_ne.mpr c18
        have c18b1 : (t424 != t426) = true := bne_iff_ne.mpr c18
        (first | rw [c18b0] | (simp only [i64_w, i32_w]; rw [c18b0]) | skip)
        have H' := Aside0.mk H
        clear H
        have hnb35 := NB422_423.out
        have hnc35 := NB423_422.out
        have hcz36_0 : w16.cell? ⟨gb422, 0, none⟩ = some (.int .i64 t418) := (blk_cell BK422.out 0).trans rfl
        have hcz36_1 : w16.cell? ⟨gb422, 1, none⟩ = some (.int .i64 t419) := (blk_cell BK422.out 1).trans rfl
        have hfz36_0 := blk_frozen BK422.out 0
        have hfz36_1 := blk_frozen BK422.out 1
        have hcz37_0 : w16.cell? ⟨gb423, 0, none⟩ = some (.int .i64 t420) := (blk_cell BK423.out 0).trans rfl
        have hcz37_1 : w16.cell? ⟨gb423, 1, none⟩ = some (.int .i64 t421) := (blk_cell BK423.out 1).trans rfl
        have hfz37_0 := blk_frozen BK423.out 0
        have hfz37_1 := blk_frozen BK423.out 1
        go_wp2_with (first | ((with_reducible refine gate_callee (f := 29) rfl ?_); refine goesL_ (some 26) rfl rfl Try.func29 (by kernel_rfl) rfl #[.agg #[.int .i64 t418, .int .i64 t419], .agg #[.int .i64 t420, .int .i64 t421]] rfl (by (try simp only [List.map_toArray, List.map_cons, List.map_nil]); first | done | rfl | (simp only [List.length_drop, List.length_take]; rfl)) ?_; (with_reducible refine (spec_BacklogBound.calls t418 t419 t420 t421 t426 _ A17.out).mono ?_); rintro e w38 ⟨rfl, hb⟩; refine ⟨_, rfl, ?_⟩; have n0_ := Aside0.mk (blk_below (g := gb422) (o := .cells #[.int .i64 t418, .int .i64 t419] 25 (0, 0)) (by (with_reducible repeat (first | refine blk_drewN ?_ _ | refine blk_drew ?_ | refine blk_alloc ?_ _)); exact BK422.out) hb); have n1_ := Aside0.mk (blk_below (g := gb423) (o := .cells #[.int .i64 t420, .int .i64 t421] 31 (0, 0)) (by (with_reducible repeat (first | refine blk_drewN ?_ _ | refine blk_drew ?_ | refine blk_alloc ?_ _)); exact BK423.out) hb); have n2_ := Aside0.mk (below_step (by repeat (first | (with_reducible first | exact HB.out | apply below_alloc | apply pw_below_drewN | apply below_drew1 | refine below_set ?_ GE422.out | refine below_set ?_ GE423.out) | exact HB.out)) hb); clear BK422; clear BK423; clear HB; have BK422 := n0_; have BK423 := n1_; have HB := n2_; clear n0_ n1_ n2_; (try clear hb); (try clear hb2); (try clear hk); (try clear hi)))
        go_meet
        case rel => exact ⟨_, (true), (by first | rfl | (simp; done) | (simp [*]; done)), H', ⟨by first | omega | exact Nat.le_refl _⟩, ⟨by (with_reducible repeat (first | refine blk_drewN ?_ _ | refine blk_drew ?_ | refine blk_alloc ?_ _)); exact BK422.out⟩, ⟨by (with_reducible repeat (first | refine blk_drewN ?_ _ | refine blk_drew ?_ | refine blk_alloc ?_ _)); exact BK423.out⟩, ⟨by repeat (first | (with_reducible first | exact HB.out | apply below_alloc | apply pw_below_drewN | apply below_drew1 | refine below_set ?_ GE422.out | refine below_set ?_ GE423.out) | exact HB.out)⟩⟩
    case rest =>
      clear HC6
      try clear c1
      try clear c2
      try clear c2b0
      try clear c2b1
      try clear p2
      try clear c3
      try clear c4
      try clear c10
      try clear c14
      try clear c18
      try clear c18b0
      try clear c18b1
      try clear c20
      try clear c20b0
      try clear c20b1
      try clear c21
      try clear c28
      try clear c29
      try clear c30
      try clear c32
      try clear c35
      try clear hcz11_0
      try clear hcz11_1
      try clear hcz12_0
      try clear hcz12_1
      try clear hcz14_0
      try clear hcz14_1
      try clear hcz15_0
      try clear hcz15_1
      try clear hcz22_0
      try clear hcz22_1
      try clear hcz23_0
      try clear hcz23_1
      try clear hcz25_0
      try clear hcz25_1
      try clear hcz26_0
      try clear hcz26_1
      try clear hcz29_0
      try clear hcz29_1
      try clear hcz30_0
      try clear hcz30_1
      try clear hcz32_0
      try clear hcz32_1
      try clear hcz33_0
      try clear hcz33_1
      try clear hcz36_0
      try clear hcz36_1
      try clear hcz37_0
      try clear hcz37_1
      try clear hfz11_0
      try clear hfz11_1
      try clear hfz12_0
      try clear hfz12_1
      try clear hfz14_0
      try clear hfz14_1
      try clear hfz15_0
      try clear hfz15_1
      try clear hfz22_0
      try clear hfz22_1
      try clear hfz23_0
      try clear hfz23_1
      try clear hfz25_0
      try clear hfz25_1
      try clear hfz26_0
      try clear hfz26_1
      try clear hfz29_0
      try clear hfz29_1
      try clear hfz30_0
      try clear hfz30_1
      try clear hfz32_0
      try clear hfz32_1
      try clear hfz33_0
      try clear hfz33_1
      try clear hfz36_0
      try clear hfz36_1
      try clear hfz37_0
      try clear hfz37_1
      obtain ⟨kq, x41_5, rfl, HA, HJ5, BK422, BK423, HB⟩ := hcut
      cases kq with
      | zero => exact absurd HA.out (by simp [laws_FnBounds.j0])
      | succ kj5 =>
        have H := HA.out
        clear HA
        simp only [laws_FnBounds.j0] at H
        by_cases c39 : x41_5 = true
        · subst c39
          have H1 : (some false) = some r := by rw [if_pos rfl] at H; exact H
          clear H
          have H := H1
          clear H1
          obtain rfl := Option.some.inj H
          go_wp2
          go_ret
          exact ⟨by first | rfl | (simp [errW_none, errW_some] <;> rfl) | (simp [*, errW_none, errW_some] <;> rfl), by repeat (first | (with_reducible first | exact HB.out | apply below_alloc | apply pw_below_drewN | apply below_drew1 | refine below_set ?_ GE422.out | refine below_set ?_ GE423.out) | exact HB.out)⟩
        · replace c39 := Bool.eq_false_iff.mpr c39
          subst c39
          have H1 : (if t424 < 0 then ((spec_FlowValid.f t418 t419).bind fun t428 => (if t428 = true then ((spec_LinkValid.f t420 t421).bind fun t429 => (if t429 = true then (if t419 > t421 then ((laws_alive.f).bind fun t430 => (some t430)) else (some false)) else ((laws_alive.f).bind fun t431 => (some t431)))) else ((laws_alive.f).bind fun t432 => (some t432)))) else (if t421 < 20 then ((impl_DelayBound.f t418 t419 t420 (wrap64 (t421 + 1))).bind fun t435 => (if t435 > t425 then (laws_FnBounds.j1 kj5 t424 t425 true t418 t419 t420 t421 (wrap64 (t418 + 1)) t419) else ((impl_BacklogBound.f t418 t419 t420 (wrap64 (t421 + 1))).bind fun t436 => (laws_FnBounds.j1 kj5 t424 t425 (t436 != t424) t418 t419 t420 t421 (wrap64 (t418 + 1)) t419)))) else (laws_FnBounds.j1 kj5 t424 t425 false t418 t419 t420 t421 (wrap64 (t418 + 1)) t419))) = some r := by rw [if_neg (show ¬ (false = true) by decide)] at H; exact H
          clear H
          have H := H1
          clear H1
          by_cases c40 : t424 < 0
          · rw [if_pos c40] at H
            have c40b0 : decide (t424 < 0) = true := decide_eq_true c40
            clear c40
            replace H := Option.bind_eq_some_iff.mp H
            obtain ⟨t428, A410, H⟩ := H
            replace H : (if t428 = true then ((spec_LinkValid.f t420 t421).bind fun t429 => (if t429 = true then (if t419 > t421 then ((laws_alive.f).bind fun t430 => (some t430)) else (some false)) else ((laws_alive.f).bind fun t431 => (some t431)))) else ((laws_alive.f).bind fun t432 => (some t432))) = some r := H
            have A41 := Aside0.mk A410
            clear A410
            by_cases c42 : t428 = true
            · subst c42
              have H1 : ((spec_LinkValid.f t420 t421).bind fun t429 => (if t429 = true then (if t419 > t421 then ((laws_alive.f).bind fun t430 => (some t430)) else (some false)) else ((laws_alive.f).bind fun t431 => (some t431)))) = some r := by rw [if_pos rfl] at H; exact H
              clear H
              have H := H1
              clear H1
              replace H := Option.bind_eq_some_iff.mp H
              obtain ⟨t429, A430, H⟩ := H
              replace H : (if t429 = true then (if t419 > t421 then ((laws_alive.f).bind fun t430 => (some t430)) else (some false)) else ((laws_alive.f).bind fun t431 => (some t431))) = some r := H
              have A43 := Aside0.mk A430
              clear A430
              by_cases c44 : t429 = true
              · subst c44
                have H1 : (if t419 > t421 then ((laws_alive.f).bind fun t430 => (some t430)) else (some false)) = some r := by rw [if_pos rfl] at H; exact H
                clear H
                have H := H1
                clear H1
                by_cases c45 : t419 > t421
                · rw [if_pos c45] at H
                  have c45b0 : decide (t421 < t419) = true := decide_eq_true c45
                  clear c45
                  replace H := Option.bind_eq_some_iff.mp H
                  obtain ⟨t430, A460, H⟩ := H
                  replace H : (some t430) = some r := H
                  have A46 := Aside0.mk A460
                  clear A460
                  obtain rfl := Option.some.inj H
                  have hnb47 := NB422_423.out
                  have hnc47 := NB423_422.out
                  have hcz48_0 : wc.cell? ⟨gb422, 0, none⟩ = some (.int .i64 t418) := (blk_cell BK422.out 0).trans rfl
                  have hcz48_1 : wc.cell? ⟨gb422, 1, none⟩ = some (.int .i64 t419) := (blk_cell BK422.out 1).trans rfl
                  have hfz48_0 := blk_frozen BK422.out 0
                  have hfz48_1 := blk_frozen BK422.out 1
                  go_wp2_with (first | ((with_reducible refine gate_callee (f := 17) rfl ?_); refine goesL_ (some 45) rfl rfl Try.func17 (by kernel_rfl) rfl #[.agg #[.int .i64 t418, .int .i64 t419]] rfl (by (try simp only [List.map_toArray, List.map_cons, List.map_nil]); first | done | rfl | (simp only [List.length_drop, List.length_take]; rfl)) ?_; (with_reducible refine (spec_FlowValid.calls t418 t419 true _ A41.out).mono ?_); rintro e w49 ⟨rfl, hb⟩; refine ⟨_, rfl, ?_⟩; have n0_ := Aside0.mk (blk_below (g := gb422) (o := .cells #[.int .i64 t418, .int .i64 t419] 25 (0, 0)) (by (with_reducible repeat (first | refine blk_drewN ?_ _ | refine blk_drew ?_ | refine blk_alloc ?_ _)); exact BK422.out) hb); have n1_ := Aside0.mk (blk_below (g := gb423) (o := .cells #[.int .i64 t420, .int .i64 t421] 31 (0, 0)) (by (with_reducible repeat (first | refine blk_drewN ?_ _ | refine blk_drew ?_ | refine blk_alloc ?_ _)); exact BK423.out) hb); have n2_ := Aside0.mk (below_step (by repeat (first | (with_reducible first | exact HB.out | apply below_alloc | apply pw_below_drewN | apply below_drew1 | refine below_set ?_ GE422.out | refine below_set ?_ GE423.out) | exact HB.out)) hb); clear BK422; clear BK423; clear HB; have BK422 := n0_; have BK423 := n1_; have HB := n2_; clear n0_ n1_ n2_; (try clear hb); (try clear hb2); (try clear hk); (try clear hi); have hcz50_0 : w49.cell? ⟨gb423, 0, none⟩ = some (.int .i64 t420) := (blk_cell BK423.out 0).trans rfl; have hcz50_1 : w49.cell? ⟨gb423, 1, none⟩ = some (.int .i64 t421) := (blk_cell BK423.out 1).trans rfl; have hfz50_0 := blk_frozen BK423.out 0; have hfz50_1 := blk_frozen BK423.out 1) | (go_at_call 20; (with_reducible refine (spec_LinkValid.calls t420 t421 true _ A43.out).mono ?_); rintro e w51 ⟨rfl, hb⟩; have n0_ := Aside0.mk (blk_below (g := gb422) (o := .cells #[.int .i64 t418, .int .i64 t419] 25 (0, 0)) (by (with_reducible repeat (first | refine blk_drewN ?_ _ | refine blk_drew ?_ | refine blk_alloc ?_ _)); exact BK422.out) hb); have n1_ := Aside0.mk (blk_below (g := gb423) (o := .cells #[.int .i64 t420, .int .i64 t421] 31 (0, 0)) (by (with_reducible repeat (first | refine blk_drewN ?_ _ | refine blk_drew ?_ | refine blk_alloc ?_ _)); exact BK423.out) hb); have n2_ := Aside0.mk (below_step (by repeat (first | (with_reducible first | exact HB.out | apply below_alloc | apply pw_below_drewN | apply below_drew1 | refine below_set ?_ GE422.out | refine below_set ?_ GE423.out) | exact HB.out)) hb); clear BK422; clear BK423; clear HB; have BK422 := n0_; have BK423 := n1_; have HB := n2_; clear n0_ n1_ n2_; (try clear hb); (try clear hb2); (try clear hk); (try clear hi); have hcz52_0 : w51.cell? ⟨gb422, 0, none⟩ = some (.int .i64 t418) := (blk_cell BK422.out 0).trans rfl; have hcz52_1 : w51.cell? ⟨gb422, 1, none⟩ = some (.int .i64 t419) := (blk_cell BK422.out 1).trans rfl; have hfz52_0 := blk_frozen BK422.out 0; have hfz52_1 := blk_frozen BK422.out 1; have hcz53_0 : w51.cell? ⟨gb423, 0, none⟩ = some (.int .i64 t420) := (blk_cell BK423.out 0).trans rfl; have hcz53_1 : w51.cell? ⟨gb423, 1, none⟩ = some (.int .i64 t421) := (blk_cell BK423.out 1).trans rfl; have hfz53_0 := blk_frozen BK423.out 0; have hfz53_1 := blk_frozen BK423.out 1) | (go_at_call 36; (with_reducible refine (laws_alive.calls  t430 _ A46.out).mono ?_); rintro e w54 ⟨rfl, hb⟩; have n0_ := Aside0.mk (blk_below (g := gb422) (o := .cells #[.int .i64 t418, .int .i64 t419] 25 (0, 0)) (by (with_reducible repeat (first | refine blk_drewN ?_ _ | refine blk_drew ?_ | refine blk_alloc ?_ _)); exact BK422.out) hb); have n1_ := Aside0.mk (blk_below (g := gb423) (o := .cells #[.int .i64 t420, .int .i64 t421] 31 (0, 0)) (by (with_reducible repeat (first | refine blk_drewN ?_ _ | refine blk_drew ?_ | refine blk_alloc ?_ _)); exact BK423.out) hb); have n2_ := Aside0.mk (below_step (by repeat (first | (with_reducible first | exact HB.out | apply below_alloc | apply pw_below_drewN | apply below_drew1 | refine below_set ?_ GE422.out | refine below_set ?_ GE423.out) | exact HB.out)) hb); clear BK422; clear BK423; clear HB; have BK422 := n0_; have BK423 := n1_; have HB := n2_; clear n0_ n1_ n2_; (try clear hb); (try clear hb2); (try clear hk); (try clear hi)))
                  go_ret
                  exact ⟨by first | rfl | (simp [errW_none, errW_some] <;> rfl) | (simp [*, errW_none, errW_some] <;> rfl), by repeat (first | (with_reducible first | exact HB.out | apply below_alloc | apply pw_below_drewN | apply below_drew1 | refine below_set ?_ GE422.out | refine below_set ?_ GE423.out) | exact HB.out)⟩
                · rw [if_neg c45] at H
                  have c45b0 : decide (t421 < t419) = false := decide_eq_false c45
                  clear c45
                  obtain rfl := Option.some.inj H
                  have hnb55 := NB422_423.out
                  have hnc55 := NB423_422.out
                  have hcz56_0 : wc.cell? ⟨gb422, 0, none⟩ = some (.int .i64 t418) := (blk_cell BK422.out 0).trans rfl
                  have hcz56_1 : wc.cell? ⟨gb422, 1, none⟩ = some (.int .i64 t419) := (blk_cell BK422.out 1).trans rfl
                  have hfz56_0 := blk_frozen BK422.out 0
                  have hfz56_1 := blk_frozen BK422.out 1
                  go_wp2_with (first | ((with_reducible refine gate_callee (f := 17) rfl ?_); refine goesL_ (some 45) rfl rfl Try.func17 (by kernel_rfl) rfl #[.agg #[.int .i64 t418, .int .i64 t419]] rfl (by (try simp only [List.map_toArray, List.map_cons, List.map_nil]); first | done | rfl | (simp only [List.length_drop, List.length_take]; rfl)) ?_; (with_reducible refine (spec_FlowValid.calls t418 t419 true _ A41.out).mono ?_); rintro e w57 ⟨rfl, hb⟩; refine ⟨_, rfl, ?_⟩; have n0_ := Aside0.mk (blk_below (g := gb422) (o := .cells #[.int .i64 t418, .int .i64 t419] 25 (0, 0)) (by (with_reducible repeat (first | refine blk_drewN ?_ _ | refine blk_drew ?_ | refine blk_alloc ?_ _)); exact BK422.out) hb); have n1_ := Aside0.mk (blk_below (g := gb423) (o := .cells #[.int .i64 t420, .int .i64 t421] 31 (0, 0)) (by (with_reducible repeat (first | refine blk_drewN ?_ _ | refine blk_drew ?_ | refine blk_alloc ?_ _)); exact BK423.out) hb); have n2_ := Aside0.mk (below_step (by repeat (first | (with_reducible first | exact HB.out | apply below_alloc | apply pw_below_drewN | apply below_drew1 | refine below_set ?_ GE422.out | refine below_set ?_ GE423.out) | exact HB.out)) hb); clear BK422; clear BK423; clear HB; have BK422 := n0_; have BK423 := n1_; have HB := n2_; clear n0_ n1_ n2_; (try clear hb); (try clear hb2); (try clear hk); (try clear hi); have hcz58_0 : w57.cell? ⟨gb423, 0, none⟩ = some (.int .i64 t420) := (blk_cell BK423.out 0).trans rfl; have hcz58_1 : w57.cell? ⟨gb423, 1, none⟩ = some (.int .i64 t421) := (blk_cell BK423.out 1).trans rfl; have hfz58_0 := blk_frozen BK423.out 0; have hfz58_1 := blk_frozen BK423.out 1) | (go_at_call 20; (with_reducible refine (spec_LinkValid.calls t420 t421 true _ A43.out).mono ?_); rintro e w59 ⟨rfl, hb⟩; have n0_ := Aside0.mk (blk_below (g := gb422) (o := .cells #[.int .i64 t418, .int .i64 t419] 25 (0, 0)) (by (with_reducible repeat (first | refine blk_drewN ?_ _ | refine blk_drew ?_ | refine blk_alloc ?_ _)); exact BK422.out) hb); have n1_ := Aside0.mk (blk_below (g := gb423) (o := .cells #[.int .i64 t420, .int .i64 t421] 31 (0, 0)) (by (with_reducible repeat (first | refine blk_drewN ?_ _ | refine blk_drew ?_ | refine blk_alloc ?_ _)); exact BK423.out) hb); have n2_ := Aside0.mk (below_step (by repeat (first | (with_reducible first | exact HB.out | apply below_alloc | apply pw_below_drewN | apply below_drew1 | refine below_set ?_ GE422.out | refine below_set ?_ GE423.out) | exact HB.out)) hb); clear BK422; clear BK423; clear HB; have BK422 := n0_; have BK423 := n1_; have HB := n2_; clear n0_ n1_ n2_; (try clear hb); (try clear hb2); (try clear hk); (try clear hi); have hcz60_0 : w59.cell? ⟨gb422, 0, none⟩ = some (.int .i64 t418) := (blk_cell BK422.out 0).trans rfl; have hcz60_1 : w59.cell? ⟨gb422, 1, none⟩ = some (.int .i64 t419) := (blk_cell BK422.out 1).trans rfl; have hfz60_0 := blk_frozen BK422.out 0; have hfz60_1 := blk_frozen BK422.out 1; have hcz61_0 : w59.cell? ⟨gb423, 0, none⟩ = some (.int .i64 t420) := (blk_cell BK423.out 0).trans rfl; have hcz61_1 : w59.cell? ⟨gb423, 1, none⟩ = some (.int .i64 t421) := (blk_cell BK423.out 1).trans rfl; have hfz61_0 := blk_frozen BK423.out 0; have hfz61_1 := blk_frozen BK423.out 1))
                  go_ret
                  exact ⟨by first | rfl | (simp [errW_none, errW_some] <;> rfl) | (simp [*, errW_none, errW_some] <;> rfl), by repeat (first | (with_reducible first | exact HB.out | apply below_alloc | apply pw_below_drewN | apply below_drew1 | refine below_set ?_ GE422.out | refine below_set ?_ GE423.out) | exact HB.out)⟩
              · replace c44 := Bool.eq_false_iff.mpr c44
                subst c44
                have H1 : ((laws_alive.f).bind fun t431 => (some t431)) = some r := by rw [if_neg (show ¬ (false = true) by decide)] at H; exact H
                clear H
                have H := H1
                clear H1
                replace H := Option.bind_eq_some_iff.mp H
                obtain ⟨t431, A620, H⟩ := H
                replace H : (some t431) = some r := H
                have A62 := Aside0.mk A620
                clear A620
                obtain rfl := Option.some.inj H
                have hnb63 := NB422_423.out
                have hnc63 := NB423_422.out
                have hcz64_0 : wc.cell? ⟨gb422, 0, none⟩ = some (.int .i64 t418) := (blk_cell BK422.out 0).trans rfl
                have hcz64_1 : wc.cell? ⟨gb422, 1, none⟩ = some (.int .i64 t419) := (blk_cell BK422.out 1).trans rfl
                have hfz64_0 := blk_frozen BK422.out 0
                have hfz64_1 := blk_frozen BK422.out 1
                go_wp2_with (first | ((with_reducible refine gate_callee (f := 17) rfl ?_); refine goesL_ (some 45) rfl rfl Try.func17 (by kernel_rfl) rfl #[.agg #[.int .i64 t418, .int .i64 t419]] rfl (by (try simp only [List.map_toArray, List.map_cons, List.map_nil]); first | done | rfl | (simp only [List.length_drop, List.length_take]; rfl)) ?_; (with_reducible refine (spec_FlowValid.calls t418 t419 true _ A41.out).mono ?_); rintro e w65 ⟨rfl, hb⟩; refine ⟨_, rfl, ?_⟩; have n0_ := Aside0.mk (blk_below (g := gb422) (o := .cells #[.int .i64 t418, .int .i64 t419] 25 (0, 0)) (by (with_reducible repeat (first | refine blk_drewN ?_ _ | refine blk_drew ?_ | refine blk_alloc ?_ _)); exact BK422.out) hb); have n1_ := Aside0.mk (blk_below (g := gb423) (o := .cells #[.int .i64 t420, .int .i64 t421] 31 (0, 0)) (by (with_reducible repeat (first | refine blk_drewN ?_ _ | refine blk_drew ?_ | refine blk_alloc ?_ _)); exact BK423.out) hb); have n2_ := Aside0.mk (below_step (by repeat (first | (with_reducible first | exact HB.out | apply below_alloc | apply pw_below_drewN | apply below_drew1 | refine below_set ?_ GE422.out | refine below_set ?_ GE423.out) | exact HB.out)) hb); clear BK422; clear BK423; clear HB; have BK422 := n0_; have BK423 := n1_; have HB := n2_; clear n0_ n1_ n2_; (try clear hb); (try clear hb2); (try clear hk); (try clear hi); have hcz66_0 : w65.cell? ⟨gb423, 0, none⟩ = some (.int .i64 t420) := (blk_cell BK423.out 0).trans rfl; have hcz66_1 : w65.cell? ⟨gb423, 1, none⟩ = some (.int .i64 t421) := (blk_cell BK423.out 1).trans rfl; have hfz66_0 := blk_frozen BK423.out 0; have hfz66_1 := blk_frozen BK423.out 1) | (go_at_call 20; (with_reducible refine (spec_LinkValid.calls t420 t421 false _ A43.out).mono ?_); rintro e w67 ⟨rfl, hb⟩; have n0_ := Aside0.mk (blk_below (g := gb422) (o := .cells #[.int .i64 t418, .int .i64 t419] 25 (0, 0)) (by (with_reducible repeat (first | refine blk_drewN ?_ _ | refine blk_drew ?_ | refine blk_alloc ?_ _)); exact BK422.out) hb); have n1_ := Aside0.mk (blk_below (g := gb423) (o := .cells #[.int .i64 t420, .int .i64 t421] 31 (0, 0)) (by (with_reducible repeat (first | refine blk_drewN ?_ _ | refine blk_drew ?_ | refine blk_alloc ?_ _)); exact BK423.out) hb); have n2_ := Aside0.mk (below_step (by repeat (first | (with_reducible first | exact HB.out | apply below_alloc | apply pw_below_drewN | apply below_drew1 | refine below_set ?_ GE422.out | refine below_set ?_ GE423.out) | exact HB.out)) hb); clear BK422; clear BK423; clear HB; have BK422 := n0_; have BK423 := n1_; have HB := n2_; clear n0_ n1_ n2_; (try clear hb); (try clear hb2); (try clear hk); (try clear hi)) | (go_at_call 36; (with_reducible refine (laws_alive.calls  t431 _ A62.out).mono ?_); rintro e w68 ⟨rfl, hb⟩; have n0_ := Aside0.mk (blk_below (g := gb422) (o := .cells #[.int .i64 t418, .int .i64 t419] 25 (0, 0)) (by (with_reducible repeat (first | refine blk_drewN ?_ _ | refine blk_drew ?_ | refine blk_alloc ?_ _)); exact BK422.out) hb); have n1_ := Aside0.mk (blk_below (g := gb423) (o := .cells #[.int .i64 t420, .int .i64 t421] 31 (0, 0)) (by (with_reducible repeat (first | refine blk_drewN ?_ _ | refine blk_drew ?_ | refine blk_alloc ?_ _)); exact BK423.out) hb); have n2_ := Aside0.mk (below_step (by repeat (first | (with_reducible first | exact HB.out | apply below_alloc | apply pw_below_drewN | apply below_drew1 | refine below_set ?_ GE422.out | refine below_set ?_ GE423.out) | exact HB.out)) hb); clear BK422; clear BK423; clear HB; have BK422 := n0_; have BK423 := n1_; have HB := n2_; clear n0_ n1_ n2_; (try clear hb); (try clear hb2); (try clear hk); (try clear hi)))
                go_ret
                exact ⟨by first | rfl | (simp [errW_none, errW_some] <;> rfl) | (simp [*, errW_none, errW_some] <;> rfl), by repeat (first | (with_reducible first | exact HB.out | apply below_alloc | apply pw_below_drewN | apply below_drew1 | refine below_set ?_ GE422.out | refine below_set ?_ GE423.out) | exact HB.out)⟩
            · replace c42 := Bool.eq_false_iff.mpr c42
              subst c42
              have H1 : ((laws_alive.f).bind fun t432 => (some t432)) = some r := by rw [if_neg (show ¬ (false = true) by decide)] at H; exact H
              clear H
              have H := H1
              clear H1
              replace H := Option.bind_eq_some_iff.mp H
              obtain ⟨t432, A690, H⟩ := H
              replace H : (some t432) = some r := H
              have A69 := Aside0.mk A690
              clear A690
              obtain rfl := Option.some.inj H
              have hnb70 := NB422_423.out
              have hnc70 := NB423_422.out
              have hcz71_0 : wc.cell? ⟨gb422, 0, none⟩ = some (.int .i64 t418) := (blk_cell BK422.out 0).trans rfl
              have hcz71_1 : wc.cell? ⟨gb422, 1, none⟩ = some (.int .i64 t419) := (blk_cell BK422.out 1).trans rfl
              have hfz71_0 := blk_frozen BK422.out 0
              have hfz71_1 := blk_frozen BK422.out 1
              go_wp2_with (first | ((with_reducible refine gate_callee (f := 17) rfl ?_); refine goesL_ (some 45) rfl rfl Try.func17 (by kernel_rfl) rfl #[.agg #[.int .i64 t418, .int .i64 t419]] rfl (by (try simp only [List.map_toArray, List.map_cons, List.map_nil]); first | done | rfl | (simp only [List.length_drop, List.length_take]; rfl)) ?_; (with_reducible refine (spec_FlowValid.calls t418 t419 false _ A41.out).mono ?_); rintro e w72 ⟨rfl, hb⟩; refine ⟨_, rfl, ?_⟩; have n0_ := Aside0.mk (blk_below (g := gb422) (o := .cells #[.int .i64 t418, .int .i64 t419] 25 (0, 0)) (by (with_reducible repeat (first | refine blk_drewN ?_ _ | refine blk_drew ?_ | refine blk_alloc ?_ _)); exact BK422.out) hb); have n1_ := Aside0.mk (blk_below (g := gb423) (o := .cells #[.int .i64 t420, .int .i64 t421] 31 (0, 0)) (by (with_reducible repeat (first | refine blk_drewN ?_ _ | refine blk_drew ?_ | refine blk_alloc ?_ _)); exact BK423.out) hb); have n2_ := Aside0.mk (below_step (by repeat (first | (with_reducible first | exact HB.out | apply below_alloc | apply pw_below_drewN | apply below_drew1 | refine below_set ?_ GE422.out | refine below_set ?_ GE423.out) | exact HB.out)) hb); clear BK422; clear BK423; clear HB; have BK422 := n0_; have BK423 := n1_; have HB := n2_; clear n0_ n1_ n2_; (try clear hb); (try clear hb2); (try clear hk); (try clear hi)) | (go_at_call 36; (with_reducible refine (laws_alive.calls  t432 _ A69.out).mono ?_); rintro e w73 ⟨rfl, hb⟩; have n0_ := Aside0.mk (blk_below (g := gb422) (o := .cells #[.int .i64 t418, .int .i64 t419] 25 (0, 0)) (by (with_reducible repeat (first | refine blk_drewN ?_ _ | refine blk_drew ?_ | refine blk_alloc ?_ _)); exact BK422.out) hb); have n1_ := Aside0.mk (blk_below (g := gb423) (o := .cells #[.int .i64 t420, .int .i64 t421] 31 (0, 0)) (by (with_reducible repeat (first | refine blk_drewN ?_ _ | refine blk_drew ?_ | refine blk_alloc ?_ _)); exact BK423.out) hb); have n2_ := Aside0.mk (below_step (by repeat (first | (with_reducible first | exact HB.out | apply below_alloc | apply pw_below_drewN | apply below_drew1 | refine below_set ?_ GE422.out | refine below_set ?_ GE423.out) | exact HB.out)) hb); clear BK422; clear BK423; clear HB; have BK422 := n0_; have BK423 := n1_; have HB := n2_; clear n0_ n1_ n2_; (try clear hb); (try clear hb2); (try clear hk); (try clear hi)))
              go_ret
              exact ⟨by first | rfl | (simp [errW_none, errW_some] <;> rfl) | (simp [*, errW_none, errW_some] <;> rfl), by repeat (first | (with_reducible first | exact HB.out | apply below_alloc | apply pw_below_drewN | apply below_drew1 | refine below_set ?_ GE422.out | refine below_set ?_ GE423.out) | exact HB.out)⟩
          · rw [if_neg c40] at H
            have c40b0 : decide (t424 < 0) = false := decide_eq_false c40
            clear c40
            have HC74 := Aside0.mk H
            clear H
            have hnb75 := NB423_422.out
            have hnc75 := NB422_423.out
            have hcz76_0 : wc.cell? ⟨gb423, 0, none⟩ = some (.int .i64 t420) := (blk_cell BK423.out 0).trans rfl
            have hcz76_1 : wc.cell? ⟨gb423, 1, none⟩ = some (.int .i64 t421) := (blk_cell BK423.out 1).trans rfl
            have hfz76_0 := blk_frozen BK423.out 0
            have hfz76_1 := blk_frozen BK423.out 1
            go_upto_region 12 with (first | ((with_reducible refine gate_dst (N := 7) rfl ?_); refine box_event ?hg (N := 7) ?hd (cs := #[.int .i64 0, .int .i64 0]) (t := 31) ?hr ?_; (case hd => rfl); (case hg => rfl); (case hr => first | (go_simp; done) | (go_simp; rfl)); intro gb433 hg w77 hbox hb; have n0_ := Aside0.mk (blk_below (g := gb422) (o := .cells #[.int .i64 t418, .int .i64 t419] 25 (0, 0)) (by (with_reducible repeat (first | refine blk_drewN ?_ _ | refine blk_drew ?_ | refine blk_alloc ?_ _)); exact BK422.out) hb); have n1_ := Aside0.mk (blk_below (g := gb423) (o := .cells #[.int .i64 t420, .int .i64 t421] 31 (0, 0)) (by (with_reducible repeat (first | refine blk_drewN ?_ _ | refine blk_drew ?_ | refine blk_alloc ?_ _)); exact BK423.out) hb); have n2_ := Aside0.mk (below_step (by repeat (first | (with_reducible first | exact HB.out | apply below_alloc | apply pw_below_drewN | apply below_drew1 | refine below_set ?_ GE422.out | refine below_set ?_ GE423.out) | exact HB.out)) hb); have n3_ := Aside0.mk (hbox); have n4_ := Aside0.mk ((by rw [hg]; exact (below_size (by repeat (first | (with_reducible first | exact HB.out | apply below_alloc | apply pw_below_drewN | apply below_drew1 | refine below_set ?_ GE422.out | refine below_set ?_ GE423.out) | exact HB.out))) : w.heap.size ≤ gb433)); have n5_ := Aside0.mk ((by rw [hg]; exact (below_size (by repeat (first | (with_reducible first | exact HB.out | apply below_alloc | apply pw_below_drewN | apply below_drew1 | refine below_set ?_ GE422.out | refine below_set ?_ GE423.out) | exact HB.out))) : w.heap.size ≤ gb433)); have n6_ := Aside0.mk ((by rw [hg]; exact Nat.ne_of_lt (blk_lt (g := gb422) (o := .cells #[.int .i64 t418, .int .i64 t419] 25 (0, 0)) (by (with_reducible repeat (first | refine blk_drewN ?_ _ | refine blk_drew ?_ | refine blk_alloc ?_ _)); exact BK422.out)) : gb422 ≠ gb433)); have n7_ := Aside0.mk ((by rw [hg]; exact Nat.ne_of_gt (blk_lt (g := gb422) (o := .cells #[.int .i64 t418, .int .i64 t419] 25 (0, 0)) (by (with_reducible repeat (first | refine blk_drewN ?_ _ | refine blk_drew ?_ | refine blk_alloc ?_ _)); exact BK422.out)) : gb433 ≠ gb422)); have n8_ := Aside0.mk ((by rw [hg]; exact Nat.ne_of_lt (blk_lt (g := gb423) (o := .cells #[.int .i64 t420, .int .i64 t421] 31 (0, 0)) (by (with_reducible repeat (first | refine blk_drewN ?_ _ | refine blk_drew ?_ | refine blk_alloc ?_ _)); exact BK423.out)) : gb423 ≠ gb433)); have n9_ := Aside0.mk ((by rw [hg]; exact Nat.ne_of_gt (blk_lt (g := gb423) (o := .cells #[.int .i64 t420, .int .i64 t421] 31 (0, 0)) (by (with_reducible repeat (first | refine blk_drewN ?_ _ | refine blk_drew ?_ | refine blk_alloc ?_ _)); exact BK423.out)) : gb433 ≠ gb423)); clear BK422; clear BK423; clear HB; have BK422 := n0_; have BK423 := n1_; have HB := n2_; have BK433 := n3_; have GW433 := n4_; have GE433 := n5_; have NB422_433 := n6_; have NB433_422 := n7_; have NB423_433 := n8_; have NB433_423 := n9_; clear n0_ n1_ n2_ n3_ n4_ n5_ n6_ n7_ n8_ n9_; clear hb hbox hg; have hnb78 := NB433_422.out; have hnc78 := NB422_433.out; have hnb79 := NB433_423.out; have hnc79 := NB423_433.out; have hcz80_0 : w77.cell? ⟨gb433, 0, none⟩ = some (.int .i64 0) := (blk_cell BK433.out 0).trans rfl; have hcz80_1 : w77.cell? ⟨gb433, 1, none⟩ = some (.int .i64 0) := (blk_cell BK433.out 1).trans rfl; have hfz80_0 := blk_frozen BK433.out 0; have hfz80_1 := blk_frozen BK433.out 1; have hcz81_0 : w77.cell? ⟨gb422, 0, none⟩ = some (.int .i64 t418) := (blk_cell BK422.out 0).trans rfl; have hcz81_1 : w77.cell? ⟨gb422, 1, none⟩ = some (.int .i64 t419) := (blk_cell BK422.out 1).trans rfl; have hfz81_0 := blk_frozen BK422.out 0; have hfz81_1 := blk_frozen BK422.out 1) | ((with_reducible refine gate_dst (N := 8) rfl ?_); refine box_event ?hg (N := 8) ?hd (cs := #[.int .i64 0, .int .i64 0]) (t := 25) ?hr ?_; (case hd => rfl); (case hg => rfl); (case hr => first | (go_simp; done) | (go_simp; rfl)); intro gb434 hg w82 hbox hb; have n0_ := Aside0.mk (blk_below (g := gb422) (o := .cells #[.int .i64 t418, .int .i64 t419] 25 (0, 0)) (by (with_reducible repeat (first | refine blk_drewN ?_ _ | refine blk_drew ?_ | refine blk_alloc ?_ _)); refine blk_far ?_ NB422_433.out _; (with_reducible repeat (first | refine blk_drewN ?_ _ | refine blk_drew ?_ | refine blk_alloc ?_ _)); refine blk_far ?_ NB422_433.out _; (with_reducible repeat (first | refine blk_drewN ?_ _ | refine blk_drew ?_ | refine blk_alloc ?_ _)); exact BK422.out) hb); have n1_ := Aside0.mk (blk_below (g := gb423) (o := .cells #[.int .i64 t420, .int .i64 t421] 31 (0, 0)) (by (with_reducible repeat (first | refine blk_drewN ?_ _ | refine blk_drew ?_ | refine blk_alloc ?_ _)); refine blk_far ?_ NB423_433.out _; (with_reducible repeat (first | refine blk_drewN ?_ _ | refine blk_drew ?_ | refine blk_alloc ?_ _)); refine blk_far ?_ NB423_433.out _; (with_reducible repeat (first | refine blk_drewN ?_ _ | refine blk_drew ?_ | refine blk_alloc ?_ _)); exact BK423.out) hb); have n2_ := Aside0.mk (blk_below (g := gb433) (o := .cells #[.int .i64 t420, .int .i64 (wrap64 (t421 + 1))] 31 (0, 0)) (by (with_reducible repeat (first | refine blk_drewN ?_ _ | refine blk_drew ?_ | refine blk_alloc ?_ _)); refine blk_put (cs := #[.int .i64 t420, .int .i64 0]) ?_ 1 _ rfl; (with_reducible repeat (first | refine blk_drewN ?_ _ | refine blk_drew ?_ | refine blk_alloc ?_ _)); refine blk_put (cs := #[.int .i64 0, .int .i64 0]) ?_ 0 _ rfl; (with_reducible repeat (first | refine blk_drewN ?_ _ | refine blk_drew ?_ | refine blk_alloc ?_ _)); exact BK433.out) hb); have n3_ := Aside0.mk (below_step (by repeat (first | (with_reducible first | exact HB.out | apply below_alloc | apply pw_below_drewN | apply below_drew1 | refine below_set ?_ GE422.out | refine below_set ?_ GE423.out | refine below_set ?_ GE433.out) | exact HB.out)) hb); have n4_ := Aside0.mk (hbox); have n5_ := Aside0.mk ((by rw [hg]; exact (below_size (by repeat (first | (with_reducible first | exact HB.out | apply below_alloc | apply pw_below_drewN | apply below_drew1 | refine below_set ?_ GE422.out | refine below_set ?_ GE423.out | refine below_set ?_ GE433.out) | exact HB.out))) : w.heap.size ≤ gb434)); have n6_ := Aside0.mk ((by rw [hg]; exact (below_size (by repeat (first | (with_reducible first | exact HB.out | apply below_alloc | apply pw_below_drewN | apply below_drew1 | refine below_set ?_ GE422.out | refine below_set ?_ GE423.out | refine below_set ?_ GE433.out) | exact HB.out))) : w.heap.size ≤ gb434)); have n7_ := Aside0.mk ((by rw [hg]; exact Nat.ne_of_lt (blk_lt (g := gb422) (o := .cells #[.int .i64 t418, .int .i64 t419] 25 (0, 0)) (by (with_reducible repeat (first | refine blk_drewN ?_ _ | refine blk_drew ?_ | refine blk_alloc ?_ _)); refine blk_far ?_ NB422_433.out _; (with_reducible repeat (first | refine blk_drewN ?_ _ | refine blk_drew ?_ | refine blk_alloc ?_ _)); refine blk_far ?_ NB422_433.out _; (with_reducible repeat (first | refine blk_drewN ?_ _ | refine blk_drew ?_ | refine blk_alloc ?_ _)); exact BK422.out)) : gb422 ≠ gb434)); have n8_ := Aside0.mk ((by rw [hg]; exact Nat.ne_of_gt (blk_lt (g := gb422) (o := .cells #[.int .i64 t418, .int .i64 t419] 25 (0, 0)) (by (with_reducible repeat (first | refine blk_drewN ?_ _ | refine blk_drew ?_ | refine blk_alloc ?_ _)); refine blk_far ?_ NB422_433.out _; (with_reducible repeat (first | refine blk_drewN ?_ _ | refine blk_drew ?_ | refine blk_alloc ?_ _)); refine blk_far ?_ NB422_433.out _; (with_reducible repeat (first | refine blk_drewN ?_ _ | refine blk_drew ?_ | refine blk_alloc ?_ _)); exact BK422.out)) : gb434 ≠ gb422)); have n9_ := Aside0.mk ((by rw [hg]; exact Nat.ne_of_lt (blk_lt (g := gb423) (o := .cells #[.int .i64 t420, .int .i64 t421] 31 (0, 0)) (by (with_reducible repeat (first | refine blk_drewN ?_ _ | refine blk_drew ?_ | refine blk_alloc ?_ _)); refine blk_far ?_ NB423_433.out _; (with_reducible repeat (first | refine blk_drewN ?_ _ | refine blk_drew ?_ | refine blk_alloc ?_ _)); refine blk_far ?_ NB423_433.out _; (with_reducible repeat (first | refine blk_drewN ?_ _ | refine blk_drew ?_ | refine blk_alloc ?_ _)); exact BK423.out)) : gb423 ≠ gb434)); have n10_ := Aside0.mk ((by rw [hg]; exact Nat.ne_of_gt (blk_lt (g := gb423) (o := .cells #[.int .i64 t420, .int .i64 t421] 31 (0, 0)) (by (with_reducible repeat (first | refine blk_drewN ?_ _ | refine blk_drew ?_ | refine blk_alloc ?_ _)); refine blk_far ?_ NB423_433.out _; (with_reducible repeat (first | refine blk_drewN ?_ _ | refine blk_drew ?_ | refine blk_alloc ?_ _)); refine blk_far ?_ NB423_433.out _; (with_reducible repeat (first | refine blk_drewN ?_ _ | refine blk_drew ?_ | refine blk_alloc ?_ _)); exact BK423.out)) : gb434 ≠ gb423)); have n11_ := Aside0.mk ((by rw [hg]; exact Nat.ne_of_lt (blk_lt (g := gb433) (o := .cells #[.int .i64 t420, .int .i64 (wrap64 (t421 + 1))] 31 (0, 0)) (by (with_reducible repeat (first | refine blk_drewN ?_ _ | refine blk_drew ?_ | refine blk_alloc ?_ _)); refine blk_put (cs := #[.int .i64 t420, .int .i64 0]) ?_ 1 _ rfl; (with_reducible repeat (first | refine blk_drewN ?_ _ | refine blk_drew ?_ | refine blk_alloc ?_ _)); refine blk_put (cs := #[.int .i64 0, .int .i64 0]) ?_ 0 _ rfl; (with_reducible repeat (first | refine blk_drewN ?_ _ | refine blk_drew ?_ | refine blk_alloc ?_ _)); exact BK433.out)) : gb433 ≠ gb434)); have n12_ := Aside0.mk ((by rw [hg]; exact Nat.ne_of_gt (blk_lt (g := gb433) (o := .cells #[.int .i64 t420, .int .i64 (wrap64 (t421 + 1))] 31 (0, 0)) (by (with_reducible repeat (first | refine blk_drewN ?_ _ | refine blk_drew ?_ | refine blk_alloc ?_ _)); refine blk_put (cs := #[.int .i64 t420, .int .i64 0]) ?_ 1 _ rfl; (with_reducible repeat (first | refine blk_drewN ?_ _ | refine blk_drew ?_ | refine blk_alloc ?_ _)); refine blk_put (cs := #[.int .i64 0, .int .i64 0]) ?_ 0 _ rfl; (with_reducible repeat (first | refine blk_drewN ?_ _ | refine blk_drew ?_ | refine blk_alloc ?_ _)); exact BK433.out)) : gb434 ≠ gb433)); clear BK422; clear BK423; clear BK433; clear HB; have BK422 := n0_; have BK423 := n1_; have BK433 := n2_; have HB := n3_; have BK434 := n4_; have GW434 := n5_; have GE434 := n6_; have NB422_434 := n7_; have NB434_422 := n8_; have NB423_434 := n9_; have NB434_423 := n10_; have NB433_434 := n11_; have NB434_433 := n12_; clear n0_ n1_ n2_ n3_ n4_ n5_ n6_ n7_ n8_ n9_ n10_ n11_ n12_; clear hb hbox hg; have hnb83 := NB434_422.out; have hnc83 := NB422_434.out; have hnb84 := NB434_423.out; have hnc84 := NB423_434.out; have hnb85 := NB434_433.out; have hnc85 := NB433_434.out; have hcz86_0 : w82.cell? ⟨gb434, 0, none⟩ = some (.int .i64 0) := (blk_cell BK434.out 0).trans rfl; have hcz86_1 : w82.cell? ⟨gb434, 1, none⟩ = some (.int .i64 0) := (blk_cell BK434.out 1).trans rfl; have hfz86_0 := blk_frozen BK434.out 0; have hfz86_1 := blk_frozen BK434.out 1))
            (try simp only [Act.put, List.setIfInBounds_toArray, List.set_cons_zero, List.set_cons_succ])
            go_cut [90] (fun v90 wc => ∃ (kq : Nat) (x90_73 : Bool), v90 = .bool x90_73 ∧ Aside0 (laws_FnBounds.j1 kq t424 t425 x90_73 t418 t419 t420 t421 (wrap64 (t418 + 1)) t419 = some r) ∧ Aside0 (kq ≤ kj5) ∧ Aside0 (wc.heap[gb422]? = some (.cells #[.int .i64 t418, .int .i64 t419] 25 (0, 0))) ∧ Aside0 (wc.heap[gb423]? = some (.cells #[.int .i64 t420, .int .i64 t421] 31 (0, 0))) ∧ Aside0 (wc.heap[gb433]? = some (.cells #[.int .i64 t420, .int .i64 (wrap64 (t421 + 1))] 31 (0, 0))) ∧ Aside0 (wc.heap[gb434]? = some (.cells #[.int .i64 (wrap64 (t418 + 1)), .int .i64 t419] 25 (0, 0))) ∧ Aside0 (Below w.heap.size w wc))
            case first =>
              have H := HC74.out
              clear HC74
              by_cases c87 : t421 < 20
              · rw [if_pos c87] at H
                have c87b0 : decide (t421 < 20) = true := decide_eq_true c87
                clear c87
                (first | rw [c87b0] | (simp only [i64_w, i32_w]; rw [c87b0]) | skip)
                replace H := Option.bind_eq_some_iff.mp H
                obtain ⟨t435, A880, H⟩ := H
                replace H : (if t435 > t425 then (laws_FnBounds.j1 kj5 t424 t425 true t418 t419 t420 t421 (wrap64 (t418 + 1)) t419) else ((impl_BacklogBound.f t418 t419 t420 (wrap64 (t421 + 1))).bind fun t436 => (laws_FnBounds.j1 kj5 t424 t425 (t436 != t424) t418 t419 t420 t421 (wrap64 (t418 + 1)) t419))) = some r := H
                have A88 := Aside0.mk A880
                clear A880
                by_cases c89 : t435 > t425
                · rw [if_pos c89] at H
                  have c89b0 : decide (t425 < t435) = true := decide_eq_true c89
                  clear c89
                  have H' := Aside0.mk H
                  clear H
                  have hnb90 := NB423_422.out
                  have hnc90 := NB422_423.out
                  have hnb91 := NB423_433.out
                  have hnc91 := NB433_423.out
                  have hnb92 := NB423_434.out
                  have hnc92 := NB434_423.out
                  have hcz93_0 : w82.cell? ⟨gb423, 0, none⟩ = some (.int .i64 t420) := (blk_cell BK423.out 0).trans rfl
                  have hcz93_1 : w82.cell? ⟨gb423, 1, none⟩ = some (.int .i64 t421) := (blk_cell BK423.out 1).trans rfl
                  have hfz93_0 := blk_frozen BK423.out 0
                  have hfz93_1 := blk_frozen BK423.out 1
                  have hnb94 := NB422_433.out
                  have hnc94 := NB433_422.out
                  have hnb95 := NB422_434.out
                  have hnc95 := NB434_422.out
                  have hcz96_0 : w82.cell? ⟨gb422, 0, none⟩ = some (.int .i64 t418) := (blk_cell BK422.out 0).trans rfl
                  have hcz96_1 : w82.cell? ⟨gb422, 1, none⟩ = some (.int .i64 t419) := (blk_cell BK422.out 1).trans rfl
                  have hfz96_0 := blk_frozen BK422.out 0
                  have hfz96_1 := blk_frozen BK422.out 1
                  have hnb97 := NB433_434.out
                  have hnc97 := NB434_433.out
                  have hcz98_0 : w82.cell? ⟨gb433, 0, none⟩ = some (.int .i64 t420) := (blk_cell BK433.out 0).trans rfl
                  have hcz98_1 : w82.cell? ⟨gb433, 1, none⟩ = some (.int .i64 (wrap64 (t421 + 1))) := (blk_cell BK433.out 1).trans rfl
                  have hfz98_0 := blk_frozen BK433.out 0
                  have hfz98_1 := blk_frozen BK433.out 1
                  go_wp2_with (first | (go_at_call 32; (with_reducible refine (impl_DelayBound.calls t418 t419 t420 (wrap64 (t421 + 1)) t435 _ A88.out).mono ?_); rintro e w99 ⟨rfl, hb⟩; have n0_ := Aside0.mk (blk_below (g := gb422) (o := .cells #[.int .i64 t418, .int .i64 t419] 25 (0, 0)) (by (with_reducible repeat (first | refine blk_drewN ?_ _ | refine blk_drew ?_ | refine blk_alloc ?_ _)); refine blk_far ?_ NB422_434.out _; (with_reducible repeat (first | refine blk_drewN ?_ _ | refine blk_drew ?_ | refine blk_alloc ?_ _)); refine blk_far ?_ NB422_434.out _; (with_reducible repeat (first | refine blk_drewN ?_ _ | refine blk_drew ?_ | refine blk_alloc ?_ _)); exact BK422.out) hb); have n1_ := Aside0.mk (blk_below (g := gb423) (o := .cells #[.int .i64 t420, .int .i64 t421] 31 (0, 0)) (by (with_reducible repeat (first | refine blk_drewN ?_ _ | refine blk_drew ?_ | refine blk_alloc ?_ _)); refine blk_far ?_ NB423_434.out _; (with_reducible repeat (first | refine blk_drewN ?_ _ | refine blk_drew ?_ | refine blk_alloc ?_ _)); refine blk_far ?_ NB423_434.out _; (with_reducible repeat (first | refine blk_drewN ?_ _ | refine blk_drew ?_ | refine blk_alloc ?_ _)); exact BK423.out) hb); have n2_ := Aside0.mk (blk_below (g := gb433) (o := .cells #[.int .i64 t420, .int .i64 (wrap64 (t421 + 1))] 31 (0, 0)) (by (with_reducible repeat (first | refine blk_drewN ?_ _ | refine blk_drew ?_ | refine blk_alloc ?_ _)); refine blk_far ?_ NB433_434.out _; (with_reducible repeat (first | refine blk_drewN ?_ _ | refine blk_drew ?_ | refine blk_alloc ?_ _)); refine blk_far ?_ NB433_434.out _; (with_reducible repeat (first | refine blk_drewN ?_ _ | refine blk_drew ?_ | refine blk_alloc ?_ _)); exact BK433.out) hb); have n3_ := Aside0.mk (blk_below (g := gb434) (o := .cells #[.int .i64 (wrap64 (t418 + 1)), .int .i64 t419] 25 (0, 0)) (by (with_reducible repeat (first | refine blk_drewN ?_ _ | refine blk_drew ?_ | refine blk_alloc ?_ _)); refine blk_put (cs := #[.int .i64 (wrap64 (t418 + 1)), .int .i64 0]) ?_ 1 _ rfl; (with_reducible repeat (first | refine blk_drewN ?_ _ | refine blk_drew ?_ | refine blk_alloc ?_ _)); refine blk_put (cs := #[.int .i64 0, .int .i64 0]) ?_ 0 _ rfl; (with_reducible repeat (first | refine blk_drewN ?_ _ | refine blk_drew ?_ | refine blk_alloc ?_ _)); exact BK434.out) hb); have n4_ := Aside0.mk (below_step (by repeat (first | (with_reducible first | exact HB.out | apply below_alloc | apply pw_below_drewN | apply below_drew1 | refine below_set ?_ GE422.out | refine below_set ?_ GE423.out | refine below_set ?_ GE433.out | refine below_set ?_ GE434.out) | exact HB.out)) hb); clear BK422; clear BK423; clear BK433; clear BK434; clear HB; have BK422 := n0_; have BK423 := n1_; have BK433 := n2_; have BK434 := n3_; have HB := n4_; clear n0_ n1_ n2_ n3_ n4_; (try clear hb); (try clear hb2); (try clear hk); (try clear hi)))
                  go_meet
                  case rel => exact ⟨_, (true), (by first | rfl | (simp; done) | (simp [*]; done)), H', ⟨by have := HJ5.out; first | omega | exact Nat.le_refl _⟩, ⟨by (with_reducible repeat (first | refine blk_drewN ?_ _ | refine blk_drew ?_ | refine blk_alloc ?_ _)); exact BK422.out⟩, ⟨by (with_reducible repeat (first | refine blk_drewN ?_ _ | refine blk_drew ?_ | refine blk_alloc ?_ _)); exact BK423.out⟩, ⟨by (with_reducible repeat (first | refine blk_drewN ?_ _ | refine blk_drew ?_ | refine blk_alloc ?_ _)); exact BK433.out⟩, ⟨by (with_reducible repeat (first | refine blk_drewN ?_ _ | refine blk_drew ?_ | refine blk_alloc ?_ _)); exact BK434.out⟩, ⟨by repeat (first | (with_reducible first | exact HB.out | apply below_alloc | apply pw_below_drewN | apply below_drew1 | refine below_set ?_ GE422.out | refine below_set ?_ GE423.out | refine below_set ?_ GE433.out | refine below_set ?_ GE434.out) | exact HB.out)⟩⟩
                · rw [if_neg c89] at H
                  have c89b0 : decide (t425 < t435) = false := decide_eq_false c89
                  clear c89
                  replace H := Option.bind_eq_some_iff.mp H
                  obtain ⟨t436, A1000, H⟩ := H
                  replace H : (laws_FnBounds.j1 kj5 t424 t425 (t436 != t424) t418 t419 t420 t421 (wrap64 (t418 + 1)) t419) = some r := H
                  have A100 := Aside0.mk A1000
                  clear A1000
                  have H' := Aside0.mk H
                  clear H
                  have hnb101 := NB423_422.out
                  have hnc101 := NB422_423.out
                  have hnb102 := NB423_433.out
                  have hnc102 := NB433_423.out
                  have hnb103 := NB423_434.out
                  have hnc103 := NB434_423.out
                  have hcz104_0 : w82.cell? ⟨gb423, 0, none⟩ = some (.int .i64 t420) := (blk_cell BK423.out 0).trans rfl
                  have hcz104_1 : w82.cell? ⟨gb423, 1, none⟩ = some (.int .i64 t421) := (blk_cell BK423.out 1).trans rfl
                  have hfz104_0 := blk_frozen BK423.out 0
                  have hfz104_1 := blk_frozen BK423.out 1
                  have hnb105 := NB422_433.out
                  have hnc105 := NB433_422.out
                  have hnb106 := NB422_434.out
                  have hnc106 := NB434_422.out
                  have hcz107_0 : w82.cell? ⟨gb422, 0, none⟩ = some (.int .i64 t418) := (blk_cell BK422.out 0).trans rfl
                  have hcz107_1 : w82.cell? ⟨gb422, 1, none⟩ = some (.int .i64 t419) := (blk_cell BK422.out 1).trans rfl
                  have hfz107_0 := blk_frozen BK422.out 0
                  have hfz107_1 := blk_frozen BK422.out 1
                  have hnb108 := NB433_434.out
                  have hnc108 := NB434_433.out
                  have hcz109_0 : w82.cell? ⟨gb433, 0, none⟩ = some (.int .i64 t420) := (blk_cell BK433.out 0).trans rfl
                  have hcz109_1 : w82.cell? ⟨gb433, 1, none⟩ = some (.int .i64 (wrap64 (t421 + 1))) := (blk_cell BK433.out 1).trans rfl
                  have hfz109_0 := blk_frozen BK433.out 0
                  have hfz109_1 := blk_frozen BK433.out 1
                  go_wp2_with (first | (go_at_call 32; (with_reducible refine (impl_DelayBound.calls t418 t419 t420 (wrap64 (t421 + 1)) t435 _ A88.out).mono ?_); rintro e w110 ⟨rfl, hb⟩; have n0_ := Aside0.mk (blk_below (g := gb422) (o := .cells #[.int .i64 t418, .int .i64 t419] 25 (0, 0)) (by (with_reducible repeat (first | refine blk_drewN ?_ _ | refine blk_drew ?_ | refine blk_alloc ?_ _)); refine blk_far ?_ NB422_434.out _; (with_reducible repeat (first | refine blk_drewN ?_ _ | refine blk_drew ?_ | refine blk_alloc ?_ _)); refine blk_far ?_ NB422_434.out _; (with_reducible repeat (first | refine blk_drewN ?_ _ | refine blk_drew ?_ | refine blk_alloc ?_ _)); exact BK422.out) hb); have n1_ := Aside0.mk (blk_below (g := gb423) (o := .cells #[.int .i64 t420, .int .i64 t421] 31 (0, 0)) (by (with_reducible repeat (first | refine blk_drewN ?_ _ | refine blk_drew ?_ | refine blk_alloc ?_ _)); refine blk_far ?_ NB423_434.out _; (with_reducible repeat (first | refine blk_drewN ?_ _ | refine blk_drew ?_ | refine blk_alloc ?_ _)); refine blk_far ?_ NB423_434.out _; (with_reducible repeat (first | refine blk_drewN ?_ _ | refine blk_drew ?_ | refine blk_alloc ?_ _)); exact BK423.out) hb); have n2_ := Aside0.mk (blk_below (g := gb433) (o := .cells #[.int .i64 t420, .int .i64 (wrap64 (t421 + 1))] 31 (0, 0)) (by (with_reducible repeat (first | refine blk_drewN ?_ _ | refine blk_drew ?_ | refine blk_alloc ?_ _)); refine blk_far ?_ NB433_434.out _; (with_reducible repeat (first | refine blk_drewN ?_ _ | refine blk_drew ?_ | refine blk_alloc ?_ _)); refine blk_far ?_ NB433_434.out _; (with_reducible repeat (first | refine blk_drewN ?_ _ | refine blk_drew ?_ | refine blk_alloc ?_ _)); exact BK433.out) hb); have n3_ := Aside0.mk (blk_below (g := gb434) (o := .cells #[.int .i64 (wrap64 (t418 + 1)), .int .i64 t419] 25 (0, 0)) (by (with_reducible repeat (first | refine blk_drewN ?_ _ | refine blk_drew ?_ | refine blk_alloc ?_ _)); refine blk_put (cs := #[.int .i64 (wrap64 (t418 + 1)), .int .i64 0]) ?_ 1 _ rfl; (with_reducible repeat (first | refine blk_drewN ?_ _ | refine blk_drew ?_ | refine blk_alloc ?_ _)); refine blk_put (cs := #[.int .i64 0, .int .i64 0]) ?_ 0 _ rfl; (with_reducible repeat (first | refine blk_drewN ?_ _ | refine blk_drew ?_ | refine blk_alloc ?_ _)); exact BK434.out) hb); have n4_ := Aside0.mk (below_step (by repeat (first | (with_reducible first | exact HB.out | apply below_alloc | apply pw_below_drewN | apply below_drew1 | refine below_set ?_ GE422.out | refine below_set ?_ GE423.out | refine below_set ?_ GE433.out | refine below_set ?_ GE434.out) | exact HB.out)) hb); clear BK422; clear BK423; clear BK433; clear BK434; clear HB; have BK422 := n0_; have BK423 := n1_; have BK433 := n2_; have BK434 := n3_; have HB := n4_; clear n0_ n1_ n2_ n3_ n4_; (try clear hb); (try clear hb2); (try clear hk); (try clear hi); have hcz111_0 : w110.cell? ⟨gb422, 0, none⟩ = some (.int .i64 t418) := (blk_cell BK422.out 0).trans rfl; have hcz111_1 : w110.cell? ⟨gb422, 1, none⟩ = some (.int .i64 t419) := (blk_cell BK422.out 1).trans rfl; have hfz111_0 := blk_frozen BK422.out 0; have hfz111_1 := blk_frozen BK422.out 1; have hcz112_0 : w110.cell? ⟨gb433, 0, none⟩ = some (.int .i64 t420) := (blk_cell BK433.out 0).trans rfl; have hcz112_1 : w110.cell? ⟨gb433, 1, none⟩ = some (.int .i64 (wrap64 (t421 + 1))) := (blk_cell BK433.out 1).trans rfl; have hfz112_0 := blk_frozen BK433.out 0; have hfz112_1 := blk_frozen BK433.out 1) | (go_at_call 30; (with_reducible refine (impl_BacklogBound.calls t418 t419 t420 (wrap64 (t421 + 1)) t436 _ A100.out).mono ?_); rintro e w113 ⟨rfl, hb⟩; have n0_ := Aside0.mk (blk_below (g := gb422) (o := .cells #[.int .i64 t418, .int .i64 t419] 25 (0, 0)) (by (with_reducible repeat (first | refine blk_drewN ?_ _ | refine blk_drew ?_ | refine blk_alloc ?_ _)); exact BK422.out) hb); have n1_ := Aside0.mk (blk_below (g := gb423) (o := .cells #[.int .i64 t420, .int .i64 t421] 31 (0, 0)) (by (with_reducible repeat (first | refine blk_drewN ?_ _ | refine blk_drew ?_ | refine blk_alloc ?_ _)); exact BK423.out) hb); have n2_ := Aside0.mk (blk_below (g := gb433) (o := .cells #[.int .i64 t420, .int .i64 (wrap64 (t421 + 1))] 31 (0, 0)) (by (with_reducible repeat (first | refine blk_drewN ?_ _ | refine blk_drew ?_ | refine blk_alloc ?_ _)); exact BK433.out) hb); have n3_ := Aside0.mk (blk_below (g := gb434) (o := .cells #[.int .i64 (wrap64 (t418 + 1)), .int .i64 t419] 25 (0, 0)) (by (with_reducible repeat (first | refine blk_drewN ?_ _ | refine blk_drew ?_ | refine blk_alloc ?_ _)); exact BK434.out) hb); have n4_ := Aside0.mk (below_step (by repeat (first | (with_reducible first | exact HB.out | apply below_alloc | apply pw_below_drewN | apply below_drew1 | refine below_set ?_ GE422.out | refine below_set ?_ GE423.out | refine below_set ?_ GE433.out | refine below_set ?_ GE434.out) | exact HB.out)) hb); clear BK422; clear BK423; clear BK433; clear BK434; clear HB; have BK422 := n0_; have BK423 := n1_; have BK433 := n2_; have BK434 := n3_; have HB := n4_; clear n0_ n1_ n2_ n3_ n4_; (try clear hb); (try clear hb2); (try clear hk); (try clear hi)))
                  go_meet
                  case rel => exact ⟨_, ((t436 != t424)), (by first | rfl | (simp; done) | (simp [*]; done)), H', ⟨by have := HJ5.out; first | omega | exact Nat.le_refl _⟩, ⟨by (with_reducible repeat (first | refine blk_drewN ?_ _ | refine blk_drew ?_ | refine blk_alloc ?_ _)); exact BK422.out⟩, ⟨by (with_reducible repeat (first | refine blk_drewN ?_ _ | refine blk_drew ?_ | refine blk_alloc ?_ _)); exact BK423.out⟩, ⟨by (with_reducible repeat (first | refine blk_drewN ?_ _ | refine blk_drew ?_ | refine blk_alloc ?_ _)); exact BK433.out⟩, ⟨by (with_reducible repeat (first | refine blk_drewN ?_ _ | refine blk_drew ?_ | refine blk_alloc ?_ _)); exact BK434.out⟩, ⟨by repeat (first | (with_reducible first | exact HB.out | apply below_alloc | apply pw_below_drewN | apply below_drew1 | refine below_set ?_ GE422.out | refine below_set ?_ GE423.out | refine below_set ?_ GE433.out | refine below_set ?_ GE434.out) | exact HB.out)⟩⟩
              · rw [if_neg c87] at H
                have c87b0 : decide (t421 < 20) = false := decide_eq_false c87
                clear c87
                (first | rw [c87b0] | (simp only [i64_w, i32_w]; rw [c87b0]) | skip)
                have H' := Aside0.mk H
                clear H
                have hnb114 := NB423_422.out
                have hnc114 := NB422_423.out
                have hnb115 := NB423_433.out
                have hnc115 := NB433_423.out
                have hnb116 := NB423_434.out
                have hnc116 := NB434_423.out
                have hcz117_0 : w82.cell? ⟨gb423, 0, none⟩ = some (.int .i64 t420) := (blk_cell BK423.out 0).trans rfl
                have hcz117_1 : w82.cell? ⟨gb423, 1, none⟩ = some (.int .i64 t421) := (blk_cell BK423.out 1).trans rfl
                have hfz117_0 := blk_frozen BK423.out 0
                have hfz117_1 := blk_frozen BK423.out 1
                go_wp2
                go_meet
                case rel => exact ⟨_, (false), (by first | rfl | (simp; done) | (simp [*]; done)), H', ⟨by have := HJ5.out; first | omega | exact Nat.le_refl _⟩, ⟨by (with_reducible repeat (first | refine blk_drewN ?_ _ | refine blk_drew ?_ | refine blk_alloc ?_ _)); refine blk_far ?_ NB422_434.out _; (with_reducible repeat (first | refine blk_drewN ?_ _ | refine blk_drew ?_ | refine blk_alloc ?_ _)); refine blk_far ?_ NB422_434.out _; (with_reducible repeat (first | refine blk_drewN ?_ _ | refine blk_drew ?_ | refine blk_alloc ?_ _)); exact BK422.out⟩, ⟨by (with_reducible repeat (first | refine blk_drewN ?_ _ | refine blk_drew ?_ | refine blk_alloc ?_ _)); refine blk_far ?_ NB423_434.out _; (with_reducible repeat (first | refine blk_drewN ?_ _ | refine blk_drew ?_ | refine blk_alloc ?_ _)); refine blk_far ?_ NB423_434.out _; (with_reducible repeat (first | refine blk_drewN ?_ _ | refine blk_drew ?_ | refine blk_alloc ?_ _)); exact BK423.out⟩, ⟨by (with_reducible repeat (first | refine blk_drewN ?_ _ | refine blk_drew ?_ | refine blk_alloc ?_ _)); refine blk_far ?_ NB433_434.out _; (with_reducible repeat (first | refine blk_drewN ?_ _ | refine blk_drew ?_ | refine blk_alloc ?_ _)); refine blk_far ?_ NB433_434.out _; (with_reducible repeat (first | refine blk_drewN ?_ _ | refine blk_drew ?_ | refine blk_alloc ?_ _)); exact BK433.out⟩, ⟨by (with_reducible repeat (first | refine blk_drewN ?_ _ | refine blk_drew ?_ | refine blk_alloc ?_ _)); refine blk_put (cs := #[.int .i64 (wrap64 (t418 + 1)), .int .i64 0]) ?_ 1 _ rfl; (with_reducible repeat (first | refine blk_drewN ?_ _ | refine blk_drew ?_ | refine blk_alloc ?_ _)); refine blk_put (cs := #[.int .i64 0, .int .i64 0]) ?_ 0 _ rfl; (with_reducible repeat (first | refine blk_drewN ?_ _ | refine blk_drew ?_ | refine blk_alloc ?_ _)); exact BK434.out⟩, ⟨by repeat (first | (with_reducible first | exact HB.out | apply below_alloc | apply pw_below_drewN | apply below_drew1 | refine below_set ?_ GE422.out | refine below_set ?_ GE423.out | refine below_set ?_ GE433.out | refine below_set ?_ GE434.out) | exact HB.out)⟩⟩
            case rest =>
              clear HC74
              try clear c1
              try clear c2
              try clear c2b0
              try clear c2b1
              try clear p2
              try clear c3
              try clear c4
              try clear c5
              try clear c6
              try clear p6
              try clear c7
              try clear c8
              try clear c9
              try clear c10
              try clear c11
              try clear c14
              try clear c17
              try clear c18
              try clear c18b0
              try clear c18b1
              try clear c20
              try clear c20b0
              try clear c20b1
              try clear c21
              try clear c28
              try clear c29
              try clear c30
              try clear c32
              try clear c35
              try clear c39
              try clear c40
              try clear c40b0
              try clear c41
              try clear c42
              try clear c44
              try clear c45
              try clear c45b0
              try clear c47
              try clear c55
              try clear c63
              try clear p64
              try clear c70
              try clear c75
              try clear c78
              try clear c79
              try clear c83
              try clear c84
              try clear c85
              try clear c87
              try clear c87b0
              try clear c89
              try clear c89b0
              try clear c90
              try clear c91
              try clear c92
              try clear c94
              try clear c95
              try clear c97
              try clear c101
              try clear c102
              try clear c103
              try clear c105
              try clear c106
              try clear c108
              try clear c114
              try clear c115
              try clear c116
              try clear hcz104_0
              try clear hcz104_1
              try clear hcz107_0
              try clear hcz107_1
              try clear hcz109_0
              try clear hcz109_1
              try clear hcz111_0
              try clear hcz111_1
              try clear hcz112_0
              try clear hcz112_1
              try clear hcz117_0
              try clear hcz117_1
              try clear hcz11_0
              try clear hcz11_1
              try clear hcz12_0
              try clear hcz12_1
              try clear hcz14_0
              try clear hcz14_1
              try clear hcz15_0
              try clear hcz15_1
              try clear hcz22_0
              try clear hcz22_1
              try clear hcz23_0
              try clear hcz23_1
              try clear hcz25_0
              try clear hcz25_1
              try clear hcz26_0
              try clear hcz26_1
              try clear hcz29_0
              try clear hcz29_1
              try clear hcz30_0
              try clear hcz30_1
              try clear hcz32_0
              try clear hcz32_1
              try clear hcz33_0
              try clear hcz33_1
              try clear hcz36_0
              try clear hcz36_1
              try clear hcz37_0
              try clear hcz37_1
              try clear hcz48_0
              try clear hcz48_1
              try clear hcz50_0
              try clear hcz50_1
              try clear hcz52_0
              try clear hcz52_1
              try clear hcz53_0
              try clear hcz53_1
              try clear hcz56_0
              try clear hcz56_1
              try clear hcz58_0
              try clear hcz58_1
              try clear hcz60_0
              try clear hcz60_1
              try clear hcz61_0
              try clear hcz61_1
              try clear hcz64_0
              try clear hcz64_1
              try clear hcz66_0
              try clear hcz66_1
              try clear hcz71_0
              try clear hcz71_1
              try clear hcz76_0
              try clear hcz76_1
              try clear hcz80_0
              try clear hcz80_1
              try clear hcz81_0
              try clear hcz81_1
              try clear hcz86_0
              try clear hcz86_1
              try clear hcz93_0
              try clear hcz93_1
              try clear hcz96_0
              try clear hcz96_1
              try clear hcz98_0
              try clear hcz98_1
              try clear hfz104_0
              try clear hfz104_1
              try clear hfz107_0
              try clear hfz107_1
              try clear hfz109_0
              try clear hfz109_1
              try clear hfz111_0
              try clear hfz111_1
              try clear hfz112_0
              try clear hfz112_1
              try clear hfz117_0
              try clear hfz117_1
              try clear hfz11_0
              try clear hfz11_1
              try clear hfz12_0
              try clear hfz12_1
              try clear hfz14_0
              try clear hfz14_1
              try clear hfz15_0
              try clear hfz15_1
              try clear hfz22_0
              try clear hfz22_1
              try clear hfz23_0
              try clear hfz23_1
              try clear hfz25_0
              try clear hfz25_1
              try clear hfz26_0
              try clear hfz26_1
              try clear hfz29_0
              try clear hfz29_1
              try clear hfz30_0
              try clear hfz30_1
              try clear hfz32_0
              try clear hfz32_1
              try clear hfz33_0
              try clear hfz33_1
              try clear hfz36_0
              try clear hfz36_1
              try clear hfz37_0
              try clear hfz37_1
              try clear hfz48_0
              try clear hfz48_1
              try clear hfz50_0
              try clear hfz50_1
              try clear hfz52_0
              try clear hfz52_1
              try clear hfz53_0
              try clear hfz53_1
              try clear hfz56_0
              try clear hfz56_1
              try clear hfz58_0
              try clear hfz58_1
              try clear hfz60_0
              try clear hfz60_1
              try clear hfz61_0
              try clear hfz61_1
              try clear hfz64_0
              try clear hfz64_1
              try clear hfz66_0
              try clear hfz66_1
              try clear hfz71_0
              try clear hfz71_1
              try clear hfz76_0
              try clear hfz76_1
              try clear hfz80_0
              try clear hfz80_1
              try clear hfz81_0
              try clear hfz81_1
              try clear hfz86_0
              try clear hfz86_1
              try clear hfz93_0
              try clear hfz93_1
              try clear hfz96_0
              try clear hfz96_1
              try clear hfz98_0
              try clear hfz98_1
              try clear p2
              obtain ⟨kq, x90_73, rfl, HA, HJ73, BK422, BK423, BK433, BK434, HB⟩ := hcut
              cases kq with
              | zero => exact absurd HA.out (by simp [laws_FnBounds.j1])
              | succ kj73 =>
                have H := HA.out
                clear HA
                simp only [laws_FnBounds.j1] at H
                by_cases c118 : x90_73 = true
                · subst c118
                  have H1 : (some false) = some r := by rw [if_pos rfl] at H; exact H
                  clear H
                  have H := H1
                  clear H1
                  obtain rfl := Option.some.inj H
                  go_wp2
                  go_ret
                  exact ⟨by first | rfl | (simp [errW_none, errW_some] <;> rfl) | (simp [*, errW_none, errW_some] <;> rfl), by repeat (first | (with_reducible first | exact HB.out | apply below_alloc | apply pw_below_drewN | apply below_drew1 | refine below_set ?_ GE422.out | refine below_set ?_ GE423.out | refine below_set ?_ GE433.out | refine below_set ?_ GE434.out) | exact HB.out)⟩
                · replace c118 := Bool.eq_false_iff.mpr c118
                  subst c118
                  have H1 : (if t418 < 20 then ((impl_DelayBound.f (wrap64 (t418 + 1)) t419 t420 t421).bind fun t437 => (if t437 < t425 then (some false) else ((impl_BacklogBound.f (wrap64 (t418 + 1)) t419 t420 t421).bind fun t438 => (if t438 < t424 then (some false) else ((impl_DelayBound.f 0 t419 t420 t421).bind fun t439 => (some (t439 == t420))))))) else ((impl_DelayBound.f 0 t419 t420 t421).bind fun t440 => (some (t440 == t420)))) = some r := by rw [if_neg (show ¬ (false = true) by decide)] at H; exact H
                  clear H
                  have H := H1
                  clear H1
                  by_cases c119 : t418 < 20
                  · rw [if_pos c119] at H
                    have c119b0 : decide (t418 < 20) = true := decide_eq_true c119
                    clear c119
                    replace H := Option.bind_eq_some_iff.mp H
                    obtain ⟨t437, A1200, H⟩ := H
                    replace H : (if t437 < t425 then (some false) else ((impl_BacklogBound.f (wrap64 (t418 + 1)) t419 t420 t421).bind fun t438 => (if t438 < t424 then (some false) else ((impl_DelayBound.f 0 t419 t420 t421).bind fun t439 => (some (t439 == t420)))))) = some r := H
                    have A120 := Aside0.mk A1200
                    clear A1200
                    by_cases c121 : t437 < t425
                    · rw [if_pos c121] at H
                      have c121b0 : decide (t437 < t425) = true := decide_eq_true c121
                      clear c121
                      obtain rfl := Option.some.inj H
                      have hnb122 := NB422_423.out
                      have hnc122 := NB423_422.out
                      have hnb123 := NB422_433.out
                      have hnc123 := NB433_422.out
                      have hnb124 := NB422_434.out
                      have hnc124 := NB434_422.out
                      have hcz125_0 : wc.cell? ⟨gb422, 0, none⟩ = some (.int .i64 t418) := (blk_cell BK422.out 0).trans rfl
                      have hcz125_1 : wc.cell? ⟨gb422, 1, none⟩ = some (.int .i64 t419) := (blk_cell BK422.out 1).trans rfl
                      have hfz125_0 := blk_frozen BK422.out 0
                      have hfz125_1 := blk_frozen BK422.out 1
                      have hnb126 := NB434_423.out
                      have hnc126 := NB423_434.out
                      have hnb127 := NB434_433.out
                      have hnc127 := NB433_434.out
                      have hcz128_0 : wc.cell? ⟨gb434, 0, none⟩ = some (.int .i64 (wrap64 (t418 + 1))) := (blk_cell BK434.out 0).trans rfl
                      have hcz128_1 : wc.cell? ⟨gb434, 1, none⟩ = some (.int .i64 t419) := (blk_cell BK434.out 1).trans rfl
                      have hfz128_0 := blk_frozen BK434.out 0
                      have hfz128_1 := blk_frozen BK434.out 1
                      have hnb129 := NB423_433.out
                      have hnc129 := NB433_423.out
                      have hcz130_0 : wc.cell? ⟨gb423, 0, none⟩ = some (.int .i64 t420) := (blk_cell BK423.out 0).trans rfl
                      have hcz130_1 : wc.cell? ⟨gb423, 1, none⟩ = some (.int .i64 t421) := (blk_cell BK423.out 1).trans rfl
                      have hfz130_0 := blk_frozen BK423.out 0
                      have hfz130_1 := blk_frozen BK423.out 1
                      go_wp2_with (first | (go_at_call 32; (with_reducible refine (impl_DelayBound.calls (wrap64 (t418 + 1)) t419 t420 t421 t437 _ A120.out).mono ?_); rintro e w131 ⟨rfl, hb⟩; have n0_ := Aside0.mk (blk_below (g := gb422) (o := .cells #[.int .i64 t418, .int .i64 t419] 25 (0, 0)) (by (with_reducible repeat (first | refine blk_drewN ?_ _ | refine blk_drew ?_ | refine blk_alloc ?_ _)); exact BK422.out) hb); have n1_ := Aside0.mk (blk_below (g := gb423) (o := .cells #[.int .i64 t420, .int .i64 t421] 31 (0, 0)) (by (with_reducible repeat (first | refine blk_drewN ?_ _ | refine blk_drew ?_ | refine blk_alloc ?_ _)); exact BK423.out) hb); have n2_ := Aside0.mk (blk_below (g := gb433) (o := .cells #[.int .i64 t420, .int .i64 (wrap64 (t421 + 1))] 31 (0, 0)) (by (with_reducible repeat (first | refine blk_drewN ?_ _ | refine blk_drew ?_ | refine blk_alloc ?_ _)); exact BK433.out) hb); have n3_ := Aside0.mk (blk_below (g := gb434) (o := .cells #[.int .i64 (wrap64 (t418 + 1)), .int .i64 t419] 25 (0, 0)) (by (with_reducible repeat (first | refine blk_drewN ?_ _ | refine blk_drew ?_ | refine blk_alloc ?_ _)); exact BK434.out) hb); have n4_ := Aside0.mk (below_step (by repeat (first | (with_reducible first | exact HB.out | apply below_alloc | apply pw_below_drewN | apply below_drew1 | refine below_set ?_ GE422.out | refine below_set ?_ GE423.out | refine below_set ?_ GE433.out | refine below_set ?_ GE434.out) | exact HB.out)) hb); clear BK422; clear BK423; clear BK433; clear BK434; clear HB; have BK422 := n0_; have BK423 := n1_; have BK433 := n2_; have BK434 := n3_; have HB := n4_; clear n0_ n1_ n2_ n3_ n4_; (try clear hb); (try clear hb2); (try clear hk); (try clear hi)))
                      go_ret
                      exact ⟨by first | rfl | (simp [errW_none, errW_some] <;> rfl) | (simp [*, errW_none, errW_some] <;> rfl), by repeat (first | (with_reducible first | exact HB.out | apply below_alloc | apply pw_below_drewN | apply below_drew1 | refine below_set ?_ GE422.out | refine below_set ?_ GE423.out | refine below_set ?_ GE433.out | refine below_set ?_ GE434.out) | exact HB.out)⟩
                    · rw [if_neg c121] at H
                      have c121b0 : decide (t437 < t425) = false := decide_eq_false c121
                      clear c121
                      replace H := Option.bind_eq_some_iff.mp H
                      obtain ⟨t438, A1320, H⟩ := H
                      replace H : (if t438 < t424 then (some false) else ((impl_DelayBound.f 0 t419 t420 t421).bind fun t439 => (some (t439 == t420)))) = some r := H
                      have A132 := Aside0.mk A1320
                      clear A1320
                      by_cases c133 : t438 < t424
                      · rw [if_pos c133] at H
                        have c133b0 : decide (t438 < t424) = true := decide_eq_true c133
                        clear c133
                        obtain rfl := Option.some.inj H
                        have hnb134 := NB422_423.out
                        have hnc134 := NB423_422.out
                        have hnb135 := NB422_433.out
                        have hnc135 := NB433_422.out
                        have hnb136 := NB422_434.out
                        have hnc136 := NB434_422.out
                        have hcz137_0 : wc.cell? ⟨gb422, 0, none⟩ = some (.int .i64 t418) := (blk_cell BK422.out 0).trans rfl
                        have hcz137_1 : wc.cell? ⟨gb422, 1, none⟩ = some (.int .i64 t419) := (blk_cell BK422.out 1).trans rfl
                        have hfz137_0 := blk_frozen BK422.out 0
                        have hfz137_1 := blk_frozen BK422.out 1
                        have hnb138 := NB434_423.out
                        have hnc138 := NB423_434.out
                        have hnb139 := NB434_433.out
                        have hnc139 := NB433_434.out
                        have hcz140_0 : wc.cell? ⟨gb434, 0, none⟩ = some (.int .i64 (wrap64 (t418 + 1))) := (blk_cell BK434.out 0).trans rfl
                        have hcz140_1 : wc.cell? ⟨gb434, 1, none⟩ = some (.int .i64 t419) := (blk_cell BK434.out 1).trans rfl
                        have hfz140_0 := blk_frozen BK434.out 0
                        have hfz140_1 := blk_frozen BK434.out 1
                        have hnb141 := NB423_433.out
                        have hnc141 := NB433_423.out
                        have hcz142_0 : wc.cell? ⟨gb423, 0, none⟩ = some (.int .i64 t420) := (blk_cell BK423.out 0).trans rfl
                        have hcz142_1 : wc.cell? ⟨gb423, 1, none⟩ = some (.int .i64 t421) := (blk_cell BK423.out 1).trans rfl
                        have hfz142_0 := blk_frozen BK423.out 0
                        have hfz142_1 := blk_frozen BK423.out 1
                        go_wp2_with (first | (go_at_call 32; (with_reducible refine (impl_DelayBound.calls (wrap64 (t418 + 1)) t419 t420 t421 t437 _ A120.out).mono ?_); rintro e w143 ⟨rfl, hb⟩; have n0_ := Aside0.mk (blk_below (g := gb422) (o := .cells #[.int .i64 t418, .int .i64 t419] 25 (0, 0)) (by (with_reducible repeat (first | refine blk_drewN ?_ _ | refine blk_drew ?_ | refine blk_alloc ?_ _)); exact BK422.out) hb); have n1_ := Aside0.mk (blk_below (g := gb423) (o := .cells #[.int .i64 t420, .int .i64 t421] 31 (0, 0)) (by (with_reducible repeat (first | refine blk_drewN ?_ _ | refine blk_drew ?_ | refine blk_alloc ?_ _)); exact BK423.out) hb); have n2_ := Aside0.mk (blk_below (g := gb433) (o := .cells #[.int .i64 t420, .int .i64 (wrap64 (t421 + 1))] 31 (0, 0)) (by (with_reducible repeat (first | refine blk_drewN ?_ _ | refine blk_drew ?_ | refine blk_alloc ?_ _)); exact BK433.out) hb); have n3_ := Aside0.mk (blk_below (g := gb434) (o := .cells #[.int .i64 (wrap64 (t418 + 1)), .int .i64 t419] 25 (0, 0)) (by (with_reducible repeat (first | refine blk_drewN ?_ _ | refine blk_drew ?_ | refine blk_alloc ?_ _)); exact BK434.out) hb); have n4_ := Aside0.mk (below_step (by repeat (first | (with_reducible first | exact HB.out | apply below_alloc | apply pw_below_drewN | apply below_drew1 | refine below_set ?_ GE422.out | refine below_set ?_ GE423.out | refine below_set ?_ GE433.out | refine below_set ?_ GE434.out) | exact HB.out)) hb); clear BK422; clear BK423; clear BK433; clear BK434; clear HB; have BK422 := n0_; have BK423 := n1_; have BK433 := n2_; have BK434 := n3_; have HB := n4_; clear n0_ n1_ n2_ n3_ n4_; (try clear hb); (try clear hb2); (try clear hk); (try clear hi); have hcz144_0 : w143.cell? ⟨gb434, 0, none⟩ = some (.int .i64 (wrap64 (t418 + 1))) := (blk_cell BK434.out 0).trans rfl; have hcz144_1 : w143.cell? ⟨gb434, 1, none⟩ = some (.int .i64 t419) := (blk_cell BK434.out 1).trans rfl; have hfz144_0 := blk_frozen BK434.out 0; have hfz144_1 := blk_frozen BK434.out 1; have hcz145_0 : w143.cell? ⟨gb423, 0, none⟩ = some (.int .i64 t420) := (blk_cell BK423.out 0).trans rfl; have hcz145_1 : w143.cell? ⟨gb423, 1, none⟩ = some (.int .i64 t421) := (blk_cell BK423.out 1).trans rfl; have hfz145_0 := blk_frozen BK423.out 0; have hfz145_1 := blk_frozen BK423.out 1) | (go_at_call 30; (with_reducible refine (impl_BacklogBound.calls (wrap64 (t418 + 1)) t419 t420 t421 t438 _ A132.out).mono ?_); rintro e w146 ⟨rfl, hb⟩; have n0_ := Aside0.mk (blk_below (g := gb422) (o := .cells #[.int .i64 t418, .int .i64 t419] 25 (0, 0)) (by (with_reducible repeat (first | refine blk_drewN ?_ _ | refine blk_drew ?_ | refine blk_alloc ?_ _)); exact BK422.out) hb); have n1_ := Aside0.mk (blk_below (g := gb423) (o := .cells #[.int .i64 t420, .int .i64 t421] 31 (0, 0)) (by (with_reducible repeat (first | refine blk_drewN ?_ _ | refine blk_drew ?_ | refine blk_alloc ?_ _)); exact BK423.out) hb); have n2_ := Aside0.mk (blk_below (g := gb433) (o := .cells #[.int .i64 t420, .int .i64 (wrap64 (t421 + 1))] 31 (0, 0)) (by (with_reducible repeat (first | refine blk_drewN ?_ _ | refine blk_drew ?_ | refine blk_alloc ?_ _)); exact BK433.out) hb); have n3_ := Aside0.mk (blk_below (g := gb434) (o := .cells #[.int .i64 (wrap64 (t418 + 1)), .int .i64 t419] 25 (0, 0)) (by (with_reducible repeat (first | refine blk_drewN ?_ _ | refine blk_drew ?_ | refine blk_alloc ?_ _)); exact BK434.out) hb); have n4_ := Aside0.mk (below_step (by repeat (first | (with_reducible first | exact HB.out | apply below_alloc | apply pw_below_drewN | apply below_drew1 | refine below_set ?_ GE422.out | refine below_set ?_ GE423.out | refine below_set ?_ GE433.out | refine below_set ?_ GE434.out) | exact HB.out)) hb); clear BK422; clear BK423; clear BK433; clear BK434; clear HB; have BK422 := n0_; have BK423 := n1_; have BK433 := n2_; have BK434 := n3_; have HB := n4_; clear n0_ n1_ n2_ n3_ n4_; (try clear hb); (try clear hb2); (try clear hk); (try clear hi)))
                        go_ret
                        exact ⟨by first | rfl | (simp [errW_none, errW_some] <;> rfl) | (simp [*, errW_none, errW_some] <;> rfl), by repeat (first | (with_reducible first | exact HB.out | apply below_alloc | apply pw_below_drewN | apply below_drew1 | refine below_set ?_ GE422.out | refine below_set ?_ GE423.out | refine below_set ?_ GE433.out | refine below_set ?_ GE434.out) | exact HB.out)⟩
                      · rw [if_neg c133] at H
                        have c133b0 : decide (t438 < t424) = false := decide_eq_false c133
                        clear c133
                        replace H := Option.bind_eq_some_iff.mp H
                        obtain ⟨t439, A1470, H⟩ := H
                        replace H : (some (t439 == t420)) = some r := H
                        have A147 := Aside0.mk A1470
                        clear A1470
                        obtain rfl := Option.some.inj H
                        have hnb148 := NB422_423.out
                        have hnc148 := NB423_422.out
                        have hnb149 := NB422_433.out
                        have hnc149 := NB433_422.out
                        have hnb150 := NB422_434.out
                        have hnc150 := NB434_422.out
                        have hcz151_0 : wc.cell? ⟨gb422, 0, none⟩ = some (.int .i64 t418) := (blk_cell BK422.out 0).trans rfl
                        have hcz151_1 : wc.cell? ⟨gb422, 1, none⟩ = some (.int .i64 t419) := (blk_cell BK422.out 1).trans rfl
                        have hfz151_0 := blk_frozen BK422.out 0
                        have hfz151_1 := blk_frozen BK422.out 1
                        have hnb152 := NB434_423.out
                        have hnc152 := NB423_434.out
                        have hnb153 := NB434_433.out
                        have hnc153 := NB433_434.out
                        have hcz154_0 : wc.cell? ⟨gb434, 0, none⟩ = some (.int .i64 (wrap64 (t418 + 1))) := (blk_cell BK434.out 0).trans rfl
                        have hcz154_1 : wc.cell? ⟨gb434, 1, none⟩ = some (.int .i64 t419) := (blk_cell BK434.out 1).trans rfl
                        have hfz154_0 := blk_frozen BK434.out 0
                        have hfz154_1 := blk_frozen BK434.out 1
                        have hnb155 := NB423_433.out
                        have hnc155 := NB433_423.out
                        have hcz156_0 : wc.cell? ⟨gb423, 0, none⟩ = some (.int .i64 t420) := (blk_cell BK423.out 0).trans rfl
                        have hcz156_1 : wc.cell? ⟨gb423, 1, none⟩ = some (.int .i64 t421) := (blk_cell BK423.out 1).trans rfl
                        have hfz156_0 := blk_frozen BK423.out 0
                        have hfz156_1 := blk_frozen BK423.out 1
                        try go_wp2_with (first | (go_at_call 32; (with_reducible refine (impl_DelayBound.calls (wrap64 (t418 + 1)) t419 t420 t421 t437 _ A120.out).mono ?_); rintro e w157 ⟨rfl, hb⟩; have n0_ := Aside0.mk (blk_below (g := gb422) (o := .cells #[.int .i64 t418, .int .i64 t419] 25 (0, 0)) (by (with_reducible repeat (first | refine blk_drewN ?_ _ | refine blk_drew ?_ | refine blk_alloc ?_ _)); exact BK422.out) hb); have n1_ := Aside0.mk (blk_below (g := gb423) (o := .cells #[.int .i64 t420, .int .i64 t421] 31 (0, 0)) (by (with_reducible repeat (first | refine blk_drewN ?_ _ | refine blk_drew ?_ | refine blk_alloc ?_ _)); exact BK423.out) hb); have n2_ := Aside0.mk (blk_below (g := gb433) (o := .cells #[.int .i64 t420, .int .i64 (wrap64 (t421 + 1))] 31 (0, 0)) (by (with_reducible repeat (first | refine blk_drewN ?_ _ | refine blk_drew ?_ | refine blk_alloc ?_ _)); exact BK433.out) hb); have n3_ := Aside0.mk (blk_below (g := gb434) (o := .cells #[.int .i64 (wrap64 (t418 + 1)), .int .i64 t419] 25 (0, 0)) (by (with_reducible repeat (first | refine blk_drewN ?_ _ | refine blk_drew ?_ | refine blk_alloc ?_ _)); exact BK434.out) hb); have n4_ := Aside0.mk (below_step (by repeat (first | (with_reducible first | exact HB.out | apply below_alloc | apply pw_below_drewN | apply below_drew1 | refine below_set ?_ GE422.out | refine below_set ?_ GE423.out | refine below_set ?_ GE433.out | refine below_set ?_ GE434.out) | exact HB.out)) hb); clear BK422; clear BK423; clear BK433; clear BK434; clear HB; have BK422 := n0_; have BK423 := n1_; have BK433 := n2_; have BK434 := n3_; have HB := n4_; clear n0_ n1_ n2_ n3_ n4_; (try clear hb); (try clear hb2); (try clear hk); (try clear hi); have hcz158_0 : w157.cell? ⟨gb434, 0, none⟩ = some (.int .i64 (wrap64 (t418 + 1))) := (blk_cell BK434.out 0).trans rfl; have hcz158_1 : w157.cell? ⟨gb434, 1, none⟩ = some (.int .i64 t419) := (blk_cell BK434.out 1).trans rfl; have hfz158_0 := blk_frozen BK434.out 0; have hfz158_1 := blk_frozen BK434.out 1; have hcz159_0 : w157.cell? ⟨gb423, 0, none⟩ = some (.int .i64 t420) := (blk_cell BK423.out 0).trans rfl; have hcz159_1 : w157.cell? ⟨gb423, 1, none⟩ = some (.int .i64 t421) := (blk_cell BK423.out 1).trans rfl; have hfz159_0 := blk_frozen BK423.out 0; have hfz159_1 := blk_frozen BK423.out 1) | (go_at_call 30; (with_reducible refine (impl_BacklogBound.calls (wrap64 (t418 + 1)) t419 t420 t421 t438 _ A132.out).mono ?_); rintro e w160 ⟨rfl, hb⟩; have n0_ := Aside0.mk (blk_below (g := gb422) (o := .cells #[.int .i64 t418, .int .i64 t419] 25 (0, 0)) (by (with_reducible repeat (first | refine blk_drewN ?_ _ | refine blk_drew ?_ | refine blk_alloc ?_ _)); exact BK422.out) hb); have n1_ := Aside0.mk (blk_below (g := gb423) (o := .cells #[.int .i64 t420, .int .i64 t421] 31 (0, 0)) (by (with_reducible repeat (first | refine blk_drewN ?_ _ | refine blk_drew ?_ | refine blk_alloc ?_ _)); exact BK423.out) hb); have n2_ := Aside0.mk (blk_below (g := gb433) (o := .cells #[.int .i64 t420, .int .i64 (wrap64 (t421 + 1))] 31 (0, 0)) (by (with_reducible repeat (first | refine blk_drewN ?_ _ | refine blk_drew ?_ | refine blk_alloc ?_ _)); exact BK433.out) hb); have n3_ := Aside0.mk (blk_below (g := gb434) (o := .cells #[.int .i64 (wrap64 (t418 + 1)), .int .i64 t419] 25 (0, 0)) (by (with_reducible repeat (first | refine blk_drewN ?_ _ | refine blk_drew ?_ | refine blk_alloc ?_ _)); exact BK434.out) hb); have n4_ := Aside0.mk (below_step (by repeat (first | (with_reducible first | exact HB.out | apply below_alloc | apply pw_below_drewN | apply below_drew1 | refine below_set ?_ GE422.out | refine below_set ?_ GE423.out | refine below_set ?_ GE433.out | refine below_set ?_ GE434.out) | exact HB.out)) hb); clear BK422; clear BK423; clear BK433; clear BK434; clear HB; have BK422 := n0_; have BK423 := n1_; have BK433 := n2_; have BK434 := n3_; have HB := n4_; clear n0_ n1_ n2_ n3_ n4_; (try clear hb); (try clear hb2); (try clear hk); (try clear hi)))
                        have n0_ := Aside0.mk (blk_drew BK422.out)
                        have n1_ := Aside0.mk (blk_drew BK423.out)
                        have n2_ := Aside0.mk (blk_drew BK433.out)
                        have n3_ := Aside0.mk (blk_drew BK434.out)
                        have n4_ := Aside0.mk (below_drew1 HB.out)
                        clear BK422
                        clear BK423
                        clear BK433
                        clear BK434
                        clear HB
                        have BK422 := n0_
                        have BK423 := n1_
                        have BK433 := n2_
                        have BK434 := n3_
                        have HB := n4_
                        clear n0_ n1_ n2_ n3_ n4_
                        refine start_ (n := 9) (S := fun w' => w'.cell? ⟨gb422, 0, none⟩ = some (.int .i64 t418) ∧ w'.cell? ⟨gb422, 1, none⟩ = some (.int .i64 t419) ∧ w'.cell? ⟨gb423, 0, none⟩ = some (.int .i64 t420) ∧ w'.cell? ⟨gb423, 1, none⟩ = some (.int .i64 t421)) (ds := []) #[false, false, false, false, false, false, false, false, false] (by kernel_rfl) rfl rfl ⟨(blk_cell BK422.out 0).trans rfl, (blk_cell BK422.out 1).trans rfl, (blk_cell BK423.out 0).trans rfl, (blk_cell BK423.out 1).trans rfl⟩ (fun hHeld => ?_); refine with_tabW laws_FnBounds.tab16 laws_FnBounds.bits16 (fun HT_ HW_ => ?_)
                        generalize w160.drew = w161 at BK422 BK423 BK433 BK434 HB hHeld ⊢
                        refine pure_ (i := 0) (N := some 108) (v := ?_) (a' := ?_) #[true, false, false, false, false, false, false, false, false] rfl rfl (any_of HT_.out (by kernel_rfl)) (fun _ _ _ h => h) (Or.inl ⟨by rfl, ?_⟩) ?_ ?_
                        rotate_left
                        · intro w'
                          go_simp
                          with_reducible rfl
                        rotate_left
                        · simp only [Act.put, List.setIfInBounds_toArray, List.set_cons_zero, List.set_cons_succ, i64_w, i32_w]
                          rfl
                        refine pure_ (i := 5) (N := some 113) (v := ?_) (a' := ?_) #[true, false, false, false, false, true, false, false, false] rfl rfl (any_of HT_.out (by kernel_rfl)) (fun _ _ _ h => h) (Or.inl ⟨by rfl, ?_⟩) ?_ ?_
                        rotate_left
                        · intro w'
                          go_simp
                          with_reducible rfl
                        rotate_left
                        · simp only [Act.put, List.setIfInBounds_toArray, List.set_cons_zero, List.set_cons_succ, i64_w, i32_w]
                          rfl
                        refine take_ (i := 1) (N := some 109) (v := ?_) (a' := ?_) #[true, true, false, false, false, true, false, false, false] rfl rfl (take_ofW HT_.out HW_.out (by kernel_rfl)) (fun _ _ _ h => h) (Or.inl ⟨by rfl, ?_⟩) hHeld ?_ ?_
                        rotate_left
                        · rintro w' ⟨s0, s1, s2, s3⟩
                          go_simp
                          with_reducible rfl
                        rotate_left
                        · simp only [Act.put, List.setIfInBounds_toArray, List.set_cons_zero, List.set_cons_succ, i64_w, i32_w]
                          rfl
                        refine pure_ (i := 2) (N := some 110) (v := ?_) (a' := ?_) #[true, true, true, false, false, true, false, false, false] rfl rfl (any_of HT_.out (by kernel_rfl)) (fun _ _ _ h => h) (Or.inl ⟨by rfl, ?_⟩) ?_ ?_
                        rotate_left
                        · intro w'
                          go_simp
                          with_reducible rfl
                        rotate_left
                        · simp only [Act.put, List.setIfInBounds_toArray, List.set_cons_zero, List.set_cons_succ, i64_w, i32_w]
                          rfl
                        refine take_ (i := 3) (N := some 111) (v := ?_) (a' := ?_) #[true, true, true, true, false, true, false, false, false] rfl rfl (take_ofW HT_.out HW_.out (by kernel_rfl)) (fun _ _ _ h => h) (Or.inl ⟨by rfl, ?_⟩) hHeld ?_ ?_
                        rotate_left
                        · rintro w' ⟨s0, s1, s2, s3⟩
                          go_simp
                          with_reducible rfl
                        rotate_left
                        · simp only [Act.put, List.setIfInBounds_toArray, List.set_cons_zero, List.set_cons_succ, i64_w, i32_w]
                          rfl
                        refine take_ (i := 6) (N := some 114) (v := ?_) (a' := ?_) #[true, true, true, true, false, true, true, false, false] rfl rfl (take_ofW HT_.out HW_.out (by kernel_rfl)) (fun _ _ _ h => h) (Or.inl ⟨by rfl, ?_⟩) hHeld ?_ ?_
                        rotate_left
                        · rintro w' ⟨s0, s1, s2, s3⟩
                          go_simp
                          with_reducible rfl
                        rotate_left
                        · simp only [Act.put, List.setIfInBounds_toArray, List.set_cons_zero, List.set_cons_succ, i64_w, i32_w]
                          rfl
                        refine one_ (i := 4) (N := some 112) #[true, true, true, true, true, true, true, false, false] rfl rfl (one_of HT_.out (by kernel_rfl)) (by decide) (fun K hK => ?_)
                        refine goes_ Try.func32 (by kernel_rfl) rfl #[.agg #[.int .i64 0, .int .i64 t419], .agg #[.int .i64 t420, .int .i64 t421]] (by rfl) rfl rfl (by (try simp only [List.map_toArray, List.map_cons, List.map_nil]); first | done | rfl | (simp only [List.length_drop, List.length_take]; rfl)) ?_
                        with_reducible refine (impl_DelayBound.calls 0 t419 t420 t421 t439 _ A147.out).mono ?_
                        rintro e w162 ⟨rfl, hb⟩
                        refine ⟨_, rfl, ?_⟩
                        have n0_ := Aside0.mk (blk_below (g := gb422) (o := .cells #[.int .i64 t418, .int .i64 t419] 25 (0, 0)) (by (with_reducible repeat (first | refine blk_drewN ?_ _ | refine blk_drew ?_ | refine blk_alloc ?_ _)); exact BK422.out) hb)
                        have n1_ := Aside0.mk (blk_below (g := gb423) (o := .cells #[.int .i64 t420, .int .i64 t421] 31 (0, 0)) (by (with_reducible repeat (first | refine blk_drewN ?_ _ | refine blk_drew ?_ | refine blk_alloc ?_ _)); exact BK423.out) hb)
                        have n2_ := Aside0.mk (blk_below (g := gb433) (o := .cells #[.int .i64 t420, .int .i64 (wrap64 (t421 + 1))] 31 (0, 0)) (by (with_reducible repeat (first | refine blk_drewN ?_ _ | refine blk_drew ?_ | refine blk_alloc ?_ _)); exact BK433.out) hb)
                        have n3_ := Aside0.mk (blk_below (g := gb434) (o := .cells #[.int .i64 (wrap64 (t418 + 1)), .int .i64 t419] 25 (0, 0)) (by (with_reducible repeat (first | refine blk_drewN ?_ _ | refine blk_drew ?_ | refine blk_alloc ?_ _)); exact BK434.out) hb)
                        have n4_ := Aside0.mk (below_step (by repeat (first | (with_reducible first | exact HB.out | apply below_alloc | apply pw_below_drewN | apply below_drew1 | refine below_set ?_ GE422.out | refine below_set ?_ GE423.out | refine below_set ?_ GE433.out | refine below_set ?_ GE434.out) | exact HB.out)) hb)
                        clear BK422
                        clear BK423
                        clear BK433
                        clear BK434
                        clear HB
                        have BK422 := n0_
                        have BK423 := n1_
                        have BK433 := n2_
                        have BK434 := n3_
                        have HB := n4_
                        clear n0_ n1_ n2_ n3_ n4_
                        (try clear hb)
                        (try clear hb2)
                        (try clear hk)
                        (try clear hi)
                        refine hK.out _ _ ⟨(blk_cell BK422.out 0).trans rfl, (blk_cell BK422.out 1).trans rfl, (blk_cell BK423.out 0).trans rfl, (blk_cell BK423.out 1).trans rfl⟩ (fun hHeld => ?_)
                        clear hK K
                        refine norm_ (a' := ?_) ?_ ?_
                        rotate_left
                        · show Act.put _ (some 112) _ = _
                          simp only [Act.put, List.setIfInBounds_toArray, List.set_cons_zero, List.set_cons_succ, i64_w, i32_w]
                          rfl
                        refine pure_ (i := 7) (N := some 115) (v := ?_) (a' := ?_) #[true, true, true, true, true, true, true, true, false] rfl rfl (any_of HT_.out (by kernel_rfl)) (fun _ _ _ h => h) (Or.inl ⟨by rfl, ?_⟩) ?_ ?_
                        rotate_left
                        · intro w'
                          go_simp
                          with_reducible rfl
                        rotate_left
                        · simp only [Act.put, List.setIfInBounds_toArray, List.set_cons_zero, List.set_cons_succ, i64_w, i32_w]
                          rfl
                        refine pure_ (i := 8) (N := some 2) (v := ?_) (a' := ?_) #[true, true, true, true, true, true, true, true, true] rfl rfl (any_of HT_.out (by kernel_rfl)) (fun _ _ _ h => h) (Or.inl ⟨by rfl, ?_⟩) ?_ ?_
                        rotate_left
                        · intro w'
                          go_simp
                          with_reducible rfl
                        rotate_left
                        · simp only [Act.put, List.setIfInBounds_toArray, List.set_cons_zero, List.set_cons_succ, i64_w, i32_w]
                          rfl
                        refine done_ (done_of HT_.out (by kernel_rfl)) ?_
                        try go_wp2
                        go_ret
                        exact ⟨by first | rfl | (simp [errW_none, errW_some] <;> rfl) | (simp [*, errW_none, errW_some] <;> rfl), by repeat (first | (with_reducible first | exact HB.out | apply below_alloc | apply pw_below_drewN | apply below_drew1 | refine below_set ?_ GE422.out | refine below_set ?_ GE423.out | refine below_set ?_ GE433.out | refine below_set ?_ GE434.out) | exact HB.out)⟩
                  · rw [if_neg c119] at H
                    have c119b0 : decide (t418 < 20) = false := decide_eq_false c119
                    clear c119
                    replace H := Option.bind_eq_some_iff.mp H
                    obtain ⟨t440, A1630, H⟩ := H
                    replace H : (some (t440 == t420)) = some r := H
                    have A163 := Aside0.mk A1630
                    clear A1630
                    obtain rfl := Option.some.inj H
                    have hnb164 := NB422_423.out
                    have hnc164 := NB423_422.out
                    have hnb165 := NB422_433.out
                    have hnc165 := NB433_422.out
                    have hnb166 := NB422_434.out
                    have hnc166 := NB434_422.out
                    have hcz167_0 : wc.cell? ⟨gb422, 0, none⟩ = some (.int .i64 t418) := (blk_cell BK422.out 0).trans rfl
                    have hcz167_1 : wc.cell? ⟨gb422, 1, none⟩ = some (.int .i64 t419) := (blk_cell BK422.out 1).trans rfl
                    have hfz167_0 := blk_frozen BK422.out 0
                    have hfz167_1 := blk_frozen BK422.out 1
                    try go_wp2
                    have n0_ := Aside0.mk (blk_drew BK422.out)
                    have n1_ := Aside0.mk (blk_drew BK423.out)
                    have n2_ := Aside0.mk (blk_drew BK433.out)
                    have n3_ := Aside0.mk (blk_drew BK434.out)
                    have n4_ := Aside0.mk (below_drew1 HB.out)
                    clear BK422
                    clear BK423
                    clear BK433
                    clear BK434
                    clear HB
                    have BK422 := n0_
                    have BK423 := n1_
                    have BK433 := n2_
                    have BK434 := n3_
                    have HB := n4_
                    clear n0_ n1_ n2_ n3_ n4_
                    refine start_ (n := 9) (S := fun w' => w'.cell? ⟨gb422, 0, none⟩ = some (.int .i64 t418) ∧ w'.cell? ⟨gb422, 1, none⟩ = some (.int .i64 t419) ∧ w'.cell? ⟨gb423, 0, none⟩ = some (.int .i64 t420) ∧ w'.cell? ⟨gb423, 1, none⟩ = some (.int .i64 t421)) (ds := []) #[false, false, false, false, false, false, false, false, false] (by kernel_rfl) rfl rfl ⟨(blk_cell BK422.out 0).trans rfl, (blk_cell BK422.out 1).trans rfl, (blk_cell BK423.out 0).trans rfl, (blk_cell BK423.out 1).trans rfl⟩ (fun hHeld => ?_); refine with_tabW laws_FnBounds.tab16 laws_FnBounds.bits16 (fun HT_ HW_ => ?_)
                    generalize wc.drew = w168 at BK422 BK423 BK433 BK434 HB hHeld ⊢
                    refine pure_ (i := 0) (N := some 108) (v := ?_) (a' := ?_) #[true, false, false, false, false, false, false, false, false] rfl rfl (any_of HT_.out (by kernel_rfl)) (fun _ _ _ h => h) (Or.inl ⟨by rfl, ?_⟩) ?_ ?_
                    rotate_left
                    · intro w'
                      go_simp
                      with_reducible rfl
                    rotate_left
                    · simp only [Act.put, List.setIfInBounds_toArray, List.set_cons_zero, List.set_cons_succ, i64_w, i32_w]
                      rfl
                    refine pure_ (i := 5) (N := some 113) (v := ?_) (a' := ?_) #[true, false, false, false, false, true, false, false, false] rfl rfl (any_of HT_.out (by kernel_rfl)) (fun _ _ _ h => h) (Or.inl ⟨by rfl, ?_⟩) ?_ ?_
                    rotate_left
                    · intro w'
                      go_simp
                      with_reducible rfl
                    rotate_left
                    · simp only [Act.put, List.setIfInBounds_toArray, List.set_cons_zero, List.set_cons_succ, i64_w, i32_w]
                      rfl
                    refine take_ (i := 1) (N := some 109) (v := ?_) (a' := ?_) #[true, true, false, false, false, true, false, false, false] rfl rfl (take_ofW HT_.out HW_.out (by kernel_rfl)) (fun _ _ _ h => h) (Or.inl ⟨by rfl, ?_⟩) hHeld ?_ ?_
                    rotate_left
                    · rintro w' ⟨s0, s1, s2, s3⟩
                      go_simp
                      with_reducible rfl
                    rotate_left
                    · simp only [Act.put, List.setIfInBounds_toArray, List.set_cons_zero, List.set_cons_succ, i64_w, i32_w]
                      rfl
                    refine pure_ (i := 2) (N := some 110) (v := ?_) (a' := ?_) #[true, true, true, false, false, true, false, false, false] rfl rfl (any_of HT_.out (by kernel_rfl)) (fun _ _ _ h => h) (Or.inl ⟨by rfl, ?_⟩) ?_ ?_
                    rotate_left
                    · intro w'
                      go_simp
                      with_reducible rfl
                    rotate_left
                    · simp only [Act.put, List.setIfInBounds_toArray, List.set_cons_zero, List.set_cons_succ, i64_w, i32_w]
                      rfl
                    refine take_ (i := 3) (N := some 111) (v := ?_) (a' := ?_) #[true, true, true, true, false, true, false, false, false] rfl rfl (take_ofW HT_.out HW_.out (by kernel_rfl)) (fun _ _ _ h => h) (Or.inl ⟨by rfl, ?_⟩) hHeld ?_ ?_
                    rotate_left
                    · rintro w' ⟨s0, s1, s2, s3⟩
                      go_simp
                      with_reducible rfl
                    rotate_left
                    · simp only [Act.put, List.setIfInBounds_toArray, List.set_cons_zero, List.set_cons_succ, i64_w, i32_w]
                      rfl
                    refine take_ (i := 6) (N := some 114) (v := ?_) (a' := ?_) #[true, true, true, true, false, true, true, false, false] rfl rfl (take_ofW HT_.out HW_.out (by kernel_rfl)) (fun _ _ _ h => h) (Or.inl ⟨by rfl, ?_⟩) hHeld ?_ ?_
                    rotate_left
                    · rintro w' ⟨s0, s1, s2, s3⟩
                      go_simp
                      with_reducible rfl
                    rotate_left
                    · simp only [Act.put, List.setIfInBounds_toArray, List.set_cons_zero, List.set_cons_succ, i64_w, i32_w]
                      rfl
                    refine one_ (i := 4) (N := some 112) #[true, true, true, true, true, true, true, false, false] rfl rfl (one_of HT_.out (by kernel_rfl)) (by decide) (fun K hK => ?_)
                    refine goes_ Try.func32 (by kernel_rfl) rfl #[.agg #[.int .i64 0, .int .i64 t419], .agg #[.int .i64 t420, .int .i64 t421]] (by rfl) rfl rfl (by (try simp only [List.map_toArray, List.map_cons, List.map_nil]); first | done | rfl | (simp only [List.length_drop, List.length_take]; rfl)) ?_
                    with_reducible refine (impl_DelayBound.calls 0 t419 t420 t421 t440 _ A163.out).mono ?_
                    rintro e w169 ⟨rfl, hb⟩
                    refine ⟨_, rfl, ?_⟩
                    have n0_ := Aside0.mk (blk_below (g := gb422) (o := .cells #[.int .i64 t418, .int .i64 t419] 25 (0, 0)) (by (with_reducible repeat (first | refine blk_drewN ?_ _ | refine blk_drew ?_ | refine blk_alloc ?_ _)); exact BK422.out) hb)
                    have n1_ := Aside0.mk (blk_below (g := gb423) (o := .cells #[.int .i64 t420, .int .i64 t421] 31 (0, 0)) (by (with_reducible repeat (first | refine blk_drewN ?_ _ | refine blk_drew ?_ | refine blk_alloc ?_ _)); exact BK423.out) hb)
                    have n2_ := Aside0.mk (blk_below (g := gb433) (o := .cells #[.int .i64 t420, .int .i64 (wrap64 (t421 + 1))] 31 (0, 0)) (by (with_reducible repeat (first | refine blk_drewN ?_ _ | refine blk_drew ?_ | refine blk_alloc ?_ _)); exact BK433.out) hb)
                    have n3_ := Aside0.mk (blk_below (g := gb434) (o := .cells #[.int .i64 (wrap64 (t418 + 1)), .int .i64 t419] 25 (0, 0)) (by (with_reducible repeat (first | refine blk_drewN ?_ _ | refine blk_drew ?_ | refine blk_alloc ?_ _)); exact BK434.out) hb)
                    have n4_ := Aside0.mk (below_step (by repeat (first | (with_reducible first | exact HB.out | apply below_alloc | apply pw_below_drewN | apply below_drew1 | refine below_set ?_ GE422.out | refine below_set ?_ GE423.out | refine below_set ?_ GE433.out | refine below_set ?_ GE434.out) | exact HB.out)) hb)
                    clear BK422
                    clear BK423
                    clear BK433
                    clear BK434
                    clear HB
                    have BK422 := n0_
                    have BK423 := n1_
                    have BK433 := n2_
                    have BK434 := n3_
                    have HB := n4_
                    clear n0_ n1_ n2_ n3_ n4_
                    (try clear hb)
                    (try clear hb2)
                    (try clear hk)
                    (try clear hi)
                    refine hK.out _ _ ⟨(blk_cell BK422.out 0).trans rfl, (blk_cell BK422.out 1).trans rfl, (blk_cell BK423.out 0).trans rfl, (blk_cell BK423.out 1).trans rfl⟩ (fun hHeld => ?_)
                    clear hK K
                    refine norm_ (a' := ?_) ?_ ?_
                    rotate_left
                    · show Act.put _ (some 112) _ = _
                      simp only [Act.put, List.setIfInBounds_toArray, List.set_cons_zero, List.set_cons_succ, i64_w, i32_w]
                      rfl
                    refine pure_ (i := 7) (N := some 115) (v := ?_) (a' := ?_) #[true, true, true, true, true, true, true, true, false] rfl rfl (any_of HT_.out (by kernel_rfl)) (fun _ _ _ h => h) (Or.inl ⟨by rfl, ?_⟩) ?_ ?_
                    rotate_left
                    · intro w'
                      go_simp
                      with_reducible rfl
                    rotate_left
                    · simp only [Act.put, List.setIfInBounds_toArray, List.set_cons_zero, List.set_cons_succ, i64_w, i32_w]
                      rfl
                    refine pure_ (i := 8) (N := some 2) (v := ?_) (a' := ?_) #[true, true, true, true, true, true, true, true, true] rfl rfl (any_of HT_.out (by kernel_rfl)) (fun _ _ _ h => h) (Or.inl ⟨by rfl, ?_⟩) ?_ ?_
                    rotate_left
                    · intro w'
                      go_simp
                      with_reducible rfl
                    rotate_left
                    · simp only [Act.put, List.setIfInBounds_toArray, List.set_cons_zero, List.set_cons_succ, i64_w, i32_w]
                      rfl
                    refine done_ (done_of HT_.out (by kernel_rfl)) ?_
                    try go_wp2
                    go_ret
                    exact ⟨by first | rfl | (simp [errW_none, errW_some] <;> rfl) | (simp [*, errW_none, errW_some] <;> rfl), by repeat (first | (with_reducible first | exact HB.out | apply below_alloc | apply pw_below_drewN | apply below_drew1 | refine below_set ?_ GE422.out | refine below_set ?_ GE423.out | refine below_set ?_ GE433.out | refine below_set ?_ GE434.out) | exact HB.out)⟩

/-- The one pure statement of laws_FnBounds. -/
def laws_FnBounds.Pure : Prop := ∀ (l0 : List Int), l0.length * 1 ≤ 140737488351232 → (l0.length ≤ maxLen ∧ ∀ y0 ∈ l0, (Lit.int .u8 y0).wf = true) → ∃ k, laws_FnBounds.f k l0 = some true

end Go.Proofs.Ytooabmmnbifclaa.P
/- Small laws that all proofs of this seat use. No condition. -/
namespace Go.Proofs.Ytooabmmnbifclaa.Base
open Go.RowKit Go.Proofs.Ytooabmmnbifclaa.P Go.Proofs.YtooabmmnbifclaaW.PrintWords Go.Proofs.YtooabmmnbifclaaW.PrintLast Go.Proofs.YtooabmmnbifclaaW.PrintMore
theorem w64 {x : Int} (h0 : -9223372036854775808 ≤ x) (h1 : x < 9223372036854775808) : wrap64 x = x := by unfold wrap64; omega
theorem mul_bd {a b A B : Int} (ha : 0 ≤ a) (hA : a ≤ A) (hb : 0 ≤ b) (hB : b ≤ B) : 0 ≤ a * b ∧ a * b ≤ A * B :=
  ⟨Int.mul_nonneg ha hb, Int.mul_le_mul hA hB hb (by omega)⟩
theorem in_f (a b c : Int) : impl_in.f a b c = some (decide (b ≤ a ∧ a ≤ c)) := by
  unfold impl_in.f
  by_cases h : a ≥ b
  · rw [if_pos h]; simp [show b ≤ a from h]
  · rw [if_neg h]; simp [show ¬ b ≤ a from h]
theorem l1In_f (a b c : Int) : spec_l1In.f a b c = some (decide (b ≤ a ∧ a ≤ c)) := by
  unfold spec_l1In.f
  by_cases h : a ≥ b
  · rw [if_pos h]; simp [show b ≤ a from h]
  · rw [if_neg h]; simp [show ¬ b ≤ a from h]
theorem and_two (p q : Prop) [Decidable p] [Decidable q] : (if decide p = true then some (decide q) else some false) = some (decide (p ∧ q)) := by
  by_cases hp : p <;> by_cases hq : q <;> simp [hp, hq]
theorem and_bind {α : Type} (p : Prop) [Decidable p] (x y : Option α) : (some (decide p)).bind (fun t => if t = true then x else y) = if p then x else y := by
  by_cases hp : p <;> simp [hp]
theorem mn_min (a b : Int) : mn a b = min a b := by unfold mn; omega
theorem mx_max (a b : Int) : mx a b = max a b := by unfold mx; omega
theorem tdiv_pos {a b : Int} (h : 0 ≤ a) : Int.tdiv a b = a / b := Int.tdiv_eq_ediv_of_nonneg h
theorem tmod_pos {a b : Int} (h : 0 ≤ a) : Int.tmod a b = a % b := Int.tmod_eq_emod_of_nonneg h
theorem wf64 {x : Int} (h : (Lit.int .i64 x).wf = true) : -9223372036854775808 ≤ x ∧ x < 9223372036854775808 := by
  simp [Lit.wf, IntKind.min, IntKind.max, IntKind.bits, IntKind.signed] at h
  omega
end Go.Proofs.Ytooabmmnbifclaa.Base
/- Runs that end, whatever the number of rounds from some number on; loops over a row. No condition. -/
namespace Go.Proofs.Ytooabmmnbifclaa.Gen
open Go.RowKit Go.Proofs.YtooabmmnbifclaaW.PrintWords Go.Proofs.YtooabmmnbifclaaW.PrintLast

/-- From some number of rounds on the run ends in one answer, and the answer is good. -/
def Tot {α : Type} (g : Nat → Option α) (P : α → Prop) : Prop := ∃ r, Ev g r ∧ P r
theorem Tot.ret {α : Type} {P : α → Prop} (a : α) (h : P a) : Tot (fun _ => some a) P := ⟨a, Ev.now a, h⟩
theorem Tot.of_eq {α : Type} {P : α → Prop} {g : Nat → Option α} {a : α} (e : ∀ k, g k = some a) (h : P a) : Tot g P := ⟨a, ⟨0, fun k _ => e k⟩, h⟩
theorem Tot.mono {α : Type} {P Q : α → Prop} {g : Nat → Option α} (h : Tot g P) (hpq : ∀ a, P a → Q a) : Tot g Q := by
  obtain ⟨r, h1, h2⟩ := h
  exact ⟨r, h1, hpq r h2⟩
theorem Tot.congr {α : Type} {P : α → Prop} {g f : Nat → Option α} (e : ∀ k, g k = f k) (h : Tot f P) : Tot g P := by
  have : g = f := funext e
  rw [this]; exact h
theorem Tot.step {α : Type} {P : α → Prop} {g f : Nat → Option α} (e : ∀ k, g (k + 1) = f k) (h : Tot f P) : Tot g P := by
  obtain ⟨r, h1, h2⟩ := h
  exact ⟨r, Ev.step e h1, h2⟩
theorem Tot.bind {α β : Type} {P : α → Prop} {Q : β → Prop} {g : Nat → Option α} {f : Nat → α → Option β} (h : Tot g P) (hf : ∀ a, P a → Tot (fun k => f k a) Q) : Tot (fun k => (g k).bind (f k)) Q := by
  obtain ⟨r, h1, h2⟩ := h
  obtain ⟨q, h3, h4⟩ := hf r h2
  exact ⟨q, Ev.bind h1 h3, h4⟩
/-- A call without rounds. -/
theorem Tot.bind0 {α β : Type} {Q : β → Prop} {g : Option α} {f : Nat → α → Option β} {a : α} (h : g = some a) (hf : Tot (fun k => f k a) Q) : Tot (fun k => g.bind (f k)) Q := by
  subst h; exact hf
theorem Tot.yes {α : Type} {P : α → Prop} {c : Prop} [Decidable c] {g f : Nat → Option α} (hc : c) (h : Tot g P) : Tot (fun k => if c then g k else f k) P := by
  simp only [if_pos hc]; exact h
theorem Tot.no {α : Type} {P : α → Prop} {c : Prop} [Decidable c] {g f : Nat → Option α} (hc : ¬ c) (h : Tot f P) : Tot (fun k => if c then g k else f k) P := by
  simp only [if_neg hc]; exact h
theorem Tot.ite {α : Type} {P : α → Prop} {c : Prop} [Decidable c] {g f : Nat → Option α} (h1 : c → Tot g P) (h2 : ¬ c → Tot f P) : Tot (fun k => if c then g k else f k) P := by
  by_cases hc : c
  · exact Tot.yes hc (h1 hc)
  · exact Tot.no hc (h2 hc)
theorem Tot.rounds {g : Nat → Option Bool} (h : Tot g (fun r => r = true)) : ∃ k, g k = some true := by
  obtain ⟨r, h1, rfl⟩ := h
  exact h1.rounds
theorem Tot.rounds0 {g : Option Bool} (h : Tot (fun _ => g) (fun r => r = true)) : g = some true := by
  obtain ⟨k, hk⟩ := h.rounds
  exact hk
/-- What a run answers, and how it was found. -/
theorem Tot.val {α : Type} {g : Nat → Option α} {a : α} (h : Ev g a) : Tot g (fun r => r = a) := ⟨a, h, rfl⟩
theorem Tot.ev {α : Type} {g : Nat → Option α} {a : α} (h : Tot g (fun r => r = a)) : Ev g a := by
  obtain ⟨r, h1, rfl⟩ := h
  exact h1
/-- A loop with a counter: 'Inv i s' at the head of round i, n rounds. -/
theorem Tot.loop {σ ρ : Type} {P : ρ → Prop} (F : Nat → Nat → σ → Option ρ) (n : Nat) (Inv : Nat → σ → Prop)
    (hstep : ∀ i s, i < n → Inv i s → (∀ s', Inv (i + 1) s' → Tot (fun k => F k (i + 1) s') P) → Tot (fun k => F k i s) P)
    (hend : ∀ s, Inv n s → Tot (fun k => F k n s) P) : ∀ i s, i ≤ n → Inv i s → Tot (fun k => F k i s) P := by
  have key : ∀ d i s, i + d = n → Inv i s → Tot (fun k => F k i s) P := by
    intro d
    induction d with
    | zero => intro i s hi h; obtain rfl : i = n := by omega
              exact hend s h
    | succ d ih => intro i s hi h; exact hstep i s (by omega) h (fun s' hs' => ih (i + 1) s' (by omega) hs')
  intro i s hi h
  exact key (n - i) i s (by omega) h
/-- A loop with a measure. -/
theorem Tot.meas {σ ρ : Type} {P : ρ → Prop} (F : Nat → σ → Option ρ) (Inv : σ → Prop) (m : σ → Nat)
    (hstep : ∀ s, Inv s → (∀ s', Inv s' → m s' < m s → Tot (fun k => F k s') P) → Tot (fun k => F k s) P) : ∀ s, Inv s → Tot (fun k => F k s) P := by
  have key : ∀ d s, m s < d → Inv s → Tot (fun k => F k s) P := by
    intro d
    induction d with
    | zero => intro s hd; omega
    | succ d ih => intro s hd h; exact hstep s h (fun s' hs' hm => ih s' (by omega) hs')
  intro s h
  exact key (m s + 1) s (by omega) h
theorem rdOf_at {α : Type} (d : α) (xs : List α) (i : Nat) (h : i < xs.length) : rdOf d xs (i : Int) = xs[i] := by
  unfold rdOf
  rw [List.getD_eq_getElem?_getD, Int.toNat_natCast, List.getElem?_eq_getElem h]
  rfl
theorem rd_at (xs : List Int) (i : Nat) (h : i < xs.length) : rd xs (i : Int) = xs[i] := by
  unfold rd
  rw [List.getD_eq_getElem?_getD, Int.toNat_natCast, List.getElem?_eq_getElem h]
  rfl
/-- A row that is filled from the left, element by element. -/
theorem fill_step {β : Type} (acc tgt : List β) (i : Nat) (hl : acc.length = tgt.length) (h : acc.take i = tgt.take i) (hi : i < tgt.length) : (acc.set i tgt[i]).take (i + 1) = tgt.take (i + 1) := by
  rw [List.take_succ_eq_append_getElem (by simpa [hl] using hi), List.take_succ_eq_append_getElem hi]
  rw [List.take_set_of_le (Nat.le_refl i), h]
  simp
/-- A copy: 'out[i] = c(a[i])' from 0 on. -/
theorem Tot.copy {β : Type} (F : Nat → List β → Int → Option (List β)) (tgt : List β) (z : β)
    (hstep : ∀ k acc (i : Nat) (h : i < tgt.length), acc.length = tgt.length → F (k + 1) acc (i : Int) = F k (acc.set i tgt[i]) ((i : Int) + 1))
    (hend : ∀ k acc, acc.length = tgt.length → F (k + 1) acc (tgt.length : Int) = some acc) : Tot (fun k => F k (List.replicate tgt.length z) 0) (fun r => r = tgt) := by
  have key : ∀ d (i : Nat) acc, i + d = tgt.length → acc.length = tgt.length → acc.take i = tgt.take i → Tot (fun k => F k acc (i : Int)) (fun r => r = tgt) := by
    intro d
    induction d with
    | zero =>
      intro i acc hi hl ht
      obtain rfl : i = tgt.length := by omega
      refine Tot.step (f := fun _ => some acc) (fun k => hend k acc hl) (Tot.ret _ ?_)
      rw [List.take_length, ← hl, List.take_length] at ht
      exact ht
    | succ d ih =>
      intro i acc hi hl ht
      have hlt : i < tgt.length := by omega
      refine Tot.step (fun k => hstep k acc i hlt hl) ?_
      have := ih (i + 1) (acc.set i tgt[i]) (by omega) (by simpa using hl) (fill_step acc tgt i hl ht hlt)
      simpa using this
  simpa using key tgt.length 0 (List.replicate tgt.length z) (by omega) (by simp) (by simp)
/-- A walk that only looks. -/
theorem Tot.look {ρ : Type} {r : ρ} (F : Nat → Int → Option ρ) (n : Nat) (hstep : ∀ k (i : Nat), i < n → F (k + 1) (i : Int) = F k ((i : Int) + 1)) (hend : ∀ k, F (k + 1) (n : Int) = some r) : Tot (fun k => F k 0) (fun q => q = r) := by
  have key : ∀ d (i : Nat), i + d = n → Tot (fun k => F k (i : Int)) (fun q => q = r) := by
    intro d
    induction d with
    | zero => intro i hi; obtain rfl : i = n := by omega
              exact Tot.step (f := fun _ => some r) (fun k => hend k) (Tot.ret _ rfl)
    | succ d ih => intro i hi; exact Tot.step (fun k => hstep k i (by omega)) (by simpa using ih (i + 1) (by omega))
  simpa using key n 0 (by omega)
/-- 'append' in a loop, element by element. -/
theorem Tot.collect {β : Type} (F : Nat → List β → Int → Option (List β)) (tgt : List β)
    (hstep : ∀ k (i : Nat) (h : i < tgt.length), F (k + 1) (tgt.take i) (i : Int) = F k (tgt.take i ++ [tgt[i]]) ((i : Int) + 1))
    (hend : ∀ k, F (k + 1) tgt (tgt.length : Int) = some tgt) : Tot (fun k => F k [] 0) (fun r => r = tgt) := by
  have key : ∀ d (i : Nat), i + d = tgt.length → Tot (fun k => F k (tgt.take i) (i : Int)) (fun r => r = tgt) := by
    intro d
    induction d with
    | zero =>
      intro i hi
      obtain rfl : i = tgt.length := by omega
      rw [List.take_length]
      exact Tot.step (f := fun _ => some tgt) (fun k => hend k) (Tot.ret _ rfl)
    | succ d ih =>
      intro i hi
      have hlt : i < tgt.length := by omega
      refine Tot.step (fun k => hstep k i hlt) ?_
      rw [← List.take_succ_eq_append_getElem hlt]
      simpa using ih (i + 1) (by omega)
  simpa using key tgt.length 0 (by omega)
end Go.Proofs.Ytooabmmnbifclaa.Gen
/- The reader of a code: what a pick tells. Conditions: the code's bytes are bytes, at most 2000 of them; the place is small. -/
namespace Go.Proofs.Ytooabmmnbifclaa.Pb
open Go.RowKit Go.Proofs.Ytooabmmnbifclaa.P Go.Proofs.Ytooabmmnbifclaa.Gen Go.Proofs.Ytooabmmnbifclaa.Base Go.Proofs.YtooabmmnbifclaaW.PrintWords Go.Proofs.YtooabmmnbifclaaW.PrintLast

theorem xor_ok (x y : Int) (hx : 0 ≤ x) (hx1 : x < 4611686018427387904) (hy : 0 ≤ y) (hy1 : y < 4611686018427387904) : 0 ≤ Go.bits .xor .i64 x y := by
  obtain ⟨a, rfl⟩ := Int.eq_ofNat_of_zero_le hx
  obtain ⟨b, rfl⟩ := Int.eq_ofNat_of_zero_le hy
  have ha : a < 2 ^ 62 := by have e : (2 : Nat) ^ 62 = 4611686018427387904 := by decide
                             omega
  have hb : b < 2 ^ 62 := by have e : (2 : Nat) ^ 62 = 4611686018427387904 := by decide
                             omega
  have ha' : a % 2 ^ 64 = a := Nat.mod_eq_of_lt (by omega)
  have hb' : b % 2 ^ 64 = b := Nat.mod_eq_of_lt (by omega)
  have hx := Nat.xor_lt_two_pow ha hb
  simp only [Go.bits]
  rw [show IntKind.i64.bits = 64 from rfl]
  rw [BitVec.toNat_xor, BitVec.ofInt_natCast, BitVec.ofInt_natCast, BitVec.toNat_ofNat, BitVec.toNat_ofNat, ha', hb', IntKind.wrap_i64]
  have e : (2 : Nat) ^ 62 = 4611686018427387904 := by decide
  omega
/-- The bytes of a code. -/
def Bytes (s : List Int) : Prop := s.length ≤ 2000 ∧ ∀ x ∈ s, 0 ≤ x ∧ x ≤ 255
theorem Bytes.rd {s : List Int} (h : Bytes s) (i : Int) : 0 ≤ rd s i ∧ rd s i ≤ 255 := by
  unfold Go.Proofs.YtooabmmnbifclaaW.PrintWords.rd
  rw [List.getD_eq_getElem?_getD]
  rcases Nat.lt_or_ge i.toNat s.length with hi | hi
  · rw [List.getElem?_eq_getElem hi]
    exact h.2 _ (List.getElem_mem hi)
  · rw [List.getElem?_eq_none hi]
    simp
theorem u8_wf {x : Int} (h : (Lit.int .u8 x).wf = true) : 0 ≤ x ∧ x ≤ 255 := by
  simp [Lit.wf, IntKind.min, IntKind.max, IntKind.bits, IntKind.signed] at h
  omega
theorem tmod_ok (a n : Int) (ha : 0 ≤ a) (hn : 1 ≤ n) : 0 ≤ Int.tmod a n ∧ Int.tmod a n < n := by
  rw [Int.tmod_eq_emod_of_nonneg ha]
  exact ⟨Int.emod_nonneg _ (by omega), Int.emod_lt_of_pos _ (by omega)⟩
theorem tdiv_ok (a n : Int) (ha : 0 ≤ a) (hn : 1 ≤ n) : 0 ≤ Int.tdiv a n ∧ Int.tdiv a n ≤ a := by
  rw [Int.tdiv_eq_ediv_of_nonneg ha]
  exact ⟨Int.ediv_nonneg ha (by omega), Int.ediv_le_self _ ha⟩
/-- One pick: at every number of rounds but 0. -/
theorem pick_at (k : Nat) (s : List Int) (p n : Int) (hs : Bytes s) (hp : 0 ≤ p) (hp2 : p ≤ 1000000000) :
    ∃ r, spec_l20Rd_pick.f (k + 1) s p n = some (r, p + 1) ∧ 0 ≤ r ∧ (1 ≤ n → r < n) := by
  unfold spec_l20Rd_pick.f
  rw [w64 (x := p + 1) (by omega) (by omega)]
  by_cases hn : n < 1
  · rw [if_pos hn]
    exact ⟨0, by simp [spec_l20Rd_pick.j0], Int.le_refl _, fun h => by omega⟩
  · rw [if_neg hn]
    by_cases h0 : (s.length : Int) = 0
    · refine ⟨0, ?_, Int.le_refl _, fun h => by omega⟩
      simp only [spec_l20Rd_pick.j0]
      rw [if_pos (by simpa using h0)]
    · simp only [spec_l20Rd_pick.j0]
      rw [if_neg (by simpa using h0)]
      have hl := hs.1
      rw [w64 (x := p + 1 - 1) (by omega) (by omega), show p + 1 - 1 = p by omega]
      by_cases h1 : p < (s.length : Int)
      · have hb := hs.rd p
        rw [if_pos h1, if_pos hp, if_neg (by omega), w64 (x := rd s p) (by omega) (by omega)]
        have ht := tmod_ok (rd s p) n hb.1 (by omega)
        exact ⟨_, rfl, ht.1, fun _ => ht.2⟩
      · rw [if_neg h1, if_neg h0]
        have m0 := tmod_ok p (s.length : Int) hp (by omega)
        rw [if_pos m0.1, if_pos m0.2]
        rw [w64 (x := p * 7) (by omega) (by omega), w64 (x := p * 7 + 3) (by omega) (by omega)]
        have m1 := tmod_ok (p * 7 + 3) (s.length : Int) (by omega) (by omega)
        rw [if_pos m1.1, if_pos m1.2, if_neg (by omega)]
        have b0 := hs.rd (Int.tmod p (s.length : Int))
        have b1 := hs.rd (Int.tmod (p * 7 + 3) (s.length : Int))
        have d0 := tdiv_ok p (s.length : Int) hp (by omega)
        generalize rd s (Int.tmod p (s.length : Int)) = x at b0 ⊢
        generalize rd s (Int.tmod (p * 7 + 3) (s.length : Int)) = y at b1 ⊢
        generalize Int.tdiv p (s.length : Int) = q at d0 ⊢
        rw [w64 (x := x) (by omega) (by omega), w64 (x := y) (by omega) (by omega), w64 (x := q) (by omega) (by omega)]
        rw [w64 (x := x * 131) (by omega) (by omega), w64 (x := y * 1117) (by omega) (by omega), w64 (x := p * 29) (by omega) (by omega), w64 (x := q * 53) (by omega) (by omega)]
        rw [w64 (x := x * 131 + y * 1117) (by omega) (by omega), w64 (x := x * 131 + y * 1117 + p * 29) (by omega) (by omega), w64 (x := x * 131 + y * 1117 + p * 29 + q * 53) (by omega) (by omega)]
        have e0 := tdiv_ok (x * 131 + y * 1117 + p * 29 + q * 53) 64 (by omega) (by omega)
        rw [w64 (x := Int.tdiv (x * 131 + y * 1117 + p * 29 + q * 53) 64) (by omega) (by omega)]
        have hx := xor_ok (x * 131 + y * 1117 + p * 29 + q * 53) (Int.tdiv (x * 131 + y * 1117 + p * 29 + q * 53) 64) (by omega) (by omega) e0.1 (by omega)
        have ht := tmod_ok _ n hx (by omega)
        exact ⟨_, rfl, ht.1, fun _ => ht.2⟩
theorem odd_at (k : Nat) (s : List Int) (p n : Int) (hs : Bytes s) (hp : 0 ≤ p) (hp2 : p ≤ 1000000000) :
    ∃ b q, spec_l20Rd_odd.f (k + 1) s p n = some (b, q) ∧ p ≤ q ∧ q ≤ p + 1 := by
  unfold spec_l20Rd_odd.f
  by_cases hn : n > 0
  · rw [if_pos hn]
    obtain ⟨r, hr, _⟩ := pick_at k s p n hs hp hp2
    rw [hr]
    exact ⟨_, _, rfl, by show p ≤ p + 1; omega, Int.le_refl _⟩
  · rw [if_neg hn]
    exact ⟨_, _, rfl, by omega, by omega⟩
theorem open_at (l : List Int) (hl : ∀ x ∈ l, (Lit.int .u8 x).wf = true) : ∃ s, spec_l20Open.f l = some (s, 0) ∧ Bytes s := by
  unfold spec_l20Open.f
  by_cases h : (l.length : Int) > 2000
  · rw [if_pos h, if_pos (by omega)]
    exact ⟨_, rfl, by rw [List.length_take]; omega, fun x hx => u8_wf (hl x (List.mem_of_mem_take hx))⟩
  · rw [if_neg h]
    exact ⟨_, rfl, by omega, fun x hx => u8_wf (hl x hx)⟩
/-- A place of the reader that is small. -/
def At (p q : Int) (c : Int) : Prop := p ≤ q ∧ q ≤ p + c
theorem pick_tot (s : List Int) (p n : Int) (hs : Bytes s) (hp : 0 ≤ p) (hp2 : p ≤ 1000000000) : Tot (fun k => spec_l20Rd_pick.f k s p n) (fun r => r.2 = p + 1 ∧ 0 ≤ r.1 ∧ (1 ≤ n → r.1 < n)) := by
  obtain ⟨r, hr, h0, h1⟩ := pick_at 0 s p n hs hp hp2
  refine ⟨(r, p + 1), ⟨1, fun k hk => ?_⟩, rfl, h0, h1⟩
  obtain ⟨j, rfl⟩ : ∃ j, k = j + 1 := ⟨k - 1, by omega⟩
  obtain ⟨r', hr', h0', h1'⟩ := pick_at j s p n hs hp hp2
  have hm := at_rounds (g := fun k => spec_l20Rd_pick.f k s p n) (fun k => spec_l20Rd_pick.mono _ _ _ k) (show 1 ≤ j + 1 by omega) hr
  exact hm
theorem odd_tot (s : List Int) (p n : Int) (hs : Bytes s) (hp : 0 ≤ p) (hp2 : p ≤ 1000000000) : Tot (fun k => spec_l20Rd_odd.f k s p n) (fun r => p ≤ r.2 ∧ r.2 ≤ p + 1) := by
  unfold spec_l20Rd_odd.f
  refine Tot.ite (fun _ => ?_) (fun _ => Tot.ret _ ⟨Int.le_refl _, by omega⟩)
  refine Tot.bind (pick_tot s p n hs hp hp2) ?_
  rintro ⟨a, q⟩ ⟨rfl, _, _⟩
  exact Tot.ret _ ⟨by show p ≤ p + 1; omega, Int.le_refl _⟩
theorem open_tot {β : Type} {Q : β → Prop} (l : List Int) (hl : ∀ x ∈ l, (Lit.int .u8 x).wf = true) {f : Nat → List Int × Int → Option β} (hf : ∀ s, Bytes s → Tot (fun k => f k (s, 0)) Q) : Tot (fun k => (spec_l20Open.f l).bind (f k)) Q := by
  obtain ⟨s, hs, hb⟩ := open_at l hl
  exact Tot.bind0 hs (hf s hb)
theorem some_bind {α β : Type} {Q : β → Prop} (a : α) {f : Nat → α → Option β} (h : Tot (fun k => f k a) Q) : Tot (fun k => (some a).bind (f k)) Q := h
theorem rd_mem {xs : List Int} {i : Int} (h0 : 0 ≤ i) (h1 : i < (xs.length : Int)) : rd xs i ∈ xs := by
  unfold Go.Proofs.YtooabmmnbifclaaW.PrintWords.rd
  have : i.toNat < xs.length := by omega
  rw [List.getD_eq_getElem?_getD, List.getElem?_eq_getElem this]
  exact List.getElem_mem this
end Go.Proofs.Ytooabmmnbifclaa.Pb
