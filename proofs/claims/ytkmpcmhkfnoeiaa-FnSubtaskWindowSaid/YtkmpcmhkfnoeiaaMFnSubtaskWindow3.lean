/- The law FnSubtaskWindow for every input, part 3 of its proof: what the program's functions answer, and the plain law. No condition. -/
import Derived.Test.YtkmpcmhkfnoeiaaMFnSubtaskWindow1
import Derived.Test.YtkmpcmhkfnoeiaaMFnSubtaskWindow2
-- Laid by a program of this work.
namespace Go.Proofs.Ytkmpcmhkfnoeiaa.P
open Go.RowKit Go.Proofs.YtkmpcmhkfnoeiaaW.PrintWords Go.Proofs.YtkmpcmhkfnoeiaaW.PrintLast Go.Proofs.YtkmpcmhkfnoeiaaW.PrintMore
attribute [local go_sem] max2_int min2_int max_two min_two max_three min_three max_four min_four   -- for this text's walks alone
set_option linter.unusedVariables false
set_option linter.unusedSimpArgs false

/-! ### spec_DrawSubtaskWindow: function 21 -/
def spec_DrawSubtaskWindow.f (k : Nat) (l0 : List Int) : Option (Int × Int × Int × Int) := (spec_l20Open.f l0).bind fun bt210 => ((spec_l20Task.f k bt210.1 bt210.2 12).bind fun bt213 => ((spec_l20Rd_pick.f k bt210.1 bt213.2.2.2 4).bind fun bt218 => (if bt218.1 > 0 then ((spec_l20Rd_pick.f k bt210.1 bt218.2 40).bind fun bt220 => ((some (([bt220.1, (-1), 1001] : List Int) : List Int)).bind fun y222 => ((some (([0, 0, 0, 0, 1, 2] : List Int) : List Int)).bind fun y225 => ((spec_l20Rd_pick.f k bt210.1 bt220.2 6).bind fun bt228 => (if 0 ≤ bt228.1 then (if bt228.1 < (y225.length : Int) then (if 0 ≤ (rd y225 bt228.1) then (if (rd y225 bt228.1) < (y222.length : Int) then (some (bt213.1, bt213.2.2.1, bt213.2.2.1, rd y222 (rd y225 bt228.1))) else (none)) else (none)) else (none)) else (none)))))) else ((spec_l20Rd_pick.f k bt210.1 bt218.2 40).bind fun bt232 => ((some (([bt232.1, (-1), 1001] : List Int) : List Int)).bind fun y234 => ((some (([0, 0, 0, 0, 1, 2] : List Int) : List Int)).bind fun y237 => ((spec_l20Rd_pick.f k bt210.1 bt232.2 6).bind fun bt240 => (if 0 ≤ bt240.1 then (if bt240.1 < (y237.length : Int) then (if 0 ≤ (rd y237 bt240.1) then (if (rd y237 bt240.1) < (y234.length : Int) then (some (bt213.1, bt213.2.1, bt213.2.2.1, rd y234 (rd y237 bt240.1))) else (none)) else (none)) else (none)) else (none)))))))))
theorem spec_DrawSubtaskWindow.mono : ∀ a0 k, LeO (spec_DrawSubtaskWindow.f k a0) (spec_DrawSubtaskWindow.f (k + 1) a0) := by
  intro a0 k
  unfold spec_DrawSubtaskWindow.f
  repeat' first
      | (with_reducible exact spec_l20Rd_pick.mono _ _ _ _)
      | (with_reducible exact spec_l20Task.mono _ _ _ _)
      | (with_reducible exact LeO.refl _)
      | (with_reducible exact LeO.none _)
      | (with_reducible refine LeO.ite ?_ ?_)
      | (with_reducible refine LeO.bind ?_ (fun _ => ?_))
      | exact spec_l20Rd_pick.mono _ _ _ _
      | exact spec_l20Task.mono _ _ _ _
      | exact LeO.none _
      | refine LeO.ite ?_ ?_
      | refine LeO.bind ?_ (fun _ => ?_)
def spec_DrawSubtaskWindow.T5 : Bool × List (List Nat × List Nat) := (true, [([], []), ([], []), ([1], [1]), ([2], [2]), ([], []), ([], []), ([5, 2], [5]), ([4, 6], [4, 6]), ([7], [7]), ([3, 8], [3, 8]), ([9], [9]), ([0, 6, 0], [0]), ([10, 11, 0, 1, 2, 3, 4, 5, 6, 7, 8, 9, 10, 11], [10])])
def spec_DrawSubtaskWindow.B5 : List Nat := [0, 0, 2, 6, 0, 0, 38, 118, 246, 510, 1022, 103, 4095]
theorem spec_DrawSubtaskWindow.tab5 : rtab .any (opsOf Try.f21 5) = spec_DrawSubtaskWindow.T5 := by kernel_rfl
theorem spec_DrawSubtaskWindow.bits5 : waitsOk spec_DrawSubtaskWindow.T5.2 spec_DrawSubtaskWindow.B5 = true := by kernel_rfl
set_option maxHeartbeats 8000000 in
set_option maxRecDepth 100000 in
theorem spec_DrawSubtaskWindow.calls (k : Nat) (A0 : Option Addr) (c0 : Nat) (l0 : List Int) (r1 : Int) (r2 : Int) (r3 : Int) (r4 : Int) (w : World) (hr0 : Kd.C (Kd.int .u8) w A0 l0.length l0) (hc0 : l0.length ≤ c0) (h : spec_DrawSubtaskWindow.f k l0 = some (r1, r2, r3, r4)) :
    Calls Try.prog 21 #[.slice A0 l0.length c0] w fun e w' => e = .returned (.tuple #[.agg #[.int .i64 r1, .int .i64 r2, .int .i64 r3], .int .i64 r4]) ∧ Below w.heap.size w w' := by
  have hu27 := Try.underlying27
  have HR0 := Aside0.mk hr0
  have HC0 := Aside0.mk hc0
  clear hr0 hc0
  have HB := Aside0.mk (Below.refl w.heap.size w)
  have H : ((spec_l20Open.f l0).bind fun bt210 => ((spec_l20Task.f k bt210.1 bt210.2 12).bind fun bt213 => ((spec_l20Rd_pick.f k bt210.1 bt213.2.2.2 4).bind fun bt218 => (if bt218.1 > 0 then ((spec_l20Rd_pick.f k bt210.1 bt218.2 40).bind fun bt220 => ((some (([bt220.1, (-1), 1001] : List Int) : List Int)).bind fun y222 => ((some (([0, 0, 0, 0, 1, 2] : List Int) : List Int)).bind fun y225 => ((spec_l20Rd_pick.f k bt210.1 bt220.2 6).bind fun bt228 => (if 0 ≤ bt228.1 then (if bt228.1 < (y225.length : Int) then (if 0 ≤ (rd y225 bt228.1) then (if (rd y225 bt228.1) < (y222.length : Int) then (some (bt213.1, bt213.2.2.1, bt213.2.2.1, rd y222 (rd y225 bt228.1))) else (none)) else (none)) else (none)) else (none)))))) else ((spec_l20Rd_pick.f k bt210.1 bt218.2 40).bind fun bt232 => ((some (([bt232.1, (-1), 1001] : List Int) : List Int)).bind fun y234 => ((some (([0, 0, 0, 0, 1, 2] : List Int) : List Int)).bind fun y237 => ((spec_l20Rd_pick.f k bt210.1 bt232.2 6).bind fun bt240 => (if 0 ≤ bt240.1 then (if bt240.1 < (y237.length : Int) then (if 0 ≤ (rd y237 bt240.1) then (if (rd y237 bt240.1) < (y234.length : Int) then (some (bt213.1, bt213.2.1, bt213.2.2.1, rd y234 (rd y237 bt240.1))) else (none)) else (none)) else (none)) else (none)))))))))) = some (r1, r2, r3, r4) := h
  clear h
  replace H := Option.bind_eq_some_iff.mp H
  obtain ⟨⟨t210, t211⟩, A20, H⟩ := H
  replace H : ((spec_l20Task.f k t210 t211 12).bind fun bt213 => ((spec_l20Rd_pick.f k t210 bt213.2.2.2 4).bind fun bt218 => (if bt218.1 > 0 then ((spec_l20Rd_pick.f k t210 bt218.2 40).bind fun bt220 => ((some (([bt220.1, (-1), 1001] : List Int) : List Int)).bind fun y222 => ((some (([0, 0, 0, 0, 1, 2] : List Int) : List Int)).bind fun y225 => ((spec_l20Rd_pick.f k t210 bt220.2 6).bind fun bt228 => (if 0 ≤ bt228.1 then (if bt228.1 < (y225.length : Int) then (if 0 ≤ (rd y225 bt228.1) then (if (rd y225 bt228.1) < (y222.length : Int) then (some (bt213.1, bt213.2.2.1, bt213.2.2.1, rd y222 (rd y225 bt228.1))) else (none)) else (none)) else (none)) else (none)))))) else ((spec_l20Rd_pick.f k t210 bt218.2 40).bind fun bt232 => ((some (([bt232.1, (-1), 1001] : List Int) : List Int)).bind fun y234 => ((some (([0, 0, 0, 0, 1, 2] : List Int) : List Int)).bind fun y237 => ((spec_l20Rd_pick.f k t210 bt232.2 6).bind fun bt240 => (if 0 ≤ bt240.1 then (if bt240.1 < (y237.length : Int) then (if 0 ≤ (rd y237 bt240.1) then (if (rd y237 bt240.1) < (y234.length : Int) then (some (bt213.1, bt213.2.1, bt213.2.2.1, rd y234 (rd y237 bt240.1))) else (none)) else (none)) else (none)) else (none))))))))) = some (r1, r2, r3, r4) := H
  have A2 := Aside0.mk A20
  clear A20
  replace H := Option.bind_eq_some_iff.mp H
  obtain ⟨⟨t213, t214, t215, t216⟩, A30, H⟩ := H
  replace H : ((spec_l20Rd_pick.f k t210 t216 4).bind fun bt218 => (if bt218.1 > 0 then ((spec_l20Rd_pick.f k t210 bt218.2 40).bind fun bt220 => ((some (([bt220.1, (-1), 1001] : List Int) : List Int)).bind fun y222 => ((some (([0, 0, 0, 0, 1, 2] : List Int) : List Int)).bind fun y225 => ((spec_l20Rd_pick.f k t210 bt220.2 6).bind fun bt228 => (if 0 ≤ bt228.1 then (if bt228.1 < (y225.length : Int) then (if 0 ≤ (rd y225 bt228.1) then (if (rd y225 bt228.1) < (y222.length : Int) then (some (t213, t215, t215, rd y222 (rd y225 bt228.1))) else (none)) else (none)) else (none)) else (none)))))) else ((spec_l20Rd_pick.f k t210 bt218.2 40).bind fun bt232 => ((some (([bt232.1, (-1), 1001] : List Int) : List Int)).bind fun y234 => ((some (([0, 0, 0, 0, 1, 2] : List Int) : List Int)).bind fun y237 => ((spec_l20Rd_pick.f k t210 bt232.2 6).bind fun bt240 => (if 0 ≤ bt240.1 then (if bt240.1 < (y237.length : Int) then (if 0 ≤ (rd y237 bt240.1) then (if (rd y237 bt240.1) < (y234.length : Int) then (some (t213, t214, t215, rd y234 (rd y237 bt240.1))) else (none)) else (none)) else (none)) else (none)))))))) = some (r1, r2, r3, r4) := H
  have A3 := Aside0.mk A30
  clear A30
  replace H := Option.bind_eq_some_iff.mp H
  obtain ⟨⟨t218, t219⟩, A40, H⟩ := H
  replace H : (if t218 > 0 then ((spec_l20Rd_pick.f k t210 t219 40).bind fun bt220 => ((some (([bt220.1, (-1), 1001] : List Int) : List Int)).bind fun y222 => ((some (([0, 0, 0, 0, 1, 2] : List Int) : List Int)).bind fun y225 => ((spec_l20Rd_pick.f k t210 bt220.2 6).bind fun bt228 => (if 0 ≤ bt228.1 then (if bt228.1 < (y225.length : Int) then (if 0 ≤ (rd y225 bt228.1) then (if (rd y225 bt228.1) < (y222.length : Int) then (some (t213, t215, t215, rd y222 (rd y225 bt228.1))) else (none)) else (none)) else (none)) else (none)))))) else ((spec_l20Rd_pick.f k t210 t219 40).bind fun bt232 => ((some (([bt232.1, (-1), 1001] : List Int) : List Int)).bind fun y234 => ((some (([0, 0, 0, 0, 1, 2] : List Int) : List Int)).bind fun y237 => ((spec_l20Rd_pick.f k t210 bt232.2 6).bind fun bt240 => (if 0 ≤ bt240.1 then (if bt240.1 < (y237.length : Int) then (if 0 ≤ (rd y237 bt240.1) then (if (rd y237 bt240.1) < (y234.length : Int) then (some (t213, t214, t215, rd y234 (rd y237 bt240.1))) else (none)) else (none)) else (none)) else (none))))))) = some (r1, r2, r3, r4) := H
  have A4 := Aside0.mk A40
  clear A40
  by_cases c5 : t218 > 0
  · rw [if_pos c5] at H
    have c5b0 : decide (0 < t218) = true := decide_eq_true c5
    clear c5
    replace H := Option.bind_eq_some_iff.mp H
    obtain ⟨⟨t220, t221⟩, A60, H⟩ := H
    replace H : ((some (([t220, (-1), 1001] : List Int) : List Int)).bind fun y222 => ((some (([0, 0, 0, 0, 1, 2] : List Int) : List Int)).bind fun y225 => ((spec_l20Rd_pick.f k t210 t221 6).bind fun bt228 => (if 0 ≤ bt228.1 then (if bt228.1 < (y225.length : Int) then (if 0 ≤ (rd y225 bt228.1) then (if (rd y225 bt228.1) < (y222.length : Int) then (some (t213, t215, t215, rd y222 (rd y225 bt228.1))) else (none)) else (none)) else (none)) else (none))))) = some (r1, r2, r3, r4) := H
    have A6 := Aside0.mk A60
    clear A60
    obtain ⟨y222, hy222⟩ : ∃ y_ : List Int, y_ = (([t220, (-1), 1001] : List Int)) := ⟨_, rfl⟩
    replace H : ((some (([0, 0, 0, 0, 1, 2] : List Int) : List Int)).bind fun y225 => ((spec_l20Rd_pick.f k t210 t221 6).bind fun bt228 => (if 0 ≤ bt228.1 then (if bt228.1 < (y225.length : Int) then (if 0 ≤ (rd y225 bt228.1) then (if (rd y225 bt228.1) < (y222.length : Int) then (some (t213, t215, t215, rd y222 (rd y225 bt228.1))) else (none)) else (none)) else (none)) else (none)))) = some (r1, r2, r3, r4) := by first | (rw [hy222]; with_reducible exact H) | (have H2_ := (Option.bind_some _ _).symm.trans H; rw [hy222]; with_reducible exact H2_) | (have H2_ := (Option.bind_some _ _).symm.trans H; with_reducible exact H2_) | with_reducible exact H | (rw [hy222]; exact H) | exact H
    have Ny222 := Aside0.mk hy222
    clear hy222
    obtain ⟨y225, hy225⟩ : ∃ y_ : List Int, y_ = (([0, 0, 0, 0, 1, 2] : List Int)) := ⟨_, rfl⟩
    replace H : ((spec_l20Rd_pick.f k t210 t221 6).bind fun bt228 => (if 0 ≤ bt228.1 then (if bt228.1 < (y225.length : Int) then (if 0 ≤ (rd y225 bt228.1) then (if (rd y225 bt228.1) < (y222.length : Int) then (some (t213, t215, t215, rd y222 (rd y225 bt228.1))) else (none)) else (none)) else (none)) else (none))) = some (r1, r2, r3, r4) := by first | (rw [hy225]; with_reducible exact H) | (have H2_ := (Option.bind_some _ _).symm.trans H; rw [hy225]; with_reducible exact H2_) | (have H2_ := (Option.bind_some _ _).symm.trans H; with_reducible exact H2_) | with_reducible exact H | (rw [hy225]; exact H) | exact H
    have Ny225 := Aside0.mk hy225
    clear hy225
    replace H := Option.bind_eq_some_iff.mp H
    obtain ⟨⟨t228, t229⟩, A70, H⟩ := H
    replace H : (if 0 ≤ t228 then (if t228 < (y225.length : Int) then (if 0 ≤ (rd y225 t228) then (if (rd y225 t228) < (y222.length : Int) then (some (t213, t215, t215, rd y222 (rd y225 t228))) else (none)) else (none)) else (none)) else (none)) = some (r1, r2, r3, r4) := H
    have A7 := Aside0.mk A70
    clear A70
    by_cases c8 : 0 ≤ t228
    · rw [if_pos c8] at H
      have c8b0 : decide (0 ≤ t228) = true := decide_eq_true c8
      clear c8
      by_cases c9 : t228 < (y225.length : Int)
      · rw [if_pos c9] at H
        have c9b0 : decide (t228 < (y225.length : Int)) = true := decide_eq_true c9
        clear c9
        by_cases c10 : 0 ≤ (rd y225 t228)
        · rw [if_pos c10] at H
          have c10b0 : decide (0 ≤ (rd y225 t228)) = true := decide_eq_true c10
          clear c10
          by_cases c11 : (rd y225 t228) < (y222.length : Int)
          · rw [if_pos c11] at H
            have c11b0 : decide ((rd y225 t228) < (y222.length : Int)) = true := decide_eq_true c11
            clear c11
            simp only [Option.some.injEq, Prod.mk.injEq] at H
            obtain ⟨rfl, rfl, rfl, rfl⟩ := H
            go_enter Try.func21, Try.ntmps21
            try go_wp2_with (first | ((with_reducible refine gate_dst (N := 2) rfl ?_); refine box_event ?hg (N := 2) ?hd (cs := #[.int .i64 0, .int .i64 0, .int .i64 0]) (t := 27) ?hr ?_; (case hd => rfl); (case hg => rfl); (case hr => first | (go_simp; done) | (go_simp; rfl)); intro gb209 hg w12 hbox hb; have n0_ := Aside0.mk (below_step (by repeat (first | (with_reducible first | exact HB.out | apply below_alloc | apply pw_below_drewN | apply below_drew1) | exact HB.out)) hb); have n1_ := Aside0.mk (hbox); have n2_ := Aside0.mk ((by rw [hg]; exact (below_size (by repeat (first | (with_reducible first | exact HB.out | apply below_alloc | apply pw_below_drewN | apply below_drew1) | exact HB.out))) : w.heap.size ≤ gb209)); have n3_ := Aside0.mk ((by rw [hg]; exact (below_size (by repeat (first | (with_reducible first | exact HB.out | apply below_alloc | apply pw_below_drewN | apply below_drew1) | exact HB.out))) : w.heap.size ≤ gb209)); clear HB; have HB := n0_; have BK209 := n1_; have GW209 := n2_; have GE209 := n3_; clear n0_ n1_ n2_ n3_; clear hb hbox hg) | ((with_reducible refine gate_callee (f := 58) rfl ?_); refine goesL_ (some 7) rfl rfl Try.func58 (by kernel_rfl) rfl #[.slice A0 l0.length c0] rfl (by (try simp only [List.map_toArray, List.map_cons, List.map_nil]); first | done | rfl | (simp only [List.length_drop, List.length_take]; rfl)) ?_; (with_reducible refine (spec_l20Open.calls _ _ l0 t210 t211 w _ ?side1 ?side2 ?side3 A2.out).mono ?_); (case side1 => repeat (first | (with_reducible first | exact HB.out | apply below_alloc | apply pw_below_drewN | apply below_drew1 | refine below_set ?_ GE209.out) | exact HB.out)); (case side2 => exact HR0.out); (case side3 => exact HC0.out); rintro e w13 ⟨g212, rfl, hi, hb, hb2⟩; refine ⟨_, rfl, ?_⟩; have n0_ := Aside0.mk (blk_below (g := gb209) (o := .cells #[.int .i64 0, .int .i64 0, .int .i64 0] 27 (0, 0)) (by (with_reducible repeat (first | refine blk_drewN ?_ _ | refine blk_drew ?_ | refine blk_alloc ?_ _)); exact BK209.out) hb2); have n1_ := Aside0.mk (hb); have n2_ := Aside0.mk (hi); have n3_ := Aside0.mk (IsS92.ne_blk hi (blk_below (g := gb209) (o := .cells #[.int .i64 0, .int .i64 0, .int .i64 0] 27 (0, 0)) (by (with_reducible repeat (first | refine blk_drewN ?_ _ | refine blk_drew ?_ | refine blk_alloc ?_ _)); exact BK209.out) hb2) (by decide)); have n4_ := Aside0.mk (Ne.symm (IsS92.ne_blk hi (blk_below (g := gb209) (o := .cells #[.int .i64 0, .int .i64 0, .int .i64 0] 27 (0, 0)) (by (with_reducible repeat (first | refine blk_drewN ?_ _ | refine blk_drew ?_ | refine blk_alloc ?_ _)); exact BK209.out) hb2) (by decide))); clear BK209; clear HB; have BK209 := n0_; have HB := n1_; have HI212 := n2_; have NB212_209 := n3_; have NB209_212 := n4_; clear n0_ n1_ n2_ n3_ n4_; (try clear hb); (try clear hb2); (try clear hk); (try clear hi)) | ((with_reducible refine gate_callee (f := 59) rfl ?_); refine goesL_ (some 9) rfl rfl Try.func59 (by kernel_rfl) rfl #[.pointer (some ⟨g212, 0, none⟩), .int .i64 12] rfl (by (try simp only [List.map_toArray, List.map_cons, List.map_nil]); first | done | rfl | (simp only [List.length_drop, List.length_take]; rfl)) ?_; (with_reducible refine (spec_l20Task.calls k g212 t210 t211 12 t213 t214 t215 t216 w _ ?side1 ?side2 A3.out).mono ?_); (case side1 => repeat (first | (with_reducible first | exact HI212.out | apply IsS92.alloc | apply IsS92.drewN | apply IsS92.drew | apply IsS92.set_1 | refine IsS92.far ?_ NB212_209.out _) | exact HI212.out)); (case side2 => repeat (first | (with_reducible first | exact HB.out | apply below_alloc | apply pw_below_drewN | apply below_drew1 | refine below_set ?_ (IsS92.ge HI212.out) | refine below_set ?_ GE209.out) | exact HB.out)); rintro e w14 ⟨rfl, hi, hb, hk⟩; refine ⟨_, rfl, ?_⟩; have n0_ := Aside0.mk (KeepBut.blk hk (g' := gb209) (o := .cells #[.int .i64 0, .int .i64 0, .int .i64 0] 27 (0, 0)) (by (with_reducible repeat (first | refine blk_drewN ?_ _ | refine blk_drew ?_ | refine blk_alloc ?_ _)); exact BK209.out) NB209_212.out (by simp)); have n1_ := Aside0.mk (hb); have n2_ := Aside0.mk (hi); clear BK209; clear HB; clear HI212; have BK209 := n0_; have HB := n1_; have HI212 := n2_; clear n0_ n1_ n2_; (try clear hb); (try clear hb2); (try clear hk); (try clear hi)) | ((with_reducible refine gate_dst (N := 5) rfl ?_); refine box_event ?hg (N := 5) ?hd (cs := #[.int .i64 0, .int .i64 0, .int .i64 0]) (t := 27) ?hr ?_; (case hd => rfl); (case hg => rfl); (case hr => first | (go_simp; done) | (go_simp; rfl)); intro gb217 hg w15 hbox hb; have n0_ := Aside0.mk (blk_below (g := gb209) (o := .cells #[.int .i64 0, .int .i64 0, .int .i64 0] 27 (0, 0)) (by (with_reducible repeat (first | refine blk_drewN ?_ _ | refine blk_drew ?_ | refine blk_alloc ?_ _)); exact BK209.out) hb); have n1_ := Aside0.mk (IsS92.below (by repeat (first | (with_reducible first | exact HI212.out | apply IsS92.alloc | apply IsS92.drewN | apply IsS92.drew | apply IsS92.set_1 | refine IsS92.far ?_ NB212_209.out _) | exact HI212.out)) hb); have n2_ := Aside0.mk (below_step (by repeat (first | (with_reducible first | exact HB.out | apply below_alloc | apply pw_below_drewN | apply below_drew1 | refine below_set ?_ (IsS92.ge HI212.out) | refine below_set ?_ GE209.out) | exact HB.out)) hb); have n3_ := Aside0.mk (hbox); have n4_ := Aside0.mk ((by rw [hg]; exact (below_size (by repeat (first | (with_reducible first | exact HB.out | apply below_alloc | apply pw_below_drewN | apply below_drew1 | refine below_set ?_ (IsS92.ge HI212.out) | refine below_set ?_ GE209.out) | exact HB.out))) : w.heap.size ≤ gb217)); have n5_ := Aside0.mk ((by rw [hg]; exact (below_size (by repeat (first | (with_reducible first | exact HB.out | apply below_alloc | apply pw_below_drewN | apply below_drew1 | refine below_set ?_ (IsS92.ge HI212.out) | refine below_set ?_ GE209.out) | exact HB.out))) : w.heap.size ≤ gb217)); have n6_ := Aside0.mk ((by rw [hg]; exact Nat.ne_of_lt (blk_lt (g := gb209) (o := .cells #[.int .i64 0, .int .i64 0, .int .i64 0] 27 (0, 0)) (by (with_reducible repeat (first | refine blk_drewN ?_ _ | refine blk_drew ?_ | refine blk_alloc ?_ _)); exact BK209.out)) : gb209 ≠ gb217)); have n7_ := Aside0.mk ((by rw [hg]; exact Nat.ne_of_gt (blk_lt (g := gb209) (o := .cells #[.int .i64 0, .int .i64 0, .int .i64 0] 27 (0, 0)) (by (with_reducible repeat (first | refine blk_drewN ?_ _ | refine blk_drew ?_ | refine blk_alloc ?_ _)); exact BK209.out)) : gb217 ≠ gb209)); have n8_ := Aside0.mk ((by rw [hg]; exact Nat.ne_of_lt (IsS92.lt (show IsS92 w _ g212 t210 t216 from by repeat (first | (with_reducible first | exact HI212.out | apply IsS92.alloc | apply IsS92.drewN | apply IsS92.drew | apply IsS92.set_1 | refine IsS92.far ?_ NB212_209.out _) | exact HI212.out))) : g212 ≠ gb217)); have n9_ := Aside0.mk ((by rw [hg]; exact Nat.ne_of_gt (IsS92.lt (show IsS92 w _ g212 t210 t216 from by repeat (first | (with_reducible first | exact HI212.out | apply IsS92.alloc | apply IsS92.drewN | apply IsS92.drew | apply IsS92.set_1 | refine IsS92.far ?_ NB212_209.out _) | exact HI212.out))) : gb217 ≠ g212)); clear BK209; clear HI212; clear HB; have BK209 := n0_; have HI212 := n1_; have HB := n2_; have BK217 := n3_; have GW217 := n4_; have GE217 := n5_; have NB209_217 := n6_; have NB217_209 := n7_; have NB212_217 := n8_; have NB217_212 := n9_; clear n0_ n1_ n2_ n3_ n4_ n5_ n6_ n7_ n8_ n9_; clear hb hbox hg; have hnb16 := NB217_209.out; have hnc16 := NB209_217.out; have hnb17 := NB217_212.out; have hnc17 := NB212_217.out; have hcz18_0 : w15.cell? ⟨gb217, 0, none⟩ = some (.int .i64 0) := (blk_cell BK217.out 0).trans rfl; have hcz18_1 : w15.cell? ⟨gb217, 1, none⟩ = some (.int .i64 0) := (blk_cell BK217.out 1).trans rfl; have hcz18_2 : w15.cell? ⟨gb217, 2, none⟩ = some (.int .i64 0) := (blk_cell BK217.out 2).trans rfl; have hfz18_0 := blk_frozen BK217.out 0; have hfz18_1 := blk_frozen BK217.out 1; have hfz18_2 := blk_frozen BK217.out 2) | ((with_reducible refine gate_callee (f := 60) rfl ?_); refine goesL_ (some 11) rfl rfl Try.func60 (by kernel_rfl) rfl #[.pointer (some ⟨g212, 0, none⟩), .int .i64 4] rfl (by (try simp only [List.map_toArray, List.map_cons, List.map_nil]); first | done | rfl | (simp only [List.length_drop, List.length_take]; rfl)) ?_; (with_reducible refine (spec_l20Rd_pick.calls k g212 t210 t216 4 t218 t219 w _ ?side1 ?side2 A4.out).mono ?_); (case side1 => repeat (first | (with_reducible first | exact HI212.out | apply IsS92.alloc | apply IsS92.drewN | apply IsS92.drew | apply IsS92.set_1 | refine IsS92.far ?_ NB212_209.out _ | refine IsS92.far ?_ NB212_217.out _) | exact HI212.out)); (case side2 => repeat (first | (with_reducible first | exact HB.out | apply below_alloc | apply pw_below_drewN | apply below_drew1 | refine below_set ?_ (IsS92.ge HI212.out) | refine below_set ?_ GE209.out | refine below_set ?_ GE217.out) | exact HB.out)); rintro e w19 ⟨rfl, hi, hb, hk⟩; refine ⟨_, rfl, ?_⟩; have n0_ := Aside0.mk (KeepBut.blk hk (g' := gb209) (o := .cells #[.int .i64 0, .int .i64 0, .int .i64 0] 27 (0, 0)) (by (with_reducible repeat (first | refine blk_drewN ?_ _ | refine blk_drew ?_ | refine blk_alloc ?_ _)); refine blk_far ?_ NB209_217.out _; (with_reducible repeat (first | refine blk_drewN ?_ _ | refine blk_drew ?_ | refine blk_alloc ?_ _)); refine blk_far ?_ NB209_217.out _; (with_reducible repeat (first | refine blk_drewN ?_ _ | refine blk_drew ?_ | refine blk_alloc ?_ _)); refine blk_far ?_ NB209_217.out _; (with_reducible repeat (first | refine blk_drewN ?_ _ | refine blk_drew ?_ | refine blk_alloc ?_ _)); exact BK209.out) NB209_212.out (by simp)); have n1_ := Aside0.mk (KeepBut.blk hk (g' := gb217) (o := .cells #[.int .i64 t213, .int .i64 t214, .int .i64 t215] 27 (0, 0)) (by (with_reducible repeat (first | refine blk_drewN ?_ _ | refine blk_drew ?_ | refine blk_alloc ?_ _)); refine blk_put (cs := #[.int .i64 t213, .int .i64 t214, .int .i64 0]) ?_ 2 _ rfl; (with_reducible repeat (first | refine blk_drewN ?_ _ | refine blk_drew ?_ | refine blk_alloc ?_ _)); refine blk_put (cs := #[.int .i64 t213, .int .i64 0, .int .i64 0]) ?_ 1 _ rfl; (with_reducible repeat (first | refine blk_drewN ?_ _ | refine blk_drew ?_ | refine blk_alloc ?_ _)); refine blk_put (cs := #[.int .i64 0, .int .i64 0, .int .i64 0]) ?_ 0 _ rfl; (with_reducible repeat (first | refine blk_drewN ?_ _ | refine blk_drew ?_ | refine blk_alloc ?_ _)); exact BK217.out) NB217_212.out (by simp)); have n2_ := Aside0.mk (hb); have n3_ := Aside0.mk (hi); clear BK209; clear BK217; clear HB; clear HI212; have BK209 := n0_; have BK217 := n1_; have HB := n2_; have HI212 := n3_; clear n0_ n1_ n2_ n3_; (try clear hb); (try clear hb2); (try clear hk); (try clear hi); have hcz20_0 : w19.cell? ⟨gb217, 0, none⟩ = some (.int .i64 t213) := (blk_cell BK217.out 0).trans rfl; have hcz20_1 : w19.cell? ⟨gb217, 1, none⟩ = some (.int .i64 t214) := (blk_cell BK217.out 1).trans rfl; have hcz20_2 : w19.cell? ⟨gb217, 2, none⟩ = some (.int .i64 t215) := (blk_cell BK217.out 2).trans rfl; have hfz20_0 := blk_frozen BK217.out 0; have hfz20_1 := blk_frozen BK217.out 1; have hfz20_2 := blk_frozen BK217.out 2))
            have pi230 : (0 ≤ (t228 : Int)) = True := eq_true (of_decide_eq_true (by first | (with_reducible assumption) | assumption))
            have qi230 : (t228 < (y225.length : Int)) = True := eq_true (of_decide_eq_true (by first | (with_reducible assumption) | assumption))
            have pi231 : (0 ≤ ((rd y225 t228) : Int)) = True := eq_true (of_decide_eq_true (by first | (with_reducible assumption) | assumption))
            have qi231 : ((rd y225 t228) < (y222.length : Int)) = True := eq_true (of_decide_eq_true (by first | (with_reducible assumption) | assumption))
            have n0_ : Aside0 ((w19.setCell ⟨gb217, 1, none⟩ (.int .i64 t215)).heap[gb209]? = some (.cells #[.int .i64 0, .int .i64 0, .int .i64 0] 27 (0, 0))) := ⟨by (with_reducible repeat (first | refine blk_drewN ?_ _ | refine blk_drew ?_ | refine blk_alloc ?_ _)); refine blk_far ?_ NB209_217.out _; (with_reducible repeat (first | refine blk_drewN ?_ _ | refine blk_drew ?_ | refine blk_alloc ?_ _)); exact BK209.out⟩
            have n1_ : Aside0 ((w19.setCell ⟨gb217, 1, none⟩ (.int .i64 t215)).heap[gb217]? = some (.cells #[.int .i64 t213, .int .i64 t215, .int .i64 t215] 27 (0, 0))) := ⟨by (with_reducible repeat (first | refine blk_drewN ?_ _ | refine blk_drew ?_ | refine blk_alloc ?_ _)); refine blk_put (cs := #[.int .i64 t213, .int .i64 t214, .int .i64 t215]) ?_ 1 _ rfl; (with_reducible repeat (first | refine blk_drewN ?_ _ | refine blk_drew ?_ | refine blk_alloc ?_ _)); exact BK217.out⟩
            have n2_ : Aside0 (IsS92 w (w19.setCell ⟨gb217, 1, none⟩ (.int .i64 t215)) g212 t210 t219) := ⟨by repeat (first | (with_reducible first | exact HI212.out | apply IsS92.alloc | apply IsS92.drewN | apply IsS92.drew | apply IsS92.set_1 | refine IsS92.far ?_ NB212_209.out _ | refine IsS92.far ?_ NB212_217.out _) | exact HI212.out)⟩
            have n3_ : Aside0 (Below w.heap.size w (w19.setCell ⟨gb217, 1, none⟩ (.int .i64 t215))) := ⟨by repeat (first | (with_reducible first | exact HB.out | apply below_alloc | apply pw_below_drewN | apply below_drew1 | refine below_set ?_ (IsS92.ge HI212.out) | refine below_set ?_ GE209.out | refine below_set ?_ GE217.out) | exact HB.out)⟩
            (try clear BK209)
            (try clear BK217)
            (try clear HI212)
            (try clear HB)
            generalize (w19.setCell ⟨gb217, 1, none⟩ (.int .i64 t215)) = w21 at n0_ n1_ n2_ n3_ ⊢
            have BK209 := n0_
            have BK217 := n1_
            have HI212 := n2_
            have HB := n3_
            clear n0_ n1_ n2_ n3_
            have n0_ := Aside0.mk (blk_drew BK209.out)
            have n1_ := Aside0.mk (blk_drew BK217.out)
            have n2_ := Aside0.mk (IsS92.drew HI212.out)
            have n3_ := Aside0.mk (below_drew1 HB.out)
            clear BK209
            clear BK217
            clear HI212
            clear HB
            have BK209 := n0_
            have BK217 := n1_
            have HI212 := n2_
            have HB := n3_
            clear n0_ n1_ n2_ n3_
            refine start_ (n := 13) (S := fun w' => True) (ds := []) #[false, false, false, false, false, false, false, false, false, false, false, false, false] (by kernel_rfl) rfl rfl trivial (fun hHeld => ?_); refine with_tabW spec_DrawSubtaskWindow.tab5 spec_DrawSubtaskWindow.bits5 (fun HT_ HW_ => ?_)
            generalize w21.drew = w22 at BK209 BK217 HI212 HB hHeld ⊢
            refine pure_ (i := 1) (N := some 17) (v := ?_) (a' := ?_) #[false, true, false, false, false, false, false, false, false, false, false, false, false] rfl rfl (any_of HT_.out (by kernel_rfl)) (fun _ _ _ h => h) (Or.inl ⟨by rfl, ?_⟩) ?_ ?_
            rotate_left
            · intro w'
              go_simp
              with_reducible rfl
            rotate_left
            · simp only [Act.put, List.setIfInBounds_toArray, List.set_cons_zero, List.set_cons_succ, i64_w, i32_w]
              rfl
            refine pure_ (i := 5) (N := some 21) (v := ?_) (a' := ?_) #[false, true, false, false, false, true, false, false, false, false, false, false, false] rfl rfl (any_of HT_.out (by kernel_rfl)) (fun _ _ _ h => h) (Or.inl ⟨by rfl, ?_⟩) ?_ ?_
            rotate_left
            · intro w'
              go_simp
              with_reducible rfl
            rotate_left
            · simp only [Act.put, List.setIfInBounds_toArray, List.set_cons_zero, List.set_cons_succ, i64_w, i32_w]
              rfl
            refine inv_at [0, 2, 3, 4, 6, 7, 8, 9, 10, 11, 12] (fun a0_ b a w' => ∃ (v223 : Value) (adz_v223 : Addr) (v226 : Value) (adz_v226 : Addr) (m7_ : Value) (m9_ : Value), a = putSel a0_ b [(0, 16, .agg #[.int .i64 t213, .int .i64 t215, .int .i64 t215]), (2, 18, .int .i64 t220), (3, 19, v223), (4, 20, v226), (6, 22, .int .i64 t228), (7, 23, m7_), (8, 24, .int .i64 (rd y225 t228)), (9, 25, m9_), (10, 26, .int .i64 (rd y222 (rd y225 t228))), (12, 3, .int .i64 (rd y222 (rd y225 t228)))] ∧ (b 11 = false → w'.heap[gb209]? = some (.cells #[.int .i64 0, .int .i64 0, .int .i64 0] 27 (0, 0))) ∧ (w'.heap[gb217]? = some (.cells #[.int .i64 t213, .int .i64 t215, .int .i64 t215] 27 (0, 0))) ∧ (b 2 = false → IsS92 w w' g212 t210 t219) ∧ (Below w.heap.size w w') ∧ (b 2 = true → b 6 = false → IsS92 w w' g212 t210 t221) ∧ (b 3 = true → Kd.R (Kd.int .i64) 3 w' w.heap.size (fun _ => True) v223 y222) ∧ (b 3 = true → ∃ c_, (v223 : Value) = .slice (some adz_v223) y222.length c_) ∧ (b 4 = true → Kd.R (Kd.int .i64) 3 w' w.heap.size (fun _ => True) v226 y225) ∧ (b 4 = true → ∃ c_, (v226 : Value) = .slice (some adz_v226) y225.length c_) ∧ (b 6 = true → IsS92 w w' g212 t210 t229) ∧ (b 11 = true → w'.heap[gb209]? = some (.cells #[.int .i64 t213, .int .i64 t215, .int .i64 t215] 27 (0, 0))) ∧ (b 7 = true → (m7_ : Value) = .pointer (some (adz_v226.add (t228).toNat))) ∧ (b 9 = true → (m9_ : Value) = .pointer (some (adz_v223.add ((rd y225 t228)).toNat)))) HT_.out HW_.out (by kernel_rfl) (by kernel_rfl) ?_ ?_ ?_
            · exact ⟨.bool false, ⟨0, 0, none⟩, .bool false, ⟨0, 0, none⟩, .bool false, .bool false, by simp only [putSel, Bool.false_eq_true, if_false], fun _ => BK209.out, BK217.out, fun _ => HI212.out, HB.out, fun h_ => absurd h_ (by decide), fun h_ => absurd h_ (by decide), fun h_ => absurd h_ (by decide), fun h_ => absurd h_ (by decide), fun h_ => absurd h_ (by decide), fun h_ => absurd h_ (by decide), fun h_ => absurd h_ (by decide), fun h_ => absurd h_ (by decide), fun h_ => absurd h_ (by decide)⟩
            · skip
              clear BK209 BK217 HB HI212
              refine steps_cons ?_ ?_
              · rintro b a w' ⟨v223, adz_v223, v226, adz_v226, m7_, m9_, ha, Q_BK209, Q_BK217, Q_HI212, Q_HB, Q_HI212_e2, Q_HO224, Q_HA_HO224, Q_HO227, Q_HA_HO227, Q_HI212_e6, Q_BK209_e11, Q_X7_, Q_X9_⟩ hb_ hon hoff
                refine ⟨_, rfl, fun K hK => ?_⟩
                have e5 : a.tmps[5]? = some (.pointer (some ⟨gb217, 0, none⟩)) := by rw [ha]; exact (putSel_off rfl).trans rfl
                replace ha := Aside0.mk ha
                have BK209 := Aside0.mk (Q_BK209 (hoff 11 (by kernel_rfl)))
                have BK217 := Aside0.mk Q_BK217
                have HB := Aside0.mk Q_HB
                have hc0_ : w'.cell? ⟨gb217, 0, none⟩ = some (.int .i64 t213) := (blk_cell BK217.out 0).trans rfl
                have hc1_ : w'.cell? ⟨gb217, 1, none⟩ = some (.int .i64 t215) := (blk_cell BK217.out 1).trans rfl
                have hc2_ : w'.cell? ⟨gb217, 2, none⟩ = some (.int .i64 t215) := (blk_cell BK217.out 2).trans rfl
                refine value_ (w1 := w') (v := .agg #[.int .i64 t213, .int .i64 t215, .int .i64 t215]) (by rfl) rfl ?_ ?_
                · go_simp
                  (try simp only [i64_w])
                  try rfl
                refine hK.out _ _ ⟨v223, adz_v223, v226, adz_v226, m7_, m9_, (by rw [ha.out]; exact putSel_upk 0 hb_ rfl rfl rfl), Q_BK209, Q_BK217, Q_HI212, Q_HB, Q_HI212_e2, Q_HO224, Q_HA_HO224, Q_HO227, Q_HA_HO227, Q_HI212_e6, fun h0_ => absurd ((hoff 11 (by kernel_rfl)).symm.trans h0_) (by decide), Q_X7_, Q_X9_⟩
              refine steps_cons ?_ ?_
              · rintro b a w' ⟨v223, adz_v223, v226, adz_v226, m7_, m9_, ha, Q_BK209, Q_BK217, Q_HI212, Q_HB, Q_HI212_e2, Q_HO224, Q_HA_HO224, Q_HO227, Q_HA_HO227, Q_HI212_e6, Q_BK209_e11, Q_X7_, Q_X9_⟩ hb_ hon hoff
                refine ⟨_, rfl, fun K hK => ?_⟩
                have e17 : a.tmps[17]? = some (.pointer (some ⟨g212, 0, none⟩)) := by rw [ha]; exact (putSel_off rfl).trans rfl
                replace ha := Aside0.mk ha
                have BK209 := Aside0.mk (Q_BK209 (hoff 11 (by kernel_rfl)))
                have BK217 := Aside0.mk Q_BK217
                have HI212 := Aside0.mk (Q_HI212 hb_)
                have HB := Aside0.mk Q_HB
                refine goes_ Try.func60 (by kernel_rfl) rfl #[.pointer (some ⟨g212, 0, none⟩), .int .i64 40] (by rfl) rfl rfl (by first | (simp only [List.map_toArray, List.map_cons, List.map_nil, Act.eval, Array.getD_eq_getD_getElem?, Option.getD_some, e17]; done) | (simp only [List.map_toArray, List.map_cons, List.map_nil, Act.eval, Array.getD_eq_getD_getElem?, Option.getD_some, e17]; rfl)) ?_
                with_reducible refine (spec_l20Rd_pick.calls k g212 t210 t219 40 t220 t221 w _ ?side1 ?side2 A6.out).mono ?_
                (case side1 => repeat (first | (with_reducible first | exact HI212.out | apply IsS92.alloc | apply IsS92.drewN | apply IsS92.drew | apply IsS92.set_1 | refine IsS92.far ?_ NB212_209.out _ | refine IsS92.far ?_ NB212_217.out _) | exact HI212.out))
                (case side2 => repeat (first | (with_reducible first | exact HB.out | apply below_alloc | apply pw_below_drewN | apply below_drew1 | refine below_set ?_ (IsS92.ge HI212.out) | refine below_set ?_ GE209.out | refine below_set ?_ GE217.out) | exact HB.out))
                rintro e w23 ⟨rfl, hi, hb, hk⟩
                refine ⟨_, rfl, ?_⟩
                have n0_ := Aside0.mk (KeepBut.blk hk (g' := gb209) (o := .cells #[.int .i64 0, .int .i64 0, .int .i64 0] 27 (0, 0)) (by (with_reducible repeat (first | refine blk_drewN ?_ _ | refine blk_drew ?_ | refine blk_alloc ?_ _)); exact BK209.out) NB209_212.out (by simp))
                have n1_ := Aside0.mk (KeepBut.blk hk (g' := gb217) (o := .cells #[.int .i64 t213, .int .i64 t215, .int .i64 t215] 27 (0, 0)) (by (with_reducible repeat (first | refine blk_drewN ?_ _ | refine blk_drew ?_ | refine blk_alloc ?_ _)); exact BK217.out) NB217_212.out (by simp))
                have n2_ := Aside0.mk (hb)
                have n3_ := Aside0.mk (hi)
                have z_HO227 := fun (h0_ : b 4 = true) => (show Kd.R (Kd.int .i64) 3 w23 w.heap.size (fun _ => True) v226 y225 from by first | exact (Kd.R_mono (Kd.R_keep (IsS92.apart (show IsS92 w _ g212 t210 t219 from by repeat (first | (with_reducible first | exact HI212.out | apply IsS92.alloc | apply IsS92.drewN | apply IsS92.drew | apply IsS92.set_1 | refine IsS92.far ?_ NB212_209.out _ | refine IsS92.far ?_ NB212_217.out _) | exact HI212.out)) (by (with_reducible repeat (first | apply Kd.R_alloc | apply Kd.R_drewN | apply Kd.R_drew)); exact (Q_HO227 h0_)) (by decide)) hk (fun _ h => h.2)) (fun _ h => h.1)) | exact Kd.R_mono (Kd.R_mono (Kd.R_keep (IsS92.apart (show IsS92 w _ g212 t210 t219 from by repeat (first | (with_reducible first | exact HI212.out | apply IsS92.alloc | apply IsS92.drewN | apply IsS92.drew | apply IsS92.set_1 | refine IsS92.far ?_ NB212_209.out _ | refine IsS92.far ?_ NB212_217.out _) | exact HI212.out)) (by (with_reducible repeat (first | apply Kd.R_alloc | apply Kd.R_drewN | apply Kd.R_drew)); exact (Q_HO227 h0_)) (by decide)) hk (fun _ h => h.2)) (fun _ h => h.1)) (fun _ h_ => by first | trivial | exact h_ | exact h_.1))
                clear BK209
                clear BK217
                clear HB
                clear HI212
                have BK209 := n0_
                have BK217 := n1_
                have HB := n2_
                have HI212 := n3_
                clear n0_ n1_ n2_ n3_
                (try clear hb)
                (try clear hb2)
                (try clear hk)
                (try clear hi)
                refine hK.out _ _ ⟨v223, adz_v223, v226, adz_v226, m7_, m9_, (by rw [ha.out]; exact putSel_upk 1 hb_ rfl rfl rfl), fun _ => (by (with_reducible repeat (first | refine blk_drewN ?_ _ | refine blk_drew ?_ | refine blk_alloc ?_ _)); exact BK209.out), (by (with_reducible repeat (first | refine blk_drewN ?_ _ | refine blk_drew ?_ | refine blk_alloc ?_ _)); exact BK217.out), fun h0_ => absurd ((up_self b 2).symm.trans h0_) (by decide), (by repeat (first | (with_reducible first | exact HB.out | apply below_alloc | apply pw_below_drewN | apply below_drew1 | refine below_set ?_ (IsS92.ge HI212.out) | refine below_set ?_ GE209.out | refine below_set ?_ GE217.out) | exact HB.out)), fun _ _ => (by repeat (first | (with_reducible first | exact HI212.out | apply IsS92.alloc | apply IsS92.drewN | apply IsS92.drew | apply IsS92.set_1 | refine IsS92.far ?_ NB212_209.out _ | refine IsS92.far ?_ NB212_217.out _) | exact HI212.out)), fun h0_ => absurd ((hoff 3 (by kernel_rfl)).symm.trans h0_) (by decide), fun h0_ => absurd ((hoff 3 (by kernel_rfl)).symm.trans h0_) (by decide), z_HO227, Q_HA_HO227, fun h0_ => absurd ((hoff 6 (by kernel_rfl)).symm.trans h0_) (by decide), fun h0_ => absurd ((hoff 11 (by kernel_rfl)).symm.trans h0_) (by decide), fun h0_ => absurd ((hoff 7 (by kernel_rfl)).symm.trans h0_) (by decide), fun h0_ => absurd ((hoff 9 (by kernel_rfl)).symm.trans h0_) (by decide)⟩
              refine steps_cons ?_ ?_
              · rintro b a w' ⟨v223, adz_v223, v226, adz_v226, m7_, m9_, ha, Q_BK209, Q_BK217, Q_HI212, Q_HB, Q_HI212_e2, Q_HO224, Q_HA_HO224, Q_HO227, Q_HA_HO227, Q_HI212_e6, Q_BK209_e11, Q_X7_, Q_X9_⟩ hb_ hon hoff
                refine ⟨_, rfl, fun K hK => ?_⟩
                have e18 : a.tmps[18]? = some (.int .i64 t220) := by rw [ha]; exact putSel_on (e := (2, 18, .int .i64 t220)) 1 rfl rfl (hon 2 (by kernel_rfl)) rfl
                replace ha := Aside0.mk ha
                have BK217 := Aside0.mk Q_BK217
                have HB := Aside0.mk Q_HB
                refine Kd.R_lit_step (Kd.int .i64) _ 3 ?hg (N := 19) ?hd (xs := ([t220, (-1), 1001] : List Int)) (inner := [.int .i64 t220, .int .i64 (-1), .int .i64 1001]) (ok := fun _ => True) (okp := fun _ => True) ?hr ?hp (fun _ hk => hk) trivial (Below.refl _ _) (Nat.le_refl _) (by simp) ?_; (case hd => rfl); (case hg => rfl); (case hr => first | (go_simp; done) | (go_simp; rfl)); (case hp => exact (Reps.one (show Kd.M (Kd.int .i64) _ _ _ t220 [.int .i64 t220] from rfl) (Reps.one (show Kd.M (Kd.int .i64) _ _ _ (-1) [.int .i64 (-1)] from rfl) (Reps.one (show Kd.M (Kd.int .i64) _ _ _ 1001 [.int .i64 1001] from rfl) (Reps.none _ _)))))
                intro v223 w25 ho26 hb hg_ hnew_
                clear hg_ hnew_
                (first | rw [← Ny222.out] at ho26 | (simp only [Int.reduceToNat] at ho26; rw [← Ny222.out] at ho26))
                have n0_ := Aside0.mk (Kd.R_lower ho26 (below_size (by repeat (first | (with_reducible first | exact HB.out | apply below_alloc | apply pw_below_drewN | apply below_drew1 | refine below_set ?_ GE209.out | refine below_set ?_ GE217.out) | exact HB.out))))
                have n3_ := Aside0.mk (blk_below (g := gb217) (o := .cells #[.int .i64 t213, .int .i64 t215, .int .i64 t215] 27 (0, 0)) (by (with_reducible repeat (first | refine blk_drewN ?_ _ | refine blk_drew ?_ | refine blk_alloc ?_ _)); exact BK217.out) hb)
                have n4_ := Aside0.mk (below_step (by repeat (first | (with_reducible first | exact HB.out | apply below_alloc | apply pw_below_drewN | apply below_drew1 | refine below_set ?_ GE209.out | refine below_set ?_ GE217.out) | exact HB.out)) hb)
                have z_BK209 := fun (h0_ : b 11 = false) => (show w25.heap[gb209]? = some (.cells #[.int .i64 0, .int .i64 0, .int .i64 0] 27 (0, 0)) from by first | exact (blk_below (g := gb209) (o := .cells #[.int .i64 0, .int .i64 0, .int .i64 0] 27 (0, 0)) (by (with_reducible repeat (first | refine blk_drewN ?_ _ | refine blk_drew ?_ | refine blk_alloc ?_ _)); exact (Q_BK209 h0_)) hb))
                have z_HI212_e2 := fun (h0_ : b 2 = true) (h1_ : b 6 = false) => (show IsS92 w w25 g212 t210 t221 from by first | exact (IsS92.below (by repeat (first | (with_reducible first | exact (Q_HI212_e2 h0_ h1_) | apply IsS92.alloc | apply IsS92.drewN | apply IsS92.drew | apply IsS92.set_1 | refine IsS92.far ?_ NB212_209.out _ | refine IsS92.far ?_ NB212_217.out _) | exact (Q_HI212_e2 h0_ h1_))) hb))
                have z_HO227 := fun (h0_ : b 4 = true) => (show Kd.R (Kd.int .i64) 3 w25 w.heap.size (fun _ => True) v226 y225 from by first | exact (Kd.R_elder' (by (with_reducible repeat (first | apply Kd.R_alloc | apply Kd.R_drewN | apply Kd.R_drew)); exact (Q_HO227 h0_)) (Kd.R_base ho26) hb) | exact Kd.R_mono (Kd.R_elder' (by (with_reducible repeat (first | apply Kd.R_alloc | apply Kd.R_drewN | apply Kd.R_drew)); exact (Q_HO227 h0_)) (Kd.R_base ho26) hb) (fun _ h_ => by first | trivial | exact h_ | exact h_.1))
                have z_HI212_e6 := fun (h0_ : b 6 = true) => (show IsS92 w w25 g212 t210 t229 from by first | exact (IsS92.below (by repeat (first | (with_reducible first | exact (Q_HI212_e6 h0_) | apply IsS92.alloc | apply IsS92.drewN | apply IsS92.drew | apply IsS92.set_1 | refine IsS92.far ?_ NB212_209.out _ | refine IsS92.far ?_ NB212_217.out _) | exact (Q_HI212_e6 h0_))) hb))
                have z_BK209_e11 := fun (h0_ : b 11 = true) => (show w25.heap[gb209]? = some (.cells #[.int .i64 t213, .int .i64 t215, .int .i64 t215] 27 (0, 0)) from by first | exact (blk_below (g := gb209) (o := .cells #[.int .i64 t213, .int .i64 t215, .int .i64 t215] 27 (0, 0)) (by (with_reducible repeat (first | refine blk_drewN ?_ _ | refine blk_drew ?_ | refine blk_alloc ?_ _)); exact (Q_BK209_e11 h0_)) hb))
                clear BK217
                clear HB
                have HO224 := n0_
                have BK217 := n3_
                have HB := n4_
                clear n0_ n3_ n4_
                clear hb ho26
                obtain ⟨Ao27, co27, eo27⟩ := Kd.R_slice HO224.out
                subst eo27
                obtain ⟨ado27, fo27, _⟩ := Kd.at_int (Kd.R_reads' HO224.out).2.2 0 (by decide) (by rw [Ny222.out]; simp)
                cases fo27
                refine hK.out _ _ ⟨.slice (some ado27) y222.length co27, ado27, v226, adz_v226, m7_, m9_, (by rw [ha.out]; exact putSel_upk 2 hb_ rfl rfl rfl), z_BK209, (by (with_reducible repeat (first | refine blk_drewN ?_ _ | refine blk_drew ?_ | refine blk_alloc ?_ _)); exact BK217.out), fun h0_ => absurd ((hon 2 (by kernel_rfl)).symm.trans h0_) (by decide), (by repeat (first | (with_reducible first | exact HB.out | apply below_alloc | apply pw_below_drewN | apply below_drew1 | refine below_set ?_ GE209.out | refine below_set ?_ GE217.out) | exact HB.out)), z_HI212_e2, fun _ => (by (with_reducible repeat (first | apply Kd.R_alloc | apply Kd.R_drewN | apply Kd.R_drew)); exact HO224.out), fun _ => ⟨_, rfl⟩, z_HO227, Q_HA_HO227, z_HI212_e6, z_BK209_e11, Q_X7_, fun h0_ => absurd ((hoff 9 (by kernel_rfl)).symm.trans h0_) (by decide)⟩
              refine steps_cons ?_ ?_
              · rintro b a w' ⟨v223, adz_v223, v226, adz_v226, m7_, m9_, ha, Q_BK209, Q_BK217, Q_HI212, Q_HB, Q_HI212_e2, Q_HO224, Q_HA_HO224, Q_HO227, Q_HA_HO227, Q_HI212_e6, Q_BK209_e11, Q_X7_, Q_X9_⟩ hb_ hon hoff
                refine ⟨_, rfl, fun K hK => ?_⟩
                replace ha := Aside0.mk ha
                have BK217 := Aside0.mk Q_BK217
                have HB := Aside0.mk Q_HB
                refine Kd.R_lit_step (Kd.int .i64) _ 3 ?hg (N := 20) ?hd (xs := ([0, 0, 0, 0, 1, 2] : List Int)) (inner := [.int .i64 0, .int .i64 0, .int .i64 0, .int .i64 0, .int .i64 1, .int .i64 2]) (ok := fun _ => True) (okp := fun _ => True) ?hr ?hp (fun _ hk => hk) trivial (Below.refl _ _) (Nat.le_refl _) (by simp) ?_; (case hd => rfl); (case hg => rfl); (case hr => first | (go_simp; done) | (go_simp; rfl)); (case hp => exact (Reps.one (show Kd.M (Kd.int .i64) _ _ _ 0 [.int .i64 0] from rfl) (Reps.one (show Kd.M (Kd.int .i64) _ _ _ 0 [.int .i64 0] from rfl) (Reps.one (show Kd.M (Kd.int .i64) _ _ _ 0 [.int .i64 0] from rfl) (Reps.one (show Kd.M (Kd.int .i64) _ _ _ 0 [.int .i64 0] from rfl) (Reps.one (show Kd.M (Kd.int .i64) _ _ _ 1 [.int .i64 1] from rfl) (Reps.one (show Kd.M (Kd.int .i64) _ _ _ 2 [.int .i64 2] from rfl) (Reps.none _ _))))))))
                intro v226 w23 ho24 hb hg_ hnew_
                clear hg_ hnew_
                (first | rw [← Ny225.out] at ho24 | (simp only [Int.reduceToNat] at ho24; rw [← Ny225.out] at ho24))
                have n0_ := Aside0.mk (Kd.R_lower ho24 (below_size (by repeat (first | (with_reducible first | exact HB.out | apply below_alloc | apply pw_below_drewN | apply below_drew1 | refine below_set ?_ GE209.out | refine below_set ?_ GE217.out) | exact HB.out))))
                have n3_ := Aside0.mk (blk_below (g := gb217) (o := .cells #[.int .i64 t213, .int .i64 t215, .int .i64 t215] 27 (0, 0)) (by (with_reducible repeat (first | refine blk_drewN ?_ _ | refine blk_drew ?_ | refine blk_alloc ?_ _)); exact BK217.out) hb)
                have n4_ := Aside0.mk (below_step (by repeat (first | (with_reducible first | exact HB.out | apply below_alloc | apply pw_below_drewN | apply below_drew1 | refine below_set ?_ GE209.out | refine below_set ?_ GE217.out) | exact HB.out)) hb)
                have z_BK209 := fun (h0_ : b 11 = false) => (show w23.heap[gb209]? = some (.cells #[.int .i64 0, .int .i64 0, .int .i64 0] 27 (0, 0)) from by first | exact (blk_below (g := gb209) (o := .cells #[.int .i64 0, .int .i64 0, .int .i64 0] 27 (0, 0)) (by (with_reducible repeat (first | refine blk_drewN ?_ _ | refine blk_drew ?_ | refine blk_alloc ?_ _)); exact (Q_BK209 h0_)) hb))
                have z_HI212 := fun (h0_ : b 2 = false) => (show IsS92 w w23 g212 t210 t219 from by first | exact (IsS92.below (by repeat (first | (with_reducible first | exact (Q_HI212 h0_) | apply IsS92.alloc | apply IsS92.drewN | apply IsS92.drew | apply IsS92.set_1 | refine IsS92.far ?_ NB212_209.out _ | refine IsS92.far ?_ NB212_217.out _) | exact (Q_HI212 h0_))) hb))
                have z_HI212_e2 := fun (h0_ : b 2 = true) (h1_ : b 6 = false) => (show IsS92 w w23 g212 t210 t221 from by first | exact (IsS92.below (by repeat (first | (with_reducible first | exact (Q_HI212_e2 h0_ h1_) | apply IsS92.alloc | apply IsS92.drewN | apply IsS92.drew | apply IsS92.set_1 | refine IsS92.far ?_ NB212_209.out _ | refine IsS92.far ?_ NB212_217.out _) | exact (Q_HI212_e2 h0_ h1_))) hb))
                have z_HO224 := fun (h0_ : b 3 = true) => (show Kd.R (Kd.int .i64) 3 w23 w.heap.size (fun _ => True) v223 y222 from by first | exact (Kd.R_elder' (by (with_reducible repeat (first | apply Kd.R_alloc | apply Kd.R_drewN | apply Kd.R_drew)); exact (Q_HO224 h0_)) (Kd.R_base ho24) hb) | exact Kd.R_mono (Kd.R_elder' (by (with_reducible repeat (first | apply Kd.R_alloc | apply Kd.R_drewN | apply Kd.R_drew)); exact (Q_HO224 h0_)) (Kd.R_base ho24) hb) (fun _ h_ => by first | trivial | exact h_ | exact h_.1))
                have z_HI212_e6 := fun (h0_ : b 6 = true) => (show IsS92 w w23 g212 t210 t229 from by first | exact (IsS92.below (by repeat (first | (with_reducible first | exact (Q_HI212_e6 h0_) | apply IsS92.alloc | apply IsS92.drewN | apply IsS92.drew | apply IsS92.set_1 | refine IsS92.far ?_ NB212_209.out _ | refine IsS92.far ?_ NB212_217.out _) | exact (Q_HI212_e6 h0_))) hb))
                have z_BK209_e11 := fun (h0_ : b 11 = true) => (show w23.heap[gb209]? = some (.cells #[.int .i64 t213, .int .i64 t215, .int .i64 t215] 27 (0, 0)) from by first | exact (blk_below (g := gb209) (o := .cells #[.int .i64 t213, .int .i64 t215, .int .i64 t215] 27 (0, 0)) (by (with_reducible repeat (first | refine blk_drewN ?_ _ | refine blk_drew ?_ | refine blk_alloc ?_ _)); exact (Q_BK209_e11 h0_)) hb))
                clear BK217
                clear HB
                have HO227 := n0_
                have BK217 := n3_
                have HB := n4_
                clear n0_ n3_ n4_
                clear hb ho24
                obtain ⟨Ao25, co25, eo25⟩ := Kd.R_slice HO227.out
                subst eo25
                obtain ⟨ado25, fo25, _⟩ := Kd.at_int (Kd.R_reads' HO227.out).2.2 0 (by decide) (by rw [Ny225.out]; simp)
                cases fo25
                refine hK.out _ _ ⟨v223, adz_v223, .slice (some ado25) y225.length co25, ado25, m7_, m9_, (by rw [ha.out]; exact putSel_upk 3 hb_ rfl rfl rfl), z_BK209, (by (with_reducible repeat (first | refine blk_drewN ?_ _ | refine blk_drew ?_ | refine blk_alloc ?_ _)); exact BK217.out), z_HI212, (by repeat (first | (with_reducible first | exact HB.out | apply below_alloc | apply pw_below_drewN | apply below_drew1 | refine below_set ?_ GE209.out | refine below_set ?_ GE217.out) | exact HB.out)), z_HI212_e2, z_HO224, Q_HA_HO224, fun _ => (by (with_reducible repeat (first | apply Kd.R_alloc | apply Kd.R_drewN | apply Kd.R_drew)); exact HO227.out), fun _ => ⟨_, rfl⟩, z_HI212_e6, z_BK209_e11, fun h0_ => absurd ((hoff 7 (by kernel_rfl)).symm.trans h0_) (by decide), fun h0_ => absurd ((hoff 9 (by kernel_rfl)).symm.trans h0_) (by decide)⟩
              refine steps_cons ?_ ?_
              · rintro b a w' ⟨v223, adz_v223, v226, adz_v226, m7_, m9_, ha, Q_BK209, Q_BK217, Q_HI212, Q_HB, Q_HI212_e2, Q_HO224, Q_HA_HO224, Q_HO227, Q_HA_HO227, Q_HI212_e6, Q_BK209_e11, Q_X7_, Q_X9_⟩ hb_ hon hoff
                refine ⟨_, rfl, fun K hK => ?_⟩
                have e21 : a.tmps[21]? = some (.pointer (some ⟨g212, 0, none⟩)) := by rw [ha]; exact (putSel_off rfl).trans rfl
                replace ha := Aside0.mk ha
                have BK209 := Aside0.mk (Q_BK209 (hoff 11 (by kernel_rfl)))
                have BK217 := Aside0.mk Q_BK217
                have HB := Aside0.mk Q_HB
                have HI212 := Aside0.mk (Q_HI212_e2 (hon 2 (by kernel_rfl)) hb_)
                refine goes_ Try.func60 (by kernel_rfl) rfl #[.pointer (some ⟨g212, 0, none⟩), .int .i64 6] (by rfl) rfl rfl (by first | (simp only [List.map_toArray, List.map_cons, List.map_nil, Act.eval, Array.getD_eq_getD_getElem?, Option.getD_some, e21]; done) | (simp only [List.map_toArray, List.map_cons, List.map_nil, Act.eval, Array.getD_eq_getD_getElem?, Option.getD_some, e21]; rfl)) ?_
                with_reducible refine (spec_l20Rd_pick.calls k g212 t210 t221 6 t228 t229 w _ ?side1 ?side2 A7.out).mono ?_
                (case side1 => repeat (first | (with_reducible first | exact HI212.out | apply IsS92.alloc | apply IsS92.drewN | apply IsS92.drew | apply IsS92.set_1 | refine IsS92.far ?_ NB212_209.out _ | refine IsS92.far ?_ NB212_217.out _) | exact HI212.out))
                (case side2 => repeat (first | (with_reducible first | exact HB.out | apply below_alloc | apply pw_below_drewN | apply below_drew1 | refine below_set ?_ (IsS92.ge HI212.out) | refine below_set ?_ GE209.out | refine below_set ?_ GE217.out) | exact HB.out))
                rintro e w25 ⟨rfl, hi, hb, hk⟩
                refine ⟨_, rfl, ?_⟩
                have n0_ := Aside0.mk (KeepBut.blk hk (g' := gb209) (o := .cells #[.int .i64 0, .int .i64 0, .int .i64 0] 27 (0, 0)) (by (with_reducible repeat (first | refine blk_drewN ?_ _ | refine blk_drew ?_ | refine blk_alloc ?_ _)); exact BK209.out) NB209_212.out (by simp))
                have n1_ := Aside0.mk (KeepBut.blk hk (g' := gb217) (o := .cells #[.int .i64 t213, .int .i64 t215, .int .i64 t215] 27 (0, 0)) (by (with_reducible repeat (first | refine blk_drewN ?_ _ | refine blk_drew ?_ | refine blk_alloc ?_ _)); exact BK217.out) NB217_212.out (by simp))
                have n2_ := Aside0.mk (hb)
                have n3_ := Aside0.mk (hi)
                have z_HO224 := fun (h0_ : b 3 = true) => (show Kd.R (Kd.int .i64) 3 w25 w.heap.size (fun _ => True) v223 y222 from by first | exact (Kd.R_mono (Kd.R_keep (IsS92.apart (show IsS92 w _ g212 t210 t221 from by repeat (first | (with_reducible first | exact HI212.out | apply IsS92.alloc | apply IsS92.drewN | apply IsS92.drew | apply IsS92.set_1 | refine IsS92.far ?_ NB212_209.out _ | refine IsS92.far ?_ NB212_217.out _) | exact HI212.out)) (by (with_reducible repeat (first | apply Kd.R_alloc | apply Kd.R_drewN | apply Kd.R_drew)); exact (Q_HO224 h0_)) (by decide)) hk (fun _ h => h.2)) (fun _ h => h.1)) | exact Kd.R_mono (Kd.R_mono (Kd.R_keep (IsS92.apart (show IsS92 w _ g212 t210 t221 from by repeat (first | (with_reducible first | exact HI212.out | apply IsS92.alloc | apply IsS92.drewN | apply IsS92.drew | apply IsS92.set_1 | refine IsS92.far ?_ NB212_209.out _ | refine IsS92.far ?_ NB212_217.out _) | exact HI212.out)) (by (with_reducible repeat (first | apply Kd.R_alloc | apply Kd.R_drewN | apply Kd.R_drew)); exact (Q_HO224 h0_)) (by decide)) hk (fun _ h => h.2)) (fun _ h => h.1)) (fun _ h_ => by first | trivial | exact h_ | exact h_.1))
                have z_HO227 := fun (h0_ : b 4 = true) => (show Kd.R (Kd.int .i64) 3 w25 w.heap.size (fun _ => True) v226 y225 from by first | exact (Kd.R_mono (Kd.R_keep (IsS92.apart (show IsS92 w _ g212 t210 t221 from by repeat (first | (with_reducible first | exact HI212.out | apply IsS92.alloc | apply IsS92.drewN | apply IsS92.drew | apply IsS92.set_1 | refine IsS92.far ?_ NB212_209.out _ | refine IsS92.far ?_ NB212_217.out _) | exact HI212.out)) (by (with_reducible repeat (first | apply Kd.R_alloc | apply Kd.R_drewN | apply Kd.R_drew)); exact (Q_HO227 h0_)) (by decide)) hk (fun _ h => h.2)) (fun _ h => h.1)) | exact Kd.R_mono (Kd.R_mono (Kd.R_keep (IsS92.apart (show IsS92 w _ g212 t210 t221 from by repeat (first | (with_reducible first | exact HI212.out | apply IsS92.alloc | apply IsS92.drewN | apply IsS92.drew | apply IsS92.set_1 | refine IsS92.far ?_ NB212_209.out _ | refine IsS92.far ?_ NB212_217.out _) | exact HI212.out)) (by (with_reducible repeat (first | apply Kd.R_alloc | apply Kd.R_drewN | apply Kd.R_drew)); exact (Q_HO227 h0_)) (by decide)) hk (fun _ h => h.2)) (fun _ h => h.1)) (fun _ h_ => by first | trivial | exact h_ | exact h_.1))
                clear BK209
                clear BK217
                clear HB
                clear HI212
                have BK209 := n0_
                have BK217 := n1_
                have HB := n2_
                have HI212 := n3_
                clear n0_ n1_ n2_ n3_
                (try clear hb)
                (try clear hb2)
                (try clear hk)
                (try clear hi)
                refine hK.out _ _ ⟨v223, adz_v223, v226, adz_v226, m7_, m9_, (by rw [ha.out]; exact putSel_upk 4 hb_ rfl rfl rfl), fun _ => (by (with_reducible repeat (first | refine blk_drewN ?_ _ | refine blk_drew ?_ | refine blk_alloc ?_ _)); exact BK209.out), (by (with_reducible repeat (first | refine blk_drewN ?_ _ | refine blk_drew ?_ | refine blk_alloc ?_ _)); exact BK217.out), fun h0_ => absurd ((hon 2 (by kernel_rfl)).symm.trans h0_) (by decide), (by repeat (first | (with_reducible first | exact HB.out | apply below_alloc | apply pw_below_drewN | apply below_drew1 | refine below_set ?_ (IsS92.ge HI212.out) | refine below_set ?_ GE209.out | refine below_set ?_ GE217.out) | exact HB.out)), fun _ h1_ => absurd ((up_self b 6).symm.trans h1_) (by decide), z_HO224, Q_HA_HO224, z_HO227, Q_HA_HO227, fun _ => (by repeat (first | (with_reducible first | exact HI212.out | apply IsS92.alloc | apply IsS92.drewN | apply IsS92.drew | apply IsS92.set_1 | refine IsS92.far ?_ NB212_209.out _ | refine IsS92.far ?_ NB212_217.out _) | exact HI212.out)), fun h0_ => absurd ((hoff 11 (by kernel_rfl)).symm.trans h0_) (by decide), fun h0_ => absurd ((hoff 7 (by kernel_rfl)).symm.trans h0_) (by decide), fun h0_ => absurd ((hoff 9 (by kernel_rfl)).symm.trans h0_) (by decide)⟩
              refine steps_cons ?_ ?_
              · rintro b a w' ⟨v223, adz_v223, v226, adz_v226, m7_, m9_, ha, Q_BK209, Q_BK217, Q_HI212, Q_HB, Q_HI212_e2, Q_HO224, Q_HA_HO224, Q_HO227, Q_HA_HO227, Q_HI212_e6, Q_BK209_e11, Q_X7_, Q_X9_⟩ hb_ hon hoff
                refine ⟨_, rfl, fun K hK => ?_⟩
                have e20 : a.tmps[20]? = some (v226) := by rw [ha]; exact putSel_on (e := (4, 20, v226)) 3 rfl rfl (hon 4 (by kernel_rfl)) rfl
                have e22 : a.tmps[22]? = some (.int .i64 t228) := by rw [ha]; exact putSel_on (e := (6, 22, .int .i64 t228)) 4 rfl rfl (hon 6 (by kernel_rfl)) rfl
                replace ha := Aside0.mk ha
                have BK217 := Aside0.mk Q_BK217
                have HB := Aside0.mk Q_HB
                have HO227 := Aside0.mk (Q_HO227 (hon 4 (by kernel_rfl)))
                have HA_HO227 := Aside0.mk (Q_HA_HO227 (hon 4 (by kernel_rfl)))
                have HI212 := Aside0.mk (Q_HI212_e6 (hon 6 (by kernel_rfl)))
                obtain ⟨c_, hv_⟩ := HA_HO227.out
                rw [hv_] at e20
                refine value_ (w1 := w') (v := .pointer (some (adz_v226.add (t228).toNat))) (by rfl) rfl ?_ ?_
                · go_simp
                  (try simp only [i64_w])
                  try rfl
                refine hK.out _ _ ⟨v223, adz_v223, v226, adz_v226, (.pointer (some (adz_v226.add (t228).toNat))), m9_, (by rw [ha.out]; exact putSel_upk 5 hb_ rfl rfl rfl), Q_BK209, Q_BK217, fun h0_ => absurd ((hon 2 (by kernel_rfl)).symm.trans h0_) (by decide), Q_HB, fun _ h1_ => absurd ((hon 6 (by kernel_rfl)).symm.trans h1_) (by decide), Q_HO224, Q_HA_HO224, Q_HO227, Q_HA_HO227, Q_HI212_e6, Q_BK209_e11, fun _ => rfl, fun h0_ => absurd ((hoff 9 (by kernel_rfl)).symm.trans h0_) (by decide)⟩
              refine steps_cons ?_ ?_
              · rintro b a w' ⟨v223, adz_v223, v226, adz_v226, m7_, m9_, ha, Q_BK209, Q_BK217, Q_HI212, Q_HB, Q_HI212_e2, Q_HO224, Q_HA_HO224, Q_HO227, Q_HA_HO227, Q_HI212_e6, Q_BK209_e11, Q_X7_, Q_X9_⟩ hb_ hon hoff
                refine ⟨_, rfl, fun K hK => ?_⟩
                have e23 : a.tmps[23]? = some (m7_) := by rw [ha]; exact putSel_on (e := (7, 23, m7_)) 5 rfl rfl (hon 7 (by kernel_rfl)) rfl
                rw [Q_X7_ (hon 7 (by kernel_rfl))] at e23
                replace ha := Aside0.mk ha
                have BK217 := Aside0.mk Q_BK217
                have HB := Aside0.mk Q_HB
                have HO227 := Aside0.mk (Q_HO227 (hon 4 (by kernel_rfl)))
                have HA_HO227 := Aside0.mk (Q_HA_HO227 (hon 4 (by kernel_rfl)))
                have HI212 := Aside0.mk (Q_HI212_e6 (hon 6 (by kernel_rfl)))
                obtain ⟨c_, hv_⟩ := HA_HO227.out
                have hF_ := HO227.out
                rw [hv_] at hF_
                obtain ⟨ad_, ea_, hx_⟩ := Kd.at_int (Kd.R_reads' hF_).2.2 t228 (of_eq_true pi230) (of_eq_true qi230)
                cases ea_
                refine value_ (w1 := w') (v := .int .i64 (rd y225 t228)) (by rfl) rfl ?_ ?_
                · go_simp
                  (try simp only [i64_w])
                  try rfl
                refine hK.out _ _ ⟨v223, adz_v223, v226, adz_v226, m7_, m9_, (by rw [ha.out]; exact putSel_upk 6 hb_ rfl rfl rfl), Q_BK209, Q_BK217, fun h0_ => absurd ((hon 2 (by kernel_rfl)).symm.trans h0_) (by decide), Q_HB, fun _ h1_ => absurd ((hon 6 (by kernel_rfl)).symm.trans h1_) (by decide), Q_HO224, Q_HA_HO224, Q_HO227, Q_HA_HO227, Q_HI212_e6, Q_BK209_e11, Q_X7_, fun h0_ => absurd ((hoff 9 (by kernel_rfl)).symm.trans h0_) (by decide)⟩
              refine steps_cons ?_ ?_
              · rintro b a w' ⟨v223, adz_v223, v226, adz_v226, m7_, m9_, ha, Q_BK209, Q_BK217, Q_HI212, Q_HB, Q_HI212_e2, Q_HO224, Q_HA_HO224, Q_HO227, Q_HA_HO227, Q_HI212_e6, Q_BK209_e11, Q_X7_, Q_X9_⟩ hb_ hon hoff
                refine ⟨_, rfl, fun K hK => ?_⟩
                have e19 : a.tmps[19]? = some (v223) := by rw [ha]; exact putSel_on (e := (3, 19, v223)) 2 rfl rfl (hon 3 (by kernel_rfl)) rfl
                have e24 : a.tmps[24]? = some (.int .i64 (rd y225 t228)) := by rw [ha]; exact putSel_on (e := (8, 24, .int .i64 (rd y225 t228))) 6 rfl rfl (hon 8 (by kernel_rfl)) rfl
                replace ha := Aside0.mk ha
                have BK217 := Aside0.mk Q_BK217
                have HB := Aside0.mk Q_HB
                have HO224 := Aside0.mk (Q_HO224 (hon 3 (by kernel_rfl)))
                have HA_HO224 := Aside0.mk (Q_HA_HO224 (hon 3 (by kernel_rfl)))
                have HO227 := Aside0.mk (Q_HO227 (hon 4 (by kernel_rfl)))
                have HA_HO227 := Aside0.mk (Q_HA_HO227 (hon 4 (by kernel_rfl)))
                have HI212 := Aside0.mk (Q_HI212_e6 (hon 6 (by kernel_rfl)))
                obtain ⟨c_, hv_⟩ := HA_HO224.out
                rw [hv_] at e19
                refine value_ (w1 := w') (v := .pointer (some (adz_v223.add ((rd y225 t228)).toNat))) (by rfl) rfl ?_ ?_
                · go_simp
                  (try simp only [i64_w])
                  try rfl
                refine hK.out _ _ ⟨v223, adz_v223, v226, adz_v226, m7_, (.pointer (some (adz_v223.add ((rd y225 t228)).toNat))), (by rw [ha.out]; exact putSel_upk 7 hb_ rfl rfl rfl), Q_BK209, Q_BK217, fun h0_ => absurd ((hon 2 (by kernel_rfl)).symm.trans h0_) (by decide), Q_HB, fun _ h1_ => absurd ((hon 6 (by kernel_rfl)).symm.trans h1_) (by decide), Q_HO224, Q_HA_HO224, Q_HO227, Q_HA_HO227, Q_HI212_e6, Q_BK209_e11, Q_X7_, fun _ => rfl⟩
              refine steps_cons ?_ ?_
              · rintro b a w' ⟨v223, adz_v223, v226, adz_v226, m7_, m9_, ha, Q_BK209, Q_BK217, Q_HI212, Q_HB, Q_HI212_e2, Q_HO224, Q_HA_HO224, Q_HO227, Q_HA_HO227, Q_HI212_e6, Q_BK209_e11, Q_X7_, Q_X9_⟩ hb_ hon hoff
                refine ⟨_, rfl, fun K hK => ?_⟩
                have e25 : a.tmps[25]? = some (m9_) := by rw [ha]; exact putSel_on (e := (9, 25, m9_)) 7 rfl rfl (hon 9 (by kernel_rfl)) rfl
                rw [Q_X9_ (hon 9 (by kernel_rfl))] at e25
                replace ha := Aside0.mk ha
                have BK217 := Aside0.mk Q_BK217
                have HB := Aside0.mk Q_HB
                have HO224 := Aside0.mk (Q_HO224 (hon 3 (by kernel_rfl)))
                have HA_HO224 := Aside0.mk (Q_HA_HO224 (hon 3 (by kernel_rfl)))
                have HO227 := Aside0.mk (Q_HO227 (hon 4 (by kernel_rfl)))
                have HA_HO227 := Aside0.mk (Q_HA_HO227 (hon 4 (by kernel_rfl)))
                have HI212 := Aside0.mk (Q_HI212_e6 (hon 6 (by kernel_rfl)))
                obtain ⟨c_, hv_⟩ := HA_HO224.out
                have hF_ := HO224.out
                rw [hv_] at hF_
                obtain ⟨ad_, ea_, hx_⟩ := Kd.at_int (Kd.R_reads' hF_).2.2 (rd y225 t228) (of_eq_true pi231) (of_eq_true qi231)
                cases ea_
                refine value_ (w1 := w') (v := .int .i64 (rd y222 (rd y225 t228))) (by rfl) rfl ?_ ?_
                · go_simp
                  (try simp only [i64_w])
                  try rfl
                refine hK.out _ _ ⟨v223, adz_v223, v226, adz_v226, m7_, m9_, (by rw [ha.out]; exact putSel_upk 8 hb_ rfl rfl rfl), Q_BK209, Q_BK217, fun h0_ => absurd ((hon 2 (by kernel_rfl)).symm.trans h0_) (by decide), Q_HB, fun _ h1_ => absurd ((hon 6 (by kernel_rfl)).symm.trans h1_) (by decide), Q_HO224, Q_HA_HO224, Q_HO227, Q_HA_HO227, Q_HI212_e6, Q_BK209_e11, Q_X7_, Q_X9_⟩
              refine steps_cons ?_ ?_
              · rintro b a w' ⟨v223, adz_v223, v226, adz_v226, m7_, m9_, ha, Q_BK209, Q_BK217, Q_HI212, Q_HB, Q_HI212_e2, Q_HO224, Q_HA_HO224, Q_HO227, Q_HA_HO227, Q_HI212_e6, Q_BK209_e11, Q_X7_, Q_X9_⟩ hb_ hon hoff
                refine ⟨_, rfl, fun K hK => ?_⟩
                have e2 : a.tmps[2]? = some (.pointer (some ⟨gb209, 0, none⟩)) := by rw [ha]; exact (putSel_off rfl).trans rfl
                have e16 : a.tmps[16]? = some (.agg #[.int .i64 t213, .int .i64 t215, .int .i64 t215]) := by rw [ha]; exact putSel_on (e := (0, 16, .agg #[.int .i64 t213, .int .i64 t215, .int .i64 t215])) 0 rfl rfl (hon 0 (by kernel_rfl)) rfl
                replace ha := Aside0.mk ha
                have BK209 := Aside0.mk (Q_BK209 hb_)
                have BK217 := Aside0.mk Q_BK217
                have HB := Aside0.mk Q_HB
                have HI212 := Aside0.mk (Q_HI212_e6 (hon 6 (by kernel_rfl)))
                have hs26 : w'.cell? ⟨gb209, 0, none⟩ = some (.int .i64 0) := (blk_cell BK209.out 0).trans rfl
                have hfs26 := blk_frozen BK209.out 0
                have hns26_1 := NB217_209.out
                have hms26_1 := NB209_217.out
                have hs27 : w'.cell? ⟨gb209, 1, none⟩ = some (.int .i64 0) := (blk_cell BK209.out 1).trans rfl
                have hfs27 := blk_frozen BK209.out 1
                have hns27_1 := NB217_209.out
                have hms27_1 := NB209_217.out
                have hs28 : w'.cell? ⟨gb209, 2, none⟩ = some (.int .i64 0) := (blk_cell BK209.out 2).trans rfl
                have hfs28 := blk_frozen BK209.out 2
                have hns28_1 := NB217_209.out
                have hms28_1 := NB209_217.out
                refine skip_ (w1 := ?_) (by rfl) rfl ?_ ?_
                rotate_left
                · go_simp
                  rfl
                refine hK.out _ _ ⟨v223, adz_v223, v226, adz_v226, m7_, m9_, (by rw [ha.out]; exact putSel_none (v := undef) rfl), fun h0_ => absurd ((up_self b 11).symm.trans h0_) (by decide), (by (with_reducible repeat (first | refine blk_drewN ?_ _ | refine blk_drew ?_ | refine blk_alloc ?_ _)); refine blk_far ?_ NB217_209.out _; (with_reducible repeat (first | refine blk_drewN ?_ _ | refine blk_drew ?_ | refine blk_alloc ?_ _)); refine blk_far ?_ NB217_209.out _; (with_reducible repeat (first | refine blk_drewN ?_ _ | refine blk_drew ?_ | refine blk_alloc ?_ _)); refine blk_far ?_ NB217_209.out _; (with_reducible repeat (first | refine blk_drewN ?_ _ | refine blk_drew ?_ | refine blk_alloc ?_ _)); exact BK217.out), fun h0_ => absurd ((hon 2 (by kernel_rfl)).symm.trans h0_) (by decide), (by repeat (first | (with_reducible first | exact HB.out | apply below_alloc | apply pw_below_drewN | apply below_drew1 | refine below_set ?_ (IsS92.ge HI212.out) | refine below_set ?_ GE209.out | refine below_set ?_ GE217.out) | exact HB.out)), fun _ h1_ => absurd ((hon 6 (by kernel_rfl)).symm.trans h1_) (by decide), fun h0_ => (by (with_reducible repeat (first | apply Kd.R_alloc | apply Kd.R_drewN | apply Kd.R_drew)); exact Kd.R_mono (Kd.R_far (p := ⟨gb209, 2, none⟩) (Kd.R_far (p := ⟨gb209, 1, none⟩) (Kd.R_far (p := ⟨gb209, 0, none⟩) (Kd.R_types (Q_HO224 h0_) BK209.out (by decide)) (fun _ hk => hk.2) (.int .i64 t213)) (fun _ hk => hk.2) (.int .i64 t215)) (fun _ hk => hk.2) (.int .i64 t215)) (fun _ hk => trivial)), Q_HA_HO224, fun h0_ => (by (with_reducible repeat (first | apply Kd.R_alloc | apply Kd.R_drewN | apply Kd.R_drew)); exact Kd.R_mono (Kd.R_far (p := ⟨gb209, 2, none⟩) (Kd.R_far (p := ⟨gb209, 1, none⟩) (Kd.R_far (p := ⟨gb209, 0, none⟩) (Kd.R_types (Q_HO227 h0_) BK209.out (by decide)) (fun _ hk => hk.2) (.int .i64 t213)) (fun _ hk => hk.2) (.int .i64 t215)) (fun _ hk => hk.2) (.int .i64 t215)) (fun _ hk => trivial)), Q_HA_HO227, fun _ => (by repeat (first | (with_reducible first | exact HI212.out | apply IsS92.alloc | apply IsS92.drewN | apply IsS92.drew | apply IsS92.set_1 | refine IsS92.far ?_ NB212_209.out _ | refine IsS92.far ?_ NB212_217.out _) | exact HI212.out)), fun _ => (by (with_reducible repeat (first | refine blk_drewN ?_ _ | refine blk_drew ?_ | refine blk_alloc ?_ _)); refine blk_put (cs := #[.int .i64 t213, .int .i64 t215, .int .i64 0]) ?_ 2 _ rfl; (with_reducible repeat (first | refine blk_drewN ?_ _ | refine blk_drew ?_ | refine blk_alloc ?_ _)); refine blk_put (cs := #[.int .i64 t213, .int .i64 0, .int .i64 0]) ?_ 1 _ rfl; (with_reducible repeat (first | refine blk_drewN ?_ _ | refine blk_drew ?_ | refine blk_alloc ?_ _)); refine blk_put (cs := #[.int .i64 0, .int .i64 0, .int .i64 0]) ?_ 0 _ rfl; (with_reducible repeat (first | refine blk_drewN ?_ _ | refine blk_drew ?_ | refine blk_alloc ?_ _)); exact BK209.out), Q_X7_, Q_X9_⟩
              refine steps_cons ?_ ?_
              · rintro b a w' ⟨v223, adz_v223, v226, adz_v226, m7_, m9_, ha, Q_BK209, Q_BK217, Q_HI212, Q_HB, Q_HI212_e2, Q_HO224, Q_HA_HO224, Q_HO227, Q_HA_HO227, Q_HI212_e6, Q_BK209_e11, Q_X7_, Q_X9_⟩ hb_ hon hoff
                refine ⟨_, rfl, fun K hK => ?_⟩
                have e26 : a.tmps[26]? = some (.int .i64 (rd y222 (rd y225 t228))) := by rw [ha]; exact putSel_on (e := (10, 26, .int .i64 (rd y222 (rd y225 t228)))) 8 rfl rfl (hon 10 (by kernel_rfl)) rfl
                replace ha := Aside0.mk ha
                have BK217 := Aside0.mk Q_BK217
                have HB := Aside0.mk Q_HB
                have HO224 := Aside0.mk (Q_HO224 (hon 3 (by kernel_rfl)))
                have HA_HO224 := Aside0.mk (Q_HA_HO224 (hon 3 (by kernel_rfl)))
                have HO227 := Aside0.mk (Q_HO227 (hon 4 (by kernel_rfl)))
                have HA_HO227 := Aside0.mk (Q_HA_HO227 (hon 4 (by kernel_rfl)))
                have HI212 := Aside0.mk (Q_HI212_e6 (hon 6 (by kernel_rfl)))
                have BK209 := Aside0.mk (Q_BK209_e11 (hon 11 (by kernel_rfl)))
                refine value_ (w1 := w') (v := .int .i64 (rd y222 (rd y225 t228))) (by rfl) rfl ?_ ?_
                · go_simp
                  (try simp only [i64_w])
                  try rfl
                refine hK.out _ _ ⟨v223, adz_v223, v226, adz_v226, m7_, m9_, (by rw [ha.out]; exact putSel_upk 9 hb_ rfl rfl rfl), fun h0_ => absurd ((hon 11 (by kernel_rfl)).symm.trans h0_) (by decide), Q_BK217, fun h0_ => absurd ((hon 2 (by kernel_rfl)).symm.trans h0_) (by decide), Q_HB, fun _ h1_ => absurd ((hon 6 (by kernel_rfl)).symm.trans h1_) (by decide), Q_HO224, Q_HA_HO224, Q_HO227, Q_HA_HO227, Q_HI212_e6, Q_BK209_e11, Q_X7_, Q_X9_⟩
              exact steps_nil
            rintro b a w34 hall ⟨v223, adz_v223, v226, adz_v226, m7_, m9_, ha, Q_BK209, Q_BK217, Q_HI212, Q_HB, Q_HI212_e2, Q_HO224, Q_HA_HO224, Q_HO227, Q_HA_HO227, Q_HI212_e6, Q_BK209_e11, Q_X7_, Q_X9_⟩
            clear BK209 BK217 HB HI212
            have hb0_ := hall 0 (by kernel_rfl)
            have hb2_ := hall 2 (by kernel_rfl)
            have hb3_ := hall 3 (by kernel_rfl)
            have hb4_ := hall 4 (by kernel_rfl)
            have hb6_ := hall 6 (by kernel_rfl)
            have hb7_ := hall 7 (by kernel_rfl)
            have hb8_ := hall 8 (by kernel_rfl)
            have hb9_ := hall 9 (by kernel_rfl)
            have hb10_ := hall 10 (by kernel_rfl)
            have hb11_ := hall 11 (by kernel_rfl)
            have hb12_ := hall 12 (by kernel_rfl)
            subst ha
            obtain rfl := Q_X7_ hb7_
            obtain rfl := Q_X9_ hb9_
            simp only [putSel, hb0_, hb2_, hb3_, hb4_, hb6_, hb7_, hb8_, hb9_, hb10_, hb11_, hb12_, if_true, Act.put, List.setIfInBounds_toArray, List.set_cons_zero, List.set_cons_succ]
            clear Q_BK209
            have BK217 := Aside0.mk Q_BK217
            clear Q_BK217
            clear Q_HI212
            have HB := Aside0.mk Q_HB
            clear Q_HB
            clear Q_HI212_e2
            have HO224 := Aside0.mk (Q_HO224 hb3_)
            clear Q_HO224
            have HA_HO224 := Aside0.mk (Q_HA_HO224 hb3_)
            clear Q_HA_HO224
            have HO227 := Aside0.mk (Q_HO227 hb4_)
            clear Q_HO227
            have HA_HO227 := Aside0.mk (Q_HA_HO227 hb4_)
            clear Q_HA_HO227
            have HI212 := Aside0.mk (Q_HI212_e6 hb6_)
            clear Q_HI212_e6
            have BK209 := Aside0.mk (Q_BK209_e11 hb11_)
            clear Q_BK209_e11
            clear hall hb0_ hb2_ hb3_ hb4_ hb6_ hb7_ hb8_ hb9_ hb10_ hb11_ hb12_
            obtain ⟨co35, eo35⟩ := HA_HO224.out
            clear HA_HO224
            subst eo35
            obtain ⟨co36, eo36⟩ := HA_HO227.out
            clear HA_HO227
            subst eo36
            try go_wp2
            refine bodyPost_ret (results_ct rfl _ _ gb209 27 #[.int .i64 t213, .int .i64 t215, .int .i64 t215] (0, 0) _ rfl (by (with_reducible repeat (first | refine blk_drewN ?_ _ | refine blk_drew ?_ | refine blk_alloc ?_ _)); exact BK209.out) Try.underlying27 rfl (by kernel_rfl)) rfl ?_
            exact ⟨by first | rfl | (simp [errW_none, errW_some] <;> rfl) | (simp [*, errW_none, errW_some] <;> rfl), by repeat (first | (with_reducible first | exact HB.out | apply below_alloc | apply pw_below_drewN | apply below_drew1 | refine below_set ?_ (IsS92.ge HI212.out) | refine below_set ?_ GE209.out | refine below_set ?_ GE217.out) | exact HB.out)⟩
          · rw [if_neg c11] at H
            exact absurd H (by simp)
        · rw [if_neg c10] at H
          exact absurd H (by simp)
      · rw [if_neg c9] at H
        exact absurd H (by simp)
    · rw [if_neg c8] at H
      exact absurd H (by simp)
  · rw [if_neg c5] at H
    have c5b0 : decide (0 < t218) = false := decide_eq_false c5
    clear c5
    replace H := Option.bind_eq_some_iff.mp H
    obtain ⟨⟨t232, t233⟩, A370, H⟩ := H
    replace H : ((some (([t232, (-1), 1001] : List Int) : List Int)).bind fun y234 => ((some (([0, 0, 0, 0, 1, 2] : List Int) : List Int)).bind fun y237 => ((spec_l20Rd_pick.f k t210 t233 6).bind fun bt240 => (if 0 ≤ bt240.1 then (if bt240.1 < (y237.length : Int) then (if 0 ≤ (rd y237 bt240.1) then (if (rd y237 bt240.1) < (y234.length : Int) then (some (t213, t214, t215, rd y234 (rd y237 bt240.1))) else (none)) else (none)) else (none)) else (none))))) = some (r1, r2, r3, r4) := H
    have A37 := Aside0.mk A370
    clear A370
    obtain ⟨y234, hy234⟩ : ∃ y_ : List Int, y_ = (([t232, (-1), 1001] : List Int)) := ⟨_, rfl⟩
    replace H : ((some (([0, 0, 0, 0, 1, 2] : List Int) : List Int)).bind fun y237 => ((spec_l20Rd_pick.f k t210 t233 6).bind fun bt240 => (if 0 ≤ bt240.1 then (if bt240.1 < (y237.length : Int) then (if 0 ≤ (rd y237 bt240.1) then (if (rd y237 bt240.1) < (y234.length : Int) then (some (t213, t214, t215, rd y234 (rd y237 bt240.1))) else (none)) else (none)) else (none)) else (none)))) = some (r1, r2, r3, r4) := by first | (rw [hy234]; with_reducible exact H) | (have H2_ := (Option.bind_some _ _).symm.trans H; rw [hy234]; with_reducible exact H2_) | (have H2_ := (Option.bind_some _ _).symm.trans H; with_reducible exact H2_) | with_reducible exact H | (rw [hy234]; exact H) | exact H
    have Ny234 := Aside0.mk hy234
    clear hy234
    obtain ⟨y237, hy237⟩ : ∃ y_ : List Int, y_ = (([0, 0, 0, 0, 1, 2] : List Int)) := ⟨_, rfl⟩
    replace H : ((spec_l20Rd_pick.f k t210 t233 6).bind fun bt240 => (if 0 ≤ bt240.1 then (if bt240.1 < (y237.length : Int) then (if 0 ≤ (rd y237 bt240.1) then (if (rd y237 bt240.1) < (y234.length : Int) then (some (t213, t214, t215, rd y234 (rd y237 bt240.1))) else (none)) else (none)) else (none)) else (none))) = some (r1, r2, r3, r4) := by first | (rw [hy237]; with_reducible exact H) | (have H2_ := (Option.bind_some _ _).symm.trans H; rw [hy237]; with_reducible exact H2_) | (have H2_ := (Option.bind_some _ _).symm.trans H; with_reducible exact H2_) | with_reducible exact H | (rw [hy237]; exact H) | exact H
    have Ny237 := Aside0.mk hy237
    clear hy237
    replace H := Option.bind_eq_some_iff.mp H
    obtain ⟨⟨t240, t241⟩, A380, H⟩ := H
    replace H : (if 0 ≤ t240 then (if t240 < (y237.length : Int) then (if 0 ≤ (rd y237 t240) then (if (rd y237 t240) < (y234.length : Int) then (some (t213, t214, t215, rd y234 (rd y237 t240))) else (none)) else (none)) else (none)) else (none)) = some (r1, r2, r3, r4) := H
    have A38 := Aside0.mk A380
    clear A380
    by_cases c39 : 0 ≤ t240
    · rw [if_pos c39] at H
      have c39b0 : decide (0 ≤ t240) = true := decide_eq_true c39
      clear c39
      by_cases c40 : t240 < (y237.length : Int)
      · rw [if_pos c40] at H
        have c40b0 : decide (t240 < (y237.length : Int)) = true := decide_eq_true c40
        clear c40
        by_cases c41 : 0 ≤ (rd y237 t240)
        · rw [if_pos c41] at H
          have c41b0 : decide (0 ≤ (rd y237 t240)) = true := decide_eq_true c41
          clear c41
          by_cases c42 : (rd y237 t240) < (y234.length : Int)
          · rw [if_pos c42] at H
            have c42b0 : decide ((rd y237 t240) < (y234.length : Int)) = true := decide_eq_true c42
            clear c42
            simp only [Option.some.injEq, Prod.mk.injEq] at H
            obtain ⟨rfl, rfl, rfl, rfl⟩ := H
            go_enter Try.func21, Try.ntmps21
            try go_wp2_with (first | ((with_reducible refine gate_dst (N := 2) rfl ?_); refine box_event ?hg (N := 2) ?hd (cs := #[.int .i64 0, .int .i64 0, .int .i64 0]) (t := 27) ?hr ?_; (case hd => rfl); (case hg => rfl); (case hr => first | (go_simp; done) | (go_simp; rfl)); intro gb209 hg w43 hbox hb; have n0_ := Aside0.mk (below_step (by repeat (first | (with_reducible first | exact HB.out | apply below_alloc | apply pw_below_drewN | apply below_drew1) | exact HB.out)) hb); have n1_ := Aside0.mk (hbox); have n2_ := Aside0.mk ((by rw [hg]; exact (below_size (by repeat (first | (with_reducible first | exact HB.out | apply below_alloc | apply pw_below_drewN | apply below_drew1) | exact HB.out))) : w.heap.size ≤ gb209)); have n3_ := Aside0.mk ((by rw [hg]; exact (below_size (by repeat (first | (with_reducible first | exact HB.out | apply below_alloc | apply pw_below_drewN | apply below_drew1) | exact HB.out))) : w.heap.size ≤ gb209)); clear HB; have HB := n0_; have BK209 := n1_; have GW209 := n2_; have GE209 := n3_; clear n0_ n1_ n2_ n3_; clear hb hbox hg) | ((with_reducible refine gate_callee (f := 58) rfl ?_); refine goesL_ (some 7) rfl rfl Try.func58 (by kernel_rfl) rfl #[.slice A0 l0.length c0] rfl (by (try simp only [List.map_toArray, List.map_cons, List.map_nil]); first | done | rfl | (simp only [List.length_drop, List.length_take]; rfl)) ?_; (with_reducible refine (spec_l20Open.calls _ _ l0 t210 t211 w _ ?side1 ?side2 ?side3 A2.out).mono ?_); (case side1 => repeat (first | (with_reducible first | exact HB.out | apply below_alloc | apply pw_below_drewN | apply below_drew1 | refine below_set ?_ GE209.out) | exact HB.out)); (case side2 => exact HR0.out); (case side3 => exact HC0.out); rintro e w44 ⟨g212, rfl, hi, hb, hb2⟩; refine ⟨_, rfl, ?_⟩; have n0_ := Aside0.mk (blk_below (g := gb209) (o := .cells #[.int .i64 0, .int .i64 0, .int .i64 0] 27 (0, 0)) (by (with_reducible repeat (first | refine blk_drewN ?_ _ | refine blk_drew ?_ | refine blk_alloc ?_ _)); exact BK209.out) hb2); have n1_ := Aside0.mk (hb); have n2_ := Aside0.mk (hi); have n3_ := Aside0.mk (IsS92.ne_blk hi (blk_below (g := gb209) (o := .cells #[.int .i64 0, .int .i64 0, .int .i64 0] 27 (0, 0)) (by (with_reducible repeat (first | refine blk_drewN ?_ _ | refine blk_drew ?_ | refine blk_alloc ?_ _)); exact BK209.out) hb2) (by decide)); have n4_ := Aside0.mk (Ne.symm (IsS92.ne_blk hi (blk_below (g := gb209) (o := .cells #[.int .i64 0, .int .i64 0, .int .i64 0] 27 (0, 0)) (by (with_reducible repeat (first | refine blk_drewN ?_ _ | refine blk_drew ?_ | refine blk_alloc ?_ _)); exact BK209.out) hb2) (by decide))); clear BK209; clear HB; have BK209 := n0_; have HB := n1_; have HI212 := n2_; have NB212_209 := n3_; have NB209_212 := n4_; clear n0_ n1_ n2_ n3_ n4_; (try clear hb); (try clear hb2); (try clear hk); (try clear hi)) | ((with_reducible refine gate_callee (f := 59) rfl ?_); refine goesL_ (some 9) rfl rfl Try.func59 (by kernel_rfl) rfl #[.pointer (some ⟨g212, 0, none⟩), .int .i64 12] rfl (by (try simp only [List.map_toArray, List.map_cons, List.map_nil]); first | done | rfl | (simp only [List.length_drop, List.length_take]; rfl)) ?_; (with_reducible refine (spec_l20Task.calls k g212 t210 t211 12 t213 t214 t215 t216 w _ ?side1 ?side2 A3.out).mono ?_); (case side1 => repeat (first | (with_reducible first | exact HI212.out | apply IsS92.alloc | apply IsS92.drewN | apply IsS92.drew | apply IsS92.set_1 | refine IsS92.far ?_ NB212_209.out _) | exact HI212.out)); (case side2 => repeat (first | (with_reducible first | exact HB.out | apply below_alloc | apply pw_below_drewN | apply below_drew1 | refine below_set ?_ (IsS92.ge HI212.out) | refine below_set ?_ GE209.out) | exact HB.out)); rintro e w45 ⟨rfl, hi, hb, hk⟩; refine ⟨_, rfl, ?_⟩; have n0_ := Aside0.mk (KeepBut.blk hk (g' := gb209) (o := .cells #[.int .i64 0, .int .i64 0, .int .i64 0] 27 (0, 0)) (by (with_reducible repeat (first | refine blk_drewN ?_ _ | refine blk_drew ?_ | refine blk_alloc ?_ _)); exact BK209.out) NB209_212.out (by simp)); have n1_ := Aside0.mk (hb); have n2_ := Aside0.mk (hi); clear BK209; clear HB; clear HI212; have BK209 := n0_; have HB := n1_; have HI212 := n2_; clear n0_ n1_ n2_; (try clear hb); (try clear hb2); (try clear hk); (try clear hi)) | ((with_reducible refine gate_dst (N := 5) rfl ?_); refine box_event ?hg (N := 5) ?hd (cs := #[.int .i64 0, .int .i64 0, .int .i64 0]) (t := 27) ?hr ?_; (case hd => rfl); (case hg => rfl); (case hr => first | (go_simp; done) | (go_simp; rfl)); intro gb217 hg w46 hbox hb; have n0_ := Aside0.mk (blk_below (g := gb209) (o := .cells #[.int .i64 0, .int .i64 0, .int .i64 0] 27 (0, 0)) (by (with_reducible repeat (first | refine blk_drewN ?_ _ | refine blk_drew ?_ | refine blk_alloc ?_ _)); exact BK209.out) hb); have n1_ := Aside0.mk (IsS92.below (by repeat (first | (with_reducible first | exact HI212.out | apply IsS92.alloc | apply IsS92.drewN | apply IsS92.drew | apply IsS92.set_1 | refine IsS92.far ?_ NB212_209.out _) | exact HI212.out)) hb); have n2_ := Aside0.mk (below_step (by repeat (first | (with_reducible first | exact HB.out | apply below_alloc | apply pw_below_drewN | apply below_drew1 | refine below_set ?_ (IsS92.ge HI212.out) | refine below_set ?_ GE209.out) | exact HB.out)) hb); have n3_ := Aside0.mk (hbox); have n4_ := Aside0.mk ((by rw [hg]; exact (below_size (by repeat (first | (with_reducible first | exact HB.out | apply below_alloc | apply pw_below_drewN | apply below_drew1 | refine below_set ?_ (IsS92.ge HI212.out) | refine below_set ?_ GE209.out) | exact HB.out))) : w.heap.size ≤ gb217)); have n5_ := Aside0.mk ((by rw [hg]; exact (below_size (by repeat (first | (with_reducible first | exact HB.out | apply below_alloc | apply pw_below_drewN | apply below_drew1 | refine below_set ?_ (IsS92.ge HI212.out) | refine below_set ?_ GE209.out) | exact HB.out))) : w.heap.size ≤ gb217)); have n6_ := Aside0.mk ((by rw [hg]; exact Nat.ne_of_lt (blk_lt (g := gb209) (o := .cells #[.int .i64 0, .int .i64 0, .int .i64 0] 27 (0, 0)) (by (with_reducible repeat (first | refine blk_drewN ?_ _ | refine blk_drew ?_ | refine blk_alloc ?_ _)); exact BK209.out)) : gb209 ≠ gb217)); have n7_ := Aside0.mk ((by rw [hg]; exact Nat.ne_of_gt (blk_lt (g := gb209) (o := .cells #[.int .i64 0, .int .i64 0, .int .i64 0] 27 (0, 0)) (by (with_reducible repeat (first | refine blk_drewN ?_ _ | refine blk_drew ?_ | refine blk_alloc ?_ _)); exact BK209.out)) : gb217 ≠ gb209)); have n8_ := Aside0.mk ((by rw [hg]; exact Nat.ne_of_lt (IsS92.lt (show IsS92 w _ g212 t210 t216 from by repeat (first | (with_reducible first | exact HI212.out | apply IsS92.alloc | apply IsS92.drewN | apply IsS92.drew | apply IsS92.set_1 | refine IsS92.far ?_ NB212_209.out _) | exact HI212.out))) : g212 ≠ gb217)); have n9_ := Aside0.mk ((by rw [hg]; exact Nat.ne_of_gt (IsS92.lt (show IsS92 w _ g212 t210 t216 from by repeat (first | (with_reducible first | exact HI212.out | apply IsS92.alloc | apply IsS92.drewN | apply IsS92.drew | apply IsS92.set_1 | refine IsS92.far ?_ NB212_209.out _) | exact HI212.out))) : gb217 ≠ g212)); clear BK209; clear HI212; clear HB; have BK209 := n0_; have HI212 := n1_; have HB := n2_; have BK217 := n3_; have GW217 := n4_; have GE217 := n5_; have NB209_217 := n6_; have NB217_209 := n7_; have NB212_217 := n8_; have NB217_212 := n9_; clear n0_ n1_ n2_ n3_ n4_ n5_ n6_ n7_ n8_ n9_; clear hb hbox hg; have hnb47 := NB217_209.out; have hnc47 := NB209_217.out; have hnb48 := NB217_212.out; have hnc48 := NB212_217.out; have hcz49_0 : w46.cell? ⟨gb217, 0, none⟩ = some (.int .i64 0) := (blk_cell BK217.out 0).trans rfl; have hcz49_1 : w46.cell? ⟨gb217, 1, none⟩ = some (.int .i64 0) := (blk_cell BK217.out 1).trans rfl; have hcz49_2 : w46.cell? ⟨gb217, 2, none⟩ = some (.int .i64 0) := (blk_cell BK217.out 2).trans rfl; have hfz49_0 := blk_frozen BK217.out 0; have hfz49_1 := blk_frozen BK217.out 1; have hfz49_2 := blk_frozen BK217.out 2) | ((with_reducible refine gate_callee (f := 60) rfl ?_); refine goesL_ (some 11) rfl rfl Try.func60 (by kernel_rfl) rfl #[.pointer (some ⟨g212, 0, none⟩), .int .i64 4] rfl (by (try simp only [List.map_toArray, List.map_cons, List.map_nil]); first | done | rfl | (simp only [List.length_drop, List.length_take]; rfl)) ?_; (with_reducible refine (spec_l20Rd_pick.calls k g212 t210 t216 4 t218 t219 w _ ?side1 ?side2 A4.out).mono ?_); (case side1 => repeat (first | (with_reducible first | exact HI212.out | apply IsS92.alloc | apply IsS92.drewN | apply IsS92.drew | apply IsS92.set_1 | refine IsS92.far ?_ NB212_209.out _ | refine IsS92.far ?_ NB212_217.out _) | exact HI212.out)); (case side2 => repeat (first | (with_reducible first | exact HB.out | apply below_alloc | apply pw_below_drewN | apply below_drew1 | refine below_set ?_ (IsS92.ge HI212.out) | refine below_set ?_ GE209.out | refine below_set ?_ GE217.out) | exact HB.out)); rintro e w50 ⟨rfl, hi, hb, hk⟩; refine ⟨_, rfl, ?_⟩; have n0_ := Aside0.mk (KeepBut.blk hk (g' := gb209) (o := .cells #[.int .i64 0, .int .i64 0, .int .i64 0] 27 (0, 0)) (by (with_reducible repeat (first | refine blk_drewN ?_ _ | refine blk_drew ?_ | refine blk_alloc ?_ _)); refine blk_far ?_ NB209_217.out _; (with_reducible repeat (first | refine blk_drewN ?_ _ | refine blk_drew ?_ | refine blk_alloc ?_ _)); refine blk_far ?_ NB209_217.out _; (with_reducible repeat (first | refine blk_drewN ?_ _ | refine blk_drew ?_ | refine blk_alloc ?_ _)); refine blk_far ?_ NB209_217.out _; (with_reducible repeat (first | refine blk_drewN ?_ _ | refine blk_drew ?_ | refine blk_alloc ?_ _)); exact BK209.out) NB209_212.out (by simp)); have n1_ := Aside0.mk (KeepBut.blk hk (g' := gb217) (o := .cells #[.int .i64 t213, .int .i64 t214, .int .i64 t215] 27 (0, 0)) (by (with_reducible repeat (first | refine blk_drewN ?_ _ | refine blk_drew ?_ | refine blk_alloc ?_ _)); refine blk_put (cs := #[.int .i64 t213, .int .i64 t214, .int .i64 0]) ?_ 2 _ rfl; (with_reducible repeat (first | refine blk_drewN ?_ _ | refine blk_drew ?_ | refine blk_alloc ?_ _)); refine blk_put (cs := #[.int .i64 t213, .int .i64 0, .int .i64 0]) ?_ 1 _ rfl; (with_reducible repeat (first | refine blk_drewN ?_ _ | refine blk_drew ?_ | refine blk_alloc ?_ _)); refine blk_put (cs := #[.int .i64 0, .int .i64 0, .int .i64 0]) ?_ 0 _ rfl; (with_reducible repeat (first | refine blk_drewN ?_ _ | refine blk_drew ?_ | refine blk_alloc ?_ _)); exact BK217.out) NB217_212.out (by simp)); have n2_ := Aside0.mk (hb); have n3_ := Aside0.mk (hi); clear BK209; clear BK217; clear HB; clear HI212; have BK209 := n0_; have BK217 := n1_; have HB := n2_; have HI212 := n3_; clear n0_ n1_ n2_ n3_; (try clear hb); (try clear hb2); (try clear hk); (try clear hi)))
            have pi242 : (0 ≤ (t240 : Int)) = True := eq_true (of_decide_eq_true (by first | (with_reducible assumption) | assumption))
            have qi242 : (t240 < (y237.length : Int)) = True := eq_true (of_decide_eq_true (by first | (with_reducible assumption) | assumption))
            have pi243 : (0 ≤ ((rd y237 t240) : Int)) = True := eq_true (of_decide_eq_true (by first | (with_reducible assumption) | assumption))
            have qi243 : ((rd y237 t240) < (y234.length : Int)) = True := eq_true (of_decide_eq_true (by first | (with_reducible assumption) | assumption))
            have n0_ := Aside0.mk (blk_drew BK209.out)
            have n1_ := Aside0.mk (blk_drew BK217.out)
            have n2_ := Aside0.mk (IsS92.drew HI212.out)
            have n3_ := Aside0.mk (below_drew1 HB.out)
            clear BK209
            clear BK217
            clear HI212
            clear HB
            have BK209 := n0_
            have BK217 := n1_
            have HI212 := n2_
            have HB := n3_
            clear n0_ n1_ n2_ n3_
            refine start_ (n := 13) (S := fun w' => True) (ds := []) #[false, false, false, false, false, false, false, false, false, false, false, false, false] (by kernel_rfl) rfl rfl trivial (fun hHeld => ?_); refine with_tabW spec_DrawSubtaskWindow.tab5 spec_DrawSubtaskWindow.bits5 (fun HT_ HW_ => ?_)
            generalize w50.drew = w51 at BK209 BK217 HI212 HB hHeld ⊢
            refine pure_ (i := 1) (N := some 17) (v := ?_) (a' := ?_) #[false, true, false, false, false, false, false, false, false, false, false, false, false] rfl rfl (any_of HT_.out (by kernel_rfl)) (fun _ _ _ h => h) (Or.inl ⟨by rfl, ?_⟩) ?_ ?_
            rotate_left
            · intro w'
              go_simp
              with_reducible rfl
            rotate_left
            · simp only [Act.put, List.setIfInBounds_toArray, List.set_cons_zero, List.set_cons_succ, i64_w, i32_w]
              rfl
            refine pure_ (i := 5) (N := some 21) (v := ?_) (a' := ?_) #[false, true, false, false, false, true, false, false, false, false, false, false, false] rfl rfl (any_of HT_.out (by kernel_rfl)) (fun _ _ _ h => h) (Or.inl ⟨by rfl, ?_⟩) ?_ ?_
            rotate_left
            · intro w'
              go_simp
              with_reducible rfl
            rotate_left
            · simp only [Act.put, List.setIfInBounds_toArray, List.set_cons_zero, List.set_cons_succ, i64_w, i32_w]
              rfl
            refine inv_at [0, 2, 3, 4, 6, 7, 8, 9, 10, 11, 12] (fun a0_ b a w' => ∃ (v235 : Value) (adz_v235 : Addr) (v238 : Value) (adz_v238 : Addr) (m7_ : Value) (m9_ : Value), a = putSel a0_ b [(0, 16, .agg #[.int .i64 t213, .int .i64 t214, .int .i64 t215]), (2, 18, .int .i64 t232), (3, 19, v235), (4, 20, v238), (6, 22, .int .i64 t240), (7, 23, m7_), (8, 24, .int .i64 (rd y237 t240)), (9, 25, m9_), (10, 26, .int .i64 (rd y234 (rd y237 t240))), (12, 3, .int .i64 (rd y234 (rd y237 t240)))] ∧ (b 11 = false → w'.heap[gb209]? = some (.cells #[.int .i64 0, .int .i64 0, .int .i64 0] 27 (0, 0))) ∧ (w'.heap[gb217]? = some (.cells #[.int .i64 t213, .int .i64 t214, .int .i64 t215] 27 (0, 0))) ∧ (b 2 = false → IsS92 w w' g212 t210 t219) ∧ (Below w.heap.size w w') ∧ (b 2 = true → b 6 = false → IsS92 w w' g212 t210 t233) ∧ (b 3 = true → Kd.R (Kd.int .i64) 3 w' w.heap.size (fun _ => True) v235 y234) ∧ (b 3 = true → ∃ c_, (v235 : Value) = .slice (some adz_v235) y234.length c_) ∧ (b 4 = true → Kd.R (Kd.int .i64) 3 w' w.heap.size (fun _ => True) v238 y237) ∧ (b 4 = true → ∃ c_, (v238 : Value) = .slice (some adz_v238) y237.length c_) ∧ (b 6 = true → IsS92 w w' g212 t210 t241) ∧ (b 11 = true → w'.heap[gb209]? = some (.cells #[.int .i64 t213, .int .i64 t214, .int .i64 t215] 27 (0, 0))) ∧ (b 7 = true → (m7_ : Value) = .pointer (some (adz_v238.add (t240).toNat))) ∧ (b 9 = true → (m9_ : Value) = .pointer (some (adz_v235.add ((rd y237 t240)).toNat)))) HT_.out HW_.out (by kernel_rfl) (by kernel_rfl) ?_ ?_ ?_
            · exact ⟨.bool false, ⟨0, 0, none⟩, .bool false, ⟨0, 0, none⟩, .bool false, .bool false, by simp only [putSel, Bool.false_eq_true, if_false], fun _ => BK209.out, BK217.out, fun _ => HI212.out, HB.out, fun h_ => absurd h_ (by decide), fun h_ => absurd h_ (by decide), fun h_ => absurd h_ (by decide), fun h_ => absurd h_ (by decide), fun h_ => absurd h_ (by decide), fun h_ => absurd h_ (by decide), fun h_ => absurd h_ (by decide), fun h_ => absurd h_ (by decide), fun h_ => absurd h_ (by decide)⟩
            · skip
              clear BK209 BK217 HB HI212
              refine steps_cons ?_ ?_
              · rintro b a w' ⟨v235, adz_v235, v238, adz_v238, m7_, m9_, ha, Q_BK209, Q_BK217, Q_HI212, Q_HB, Q_HI212_e2, Q_HO236, Q_HA_HO236, Q_HO239, Q_HA_HO239, Q_HI212_e6, Q_BK209_e11, Q_X7_, Q_X9_⟩ hb_ hon hoff
                refine ⟨_, rfl, fun K hK => ?_⟩
                have e5 : a.tmps[5]? = some (.pointer (some ⟨gb217, 0, none⟩)) := by rw [ha]; exact (putSel_off rfl).trans rfl
                replace ha := Aside0.mk ha
                have BK209 := Aside0.mk (Q_BK209 (hoff 11 (by kernel_rfl)))
                have BK217 := Aside0.mk Q_BK217
                have HB := Aside0.mk Q_HB
                have hc0_ : w'.cell? ⟨gb217, 0, none⟩ = some (.int .i64 t213) := (blk_cell BK217.out 0).trans rfl
                have hc1_ : w'.cell? ⟨gb217, 1, none⟩ = some (.int .i64 t214) := (blk_cell BK217.out 1).trans rfl
                have hc2_ : w'.cell? ⟨gb217, 2, none⟩ = some (.int .i64 t215) := (blk_cell BK217.out 2).trans rfl
                refine value_ (w1 := w') (v := .agg #[.int .i64 t213, .int .i64 t214, .int .i64 t215]) (by rfl) rfl ?_ ?_
                · go_simp
                  (try simp only [i64_w])
                  try rfl
                refine hK.out _ _ ⟨v235, adz_v235, v238, adz_v238, m7_, m9_, (by rw [ha.out]; exact putSel_upk 0 hb_ rfl rfl rfl), Q_BK209, Q_BK217, Q_HI212, Q_HB, Q_HI212_e2, Q_HO236, Q_HA_HO236, Q_HO239, Q_HA_HO239, Q_HI212_e6, fun h0_ => absurd ((hoff 11 (by kernel_rfl)).symm.trans h0_) (by decide), Q_X7_, Q_X9_⟩
              refine steps_cons ?_ ?_
              · rintro b a w' ⟨v235, adz_v235, v238, adz_v238, m7_, m9_, ha, Q_BK209, Q_BK217, Q_HI212, Q_HB, Q_HI212_e2, Q_HO236, Q_HA_HO236, Q_HO239, Q_HA_HO239, Q_HI212_e6, Q_BK209_e11, Q_X7_, Q_X9_⟩ hb_ hon hoff
                refine ⟨_, rfl, fun K hK => ?_⟩
                have e17 : a.tmps[17]? = some (.pointer (some ⟨g212, 0, none⟩)) := by rw [ha]; exact (putSel_off rfl).trans rfl
                replace ha := Aside0.mk ha
                have BK209 := Aside0.mk (Q_BK209 (hoff 11 (by kernel_rfl)))
                have BK217 := Aside0.mk Q_BK217
                have HI212 := Aside0.mk (Q_HI212 hb_)
                have HB := Aside0.mk Q_HB
                refine goes_ Try.func60 (by kernel_rfl) rfl #[.pointer (some ⟨g212, 0, none⟩), .int .i64 40] (by rfl) rfl rfl (by first | (simp only [List.map_toArray, List.map_cons, List.map_nil, Act.eval, Array.getD_eq_getD_getElem?, Option.getD_some, e17]; done) | (simp only [List.map_toArray, List.map_cons, List.map_nil, Act.eval, Array.getD_eq_getD_getElem?, Option.getD_some, e17]; rfl)) ?_
                with_reducible refine (spec_l20Rd_pick.calls k g212 t210 t219 40 t232 t233 w _ ?side1 ?side2 A37.out).mono ?_
                (case side1 => repeat (first | (with_reducible first | exact HI212.out | apply IsS92.alloc | apply IsS92.drewN | apply IsS92.drew | apply IsS92.set_1 | refine IsS92.far ?_ NB212_209.out _ | refine IsS92.far ?_ NB212_217.out _) | exact HI212.out))
                (case side2 => repeat (first | (with_reducible first | exact HB.out | apply below_alloc | apply pw_below_drewN | apply below_drew1 | refine below_set ?_ (IsS92.ge HI212.out) | refine below_set ?_ GE209.out | refine below_set ?_ GE217.out) | exact HB.out))
                rintro e w52 ⟨rfl, hi, hb, hk⟩
                refine ⟨_, rfl, ?_⟩
                have n0_ := Aside0.mk (KeepBut.blk hk (g' := gb209) (o := .cells #[.int .i64 0, .int .i64 0, .int .i64 0] 27 (0, 0)) (by (with_reducible repeat (first | refine blk_drewN ?_ _ | refine blk_drew ?_ | refine blk_alloc ?_ _)); exact BK209.out) NB209_212.out (by simp))
                have n1_ := Aside0.mk (KeepBut.blk hk (g' := gb217) (o := .cells #[.int .i64 t213, .int .i64 t214, .int .i64 t215] 27 (0, 0)) (by (with_reducible repeat (first | refine blk_drewN ?_ _ | refine blk_drew ?_ | refine blk_alloc ?_ _)); exact BK217.out) NB217_212.out (by simp))
                have n2_ := Aside0.mk (hb)
                have n3_ := Aside0.mk (hi)
                have z_HO239 := fun (h0_ : b 4 = true) => (show Kd.R (Kd.int .i64) 3 w52 w.heap.size (fun _ => True) v238 y237 from by first | exact (Kd.R_mono (Kd.R_keep (IsS92.apart (show IsS92 w _ g212 t210 t219 from by repeat (first | (with_reducible first | exact HI212.out | apply IsS92.alloc | apply IsS92.drewN | apply IsS92.drew | apply IsS92.set_1 | refine IsS92.far ?_ NB212_209.out _ | refine IsS92.far ?_ NB212_217.out _) | exact HI212.out)) (by (with_reducible repeat (first | apply Kd.R_alloc | apply Kd.R_drewN | apply Kd.R_drew)); exact (Q_HO239 h0_)) (by decide)) hk (fun _ h => h.2)) (fun _ h => h.1)) | exact Kd.R_mono (Kd.R_mono (Kd.R_keep (IsS92.apart (show IsS92 w _ g212 t210 t219 from by repeat (first | (with_reducible first | exact HI212.out | apply IsS92.alloc | apply IsS92.drewN | apply IsS92.drew | apply IsS92.set_1 | refine IsS92.far ?_ NB212_209.out _ | refine IsS92.far ?_ NB212_217.out _) | exact HI212.out)) (by (with_reducible repeat (first | apply Kd.R_alloc | apply Kd.R_drewN | apply Kd.R_drew)); exact (Q_HO239 h0_)) (by decide)) hk (fun _ h => h.2)) (fun _ h => h.1)) (fun _ h_ => by first | trivial | exact h_ | exact h_.1))
                clear BK209
                clear BK217
                clear HB
                clear HI212
                have BK209 := n0_
                have BK217 := n1_
                have HB := n2_
                have HI212 := n3_
                clear n0_ n1_ n2_ n3_
                (try clear hb)
                (try clear hb2)
                (try clear hk)
                (try clear hi)
                refine hK.out _ _ ⟨v235, adz_v235, v238, adz_v238, m7_, m9_, (by rw [ha.out]; exact putSel_upk 1 hb_ rfl rfl rfl), fun _ => (by (with_reducible repeat (first | refine blk_drewN ?_ _ | refine blk_drew ?_ | refine blk_alloc ?_ _)); exact BK209.out), (by (with_reducible repeat (first | refine blk_drewN ?_ _ | refine blk_drew ?_ | refine blk_alloc ?_ _)); exact BK217.out), fun h0_ => absurd ((up_self b 2).symm.trans h0_) (by decide), (by repeat (first | (with_reducible first | exact HB.out | apply below_alloc | apply pw_below_drewN | apply below_drew1 | refine below_set ?_ (IsS92.ge HI212.out) | refine below_set ?_ GE209.out | refine below_set ?_ GE217.out) | exact HB.out)), fun _ _ => (by repeat (first | (with_reducible first | exact HI212.out | apply IsS92.alloc | apply IsS92.drewN | apply IsS92.drew | apply IsS92.set_1 | refine IsS92.far ?_ NB212_209.out _ | refine IsS92.far ?_ NB212_217.out _) | exact HI212.out)), fun h0_ => absurd ((hoff 3 (by kernel_rfl)).symm.trans h0_) (by decide), fun h0_ => absurd ((hoff 3 (by kernel_rfl)).symm.trans h0_) (by decide), z_HO239, Q_HA_HO239, fun h0_ => absurd ((hoff 6 (by kernel_rfl)).symm.trans h0_) (by decide), fun h0_ => absurd ((hoff 11 (by kernel_rfl)).symm.trans h0_) (by decide), fun h0_ => absurd ((hoff 7 (by kernel_rfl)).symm.trans h0_) (by decide), fun h0_ => absurd ((hoff 9 (by kernel_rfl)).symm.trans h0_) (by decide)⟩
              refine steps_cons ?_ ?_
              · rintro b a w' ⟨v235, adz_v235, v238, adz_v238, m7_, m9_, ha, Q_BK209, Q_BK217, Q_HI212, Q_HB, Q_HI212_e2, Q_HO236, Q_HA_HO236, Q_HO239, Q_HA_HO239, Q_HI212_e6, Q_BK209_e11, Q_X7_, Q_X9_⟩ hb_ hon hoff
                refine ⟨_, rfl, fun K hK => ?_⟩
                have e18 : a.tmps[18]? = some (.int .i64 t232) := by rw [ha]; exact putSel_on (e := (2, 18, .int .i64 t232)) 1 rfl rfl (hon 2 (by kernel_rfl)) rfl
                replace ha := Aside0.mk ha
                have BK217 := Aside0.mk Q_BK217
                have HB := Aside0.mk Q_HB
                refine Kd.R_lit_step (Kd.int .i64) _ 3 ?hg (N := 19) ?hd (xs := ([t232, (-1), 1001] : List Int)) (inner := [.int .i64 t232, .int .i64 (-1), .int .i64 1001]) (ok := fun _ => True) (okp := fun _ => True) ?hr ?hp (fun _ hk => hk) trivial (Below.refl _ _) (Nat.le_refl _) (by simp) ?_; (case hd => rfl); (case hg => rfl); (case hr => first | (go_simp; done) | (go_simp; rfl)); (case hp => exact (Reps.one (show Kd.M (Kd.int .i64) _ _ _ t232 [.int .i64 t232] from rfl) (Reps.one (show Kd.M (Kd.int .i64) _ _ _ (-1) [.int .i64 (-1)] from rfl) (Reps.one (show Kd.M (Kd.int .i64) _ _ _ 1001 [.int .i64 1001] from rfl) (Reps.none _ _)))))
                intro v235 w54 ho55 hb hg_ hnew_
                clear hg_ hnew_
                (first | rw [← Ny234.out] at ho55 | (simp only [Int.reduceToNat] at ho55; rw [← Ny234.out] at ho55))
                have n0_ := Aside0.mk (Kd.R_lower ho55 (below_size (by repeat (first | (with_reducible first | exact HB.out | apply below_alloc | apply pw_below_drewN | apply below_drew1 | refine below_set ?_ GE209.out | refine below_set ?_ GE217.out) | exact HB.out))))
                have n3_ := Aside0.mk (blk_below (g := gb217) (o := .cells #[.int .i64 t213, .int .i64 t214, .int .i64 t215] 27 (0, 0)) (by (with_reducible repeat (first | refine blk_drewN ?_ _ | refine blk_drew ?_ | refine blk_alloc ?_ _)); exact BK217.out) hb)
                have n4_ := Aside0.mk (below_step (by repeat (first | (with_reducible first | exact HB.out | apply below_alloc | apply pw_below_drewN | apply below_drew1 | refine below_set ?_ GE209.out | refine below_set ?_ GE217.out) | exact HB.out)) hb)
                have z_BK209 := fun (h0_ : b 11 = false) => (show w54.heap[gb209]? = some (.cells #[.int .i64 0, .int .i64 0, .int .i64 0] 27 (0, 0)) from by first | exact (blk_below (g := gb209) (o := .cells #[.int .i64 0, .int .i64 0, .int .i64 0] 27 (0, 0)) (by (with_reducible repeat (first | refine blk_drewN ?_ _ | refine blk_drew ?_ | refine blk_alloc ?_ _)); exact (Q_BK209 h0_)) hb))
                have z_HI212_e2 := fun (h0_ : b 2 = true) (h1_ : b 6 = false) => (show IsS92 w w54 g212 t210 t233 from by first | exact (IsS92.below (by repeat (first | (with_reducible first | exact (Q_HI212_e2 h0_ h1_) | apply IsS92.alloc | apply IsS92.drewN | apply IsS92.drew | apply IsS92.set_1 | refine IsS92.far ?_ NB212_209.out _ | refine IsS92.far ?_ NB212_217.out _) | exact (Q_HI212_e2 h0_ h1_))) hb))
                have z_HO239 := fun (h0_ : b 4 = true) => (show Kd.R (Kd.int .i64) 3 w54 w.heap.size (fun _ => True) v238 y237 from by first | exact (Kd.R_elder' (by (with_reducible repeat (first | apply Kd.R_alloc | apply Kd.R_drewN | apply Kd.R_drew)); exact (Q_HO239 h0_)) (Kd.R_base ho55) hb) | exact Kd.R_mono (Kd.R_elder' (by (with_reducible repeat (first | apply Kd.R_alloc | apply Kd.R_drewN | apply Kd.R_drew)); exact (Q_HO239 h0_)) (Kd.R_base ho55) hb) (fun _ h_ => by first | trivial | exact h_ | exact h_.1))
                have z_HI212_e6 := fun (h0_ : b 6 = true) => (show IsS92 w w54 g212 t210 t241 from by first | exact (IsS92.below (by repeat (first | (with_reducible first | exact (Q_HI212_e6 h0_) | apply IsS92.alloc | apply IsS92.drewN | apply IsS92.drew | apply IsS92.set_1 | refine IsS92.far ?_ NB212_209.out _ | refine IsS92.far ?_ NB212_217.out _) | exact (Q_HI212_e6 h0_))) hb))
                have z_BK209_e11 := fun (h0_ : b 11 = true) => (show w54.heap[gb209]? = some (.cells #[.int .i64 t213, .int .i64 t214, .int .i64 t215] 27 (0, 0)) from by first | exact (blk_below (g := gb209) (o := .cells #[.int .i64 t213, .int .i64 t214, .int .i64 t215] 27 (0, 0)) (by (with_reducible repeat (first | refine blk_drewN ?_ _ | refine blk_drew ?_ | refine blk_alloc ?_ _)); exact (Q_BK209_e11 h0_)) hb))
                clear BK217
                clear HB
                have HO236 := n0_
                have BK217 := n3_
                have HB := n4_
                clear n0_ n3_ n4_
                clear hb ho55
                obtain ⟨Ao56, co56, eo56⟩ := Kd.R_slice HO236.out
                subst eo56
                obtain ⟨ado56, fo56, _⟩ := Kd.at_int (Kd.R_reads' HO236.out).2.2 0 (by decide) (by rw [Ny234.out]; simp)
                cases fo56
                refine hK.out _ _ ⟨.slice (some ado56) y234.length co56, ado56, v238, adz_v238, m7_, m9_, (by rw [ha.out]; exact putSel_upk 2 hb_ rfl rfl rfl), z_BK209, (by (with_reducible repeat (first | refine blk_drewN ?_ _ | refine blk_drew ?_ | refine blk_alloc ?_ _)); exact BK217.out), fun h0_ => absurd ((hon 2 (by kernel_rfl)).symm.trans h0_) (by decide), (by repeat (first | (with_reducible first | exact HB.out | apply below_alloc | apply pw_below_drewN | apply below_drew1 | refine below_set ?_ GE209.out | refine below_set ?_ GE217.out) | exact HB.out)), z_HI212_e2, fun _ => (by (with_reducible repeat (first | apply Kd.R_alloc | apply Kd.R_drewN | apply Kd.R_drew)); exact HO236.out), fun _ => ⟨_, rfl⟩, z_HO239, Q_HA_HO239, z_HI212_e6, z_BK209_e11, Q_X7_, fun h0_ => absurd ((hoff 9 (by kernel_rfl)).symm.trans h0_) (by decide)⟩
              refine steps_cons ?_ ?_
              · rintro b a w' ⟨v235, adz_v235, v238, adz_v238, m7_, m9_, ha, Q_BK209, Q_BK217, Q_HI212, Q_HB, Q_HI212_e2, Q_HO236, Q_HA_HO236, Q_HO239, Q_HA_HO239, Q_HI212_e6, Q_BK209_e11, Q_X7_, Q_X9_⟩ hb_ hon hoff
                refine ⟨_, rfl, fun K hK => ?_⟩
                replace ha := Aside0.mk ha
                have BK217 := Aside0.mk Q_BK217
                have HB := Aside0.mk Q_HB
                refine Kd.R_lit_step (Kd.int .i64) _ 3 ?hg (N := 20) ?hd (xs := ([0, 0, 0, 0, 1, 2] : List Int)) (inner := [.int .i64 0, .int .i64 0, .int .i64 0, .int .i64 0, .int .i64 1, .int .i64 2]) (ok := fun _ => True) (okp := fun _ => True) ?hr ?hp (fun _ hk => hk) trivial (Below.refl _ _) (Nat.le_refl _) (by simp) ?_; (case hd => rfl); (case hg => rfl); (case hr => first | (go_simp; done) | (go_simp; rfl)); (case hp => exact (Reps.one (show Kd.M (Kd.int .i64) _ _ _ 0 [.int .i64 0] from rfl) (Reps.one (show Kd.M (Kd.int .i64) _ _ _ 0 [.int .i64 0] from rfl) (Reps.one (show Kd.M (Kd.int .i64) _ _ _ 0 [.int .i64 0] from rfl) (Reps.one (show Kd.M (Kd.int .i64) _ _ _ 0 [.int .i64 0] from rfl) (Reps.one (show Kd.M (Kd.int .i64) _ _ _ 1 [.int .i64 1] from rfl) (Reps.one (show Kd.M (Kd.int .i64) _ _ _ 2 [.int .i64 2] from rfl) (Reps.none _ _))))))))
                intro v238 w52 ho53 hb hg_ hnew_
                clear hg_ hnew_
                (first | rw [← Ny237.out] at ho53 | (simp only [Int.reduceToNat] at ho53; rw [← Ny237.out] at ho53))
                have n0_ := Aside0.mk (Kd.R_lower ho53 (below_size (by repeat (first | (with_reducible first | exact HB.out | apply below_alloc | apply pw_below_drewN | apply below_drew1 | refine below_set ?_ GE209.out | refine below_set ?_ GE217.out) | exact HB.out))))
                have n3_ := Aside0.mk (blk_below (g := gb217) (o := .cells #[.int .i64 t213, .int .i64 t214, .int .i64 t215] 27 (0, 0)) (by (with_reducible repeat (first | refine blk_drewN ?_ _ | refine blk_drew ?_ | refine blk_alloc ?_ _)); exact BK217.out) hb)
                have n4_ := Aside0.mk (below_step (by repeat (first | (with_reducible first | exact HB.out | apply below_alloc | apply pw_below_drewN | apply below_drew1 | refine below_set ?_ GE209.out | refine below_set ?_ GE217.out) | exact HB.out)) hb)
                have z_BK209 := fun (h0_ : b 11 = false) => (show w52.heap[gb209]? = some (.cells #[.int .i64 0, .int .i64 0, .int .i64 0] 27 (0, 0)) from by first | exact (blk_below (g := gb209) (o := .cells #[.int .i64 0, .int .i64 0, .int .i64 0] 27 (0, 0)) (by (with_reducible repeat (first | refine blk_drewN ?_ _ | refine blk_drew ?_ | refine blk_alloc ?_ _)); exact (Q_BK209 h0_)) hb))
                have z_HI212 := fun (h0_ : b 2 = false) => (show IsS92 w w52 g212 t210 t219 from by first | exact (IsS92.below (by repeat (first | (with_reducible first | exact (Q_HI212 h0_) | apply IsS92.alloc | apply IsS92.drewN | apply IsS92.drew | apply IsS92.set_1 | refine IsS92.far ?_ NB212_209.out _ | refine IsS92.far ?_ NB212_217.out _) | exact (Q_HI212 h0_))) hb))
                have z_HI212_e2 := fun (h0_ : b 2 = true) (h1_ : b 6 = false) => (show IsS92 w w52 g212 t210 t233 from by first | exact (IsS92.below (by repeat (first | (with_reducible first | exact (Q_HI212_e2 h0_ h1_) | apply IsS92.alloc | apply IsS92.drewN | apply IsS92.drew | apply IsS92.set_1 | refine IsS92.far ?_ NB212_209.out _ | refine IsS92.far ?_ NB212_217.out _) | exact (Q_HI212_e2 h0_ h1_))) hb))
                have z_HO236 := fun (h0_ : b 3 = true) => (show Kd.R (Kd.int .i64) 3 w52 w.heap.size (fun _ => True) v235 y234 from by first | exact (Kd.R_elder' (by (with_reducible repeat (first | apply Kd.R_alloc | apply Kd.R_drewN | apply Kd.R_drew)); exact (Q_HO236 h0_)) (Kd.R_base ho53) hb) | exact Kd.R_mono (Kd.R_elder' (by (with_reducible repeat (first | apply Kd.R_alloc | apply Kd.R_drewN | apply Kd.R_drew)); exact (Q_HO236 h0_)) (Kd.R_base ho53) hb) (fun _ h_ => by first | trivial | exact h_ | exact h_.1))
                have z_HI212_e6 := fun (h0_ : b 6 = true) => (show IsS92 w w52 g212 t210 t241 from by first | exact (IsS92.below (by repeat (first | (with_reducible first | exact (Q_HI212_e6 h0_) | apply IsS92.alloc | apply IsS92.drewN | apply IsS92.drew | apply IsS92.set_1 | refine IsS92.far ?_ NB212_209.out _ | refine IsS92.far ?_ NB212_217.out _) | exact (Q_HI212_e6 h0_))) hb))
                have z_BK209_e11 := fun (h0_ : b 11 = true) => (show w52.heap[gb209]? = some (.cells #[.int .i64 t213, .int .i64 t214, .int .i64 t215] 27 (0, 0)) from by first | exact (blk_below (g := gb209) (o := .cells #[.int .i64 t213, .int .i64 t214, .int .i64 t215] 27 (0, 0)) (by (with_reducible repeat (first | refine blk_drewN ?_ _ | refine blk_drew ?_ | refine blk_alloc ?_ _)); exact (Q_BK209_e11 h0_)) hb))
                clear BK217
                clear HB
                have HO239 := n0_
                have BK217 := n3_
                have HB := n4_
                clear n0_ n3_ n4_
                clear hb ho53
                obtain ⟨Ao54, co54, eo54⟩ := Kd.R_slice HO239.out
                subst eo54
                obtain ⟨ado54, fo54, _⟩ := Kd.at_int (Kd.R_reads' HO239.out).2.2 0 (by decide) (by rw [Ny237.out]; simp)
                cases fo54
                refine hK.out _ _ ⟨v235, adz_v235, .slice (some ado54) y237.length co54, ado54, m7_, m9_, (by rw [ha.out]; exact putSel_upk 3 hb_ rfl rfl rfl), z_BK209, (by (with_reducible repeat (first | refine blk_drewN ?_ _ | refine blk_drew ?_ | refine blk_alloc ?_ _)); exact BK217.out), z_HI212, (by repeat (first | (with_reducible first | exact HB.out | apply below_alloc | apply pw_below_drewN | apply below_drew1 | refine below_set ?_ GE209.out | refine below_set ?_ GE217.out) | exact HB.out)), z_HI212_e2, z_HO236, Q_HA_HO236, fun _ => (by (with_reducible repeat (first | apply Kd.R_alloc | apply Kd.R_drewN | apply Kd.R_drew)); exact HO239.out), fun _ => ⟨_, rfl⟩, z_HI212_e6, z_BK209_e11, fun h0_ => absurd ((hoff 7 (by kernel_rfl)).symm.trans h0_) (by decide), fun h0_ => absurd ((hoff 9 (by kernel_rfl)).symm.trans h0_) (by decide)⟩
              refine steps_cons ?_ ?_
              · rintro b a w' ⟨v235, adz_v235, v238, adz_v238, m7_, m9_, ha, Q_BK209, Q_BK217, Q_HI212, Q_HB, Q_HI212_e2, Q_HO236, Q_HA_HO236, Q_HO239, Q_HA_HO239, Q_HI212_e6, Q_BK209_e11, Q_X7_, Q_X9_⟩ hb_ hon hoff
                refine ⟨_, rfl, fun K hK => ?_⟩
                have e21 : a.tmps[21]? = some (.pointer (some ⟨g212, 0, none⟩)) := by rw [ha]; exact (putSel_off rfl).trans rfl
                replace ha := Aside0.mk ha
                have BK209 := Aside0.mk (Q_BK209 (hoff 11 (by kernel_rfl)))
                have BK217 := Aside0.mk Q_BK217
                have HB := Aside0.mk Q_HB
                have HI212 := Aside0.mk (Q_HI212_e2 (hon 2 (by kernel_rfl)) hb_)
                refine goes_ Try.func60 (by kernel_rfl) rfl #[.pointer (some ⟨g212, 0, none⟩), .int .i64 6] (by rfl) rfl rfl (by first | (simp only [List.map_toArray, List.map_cons, List.map_nil, Act.eval, Array.getD_eq_getD_getElem?, Option.getD_some, e21]; done) | (simp only [List.map_toArray, List.map_cons, List.map_nil, Act.eval, Array.getD_eq_getD_getElem?, Option.getD_some, e21]; rfl)) ?_
                with_reducible refine (spec_l20Rd_pick.calls k g212 t210 t233 6 t240 t241 w _ ?side1 ?side2 A38.out).mono ?_
                (case side1 => repeat (first | (with_reducible first | exact HI212.out | apply IsS92.alloc | apply IsS92.drewN | apply IsS92.drew | apply IsS92.set_1 | refine IsS92.far ?_ NB212_209.out _ | refine IsS92.far ?_ NB212_217.out _) | exact HI212.out))
                (case side2 => repeat (first | (with_reducible first | exact HB.out | apply below_alloc | apply pw_below_drewN | apply below_drew1 | refine below_set ?_ (IsS92.ge HI212.out) | refine below_set ?_ GE209.out | refine below_set ?_ GE217.out) | exact HB.out))
                rintro e w54 ⟨rfl, hi, hb, hk⟩
                refine ⟨_, rfl, ?_⟩
                have n0_ := Aside0.mk (KeepBut.blk hk (g' := gb209) (o := .cells #[.int .i64 0, .int .i64 0, .int .i64 0] 27 (0, 0)) (by (with_reducible repeat (first | refine blk_drewN ?_ _ | refine blk_drew ?_ | refine blk_alloc ?_ _)); exact BK209.out) NB209_212.out (by simp))
                have n1_ := Aside0.mk (KeepBut.blk hk (g' := gb217) (o := .cells #[.int .i64 t213, .int .i64 t214, .int .i64 t215] 27 (0, 0)) (by (with_reducible repeat (first | refine blk_drewN ?_ _ | refine blk_drew ?_ | refine blk_alloc ?_ _)); exact BK217.out) NB217_212.out (by simp))
                have n2_ := Aside0.mk (hb)
                have n3_ := Aside0.mk (hi)
                have z_HO236 := fun (h0_ : b 3 = true) => (show Kd.R (Kd.int .i64) 3 w54 w.heap.size (fun _ => True) v235 y234 from by first | exact (Kd.R_mono (Kd.R_keep (IsS92.apart (show IsS92 w _ g212 t210 t233 from by repeat (first | (with_reducible first | exact HI212.out | apply IsS92.alloc | apply IsS92.drewN | apply IsS92.drew | apply IsS92.set_1 | refine IsS92.far ?_ NB212_209.out _ | refine IsS92.far ?_ NB212_217.out _) | exact HI212.out)) (by (with_reducible repeat (first | apply Kd.R_alloc | apply Kd.R_drewN | apply Kd.R_drew)); exact (Q_HO236 h0_)) (by decide)) hk (fun _ h => h.2)) (fun _ h => h.1)) | exact Kd.R_mono (Kd.R_mono (Kd.R_keep (IsS92.apart (show IsS92 w _ g212 t210 t233 from by repeat (first | (with_reducible first | exact HI212.out | apply IsS92.alloc | apply IsS92.drewN | apply IsS92.drew | apply IsS92.set_1 | refine IsS92.far ?_ NB212_209.out _ | refine IsS92.far ?_ NB212_217.out _) | exact HI212.out)) (by (with_reducible repeat (first | apply Kd.R_alloc | apply Kd.R_drewN | apply Kd.R_drew)); exact (Q_HO236 h0_)) (by decide)) hk (fun _ h => h.2)) (fun _ h => h.1)) (fun _ h_ => by first | trivial | exact h_ | exact h_.1))
                have z_HO239 := fun (h0_ : b 4 = true) => (show Kd.R (Kd.int .i64) 3 w54 w.heap.size (fun _ => True) v238 y237 from by first | exact (Kd.R_mono (Kd.R_keep (IsS92.apart (show IsS92 w _ g212 t210 t233 from by repeat (first | (with_reducible first | exact HI212.out | apply IsS92.alloc | apply IsS92.drewN | apply IsS92.drew | apply IsS92.set_1 | refine IsS92.far ?_ NB212_209.out _ | refine IsS92.far ?_ NB212_217.out _) | exact HI212.out)) (by (with_reducible repeat (first | apply Kd.R_alloc | apply Kd.R_drewN | apply Kd.R_drew)); exact (Q_HO239 h0_)) (by decide)) hk (fun _ h => h.2)) (fun _ h => h.1)) | exact Kd.R_mono (Kd.R_mono (Kd.R_keep (IsS92.apart (show IsS92 w _ g212 t210 t233 from by repeat (first | (with_reducible first | exact HI212.out | apply IsS92.alloc | apply IsS92.drewN | apply IsS92.drew | apply IsS92.set_1 | refine IsS92.far ?_ NB212_209.out _ | refine IsS92.far ?_ NB212_217.out _) | exact HI212.out)) (by (with_reducible repeat (first | apply Kd.R_alloc | apply Kd.R_drewN | apply Kd.R_drew)); exact (Q_HO239 h0_)) (by decide)) hk (fun _ h => h.2)) (fun _ h => h.1)) (fun _ h_ => by first | trivial | exact h_ | exact h_.1))
                clear BK209
                clear BK217
                clear HB
                clear HI212
                have BK209 := n0_
                have BK217 := n1_
                have HB := n2_
                have HI212 := n3_
                clear n0_ n1_ n2_ n3_
                (try clear hb)
                (try clear hb2)
                (try clear hk)
                (try clear hi)
                refine hK.out _ _ ⟨v235, adz_v235, v238, adz_v238, m7_, m9_, (by rw [ha.out]; exact putSel_upk 4 hb_ rfl rfl rfl), fun _ => (by (with_reducible repeat (first | refine blk_drewN ?_ _ | refine blk_drew ?_ | refine blk_alloc ?_ _)); exact BK209.out), (by (with_reducible repeat (first | refine blk_drewN ?_ _ | refine blk_drew ?_ | refine blk_alloc ?_ _)); exact BK217.out), fun h0_ => absurd ((hon 2 (by kernel_rfl)).symm.trans h0_) (by decide), (by repeat (first | (with_reducible first | exact HB.out | apply below_alloc | apply pw_below_drewN | apply below_drew1 | refine below_set ?_ (IsS92.ge HI212.out) | refine below_set ?_ GE209.out | refine below_set ?_ GE217.out) | exact HB.out)), fun _ h1_ => absurd ((up_self b 6).symm.trans h1_) (by decide), z_HO236, Q_HA_HO236, z_HO239, Q_HA_HO239, fun _ => (by repeat (first | (with_reducible first | exact HI212.out | apply IsS92.alloc | apply IsS92.drewN | apply IsS92.drew | apply IsS92.set_1 | refine IsS92.far ?_ NB212_209.out _ | refine IsS92.far ?_ NB212_217.out _) | exact HI212.out)), fun h0_ => absurd ((hoff 11 (by kernel_rfl)).symm.trans h0_) (by decide), fun h0_ => absurd ((hoff 7 (by kernel_rfl)).symm.trans h0_) (by decide), fun h0_ => absurd ((hoff 9 (by kernel_rfl)).symm.trans h0_) (by decide)⟩
              refine steps_cons ?_ ?_
              · rintro b a w' ⟨v235, adz_v235, v238, adz_v238, m7_, m9_, ha, Q_BK209, Q_BK217, Q_HI212, Q_HB, Q_HI212_e2, Q_HO236, Q_HA_HO236, Q_HO239, Q_HA_HO239, Q_HI212_e6, Q_BK209_e11, Q_X7_, Q_X9_⟩ hb_ hon hoff
                refine ⟨_, rfl, fun K hK => ?_⟩
                have e20 : a.tmps[20]? = some (v238) := by rw [ha]; exact putSel_on (e := (4, 20, v238)) 3 rfl rfl (hon 4 (by kernel_rfl)) rfl
                have e22 : a.tmps[22]? = some (.int .i64 t240) := by rw [ha]; exact putSel_on (e := (6, 22, .int .i64 t240)) 4 rfl rfl (hon 6 (by kernel_rfl)) rfl
                replace ha := Aside0.mk ha
                have BK217 := Aside0.mk Q_BK217
                have HB := Aside0.mk Q_HB
                have HO239 := Aside0.mk (Q_HO239 (hon 4 (by kernel_rfl)))
                have HA_HO239 := Aside0.mk (Q_HA_HO239 (hon 4 (by kernel_rfl)))
                have HI212 := Aside0.mk (Q_HI212_e6 (hon 6 (by kernel_rfl)))
                obtain ⟨c_, hv_⟩ := HA_HO239.out
                rw [hv_] at e20
                refine value_ (w1 := w') (v := .pointer (some (adz_v238.add (t240).toNat))) (by rfl) rfl ?_ ?_
                · go_simp
                  (try simp only [i64_w])
                  try rfl
                refine hK.out _ _ ⟨v235, adz_v235, v238, adz_v238, (.pointer (some (adz_v238.add (t240).toNat))), m9_, (by rw [ha.out]; exact putSel_upk 5 hb_ rfl rfl rfl), Q_BK209, Q_BK217, fun h0_ => absurd ((hon 2 (by kernel_rfl)).symm.trans h0_) (by decide), Q_HB, fun _ h1_ => absurd ((hon 6 (by kernel_rfl)).symm.trans h1_) (by decide), Q_HO236, Q_HA_HO236, Q_HO239, Q_HA_HO239, Q_HI212_e6, Q_BK209_e11, fun _ => rfl, fun h0_ => absurd ((hoff 9 (by kernel_rfl)).symm.trans h0_) (by decide)⟩
              refine steps_cons ?_ ?_
              · rintro b a w' ⟨v235, adz_v235, v238, adz_v238, m7_, m9_, ha, Q_BK209, Q_BK217, Q_HI212, Q_HB, Q_HI212_e2, Q_HO236, Q_HA_HO236, Q_HO239, Q_HA_HO239, Q_HI212_e6, Q_BK209_e11, Q_X7_, Q_X9_⟩ hb_ hon hoff
                refine ⟨_, rfl, fun K hK => ?_⟩
                have e23 : a.tmps[23]? = some (m7_) := by rw [ha]; exact putSel_on (e := (7, 23, m7_)) 5 rfl rfl (hon 7 (by kernel_rfl)) rfl
                rw [Q_X7_ (hon 7 (by kernel_rfl))] at e23
                replace ha := Aside0.mk ha
                have BK217 := Aside0.mk Q_BK217
                have HB := Aside0.mk Q_HB
                have HO239 := Aside0.mk (Q_HO239 (hon 4 (by kernel_rfl)))
                have HA_HO239 := Aside0.mk (Q_HA_HO239 (hon 4 (by kernel_rfl)))
                have HI212 := Aside0.mk (Q_HI212_e6 (hon 6 (by kernel_rfl)))
                obtain ⟨c_, hv_⟩ := HA_HO239.out
                have hF_ := HO239.out
                rw [hv_] at hF_
                obtain ⟨ad_, ea_, hx_⟩ := Kd.at_int (Kd.R_reads' hF_).2.2 t240 (of_eq_true pi242) (of_eq_true qi242)
                cases ea_
                refine value_ (w1 := w') (v := .int .i64 (rd y237 t240)) (by rfl) rfl ?_ ?_
                · go_simp
                  (try simp only [i64_w])
                  try rfl
                refine hK.out _ _ ⟨v235, adz_v235, v238, adz_v238, m7_, m9_, (by rw [ha.out]; exact putSel_upk 6 hb_ rfl rfl rfl), Q_BK209, Q_BK217, fun h0_ => absurd ((hon 2 (by kernel_rfl)).symm.trans h0_) (by decide), Q_HB, fun _ h1_ => absurd ((hon 6 (by kernel_rfl)).symm.trans h1_) (by decide), Q_HO236, Q_HA_HO236, Q_HO239, Q_HA_HO239, Q_HI212_e6, Q_BK209_e11, Q_X7_, fun h0_ => absurd ((hoff 9 (by kernel_rfl)).symm.trans h0_) (by decide)⟩
              refine steps_cons ?_ ?_
              · rintro b a w' ⟨v235, adz_v235, v238, adz_v238, m7_, m9_, ha, Q_BK209, Q_BK217, Q_HI212, Q_HB, Q_HI212_e2, Q_HO236, Q_HA_HO236, Q_HO239, Q_HA_HO239, Q_HI212_e6, Q_BK209_e11, Q_X7_, Q_X9_⟩ hb_ hon hoff
                refine ⟨_, rfl, fun K hK => ?_⟩
                have e19 : a.tmps[19]? = some (v235) := by rw [ha]; exact putSel_on (e := (3, 19, v235)) 2 rfl rfl (hon 3 (by kernel_rfl)) rfl
                have e24 : a.tmps[24]? = some (.int .i64 (rd y237 t240)) := by rw [ha]; exact putSel_on (e := (8, 24, .int .i64 (rd y237 t240))) 6 rfl rfl (hon 8 (by kernel_rfl)) rfl
                replace ha := Aside0.mk ha
                have BK217 := Aside0.mk Q_BK217
                have HB := Aside0.mk Q_HB
                have HO236 := Aside0.mk (Q_HO236 (hon 3 (by kernel_rfl)))
                have HA_HO236 := Aside0.mk (Q_HA_HO236 (hon 3 (by kernel_rfl)))
                have HO239 := Aside0.mk (Q_HO239 (hon 4 (by kernel_rfl)))
                have HA_HO239 := Aside0.mk (Q_HA_HO239 (hon 4 (by kernel_rfl)))
                have HI212 := Aside0.mk (Q_HI212_e6 (hon 6 (by kernel_rfl)))
                obtain ⟨c_, hv_⟩ := HA_HO236.out
                rw [hv_] at e19
                refine value_ (w1 := w') (v := .pointer (some (adz_v235.add ((rd y237 t240)).toNat))) (by rfl) rfl ?_ ?_
                · go_simp
                  (try simp only [i64_w])
                  try rfl
                refine hK.out _ _ ⟨v235, adz_v235, v238, adz_v238, m7_, (.pointer (some (adz_v235.add ((rd y237 t240)).toNat))), (by rw [ha.out]; exact putSel_upk 7 hb_ rfl rfl rfl), Q_BK209, Q_BK217, fun h0_ => absurd ((hon 2 (by kernel_rfl)).symm.trans h0_) (by decide), Q_HB, fun _ h1_ => absurd ((hon 6 (by kernel_rfl)).symm.trans h1_) (by decide), Q_HO236, Q_HA_HO236, Q_HO239, Q_HA_HO239, Q_HI212_e6, Q_BK209_e11, Q_X7_, fun _ => rfl⟩
              refine steps_cons ?_ ?_
              · rintro b a w' ⟨v235, adz_v235, v238, adz_v238, m7_, m9_, ha, Q_BK209, Q_BK217, Q_HI212, Q_HB, Q_HI212_e2, Q_HO236, Q_HA_HO236, Q_HO239, Q_HA_HO239, Q_HI212_e6, Q_BK209_e11, Q_X7_, Q_X9_⟩ hb_ hon hoff
                refine ⟨_, rfl, fun K hK => ?_⟩
                have e25 : a.tmps[25]? = some (m9_) := by rw [ha]; exact putSel_on (e := (9, 25, m9_)) 7 rfl rfl (hon 9 (by kernel_rfl)) rfl
                rw [Q_X9_ (hon 9 (by kernel_rfl))] at e25
                replace ha := Aside0.mk ha
                have BK217 := Aside0.mk Q_BK217
                have HB := Aside0.mk Q_HB
                have HO236 := Aside0.mk (Q_HO236 (hon 3 (by kernel_rfl)))
                have HA_HO236 := Aside0.mk (Q_HA_HO236 (hon 3 (by kernel_rfl)))
                have HO239 := Aside0.mk (Q_HO239 (hon 4 (by kernel_rfl)))
                have HA_HO239 := Aside0.mk (Q_HA_HO239 (hon 4 (by kernel_rfl)))
                have HI212 := Aside0.mk (Q_HI212_e6 (hon 6 (by kernel_rfl)))
                obtain ⟨c_, hv_⟩ := HA_HO236.out
                have hF_ := HO236.out
                rw [hv_] at hF_
                obtain ⟨ad_, ea_, hx_⟩ := Kd.at_int (Kd.R_reads' hF_).2.2 (rd y237 t240) (of_eq_true pi243) (of_eq_true qi243)
                cases ea_
                refine value_ (w1 := w') (v := .int .i64 (rd y234 (rd y237 t240))) (by rfl) rfl ?_ ?_
                · go_simp
                  (try simp only [i64_w])
                  try rfl
                refine hK.out _ _ ⟨v235, adz_v235, v238, adz_v238, m7_, m9_, (by rw [ha.out]; exact putSel_upk 8 hb_ rfl rfl rfl), Q_BK209, Q_BK217, fun h0_ => absurd ((hon 2 (by kernel_rfl)).symm.trans h0_) (by decide), Q_HB, fun _ h1_ => absurd ((hon 6 (by kernel_rfl)).symm.trans h1_) (by decide), Q_HO236, Q_HA_HO236, Q_HO239, Q_HA_HO239, Q_HI212_e6, Q_BK209_e11, Q_X7_, Q_X9_⟩
              refine steps_cons ?_ ?_
              · rintro b a w' ⟨v235, adz_v235, v238, adz_v238, m7_, m9_, ha, Q_BK209, Q_BK217, Q_HI212, Q_HB, Q_HI212_e2, Q_HO236, Q_HA_HO236, Q_HO239, Q_HA_HO239, Q_HI212_e6, Q_BK209_e11, Q_X7_, Q_X9_⟩ hb_ hon hoff
                refine ⟨_, rfl, fun K hK => ?_⟩
                have e2 : a.tmps[2]? = some (.pointer (some ⟨gb209, 0, none⟩)) := by rw [ha]; exact (putSel_off rfl).trans rfl
                have e16 : a.tmps[16]? = some (.agg #[.int .i64 t213, .int .i64 t214, .int .i64 t215]) := by rw [ha]; exact putSel_on (e := (0, 16, .agg #[.int .i64 t213, .int .i64 t214, .int .i64 t215])) 0 rfl rfl (hon 0 (by kernel_rfl)) rfl
                replace ha := Aside0.mk ha
                have BK209 := Aside0.mk (Q_BK209 hb_)
                have BK217 := Aside0.mk Q_BK217
                have HB := Aside0.mk Q_HB
                have HI212 := Aside0.mk (Q_HI212_e6 (hon 6 (by kernel_rfl)))
                have hs55 : w'.cell? ⟨gb209, 0, none⟩ = some (.int .i64 0) := (blk_cell BK209.out 0).trans rfl
                have hfs55 := blk_frozen BK209.out 0
                have hns55_1 := NB217_209.out
                have hms55_1 := NB209_217.out
                have hs56 : w'.cell? ⟨gb209, 1, none⟩ = some (.int .i64 0) := (blk_cell BK209.out 1).trans rfl
                have hfs56 := blk_frozen BK209.out 1
                have hns56_1 := NB217_209.out
                have hms56_1 := NB209_217.out
                have hs57 : w'.cell? ⟨gb209, 2, none⟩ = some (.int .i64 0) := (blk_cell BK209.out 2).trans rfl
                have hfs57 := blk_frozen BK209.out 2
                have hns57_1 := NB217_209.out
                have hms57_1 := NB209_217.out
                refine skip_ (w1 := ?_) (by rfl) rfl ?_ ?_
                rotate_left
                · go_simp
                  rfl
                refine hK.out _ _ ⟨v235, adz_v235, v238, adz_v238, m7_, m9_, (by rw [ha.out]; exact putSel_none (v := undef) rfl), fun h0_ => absurd ((up_self b 11).symm.trans h0_) (by decide), (by (with_reducible repeat (first | refine blk_drewN ?_ _ | refine blk_drew ?_ | refine blk_alloc ?_ _)); refine blk_far ?_ NB217_209.out _; (with_reducible repeat (first | refine blk_drewN ?_ _ | refine blk_drew ?_ | refine blk_alloc ?_ _)); refine blk_far ?_ NB217_209.out _; (with_reducible repeat (first | refine blk_drewN ?_ _ | refine blk_drew ?_ | refine blk_alloc ?_ _)); refine blk_far ?_ NB217_209.out _; (with_reducible repeat (first | refine blk_drewN ?_ _ | refine blk_drew ?_ | refine blk_alloc ?_ _)); exact BK217.out), fun h0_ => absurd ((hon 2 (by kernel_rfl)).symm.trans h0_) (by decide), (by repeat (first | (with_reducible first | exact HB.out | apply below_alloc | apply pw_below_drewN | apply below_drew1 | refine below_set ?_ (IsS92.ge HI212.out) | refine below_set ?_ GE209.out | refine below_set ?_ GE217.out) | exact HB.out)), fun _ h1_ => absurd ((hon 6 (by kernel_rfl)).symm.trans h1_) (by decide), fun h0_ => (by (with_reducible repeat (first | apply Kd.R_alloc | apply Kd.R_drewN | apply Kd.R_drew)); exact Kd.R_mono (Kd.R_far (p := ⟨gb209, 2, none⟩) (Kd.R_far (p := ⟨gb209, 1, none⟩) (Kd.R_far (p := ⟨gb209, 0, none⟩) (Kd.R_types (Q_HO236 h0_) BK209.out (by decide)) (fun _ hk => hk.2) (.int .i64 t213)) (fun _ hk => hk.2) (.int .i64 t214)) (fun _ hk => hk.2) (.int .i64 t215)) (fun _ hk => trivial)), Q_HA_HO236, fun h0_ => (by (with_reducible repeat (first | apply Kd.R_alloc | apply Kd.R_drewN | apply Kd.R_drew)); exact Kd.R_mono (Kd.R_far (p := ⟨gb209, 2, none⟩) (Kd.R_far (p := ⟨gb209, 1, none⟩) (Kd.R_far (p := ⟨gb209, 0, none⟩) (Kd.R_types (Q_HO239 h0_) BK209.out (by decide)) (fun _ hk => hk.2) (.int .i64 t213)) (fun _ hk => hk.2) (.int .i64 t214)) (fun _ hk => hk.2) (.int .i64 t215)) (fun _ hk => trivial)), Q_HA_HO239, fun _ => (by repeat (first | (with_reducible first | exact HI212.out | apply IsS92.alloc | apply IsS92.drewN | apply IsS92.drew | apply IsS92.set_1 | refine IsS92.far ?_ NB212_209.out _ | refine IsS92.far ?_ NB212_217.out _) | exact HI212.out)), fun _ => (by (with_reducible repeat (first | refine blk_drewN ?_ _ | refine blk_drew ?_ | refine blk_alloc ?_ _)); refine blk_put (cs := #[.int .i64 t213, .int .i64 t214, .int .i64 0]) ?_ 2 _ rfl; (with_reducible repeat (first | refine blk_drewN ?_ _ | refine blk_drew ?_ | refine blk_alloc ?_ _)); refine blk_put (cs := #[.int .i64 t213, .int .i64 0, .int .i64 0]) ?_ 1 _ rfl; (with_reducible repeat (first | refine blk_drewN ?_ _ | refine blk_drew ?_ | refine blk_alloc ?_ _)); refine blk_put (cs := #[.int .i64 0, .int .i64 0, .int .i64 0]) ?_ 0 _ rfl; (with_reducible repeat (first | refine blk_drewN ?_ _ | refine blk_drew ?_ | refine blk_alloc ?_ _)); exact BK209.out), Q_X7_, Q_X9_⟩
              refine steps_cons ?_ ?_
              · rintro b a w' ⟨v235, adz_v235, v238, adz_v238, m7_, m9_, ha, Q_BK209, Q_BK217, Q_HI212, Q_HB, Q_HI212_e2, Q_HO236, Q_HA_HO236, Q_HO239, Q_HA_HO239, Q_HI212_e6, Q_BK209_e11, Q_X7_, Q_X9_⟩ hb_ hon hoff
                refine ⟨_, rfl, fun K hK => ?_⟩
                have e26 : a.tmps[26]? = some (.int .i64 (rd y234 (rd y237 t240))) := by rw [ha]; exact putSel_on (e := (10, 26, .int .i64 (rd y234 (rd y237 t240)))) 8 rfl rfl (hon 10 (by kernel_rfl)) rfl
                replace ha := Aside0.mk ha
                have BK217 := Aside0.mk Q_BK217
                have HB := Aside0.mk Q_HB
                have HO236 := Aside0.mk (Q_HO236 (hon 3 (by kernel_rfl)))
                have HA_HO236 := Aside0.mk (Q_HA_HO236 (hon 3 (by kernel_rfl)))
                have HO239 := Aside0.mk (Q_HO239 (hon 4 (by kernel_rfl)))
                have HA_HO239 := Aside0.mk (Q_HA_HO239 (hon 4 (by kernel_rfl)))
                have HI212 := Aside0.mk (Q_HI212_e6 (hon 6 (by kernel_rfl)))
                have BK209 := Aside0.mk (Q_BK209_e11 (hon 11 (by kernel_rfl)))
                refine value_ (w1 := w') (v := .int .i64 (rd y234 (rd y237 t240))) (by rfl) rfl ?_ ?_
                · go_simp
                  (try simp only [i64_w])
                  try rfl
                refine hK.out _ _ ⟨v235, adz_v235, v238, adz_v238, m7_, m9_, (by rw [ha.out]; exact putSel_upk 9 hb_ rfl rfl rfl), fun h0_ => absurd ((hon 11 (by kernel_rfl)).symm.trans h0_) (by decide), Q_BK217, fun h0_ => absurd ((hon 2 (by kernel_rfl)).symm.trans h0_) (by decide), Q_HB, fun _ h1_ => absurd ((hon 6 (by kernel_rfl)).symm.trans h1_) (by decide), Q_HO236, Q_HA_HO236, Q_HO239, Q_HA_HO239, Q_HI212_e6, Q_BK209_e11, Q_X7_, Q_X9_⟩
              exact steps_nil
            rintro b a w63 hall ⟨v235, adz_v235, v238, adz_v238, m7_, m9_, ha, Q_BK209, Q_BK217, Q_HI212, Q_HB, Q_HI212_e2, Q_HO236, Q_HA_HO236, Q_HO239, Q_HA_HO239, Q_HI212_e6, Q_BK209_e11, Q_X7_, Q_X9_⟩
            clear BK209 BK217 HB HI212
            have hb0_ := hall 0 (by kernel_rfl)
            have hb2_ := hall 2 (by kernel_rfl)
            have hb3_ := hall 3 (by kernel_rfl)
            have hb4_ := hall 4 (by kernel_rfl)
            have hb6_ := hall 6 (by kernel_rfl)
            have hb7_ := hall 7 (by kernel_rfl)
            have hb8_ := hall 8 (by kernel_rfl)
            have hb9_ := hall 9 (by kernel_rfl)
            have hb10_ := hall 10 (by kernel_rfl)
            have hb11_ := hall 11 (by kernel_rfl)
            have hb12_ := hall 12 (by kernel_rfl)
            subst ha
            obtain rfl := Q_X7_ hb7_
            obtain rfl := Q_X9_ hb9_
            simp only [putSel, hb0_, hb2_, hb3_, hb4_, hb6_, hb7_, hb8_, hb9_, hb10_, hb11_, hb12_, if_true, Act.put, List.setIfInBounds_toArray, List.set_cons_zero, List.set_cons_succ]
            clear Q_BK209
            have BK217 := Aside0.mk Q_BK217
            clear Q_BK217
            clear Q_HI212
            have HB := Aside0.mk Q_HB
            clear Q_HB
            clear Q_HI212_e2
            have HO236 := Aside0.mk (Q_HO236 hb3_)
            clear Q_HO236
            have HA_HO236 := Aside0.mk (Q_HA_HO236 hb3_)
            clear Q_HA_HO236
            have HO239 := Aside0.mk (Q_HO239 hb4_)
            clear Q_HO239
            have HA_HO239 := Aside0.mk (Q_HA_HO239 hb4_)
            clear Q_HA_HO239
            have HI212 := Aside0.mk (Q_HI212_e6 hb6_)
            clear Q_HI212_e6
            have BK209 := Aside0.mk (Q_BK209_e11 hb11_)
            clear Q_BK209_e11
            clear hall hb0_ hb2_ hb3_ hb4_ hb6_ hb7_ hb8_ hb9_ hb10_ hb11_ hb12_
            obtain ⟨co64, eo64⟩ := HA_HO236.out
            clear HA_HO236
            subst eo64
            obtain ⟨co65, eo65⟩ := HA_HO239.out
            clear HA_HO239
            subst eo65
            try go_wp2
            refine bodyPost_ret (results_ct rfl _ _ gb209 27 #[.int .i64 t213, .int .i64 t214, .int .i64 t215] (0, 0) _ rfl (by (with_reducible repeat (first | refine blk_drewN ?_ _ | refine blk_drew ?_ | refine blk_alloc ?_ _)); exact BK209.out) Try.underlying27 rfl (by kernel_rfl)) rfl ?_
            exact ⟨by first | rfl | (simp [errW_none, errW_some] <;> rfl) | (simp [*, errW_none, errW_some] <;> rfl), by repeat (first | (with_reducible first | exact HB.out | apply below_alloc | apply pw_below_drewN | apply below_drew1 | refine below_set ?_ (IsS92.ge HI212.out) | refine below_set ?_ GE209.out | refine below_set ?_ GE217.out) | exact HB.out)⟩
          · rw [if_neg c42] at H
            exact absurd H (by simp)
        · rw [if_neg c41] at H
          exact absurd H (by simp)
      · rw [if_neg c40] at H
        exact absurd H (by simp)
    · rw [if_neg c39] at H
      exact absurd H (by simp)

end Go.Proofs.Ytkmpcmhkfnoeiaa.P
-- Laid by a program of this work.
namespace Go.Proofs.Ytkmpcmhkfnoeiaa.P
open Go.RowKit Go.Proofs.YtkmpcmhkfnoeiaaW.PrintWords Go.Proofs.YtkmpcmhkfnoeiaaW.PrintLast Go.Proofs.YtkmpcmhkfnoeiaaW.PrintMore
attribute [local go_sem] max2_int min2_int max_two min_two max_three min_three max_four min_four   -- for this text's walks alone
set_option linter.unusedVariables false
set_option linter.unusedSimpArgs false

/-! ### laws_alive: function 23 -/
def laws_alive.f  : Option (Bool) := (impl_TaskValid.f 1 1 1).bind fun t244 => (some t244)
set_option maxHeartbeats 8000000 in
set_option maxRecDepth 100000 in
theorem laws_alive.calls  (r : Bool) (w : World) (h : laws_alive.f  = some r) :
    Calls Try.prog 23 #[] w fun e w' => e = .returned (.bool r) ∧ Below w.heap.size w w' := by
  have hu27 := Try.underlying27
  have HB := Aside0.mk (Below.refl w.heap.size w)
  have H : ((impl_TaskValid.f 1 1 1).bind fun t244 => (some t244)) = some r := h
  clear h
  replace H := Option.bind_eq_some_iff.mp H
  obtain ⟨t244, A10, H⟩ := H
  replace H : (some t244) = some r := H
  have A1 := Aside0.mk A10
  clear A10
  obtain rfl := Option.some.inj H
  go_enter Try.func23, Try.ntmps23
  go_wp2_with (first | ((with_reducible refine gate_callee (f := 61) rfl ?_); refine goesL_ (some 2) rfl rfl Try.func61 (by kernel_rfl) rfl #[.agg #[.int .i64 1, .int .i64 1, .int .i64 1]] rfl (by (try simp only [List.map_toArray, List.map_cons, List.map_nil]); first | done | rfl | (simp only [List.length_drop, List.length_take]; rfl)) ?_; (with_reducible refine (impl_TaskValid.calls 1 1 1 t244 _ A1.out).mono ?_); rintro e w2 ⟨rfl, hb⟩; refine ⟨_, rfl, ?_⟩; have n0_ := Aside0.mk (below_step (by repeat (first | (with_reducible first | exact HB.out | apply below_alloc | apply pw_below_drewN | apply below_drew1) | exact HB.out)) hb); clear HB; have HB := n0_; clear n0_; (try clear hb); (try clear hb2); (try clear hk); (try clear hi)))
  go_ret
  exact ⟨by first | rfl | (simp [errW_none, errW_some] <;> rfl) | (simp [*, errW_none, errW_some] <;> rfl), by repeat (first | (with_reducible first | exact HB.out | apply below_alloc | apply pw_below_drewN | apply below_drew1) | exact HB.out)⟩

end Go.Proofs.Ytkmpcmhkfnoeiaa.P
