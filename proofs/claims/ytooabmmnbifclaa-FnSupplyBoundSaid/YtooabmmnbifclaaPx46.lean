-- Laid by a program of this work.
import Derived.Test.YtooabmmnbifclaaPx0
import Derived.Test.YtooabmmnbifclaaPx33
import Derived.Test.YtooabmmnbifclaaPx35
import Derived.Test.YtooabmmnbifclaaPx36
namespace Go.Proofs.Ytooabmmnbifclaa.P
open Go.RowKit Go.Proofs.YtooabmmnbifclaaW.PrintWords Go.Proofs.YtooabmmnbifclaaW.PrintLast Go.Proofs.YtooabmmnbifclaaW.PrintMore
attribute [local go_sem] max2_int min2_int max_two min_two max_three min_three max_four min_four   -- for this text's walks alone
set_option linter.unusedVariables false
set_option linter.unusedSimpArgs false

/-! ### spec_DrawSupplyBound: function 39 -/
def spec_DrawSupplyBound.f (k : Nat) (l0 : List Int) : Option (Int × Int × Int) := (spec_l20Open.f l0).bind fun bt344 => ((spec_l20Supply.f k bt344.1 bt344.2 9).bind fun bt347 => ((spec_l20Rd_pick.f k bt344.1 bt347.2.2 60).bind fun bt350 => ((some (([bt350.1, (-1), 100001] : List Int) : List Int)).bind fun y352 => ((some (([0, 0, 0, 0, 1, 2] : List Int) : List Int)).bind fun y355 => ((spec_l20Rd_pick.f k bt344.1 bt350.2 6).bind fun bt358 => (if 0 ≤ bt358.1 then (if bt358.1 < (y355.length : Int) then (if 0 ≤ (rd y355 bt358.1) then (if (rd y355 bt358.1) < (y352.length : Int) then (some (bt347.1, bt347.2.1, rd y352 (rd y355 bt358.1))) else (none)) else (none)) else (none)) else (none)))))))
theorem spec_DrawSupplyBound.mono : ∀ a0 k, LeO (spec_DrawSupplyBound.f k a0) (spec_DrawSupplyBound.f (k + 1) a0) := by
  intro a0 k
  unfold spec_DrawSupplyBound.f
  repeat' first
      | (with_reducible exact spec_l20Rd_pick.mono _ _ _ _)
      | (with_reducible exact spec_l20Supply.mono _ _ _ _)
      | (with_reducible exact LeO.refl _)
      | (with_reducible exact LeO.none _)
      | (with_reducible refine LeO.ite ?_ ?_)
      | (with_reducible refine LeO.bind ?_ (fun _ => ?_))
      | exact spec_l20Rd_pick.mono _ _ _ _
      | exact spec_l20Supply.mono _ _ _ _
      | exact LeO.none _
      | refine LeO.ite ?_ ?_
      | refine LeO.bind ?_ (fun _ => ?_)
def spec_DrawSupplyBound.T2 : Bool × List (List Nat × List Nat) := (true, [([], []), ([0], [0]), ([], []), ([2, 1], [2]), ([3], [3]), ([], []), ([], []), ([6, 3], [6]), ([5, 7], [5, 7]), ([8], [8]), ([4, 9], [4, 9]), ([10], [10]), ([1, 7, 0, 1], [1]), ([11, 12, 0, 1, 2, 3, 4, 5, 6, 7, 8, 9, 10, 11, 12], [11])])
def spec_DrawSupplyBound.B2 : List Nat := [0, 1, 0, 7, 15, 0, 0, 79, 239, 495, 1023, 2047, 207, 8191]
theorem spec_DrawSupplyBound.tab2 : rtab .any (opsOf Try.f39 2) = spec_DrawSupplyBound.T2 := by kernel_rfl
theorem spec_DrawSupplyBound.bits2 : waitsOk spec_DrawSupplyBound.T2.2 spec_DrawSupplyBound.B2 = true := by kernel_rfl
set_option maxHeartbeats 8000000 in
set_option maxRecDepth 100000 in
theorem spec_DrawSupplyBound.calls (k : Nat) (A0 : Option Addr) (c0 : Nat) (l0 : List Int) (r1 : Int) (r2 : Int) (r3 : Int) (w : World) (hr0 : Kd.C (Kd.int .u8) w A0 l0.length l0) (hc0 : l0.length ≤ c0) (h : spec_DrawSupplyBound.f k l0 = some (r1, r2, r3)) :
    Calls Try.prog 39 #[.slice A0 l0.length c0] w fun e w' => e = .returned (.tuple #[.agg #[.int .i64 r1, .int .i64 r2], .int .i64 r3]) ∧ Below w.heap.size w w' := by
  have hu37 := Try.underlying37
  have HR0 := Aside0.mk hr0
  have HC0 := Aside0.mk hc0
  clear hr0 hc0
  have HB := Aside0.mk (Below.refl w.heap.size w)
  have H : ((spec_l20Open.f l0).bind fun bt344 => ((spec_l20Supply.f k bt344.1 bt344.2 9).bind fun bt347 => ((spec_l20Rd_pick.f k bt344.1 bt347.2.2 60).bind fun bt350 => ((some (([bt350.1, (-1), 100001] : List Int) : List Int)).bind fun y352 => ((some (([0, 0, 0, 0, 1, 2] : List Int) : List Int)).bind fun y355 => ((spec_l20Rd_pick.f k bt344.1 bt350.2 6).bind fun bt358 => (if 0 ≤ bt358.1 then (if bt358.1 < (y355.length : Int) then (if 0 ≤ (rd y355 bt358.1) then (if (rd y355 bt358.1) < (y352.length : Int) then (some (bt347.1, bt347.2.1, rd y352 (rd y355 bt358.1))) else (none)) else (none)) else (none)) else (none)))))))) = some (r1, r2, r3) := h
  clear h
  replace H := Option.bind_eq_some_iff.mp H
  obtain ⟨⟨t344, t345⟩, A20, H⟩ := H
  replace H : ((spec_l20Supply.f k t344 t345 9).bind fun bt347 => ((spec_l20Rd_pick.f k t344 bt347.2.2 60).bind fun bt350 => ((some (([bt350.1, (-1), 100001] : List Int) : List Int)).bind fun y352 => ((some (([0, 0, 0, 0, 1, 2] : List Int) : List Int)).bind fun y355 => ((spec_l20Rd_pick.f k t344 bt350.2 6).bind fun bt358 => (if 0 ≤ bt358.1 then (if bt358.1 < (y355.length : Int) then (if 0 ≤ (rd y355 bt358.1) then (if (rd y355 bt358.1) < (y352.length : Int) then (some (bt347.1, bt347.2.1, rd y352 (rd y355 bt358.1))) else (none)) else (none)) else (none)) else (none))))))) = some (r1, r2, r3) := H
  have A2 := Aside0.mk A20
  clear A20
  replace H := Option.bind_eq_some_iff.mp H
  obtain ⟨⟨t347, t348, t349⟩, A30, H⟩ := H
  replace H : ((spec_l20Rd_pick.f k t344 t349 60).bind fun bt350 => ((some (([bt350.1, (-1), 100001] : List Int) : List Int)).bind fun y352 => ((some (([0, 0, 0, 0, 1, 2] : List Int) : List Int)).bind fun y355 => ((spec_l20Rd_pick.f k t344 bt350.2 6).bind fun bt358 => (if 0 ≤ bt358.1 then (if bt358.1 < (y355.length : Int) then (if 0 ≤ (rd y355 bt358.1) then (if (rd y355 bt358.1) < (y352.length : Int) then (some (t347, t348, rd y352 (rd y355 bt358.1))) else (none)) else (none)) else (none)) else (none)))))) = some (r1, r2, r3) := H
  have A3 := Aside0.mk A30
  clear A30
  replace H := Option.bind_eq_some_iff.mp H
  obtain ⟨⟨t350, t351⟩, A40, H⟩ := H
  replace H : ((some (([t350, (-1), 100001] : List Int) : List Int)).bind fun y352 => ((some (([0, 0, 0, 0, 1, 2] : List Int) : List Int)).bind fun y355 => ((spec_l20Rd_pick.f k t344 t351 6).bind fun bt358 => (if 0 ≤ bt358.1 then (if bt358.1 < (y355.length : Int) then (if 0 ≤ (rd y355 bt358.1) then (if (rd y355 bt358.1) < (y352.length : Int) then (some (t347, t348, rd y352 (rd y355 bt358.1))) else (none)) else (none)) else (none)) else (none))))) = some (r1, r2, r3) := H
  have A4 := Aside0.mk A40
  clear A40
  obtain ⟨y352, hy352⟩ : ∃ y_ : List Int, y_ = (([t350, (-1), 100001] : List Int)) := ⟨_, rfl⟩
  replace H : ((some (([0, 0, 0, 0, 1, 2] : List Int) : List Int)).bind fun y355 => ((spec_l20Rd_pick.f k t344 t351 6).bind fun bt358 => (if 0 ≤ bt358.1 then (if bt358.1 < (y355.length : Int) then (if 0 ≤ (rd y355 bt358.1) then (if (rd y355 bt358.1) < (y352.length : Int) then (some (t347, t348, rd y352 (rd y355 bt358.1))) else (none)) else (none)) else (none)) else (none)))) = some (r1, r2, r3) := by first | (rw [hy352]; with_reducible exact H) | (have H2_ := (Option.bind_some _ _).symm.trans H; rw [hy352]; with_reducible exact H2_) | (have H2_ := (Option.bind_some _ _).symm.trans H; with_reducible exact H2_) | with_reducible exact H | (rw [hy352]; exact H) | exact H
  have Ny352 := Aside0.mk hy352
  clear hy352
  obtain ⟨y355, hy355⟩ : ∃ y_ : List Int, y_ = (([0, 0, 0, 0, 1, 2] : List Int)) := ⟨_, rfl⟩
  replace H : ((spec_l20Rd_pick.f k t344 t351 6).bind fun bt358 => (if 0 ≤ bt358.1 then (if bt358.1 < (y355.length : Int) then (if 0 ≤ (rd y355 bt358.1) then (if (rd y355 bt358.1) < (y352.length : Int) then (some (t347, t348, rd y352 (rd y355 bt358.1))) else (none)) else (none)) else (none)) else (none))) = some (r1, r2, r3) := by first | (rw [hy355]; with_reducible exact H) | (have H2_ := (Option.bind_some _ _).symm.trans H; rw [hy355]; with_reducible exact H2_) | (have H2_ := (Option.bind_some _ _).symm.trans H; with_reducible exact H2_) | with_reducible exact H | (rw [hy355]; exact H) | exact H
  have Ny355 := Aside0.mk hy355
  clear hy355
  replace H := Option.bind_eq_some_iff.mp H
  obtain ⟨⟨t358, t359⟩, A50, H⟩ := H
  replace H : (if 0 ≤ t358 then (if t358 < (y355.length : Int) then (if 0 ≤ (rd y355 t358) then (if (rd y355 t358) < (y352.length : Int) then (some (t347, t348, rd y352 (rd y355 t358))) else (none)) else (none)) else (none)) else (none)) = some (r1, r2, r3) := H
  have A5 := Aside0.mk A50
  clear A50
  by_cases c6 : 0 ≤ t358
  · rw [if_pos c6] at H
    have c6b0 : decide (0 ≤ t358) = true := decide_eq_true c6
    clear c6
    by_cases c7 : t358 < (y355.length : Int)
    · rw [if_pos c7] at H
      have c7b0 : decide (t358 < (y355.length : Int)) = true := decide_eq_true c7
      clear c7
      by_cases c8 : 0 ≤ (rd y355 t358)
      · rw [if_pos c8] at H
        have c8b0 : decide (0 ≤ (rd y355 t358)) = true := decide_eq_true c8
        clear c8
        by_cases c9 : (rd y355 t358) < (y352.length : Int)
        · rw [if_pos c9] at H
          have c9b0 : decide ((rd y355 t358) < (y352.length : Int)) = true := decide_eq_true c9
          clear c9
          simp only [Option.some.injEq, Prod.mk.injEq] at H
          obtain ⟨rfl, rfl, rfl⟩ := H
          go_enter Try.func39, Try.ntmps39
          try go_wp2_with (first | ((with_reducible refine gate_dst (N := 2) rfl ?_); refine box_event ?hg (N := 2) ?hd (cs := #[.int .i64 0, .int .i64 0]) (t := 37) ?hr ?_; (case hd => rfl); (case hg => rfl); (case hr => first | (go_simp; done) | (go_simp; rfl)); intro gb343 hg w10 hbox hb; have n0_ := Aside0.mk (below_step (by repeat (first | (with_reducible first | exact HB.out | apply below_alloc | apply pw_below_drewN | apply below_drew1) | exact HB.out)) hb); have n1_ := Aside0.mk (hbox); have n2_ := Aside0.mk ((by rw [hg]; exact (below_size (by repeat (first | (with_reducible first | exact HB.out | apply below_alloc | apply pw_below_drewN | apply below_drew1) | exact HB.out))) : w.heap.size ≤ gb343)); have n3_ := Aside0.mk ((by rw [hg]; exact (below_size (by repeat (first | (with_reducible first | exact HB.out | apply below_alloc | apply pw_below_drewN | apply below_drew1) | exact HB.out))) : w.heap.size ≤ gb343)); clear HB; have HB := n0_; have BK343 := n1_; have GW343 := n2_; have GE343 := n3_; clear n0_ n1_ n2_ n3_; clear hb hbox hg) | ((with_reducible refine gate_callee (f := 54) rfl ?_); refine goesL_ (some 6) rfl rfl Try.func54 (by kernel_rfl) rfl #[.slice A0 l0.length c0] rfl (by (try simp only [List.map_toArray, List.map_cons, List.map_nil]); first | done | rfl | (simp only [List.length_drop, List.length_take]; rfl)) ?_; (with_reducible refine (spec_l20Open.calls _ _ l0 t344 t345 w _ ?side1 ?side2 ?side3 A2.out).mono ?_); (case side1 => repeat (first | (with_reducible first | exact HB.out | apply below_alloc | apply pw_below_drewN | apply below_drew1 | refine below_set ?_ GE343.out) | exact HB.out)); (case side2 => exact HR0.out); (case side3 => exact HC0.out); rintro e w11 ⟨g346, rfl, hi, hb, hb2⟩; refine ⟨_, rfl, ?_⟩; have n0_ := Aside0.mk (blk_below (g := gb343) (o := .cells #[.int .i64 0, .int .i64 0] 37 (0, 0)) (by (with_reducible repeat (first | refine blk_drewN ?_ _ | refine blk_drew ?_ | refine blk_alloc ?_ _)); exact BK343.out) hb2); have n1_ := Aside0.mk (hb); have n2_ := Aside0.mk (hi); have n3_ := Aside0.mk (IsS84.ne_blk hi (blk_below (g := gb343) (o := .cells #[.int .i64 0, .int .i64 0] 37 (0, 0)) (by (with_reducible repeat (first | refine blk_drewN ?_ _ | refine blk_drew ?_ | refine blk_alloc ?_ _)); exact BK343.out) hb2) (by decide)); have n4_ := Aside0.mk (Ne.symm (IsS84.ne_blk hi (blk_below (g := gb343) (o := .cells #[.int .i64 0, .int .i64 0] 37 (0, 0)) (by (with_reducible repeat (first | refine blk_drewN ?_ _ | refine blk_drew ?_ | refine blk_alloc ?_ _)); exact BK343.out) hb2) (by decide))); clear BK343; clear HB; have BK343 := n0_; have HB := n1_; have HI346 := n2_; have NB346_343 := n3_; have NB343_346 := n4_; clear n0_ n1_ n2_ n3_ n4_; (try clear hb); (try clear hb2); (try clear hk); (try clear hi)))
          have pi360 : (0 ≤ (t358 : Int)) = True := eq_true (of_decide_eq_true (by first | (with_reducible assumption) | assumption))
          have qi360 : (t358 < (y355.length : Int)) = True := eq_true (of_decide_eq_true (by first | (with_reducible assumption) | assumption))
          have pi361 : (0 ≤ ((rd y355 t358) : Int)) = True := eq_true (of_decide_eq_true (by first | (with_reducible assumption) | assumption))
          have qi361 : ((rd y355 t358) < (y352.length : Int)) = True := eq_true (of_decide_eq_true (by first | (with_reducible assumption) | assumption))
          have n0_ := Aside0.mk (blk_drew BK343.out)
          have n1_ := Aside0.mk (IsS84.drew HI346.out)
          have n2_ := Aside0.mk (below_drew1 HB.out)
          clear BK343
          clear HI346
          clear HB
          have BK343 := n0_
          have HI346 := n1_
          have HB := n2_
          clear n0_ n1_ n2_
          refine start_ (n := 14) (S := fun w' => True) (ds := []) #[false, false, false, false, false, false, false, false, false, false, false, false, false, false] (by kernel_rfl) rfl rfl trivial (fun hHeld => ?_); refine with_tabW spec_DrawSupplyBound.tab2 spec_DrawSupplyBound.bits2 (fun HT_ HW_ => ?_)
          generalize w11.drew = w12 at BK343 HI346 HB hHeld ⊢
          refine pure_ (i := 0) (N := some 7) (v := ?_) (a' := ?_) #[true, false, false, false, false, false, false, false, false, false, false, false, false, false] rfl rfl (any_of HT_.out (by kernel_rfl)) (fun _ _ _ h => h) (Or.inl ⟨by rfl, ?_⟩) ?_ ?_
          rotate_left
          · intro w'
            go_simp
            with_reducible rfl
          rotate_left
          · simp only [Act.put, List.setIfInBounds_toArray, List.set_cons_zero, List.set_cons_succ, i64_w, i32_w]
            rfl
          refine pure_ (i := 2) (N := some 9) (v := ?_) (a' := ?_) #[true, false, true, false, false, false, false, false, false, false, false, false, false, false] rfl rfl (any_of HT_.out (by kernel_rfl)) (fun _ _ _ h => h) (Or.inl ⟨by rfl, ?_⟩) ?_ ?_
          rotate_left
          · intro w'
            go_simp
            with_reducible rfl
          rotate_left
          · simp only [Act.put, List.setIfInBounds_toArray, List.set_cons_zero, List.set_cons_succ, i64_w, i32_w]
            rfl
          refine pure_ (i := 6) (N := some 13) (v := ?_) (a' := ?_) #[true, false, true, false, false, false, true, false, false, false, false, false, false, false] rfl rfl (any_of HT_.out (by kernel_rfl)) (fun _ _ _ h => h) (Or.inl ⟨by rfl, ?_⟩) ?_ ?_
          rotate_left
          · intro w'
            go_simp
            with_reducible rfl
          rotate_left
          · simp only [Act.put, List.setIfInBounds_toArray, List.set_cons_zero, List.set_cons_succ, i64_w, i32_w]
            rfl
          refine inv_at [1, 3, 4, 5, 7, 8, 9, 10, 11, 12, 13] (fun a0_ b a w' => ∃ (v353 : Value) (adz_v353 : Addr) (v356 : Value) (adz_v356 : Addr) (m8_ : Value) (m10_ : Value), a = putSel a0_ b [(1, 8, .agg #[.int .i64 t347, .int .i64 t348]), (3, 10, .int .i64 t350), (4, 11, v353), (5, 12, v356), (7, 14, .int .i64 t358), (8, 15, m8_), (9, 16, .int .i64 (rd y355 t358)), (10, 17, m10_), (11, 18, .int .i64 (rd y352 (rd y355 t358))), (13, 3, .int .i64 (rd y352 (rd y355 t358)))] ∧ (b 12 = false → w'.heap[gb343]? = some (.cells #[.int .i64 0, .int .i64 0] 37 (0, 0))) ∧ (b 1 = false → IsS84 w w' g346 t344 t345) ∧ (Below w.heap.size w w') ∧ (b 1 = true → b 3 = false → IsS84 w w' g346 t344 t349) ∧ (b 3 = true → b 7 = false → IsS84 w w' g346 t344 t351) ∧ (b 4 = true → Kd.R (Kd.int .i64) 3 w' w.heap.size (fun _ => True) v353 y352) ∧ (b 4 = true → ∃ c_, (v353 : Value) = .slice (some adz_v353) y352.length c_) ∧ (b 5 = true → Kd.R (Kd.int .i64) 3 w' w.heap.size (fun _ => True) v356 y355) ∧ (b 5 = true → ∃ c_, (v356 : Value) = .slice (some adz_v356) y355.length c_) ∧ (b 7 = true → IsS84 w w' g346 t344 t359) ∧ (b 12 = true → w'.heap[gb343]? = some (.cells #[.int .i64 t347, .int .i64 t348] 37 (0, 0))) ∧ (b 8 = true → (m8_ : Value) = .pointer (some (adz_v356.add (t358).toNat))) ∧ (b 10 = true → (m10_ : Value) = .pointer (some (adz_v353.add ((rd y355 t358)).toNat)))) HT_.out HW_.out (by kernel_rfl) (by kernel_rfl) ?_ ?_ ?_
          · exact ⟨.bool false, ⟨0, 0, none⟩, .bool false, ⟨0, 0, none⟩, .bool false, .bool false, by simp only [putSel, Bool.false_eq_true, if_false], fun _ => BK343.out, fun _ => HI346.out, HB.out, fun h_ => absurd h_ (by decide), fun h_ => absurd h_ (by decide), fun h_ => absurd h_ (by decide), fun h_ => absurd h_ (by decide), fun h_ => absurd h_ (by decide), fun h_ => absurd h_ (by decide), fun h_ => absurd h_ (by decide), fun h_ => absurd h_ (by decide), fun h_ => absurd h_ (by decide), fun h_ => absurd h_ (by decide)⟩
          · skip
            clear BK343 HB HI346
            refine steps_cons ?_ ?_
            · rintro b a w' ⟨v353, adz_v353, v356, adz_v356, m8_, m10_, ha, Q_BK343, Q_HI346, Q_HB, Q_HI346_e1, Q_HI346_e3, Q_HO354, Q_HA_HO354, Q_HO357, Q_HA_HO357, Q_HI346_e7, Q_BK343_e12, Q_X8_, Q_X10_⟩ hb_ hon hoff
              refine ⟨_, rfl, fun K hK => ?_⟩
              have e7 : a.tmps[7]? = some (.pointer (some ⟨g346, 0, none⟩)) := by rw [ha]; exact (putSel_off rfl).trans rfl
              replace ha := Aside0.mk ha
              have BK343 := Aside0.mk (Q_BK343 (hoff 12 (by kernel_rfl)))
              have HI346 := Aside0.mk (Q_HI346 hb_)
              have HB := Aside0.mk Q_HB
              refine goes_ Try.func53 (by kernel_rfl) rfl #[.pointer (some ⟨g346, 0, none⟩), .int .i64 9] (by rfl) rfl rfl (by first | (simp only [List.map_toArray, List.map_cons, List.map_nil, Act.eval, Array.getD_eq_getD_getElem?, Option.getD_some, e7]; done) | (simp only [List.map_toArray, List.map_cons, List.map_nil, Act.eval, Array.getD_eq_getD_getElem?, Option.getD_some, e7]; rfl)) ?_
              with_reducible refine (spec_l20Supply.calls k g346 t344 t345 9 t347 t348 t349 w _ ?side1 ?side2 A3.out).mono ?_
              (case side1 => repeat (first | (with_reducible first | exact HI346.out | apply IsS84.alloc | apply IsS84.drewN | apply IsS84.drew | apply IsS84.set_1 | refine IsS84.far ?_ NB346_343.out _) | exact HI346.out))
              (case side2 => repeat (first | (with_reducible first | exact HB.out | apply below_alloc | apply pw_below_drewN | apply below_drew1 | refine below_set ?_ (IsS84.ge HI346.out) | refine below_set ?_ GE343.out) | exact HB.out))
              rintro e w13 ⟨rfl, hi, hb, hk⟩
              refine ⟨_, rfl, ?_⟩
              have n0_ := Aside0.mk (KeepBut.blk hk (g' := gb343) (o := .cells #[.int .i64 0, .int .i64 0] 37 (0, 0)) (by (with_reducible repeat (first | refine blk_drewN ?_ _ | refine blk_drew ?_ | refine blk_alloc ?_ _)); exact BK343.out) NB343_346.out (by simp))
              have n1_ := Aside0.mk (hb)
              have n2_ := Aside0.mk (hi)
              have z_HO357 := fun (h0_ : b 5 = true) => (show Kd.R (Kd.int .i64) 3 w13 w.heap.size (fun _ => True) v356 y355 from by first | exact (Kd.R_mono (Kd.R_keep (IsS84.apart (show IsS84 w _ g346 t344 t345 from by repeat (first | (with_reducible first | exact HI346.out | apply IsS84.alloc | apply IsS84.drewN | apply IsS84.drew | apply IsS84.set_1 | refine IsS84.far ?_ NB346_343.out _) | exact HI346.out)) (by (with_reducible repeat (first | apply Kd.R_alloc | apply Kd.R_drewN | apply Kd.R_drew)); exact (Q_HO357 h0_)) (by decide)) hk (fun _ h => h.2)) (fun _ h => h.1)) | exact Kd.R_mono (Kd.R_mono (Kd.R_keep (IsS84.apart (show IsS84 w _ g346 t344 t345 from by repeat (first | (with_reducible first | exact HI346.out | apply IsS84.alloc | apply IsS84.drewN | apply IsS84.drew | apply IsS84.set_1 | refine IsS84.far ?_ NB346_343.out _) | exact HI346.out)) (by (with_reducible repeat (first | apply Kd.R_alloc | apply Kd.R_drewN | apply Kd.R_drew)); exact (Q_HO357 h0_)) (by decide)) hk (fun _ h => h.2)) (fun _ h => h.1)) (fun _ h_ => by first | trivial | exact h_ | exact h_.1))
              clear BK343
              clear HB
              clear HI346
              have BK343 := n0_
              have HB := n1_
              have HI346 := n2_
              clear n0_ n1_ n2_
              (try clear hb)
              (try clear hb2)
              (try clear hk)
              (try clear hi)
              refine hK.out _ _ ⟨v353, adz_v353, v356, adz_v356, m8_, m10_, (by rw [ha.out]; exact putSel_upk 0 hb_ rfl rfl rfl), fun _ => (by (with_reducible repeat (first | refine blk_drewN ?_ _ | refine blk_drew ?_ | refine blk_alloc ?_ _)); exact BK343.out), fun h0_ => absurd ((up_self b 1).symm.trans h0_) (by decide), (by repeat (first | (with_reducible first | exact HB.out | apply below_alloc | apply pw_below_drewN | apply below_drew1 | refine below_set ?_ (IsS84.ge HI346.out) | refine below_set ?_ GE343.out) | exact HB.out)), fun _ _ => (by repeat (first | (with_reducible first | exact HI346.out | apply IsS84.alloc | apply IsS84.drewN | apply IsS84.drew | apply IsS84.set_1 | refine IsS84.far ?_ NB346_343.out _) | exact HI346.out)), fun h0_ _ => absurd ((hoff 3 (by kernel_rfl)).symm.trans h0_) (by decide), fun h0_ => absurd ((hoff 4 (by kernel_rfl)).symm.trans h0_) (by decide), fun h0_ => absurd ((hoff 4 (by kernel_rfl)).symm.trans h0_) (by decide), z_HO357, Q_HA_HO357, fun h0_ => absurd ((hoff 7 (by kernel_rfl)).symm.trans h0_) (by decide), fun h0_ => absurd ((hoff 12 (by kernel_rfl)).symm.trans h0_) (by decide), fun h0_ => absurd ((hoff 8 (by kernel_rfl)).symm.trans h0_) (by decide), fun h0_ => absurd ((hoff 10 (by kernel_rfl)).symm.trans h0_) (by decide)⟩
            refine steps_cons ?_ ?_
            · rintro b a w' ⟨v353, adz_v353, v356, adz_v356, m8_, m10_, ha, Q_BK343, Q_HI346, Q_HB, Q_HI346_e1, Q_HI346_e3, Q_HO354, Q_HA_HO354, Q_HO357, Q_HA_HO357, Q_HI346_e7, Q_BK343_e12, Q_X8_, Q_X10_⟩ hb_ hon hoff
              refine ⟨_, rfl, fun K hK => ?_⟩
              have e9 : a.tmps[9]? = some (.pointer (some ⟨g346, 0, none⟩)) := by rw [ha]; exact (putSel_off rfl).trans rfl
              replace ha := Aside0.mk ha
              have BK343 := Aside0.mk (Q_BK343 (hoff 12 (by kernel_rfl)))
              have HB := Aside0.mk Q_HB
              have HI346 := Aside0.mk (Q_HI346_e1 (hon 1 (by kernel_rfl)) hb_)
              refine goes_ Try.func58 (by kernel_rfl) rfl #[.pointer (some ⟨g346, 0, none⟩), .int .i64 60] (by rfl) rfl rfl (by first | (simp only [List.map_toArray, List.map_cons, List.map_nil, Act.eval, Array.getD_eq_getD_getElem?, Option.getD_some, e9]; done) | (simp only [List.map_toArray, List.map_cons, List.map_nil, Act.eval, Array.getD_eq_getD_getElem?, Option.getD_some, e9]; rfl)) ?_
              with_reducible refine (spec_l20Rd_pick.calls k g346 t344 t349 60 t350 t351 w _ ?side1 ?side2 A4.out).mono ?_
              (case side1 => repeat (first | (with_reducible first | exact HI346.out | apply IsS84.alloc | apply IsS84.drewN | apply IsS84.drew | apply IsS84.set_1 | refine IsS84.far ?_ NB346_343.out _) | exact HI346.out))
              (case side2 => repeat (first | (with_reducible first | exact HB.out | apply below_alloc | apply pw_below_drewN | apply below_drew1 | refine below_set ?_ (IsS84.ge HI346.out) | refine below_set ?_ GE343.out) | exact HB.out))
              rintro e w15 ⟨rfl, hi, hb, hk⟩
              refine ⟨_, rfl, ?_⟩
              have n0_ := Aside0.mk (KeepBut.blk hk (g' := gb343) (o := .cells #[.int .i64 0, .int .i64 0] 37 (0, 0)) (by (with_reducible repeat (first | refine blk_drewN ?_ _ | refine blk_drew ?_ | refine blk_alloc ?_ _)); exact BK343.out) NB343_346.out (by simp))
              have n1_ := Aside0.mk (hb)
              have n2_ := Aside0.mk (hi)
              have z_HO357 := fun (h0_ : b 5 = true) => (show Kd.R (Kd.int .i64) 3 w15 w.heap.size (fun _ => True) v356 y355 from by first | exact (Kd.R_mono (Kd.R_keep (IsS84.apart (show IsS84 w _ g346 t344 t349 from by repeat (first | (with_reducible first | exact HI346.out | apply IsS84.alloc | apply IsS84.drewN | apply IsS84.drew | apply IsS84.set_1 | refine IsS84.far ?_ NB346_343.out _) | exact HI346.out)) (by (with_reducible repeat (first | apply Kd.R_alloc | apply Kd.R_drewN | apply Kd.R_drew)); exact (Q_HO357 h0_)) (by decide)) hk (fun _ h => h.2)) (fun _ h => h.1)) | exact Kd.R_mono (Kd.R_mono (Kd.R_keep (IsS84.apart (show IsS84 w _ g346 t344 t349 from by repeat (first | (with_reducible first | exact HI346.out | apply IsS84.alloc | apply IsS84.drewN | apply IsS84.drew | apply IsS84.set_1 | refine IsS84.far ?_ NB346_343.out _) | exact HI346.out)) (by (with_reducible repeat (first | apply Kd.R_alloc | apply Kd.R_drewN | apply Kd.R_drew)); exact (Q_HO357 h0_)) (by decide)) hk (fun _ h => h.2)) (fun _ h => h.1)) (fun _ h_ => by first | trivial | exact h_ | exact h_.1))
              clear BK343
              clear HB
              clear HI346
              have BK343 := n0_
              have HB := n1_
              have HI346 := n2_
              clear n0_ n1_ n2_
              (try clear hb)
              (try clear hb2)
              (try clear hk)
              (try clear hi)
              refine hK.out _ _ ⟨v353, adz_v353, v356, adz_v356, m8_, m10_, (by rw [ha.out]; exact putSel_upk 1 hb_ rfl rfl rfl), fun _ => (by (with_reducible repeat (first | refine blk_drewN ?_ _ | refine blk_drew ?_ | refine blk_alloc ?_ _)); exact BK343.out), fun h0_ => absurd ((hon 1 (by kernel_rfl)).symm.trans h0_) (by decide), (by repeat (first | (with_reducible first | exact HB.out | apply below_alloc | apply pw_below_drewN | apply below_drew1 | refine below_set ?_ (IsS84.ge HI346.out) | refine below_set ?_ GE343.out) | exact HB.out)), fun _ h1_ => absurd ((up_self b 3).symm.trans h1_) (by decide), fun _ _ => (by repeat (first | (with_reducible first | exact HI346.out | apply IsS84.alloc | apply IsS84.drewN | apply IsS84.drew | apply IsS84.set_1 | refine IsS84.far ?_ NB346_343.out _) | exact HI346.out)), fun h0_ => absurd ((hoff 4 (by kernel_rfl)).symm.trans h0_) (by decide), fun h0_ => absurd ((hoff 4 (by kernel_rfl)).symm.trans h0_) (by decide), z_HO357, Q_HA_HO357, fun h0_ => absurd ((hoff 7 (by kernel_rfl)).symm.trans h0_) (by decide), fun h0_ => absurd ((hoff 12 (by kernel_rfl)).symm.trans h0_) (by decide), fun h0_ => absurd ((hoff 8 (by kernel_rfl)).symm.trans h0_) (by decide), fun h0_ => absurd ((hoff 10 (by kernel_rfl)).symm.trans h0_) (by decide)⟩
            refine steps_cons ?_ ?_
            · rintro b a w' ⟨v353, adz_v353, v356, adz_v356, m8_, m10_, ha, Q_BK343, Q_HI346, Q_HB, Q_HI346_e1, Q_HI346_e3, Q_HO354, Q_HA_HO354, Q_HO357, Q_HA_HO357, Q_HI346_e7, Q_BK343_e12, Q_X8_, Q_X10_⟩ hb_ hon hoff
              refine ⟨_, rfl, fun K hK => ?_⟩
              have e10 : a.tmps[10]? = some (.int .i64 t350) := by rw [ha]; exact putSel_on (e := (3, 10, .int .i64 t350)) 1 rfl rfl (hon 3 (by kernel_rfl)) rfl
              replace ha := Aside0.mk ha
              have HB := Aside0.mk Q_HB
              refine Kd.R_lit_step (Kd.int .i64) _ 3 ?hg (N := 11) ?hd (xs := ([t350, (-1), 100001] : List Int)) (inner := [.int .i64 t350, .int .i64 (-1), .int .i64 100001]) (ok := fun _ => True) (okp := fun _ => True) ?hr ?hp (fun _ hk => hk) trivial (Below.refl _ _) (Nat.le_refl _) (by simp) ?_; (case hd => rfl); (case hg => rfl); (case hr => first | (go_simp; done) | (go_simp; rfl)); (case hp => exact (Reps.one (show Kd.M (Kd.int .i64) _ _ _ t350 [.int .i64 t350] from rfl) (Reps.one (show Kd.M (Kd.int .i64) _ _ _ (-1) [.int .i64 (-1)] from rfl) (Reps.one (show Kd.M (Kd.int .i64) _ _ _ 100001 [.int .i64 100001] from rfl) (Reps.none _ _)))))
              intro v353 w16 ho17 hb hg_ hnew_
              clear hg_ hnew_
              (first | rw [← Ny352.out] at ho17 | (simp only [Int.reduceToNat] at ho17; rw [← Ny352.out] at ho17))
              have n0_ := Aside0.mk (Kd.R_lower ho17 (below_size (by repeat (first | (with_reducible first | exact HB.out | apply below_alloc | apply pw_below_drewN | apply below_drew1 | refine below_set ?_ GE343.out) | exact HB.out))))
              have n3_ := Aside0.mk (below_step (by repeat (first | (with_reducible first | exact HB.out | apply below_alloc | apply pw_below_drewN | apply below_drew1 | refine below_set ?_ GE343.out) | exact HB.out)) hb)
              have z_BK343 := fun (h0_ : b 12 = false) => (show w16.heap[gb343]? = some (.cells #[.int .i64 0, .int .i64 0] 37 (0, 0)) from by first | exact (blk_below (g := gb343) (o := .cells #[.int .i64 0, .int .i64 0] 37 (0, 0)) (by (with_reducible repeat (first | refine blk_drewN ?_ _ | refine blk_drew ?_ | refine blk_alloc ?_ _)); exact (Q_BK343 h0_)) hb))
              have z_HI346_e3 := fun (h0_ : b 3 = true) (h1_ : b 7 = false) => (show IsS84 w w16 g346 t344 t351 from by first | exact (IsS84.below (by repeat (first | (with_reducible first | exact (Q_HI346_e3 h0_ h1_) | apply IsS84.alloc | apply IsS84.drewN | apply IsS84.drew | apply IsS84.set_1 | refine IsS84.far ?_ NB346_343.out _) | exact (Q_HI346_e3 h0_ h1_))) hb))
              have z_HO357 := fun (h0_ : b 5 = true) => (show Kd.R (Kd.int .i64) 3 w16 w.heap.size (fun _ => True) v356 y355 from by first | exact (Kd.R_elder' (by (with_reducible repeat (first | apply Kd.R_alloc | apply Kd.R_drewN | apply Kd.R_drew)); exact (Q_HO357 h0_)) (Kd.R_base ho17) hb) | exact Kd.R_mono (Kd.R_elder' (by (with_reducible repeat (first | apply Kd.R_alloc | apply Kd.R_drewN | apply Kd.R_drew)); exact (Q_HO357 h0_)) (Kd.R_base ho17) hb) (fun _ h_ => by first | trivial | exact h_ | exact h_.1))
              have z_HI346_e7 := fun (h0_ : b 7 = true) => (show IsS84 w w16 g346 t344 t359 from by first | exact (IsS84.below (by repeat (first | (with_reducible first | exact (Q_HI346_e7 h0_) | apply IsS84.alloc | apply IsS84.drewN | apply IsS84.drew | apply IsS84.set_1 | refine IsS84.far ?_ NB346_343.out _) | exact (Q_HI346_e7 h0_))) hb))
              have z_BK343_e12 := fun (h0_ : b 12 = true) => (show w16.heap[gb343]? = some (.cells #[.int .i64 t347, .int .i64 t348] 37 (0, 0)) from by first | exact (blk_below (g := gb343) (o := .cells #[.int .i64 t347, .int .i64 t348] 37 (0, 0)) (by (with_reducible repeat (first | refine blk_drewN ?_ _ | refine blk_drew ?_ | refine blk_alloc ?_ _)); exact (Q_BK343_e12 h0_)) hb))
              clear HB
              have HO354 := n0_
              have HB := n3_
              clear n0_ n3_
              clear hb ho17
              obtain ⟨Ao18, co18, eo18⟩ := Kd.R_slice HO354.out
              subst eo18
              obtain ⟨ado18, fo18, _⟩ := Kd.at_int (Kd.R_reads' HO354.out).2.2 0 (by decide) (by rw [Ny352.out]; simp)
              cases fo18
              refine hK.out _ _ ⟨.slice (some ado18) y352.length co18, ado18, v356, adz_v356, m8_, m10_, (by rw [ha.out]; exact putSel_upk 2 hb_ rfl rfl rfl), z_BK343, fun h0_ => absurd ((hon 1 (by kernel_rfl)).symm.trans h0_) (by decide), (by repeat (first | (with_reducible first | exact HB.out | apply below_alloc | apply pw_below_drewN | apply below_drew1 | refine below_set ?_ GE343.out) | exact HB.out)), fun _ h1_ => absurd ((hon 3 (by kernel_rfl)).symm.trans h1_) (by decide), z_HI346_e3, fun _ => (by (with_reducible repeat (first | apply Kd.R_alloc | apply Kd.R_drewN | apply Kd.R_drew)); exact HO354.out), fun _ => ⟨_, rfl⟩, z_HO357, Q_HA_HO357, z_HI346_e7, z_BK343_e12, Q_X8_, fun h0_ => absurd ((hoff 10 (by kernel_rfl)).symm.trans h0_) (by decide)⟩
            refine steps_cons ?_ ?_
            · rintro b a w' ⟨v353, adz_v353, v356, adz_v356, m8_, m10_, ha, Q_BK343, Q_HI346, Q_HB, Q_HI346_e1, Q_HI346_e3, Q_HO354, Q_HA_HO354, Q_HO357, Q_HA_HO357, Q_HI346_e7, Q_BK343_e12, Q_X8_, Q_X10_⟩ hb_ hon hoff
              refine ⟨_, rfl, fun K hK => ?_⟩
              replace ha := Aside0.mk ha
              have HB := Aside0.mk Q_HB
              refine Kd.R_lit_step (Kd.int .i64) _ 3 ?hg (N := 12) ?hd (xs := ([0, 0, 0, 0, 1, 2] : List Int)) (inner := [.int .i64 0, .int .i64 0, .int .i64 0, .int .i64 0, .int .i64 1, .int .i64 2]) (ok := fun _ => True) (okp := fun _ => True) ?hr ?hp (fun _ hk => hk) trivial (Below.refl _ _) (Nat.le_refl _) (by simp) ?_; (case hd => rfl); (case hg => rfl); (case hr => first | (go_simp; done) | (go_simp; rfl)); (case hp => exact (Reps.one (show Kd.M (Kd.int .i64) _ _ _ 0 [.int .i64 0] from rfl) (Reps.one (show Kd.M (Kd.int .i64) _ _ _ 0 [.int .i64 0] from rfl) (Reps.one (show Kd.M (Kd.int .i64) _ _ _ 0 [.int .i64 0] from rfl) (Reps.one (show Kd.M (Kd.int .i64) _ _ _ 0 [.int .i64 0] from rfl) (Reps.one (show Kd.M (Kd.int .i64) _ _ _ 1 [.int .i64 1] from rfl) (Reps.one (show Kd.M (Kd.int .i64) _ _ _ 2 [.int .i64 2] from rfl) (Reps.none _ _))))))))
              intro v356 w13 ho14 hb hg_ hnew_
              clear hg_ hnew_
              (first | rw [← Ny355.out] at ho14 | (simp only [Int.reduceToNat] at ho14; rw [← Ny355.out] at ho14))
              have n0_ := Aside0.mk (Kd.R_lower ho14 (below_size (by repeat (first | (with_reducible first | exact HB.out | apply below_alloc | apply pw_below_drewN | apply below_drew1 | refine below_set ?_ GE343.out) | exact HB.out))))
              have n3_ := Aside0.mk (below_step (by repeat (first | (with_reducible first | exact HB.out | apply below_alloc | apply pw_below_drewN | apply below_drew1 | refine below_set ?_ GE343.out) | exact HB.out)) hb)
              have z_BK343 := fun (h0_ : b 12 = false) => (show w13.heap[gb343]? = some (.cells #[.int .i64 0, .int .i64 0] 37 (0, 0)) from by first | exact (blk_below (g := gb343) (o := .cells #[.int .i64 0, .int .i64 0] 37 (0, 0)) (by (with_reducible repeat (first | refine blk_drewN ?_ _ | refine blk_drew ?_ | refine blk_alloc ?_ _)); exact (Q_BK343 h0_)) hb))
              have z_HI346 := fun (h0_ : b 1 = false) => (show IsS84 w w13 g346 t344 t345 from by first | exact (IsS84.below (by repeat (first | (with_reducible first | exact (Q_HI346 h0_) | apply IsS84.alloc | apply IsS84.drewN | apply IsS84.drew | apply IsS84.set_1 | refine IsS84.far ?_ NB346_343.out _) | exact (Q_HI346 h0_))) hb))
              have z_HI346_e1 := fun (h0_ : b 1 = true) (h1_ : b 3 = false) => (show IsS84 w w13 g346 t344 t349 from by first | exact (IsS84.below (by repeat (first | (with_reducible first | exact (Q_HI346_e1 h0_ h1_) | apply IsS84.alloc | apply IsS84.drewN | apply IsS84.drew | apply IsS84.set_1 | refine IsS84.far ?_ NB346_343.out _) | exact (Q_HI346_e1 h0_ h1_))) hb))
              have z_HI346_e3 := fun (h0_ : b 3 = true) (h1_ : b 7 = false) => (show IsS84 w w13 g346 t344 t351 from by first | exact (IsS84.below (by repeat (first | (with_reducible first | exact (Q_HI346_e3 h0_ h1_) | apply IsS84.alloc | apply IsS84.drewN | apply IsS84.drew | apply IsS84.set_1 | refine IsS84.far ?_ NB346_343.out _) | exact (Q_HI346_e3 h0_ h1_))) hb))
              have z_HO354 := fun (h0_ : b 4 = true) => (show Kd.R (Kd.int .i64) 3 w13 w.heap.size (fun _ => True) v353 y352 from by first | exact (Kd.R_elder' (by (with_reducible repeat (first | apply Kd.R_alloc | apply Kd.R_drewN | apply Kd.R_drew)); exact (Q_HO354 h0_)) (Kd.R_base ho14) hb) | exact Kd.R_mono (Kd.R_elder' (by (with_reducible repeat (first | apply Kd.R_alloc | apply Kd.R_drewN | apply Kd.R_drew)); exact (Q_HO354 h0_)) (Kd.R_base ho14) hb) (fun _ h_ => by first | trivial | exact h_ | exact h_.1))
              have z_HI346_e7 := fun (h0_ : b 7 = true) => (show IsS84 w w13 g346 t344 t359 from by first | exact (IsS84.below (by repeat (first | (with_reducible first | exact (Q_HI346_e7 h0_) | apply IsS84.alloc | apply IsS84.drewN | apply IsS84.drew | apply IsS84.set_1 | refine IsS84.far ?_ NB346_343.out _) | exact (Q_HI346_e7 h0_))) hb))
              have z_BK343_e12 := fun (h0_ : b 12 = true) => (show w13.heap[gb343]? = some (.cells #[.int .i64 t347, .int .i64 t348] 37 (0, 0)) from by first | exact (blk_below (g := gb343) (o := .cells #[.int .i64 t347, .int .i64 t348] 37 (0, 0)) (by (with_reducible repeat (first | refine blk_drewN ?_ _ | refine blk_drew ?_ | refine blk_alloc ?_ _)); exact (Q_BK343_e12 h0_)) hb))
              clear HB
              have HO357 := n0_
              have HB := n3_
              clear n0_ n3_
              clear hb ho14
              obtain ⟨Ao15, co15, eo15⟩ := Kd.R_slice HO357.out
              subst eo15
              obtain ⟨ado15, fo15, _⟩ := Kd.at_int (Kd.R_reads' HO357.out).2.2 0 (by decide) (by rw [Ny355.out]; simp)
              cases fo15
              refine hK.out _ _ ⟨v353, adz_v353, .slice (some ado15) y355.length co15, ado15, m8_, m10_, (by rw [ha.out]; exact putSel_upk 3 hb_ rfl rfl rfl), z_BK343, z_HI346, (by repeat (first | (with_reducible first | exact HB.out | apply below_alloc | apply pw_below_drewN | apply below_drew1 | refine below_set ?_ GE343.out) | exact HB.out)), z_HI346_e1, z_HI346_e3, z_HO354, Q_HA_HO354, fun _ => (by (with_reducible repeat (first | apply Kd.R_alloc | apply Kd.R_drewN | apply Kd.R_drew)); exact HO357.out), fun _ => ⟨_, rfl⟩, z_HI346_e7, z_BK343_e12, fun h0_ => absurd ((hoff 8 (by kernel_rfl)).symm.trans h0_) (by decide), fun h0_ => absurd ((hoff 10 (by kernel_rfl)).symm.trans h0_) (by decide)⟩
            refine steps_cons ?_ ?_
            · rintro b a w' ⟨v353, adz_v353, v356, adz_v356, m8_, m10_, ha, Q_BK343, Q_HI346, Q_HB, Q_HI346_e1, Q_HI346_e3, Q_HO354, Q_HA_HO354, Q_HO357, Q_HA_HO357, Q_HI346_e7, Q_BK343_e12, Q_X8_, Q_X10_⟩ hb_ hon hoff
              refine ⟨_, rfl, fun K hK => ?_⟩
              have e13 : a.tmps[13]? = some (.pointer (some ⟨g346, 0, none⟩)) := by rw [ha]; exact (putSel_off rfl).trans rfl
              replace ha := Aside0.mk ha
              have BK343 := Aside0.mk (Q_BK343 (hoff 12 (by kernel_rfl)))
              have HB := Aside0.mk Q_HB
              have HI346 := Aside0.mk (Q_HI346_e3 (hon 3 (by kernel_rfl)) hb_)
              refine goes_ Try.func58 (by kernel_rfl) rfl #[.pointer (some ⟨g346, 0, none⟩), .int .i64 6] (by rfl) rfl rfl (by first | (simp only [List.map_toArray, List.map_cons, List.map_nil, Act.eval, Array.getD_eq_getD_getElem?, Option.getD_some, e13]; done) | (simp only [List.map_toArray, List.map_cons, List.map_nil, Act.eval, Array.getD_eq_getD_getElem?, Option.getD_some, e13]; rfl)) ?_
              with_reducible refine (spec_l20Rd_pick.calls k g346 t344 t351 6 t358 t359 w _ ?side1 ?side2 A5.out).mono ?_
              (case side1 => repeat (first | (with_reducible first | exact HI346.out | apply IsS84.alloc | apply IsS84.drewN | apply IsS84.drew | apply IsS84.set_1 | refine IsS84.far ?_ NB346_343.out _) | exact HI346.out))
              (case side2 => repeat (first | (with_reducible first | exact HB.out | apply below_alloc | apply pw_below_drewN | apply below_drew1 | refine below_set ?_ (IsS84.ge HI346.out) | refine below_set ?_ GE343.out) | exact HB.out))
              rintro e w16 ⟨rfl, hi, hb, hk⟩
              refine ⟨_, rfl, ?_⟩
              have n0_ := Aside0.mk (KeepBut.blk hk (g' := gb343) (o := .cells #[.int .i64 0, .int .i64 0] 37 (0, 0)) (by (with_reducible repeat (first | refine blk_drewN ?_ _ | refine blk_drew ?_ | refine blk_alloc ?_ _)); exact BK343.out) NB343_346.out (by simp))
              have n1_ := Aside0.mk (hb)
              have n2_ := Aside0.mk (hi)
              have z_HO354 := fun (h0_ : b 4 = true) => (show Kd.R (Kd.int .i64) 3 w16 w.heap.size (fun _ => True) v353 y352 from by first | exact (Kd.R_mono (Kd.R_keep (IsS84.apart (show IsS84 w _ g346 t344 t351 from by repeat (first | (with_reducible first | exact HI346.out | apply IsS84.alloc | apply IsS84.drewN | apply IsS84.drew | apply IsS84.set_1 | refine IsS84.far ?_ NB346_343.out _) | exact HI346.out)) (by (with_reducible repeat (first | apply Kd.R_alloc | apply Kd.R_drewN | apply Kd.R_drew)); exact (Q_HO354 h0_)) (by decide)) hk (fun _ h => h.2)) (fun _ h => h.1)) | exact Kd.R_mono (Kd.R_mono (Kd.R_keep (IsS84.apart (show IsS84 w _ g346 t344 t351 from by repeat (first | (with_reducible first | exact HI346.out | apply IsS84.alloc | apply IsS84.drewN | apply IsS84.drew | apply IsS84.set_1 | refine IsS84.far ?_ NB346_343.out _) | exact HI346.out)) (by (with_reducible repeat (first | apply Kd.R_alloc | apply Kd.R_drewN | apply Kd.R_drew)); exact (Q_HO354 h0_)) (by decide)) hk (fun _ h => h.2)) (fun _ h => h.1)) (fun _ h_ => by first | trivial | exact h_ | exact h_.1))
              have z_HO357 := fun (h0_ : b 5 = true) => (show Kd.R (Kd.int .i64) 3 w16 w.heap.size (fun _ => True) v356 y355 from by first | exact (Kd.R_mono (Kd.R_keep (IsS84.apart (show IsS84 w _ g346 t344 t351 from by repeat (first | (with_reducible first | exact HI346.out | apply IsS84.alloc | apply IsS84.drewN | apply IsS84.drew | apply IsS84.set_1 | refine IsS84.far ?_ NB346_343.out _) | exact HI346.out)) (by (with_reducible repeat (first | apply Kd.R_alloc | apply Kd.R_drewN | apply Kd.R_drew)); exact (Q_HO357 h0_)) (by decide)) hk (fun _ h => h.2)) (fun _ h => h.1)) | exact Kd.R_mono (Kd.R_mono (Kd.R_keep (IsS84.apart (show IsS84 w _ g346 t344 t351 from by repeat (first | (with_reducible first | exact HI346.out | apply IsS84.alloc | apply IsS84.drewN | apply IsS84.drew | apply IsS84.set_1 | refine IsS84.far ?_ NB346_343.out _) | exact HI346.out)) (by (with_reducible repeat (first | apply Kd.R_alloc | apply Kd.R_drewN | apply Kd.R_drew)); exact (Q_HO357 h0_)) (by decide)) hk (fun _ h => h.2)) (fun _ h => h.1)) (fun _ h_ => by first | trivial | exact h_ | exact h_.1))
              clear BK343
              clear HB
              clear HI346
              have BK343 := n0_
              have HB := n1_
              have HI346 := n2_
              clear n0_ n1_ n2_
              (try clear hb)
              (try clear hb2)
              (try clear hk)
              (try clear hi)
              refine hK.out _ _ ⟨v353, adz_v353, v356, adz_v356, m8_, m10_, (by rw [ha.out]; exact putSel_upk 4 hb_ rfl rfl rfl), fun _ => (by (with_reducible repeat (first | refine blk_drewN ?_ _ | refine blk_drew ?_ | refine blk_alloc ?_ _)); exact BK343.out), fun h0_ => absurd ((hon 1 (by kernel_rfl)).symm.trans h0_) (by decide), (by repeat (first | (with_reducible first | exact HB.out | apply below_alloc | apply pw_below_drewN | apply below_drew1 | refine below_set ?_ (IsS84.ge HI346.out) | refine below_set ?_ GE343.out) | exact HB.out)), fun _ h1_ => absurd ((hon 3 (by kernel_rfl)).symm.trans h1_) (by decide), fun _ h1_ => absurd ((up_self b 7).symm.trans h1_) (by decide), z_HO354, Q_HA_HO354, z_HO357, Q_HA_HO357, fun _ => (by repeat (first | (with_reducible first | exact HI346.out | apply IsS84.alloc | apply IsS84.drewN | apply IsS84.drew | apply IsS84.set_1 | refine IsS84.far ?_ NB346_343.out _) | exact HI346.out)), fun h0_ => absurd ((hoff 12 (by kernel_rfl)).symm.trans h0_) (by decide), fun h0_ => absurd ((hoff 8 (by kernel_rfl)).symm.trans h0_) (by decide), fun h0_ => absurd ((hoff 10 (by kernel_rfl)).symm.trans h0_) (by decide)⟩
            refine steps_cons ?_ ?_
            · rintro b a w' ⟨v353, adz_v353, v356, adz_v356, m8_, m10_, ha, Q_BK343, Q_HI346, Q_HB, Q_HI346_e1, Q_HI346_e3, Q_HO354, Q_HA_HO354, Q_HO357, Q_HA_HO357, Q_HI346_e7, Q_BK343_e12, Q_X8_, Q_X10_⟩ hb_ hon hoff
              refine ⟨_, rfl, fun K hK => ?_⟩
              have e12 : a.tmps[12]? = some (v356) := by rw [ha]; exact putSel_on (e := (5, 12, v356)) 3 rfl rfl (hon 5 (by kernel_rfl)) rfl
              have e14 : a.tmps[14]? = some (.int .i64 t358) := by rw [ha]; exact putSel_on (e := (7, 14, .int .i64 t358)) 4 rfl rfl (hon 7 (by kernel_rfl)) rfl
              replace ha := Aside0.mk ha
              have HB := Aside0.mk Q_HB
              have HO357 := Aside0.mk (Q_HO357 (hon 5 (by kernel_rfl)))
              have HA_HO357 := Aside0.mk (Q_HA_HO357 (hon 5 (by kernel_rfl)))
              have HI346 := Aside0.mk (Q_HI346_e7 (hon 7 (by kernel_rfl)))
              obtain ⟨c_, hv_⟩ := HA_HO357.out
              rw [hv_] at e12
              refine value_ (w1 := w') (v := .pointer (some (adz_v356.add (t358).toNat))) (by rfl) rfl ?_ ?_
              · go_simp
                (try simp only [i64_w])
                try rfl
              refine hK.out _ _ ⟨v353, adz_v353, v356, adz_v356, (.pointer (some (adz_v356.add (t358).toNat))), m10_, (by rw [ha.out]; exact putSel_upk 5 hb_ rfl rfl rfl), Q_BK343, fun h0_ => absurd ((hon 1 (by kernel_rfl)).symm.trans h0_) (by decide), Q_HB, fun _ h1_ => absurd ((hon 3 (by kernel_rfl)).symm.trans h1_) (by decide), fun _ h1_ => absurd ((hon 7 (by kernel_rfl)).symm.trans h1_) (by decide), Q_HO354, Q_HA_HO354, Q_HO357, Q_HA_HO357, Q_HI346_e7, Q_BK343_e12, fun _ => rfl, fun h0_ => absurd ((hoff 10 (by kernel_rfl)).symm.trans h0_) (by decide)⟩
            refine steps_cons ?_ ?_
            · rintro b a w' ⟨v353, adz_v353, v356, adz_v356, m8_, m10_, ha, Q_BK343, Q_HI346, Q_HB, Q_HI346_e1, Q_HI346_e3, Q_HO354, Q_HA_HO354, Q_HO357, Q_HA_HO357, Q_HI346_e7, Q_BK343_e12, Q_X8_, Q_X10_⟩ hb_ hon hoff
              refine ⟨_, rfl, fun K hK => ?_⟩
              have e15 : a.tmps[15]? = some (m8_) := by rw [ha]; exact putSel_on (e := (8, 15, m8_)) 5 rfl rfl (hon 8 (by kernel_rfl)) rfl
              rw [Q_X8_ (hon 8 (by kernel_rfl))] at e15
              replace ha := Aside0.mk ha
              have HB := Aside0.mk Q_HB
              have HO357 := Aside0.mk (Q_HO357 (hon 5 (by kernel_rfl)))
              have HA_HO357 := Aside0.mk (Q_HA_HO357 (hon 5 (by kernel_rfl)))
              have HI346 := Aside0.mk (Q_HI346_e7 (hon 7 (by kernel_rfl)))
              obtain ⟨c_, hv_⟩ := HA_HO357.out
              have hF_ := HO357.out
              rw [hv_] at hF_
              obtain ⟨ad_, ea_, hx_⟩ := Kd.at_int (Kd.R_reads' hF_).2.2 t358 (of_eq_true pi360) (of_eq_true qi360)
              cases ea_
              refine value_ (w1 := w') (v := .int .i64 (rd y355 t358)) (by rfl) rfl ?_ ?_
              · go_simp
                (try simp only [i64_w])
                try rfl
              refine hK.out _ _ ⟨v353, adz_v353, v356, adz_v356, m8_, m10_, (by rw [ha.out]; exact putSel_upk 6 hb_ rfl rfl rfl), Q_BK343, fun h0_ => absurd ((hon 1 (by kernel_rfl)).symm.trans h0_) (by decide), Q_HB, fun _ h1_ => absurd ((hon 3 (by kernel_rfl)).symm.trans h1_) (by decide), fun _ h1_ => absurd ((hon 7 (by kernel_rfl)).symm.trans h1_) (by decide), Q_HO354, Q_HA_HO354, Q_HO357, Q_HA_HO357, Q_HI346_e7, Q_BK343_e12, Q_X8_, fun h0_ => absurd ((hoff 10 (by kernel_rfl)).symm.trans h0_) (by decide)⟩
            refine steps_cons ?_ ?_
            · rintro b a w' ⟨v353, adz_v353, v356, adz_v356, m8_, m10_, ha, Q_BK343, Q_HI346, Q_HB, Q_HI346_e1, Q_HI346_e3, Q_HO354, Q_HA_HO354, Q_HO357, Q_HA_HO357, Q_HI346_e7, Q_BK343_e12, Q_X8_, Q_X10_⟩ hb_ hon hoff
              refine ⟨_, rfl, fun K hK => ?_⟩
              have e11 : a.tmps[11]? = some (v353) := by rw [ha]; exact putSel_on (e := (4, 11, v353)) 2 rfl rfl (hon 4 (by kernel_rfl)) rfl
              have e16 : a.tmps[16]? = some (.int .i64 (rd y355 t358)) := by rw [ha]; exact putSel_on (e := (9, 16, .int .i64 (rd y355 t358))) 6 rfl rfl (hon 9 (by kernel_rfl)) rfl
              replace ha := Aside0.mk ha
              have HB := Aside0.mk Q_HB
              have HO354 := Aside0.mk (Q_HO354 (hon 4 (by kernel_rfl)))
              have HA_HO354 := Aside0.mk (Q_HA_HO354 (hon 4 (by kernel_rfl)))
              have HO357 := Aside0.mk (Q_HO357 (hon 5 (by kernel_rfl)))
              have HA_HO357 := Aside0.mk (Q_HA_HO357 (hon 5 (by kernel_rfl)))
              have HI346 := Aside0.mk (Q_HI346_e7 (hon 7 (by kernel_rfl)))
              obtain ⟨c_, hv_⟩ := HA_HO354.out
              rw [hv_] at e11
              refine value_ (w1 := w') (v := .pointer (some (adz_v353.add ((rd y355 t358)).toNat))) (by rfl) rfl ?_ ?_
              · go_simp
                (try simp only [i64_w])
                try rfl
              refine hK.out _ _ ⟨v353, adz_v353, v356, adz_v356, m8_, (.pointer (some (adz_v353.add ((rd y355 t358)).toNat))), (by rw [ha.out]; exact putSel_upk 7 hb_ rfl rfl rfl), Q_BK343, fun h0_ => absurd ((hon 1 (by kernel_rfl)).symm.trans h0_) (by decide), Q_HB, fun _ h1_ => absurd ((hon 3 (by kernel_rfl)).symm.trans h1_) (by decide), fun _ h1_ => absurd ((hon 7 (by kernel_rfl)).symm.trans h1_) (by decide), Q_HO354, Q_HA_HO354, Q_HO357, Q_HA_HO357, Q_HI346_e7, Q_BK343_e12, Q_X8_, fun _ => rfl⟩
            refine steps_cons ?_ ?_
            · rintro b a w' ⟨v353, adz_v353, v356, adz_v356, m8_, m10_, ha, Q_BK343, Q_HI346, Q_HB, Q_HI346_e1, Q_HI346_e3, Q_HO354, Q_HA_HO354, Q_HO357, Q_HA_HO357, Q_HI346_e7, Q_BK343_e12, Q_X8_, Q_X10_⟩ hb_ hon hoff
              refine ⟨_, rfl, fun K hK => ?_⟩
              have e17 : a.tmps[17]? = some (m10_) := by rw [ha]; exact putSel_on (e := (10, 17, m10_)) 7 rfl rfl (hon 10 (by kernel_rfl)) rfl
              rw [Q_X10_ (hon 10 (by kernel_rfl))] at e17
              replace ha := Aside0.mk ha
              have HB := Aside0.mk Q_HB
              have HO354 := Aside0.mk (Q_HO354 (hon 4 (by kernel_rfl)))
              have HA_HO354 := Aside0.mk (Q_HA_HO354 (hon 4 (by kernel_rfl)))
              have HO357 := Aside0.mk (Q_HO357 (hon 5 (by kernel_rfl)))
              have HA_HO357 := Aside0.mk (Q_HA_HO357 (hon 5 (by kernel_rfl)))
              have HI346 := Aside0.mk (Q_HI346_e7 (hon 7 (by kernel_rfl)))
              obtain ⟨c_, hv_⟩ := HA_HO354.out
              have hF_ := HO354.out
              rw [hv_] at hF_
              obtain ⟨ad_, ea_, hx_⟩ := Kd.at_int (Kd.R_reads' hF_).2.2 (rd y355 t358) (of_eq_true pi361) (of_eq_true qi361)
              cases ea_
              refine value_ (w1 := w') (v := .int .i64 (rd y352 (rd y355 t358))) (by rfl) rfl ?_ ?_
              · go_simp
                (try simp only [i64_w])
                try rfl
              refine hK.out _ _ ⟨v353, adz_v353, v356, adz_v356, m8_, m10_, (by rw [ha.out]; exact putSel_upk 8 hb_ rfl rfl rfl), Q_BK343, fun h0_ => absurd ((hon 1 (by kernel_rfl)).symm.trans h0_) (by decide), Q_HB, fun _ h1_ => absurd ((hon 3 (by kernel_rfl)).symm.trans h1_) (by decide), fun _ h1_ => absurd ((hon 7 (by kernel_rfl)).symm.trans h1_) (by decide), Q_HO354, Q_HA_HO354, Q_HO357, Q_HA_HO357, Q_HI346_e7, Q_BK343_e12, Q_X8_, Q_X10_⟩
            refine steps_cons ?_ ?_
            · rintro b a w' ⟨v353, adz_v353, v356, adz_v356, m8_, m10_, ha, Q_BK343, Q_HI346, Q_HB, Q_HI346_e1, Q_HI346_e3, Q_HO354, Q_HA_HO354, Q_HO357, Q_HA_HO357, Q_HI346_e7, Q_BK343_e12, Q_X8_, Q_X10_⟩ hb_ hon hoff
              refine ⟨_, rfl, fun K hK => ?_⟩
              have e2 : a.tmps[2]? = some (.pointer (some ⟨gb343, 0, none⟩)) := by rw [ha]; exact (putSel_off rfl).trans rfl
              have e8 : a.tmps[8]? = some (.agg #[.int .i64 t347, .int .i64 t348]) := by rw [ha]; exact putSel_on (e := (1, 8, .agg #[.int .i64 t347, .int .i64 t348])) 0 rfl rfl (hon 1 (by kernel_rfl)) rfl
              replace ha := Aside0.mk ha
              have BK343 := Aside0.mk (Q_BK343 hb_)
              have HB := Aside0.mk Q_HB
              have HI346 := Aside0.mk (Q_HI346_e7 (hon 7 (by kernel_rfl)))
              have hs17 : w'.cell? ⟨gb343, 0, none⟩ = some (.int .i64 0) := (blk_cell BK343.out 0).trans rfl
              have hfs17 := blk_frozen BK343.out 0
              have hs18 : w'.cell? ⟨gb343, 1, none⟩ = some (.int .i64 0) := (blk_cell BK343.out 1).trans rfl
              have hfs18 := blk_frozen BK343.out 1
              refine skip_ (w1 := ?_) (by rfl) rfl ?_ ?_
              rotate_left
              · go_simp
                rfl
              refine hK.out _ _ ⟨v353, adz_v353, v356, adz_v356, m8_, m10_, (by rw [ha.out]; exact putSel_none (v := undef) rfl), fun h0_ => absurd ((up_self b 12).symm.trans h0_) (by decide), fun h0_ => absurd ((hon 1 (by kernel_rfl)).symm.trans h0_) (by decide), (by repeat (first | (with_reducible first | exact HB.out | apply below_alloc | apply pw_below_drewN | apply below_drew1 | refine below_set ?_ (IsS84.ge HI346.out) | refine below_set ?_ GE343.out) | exact HB.out)), fun _ h1_ => absurd ((hon 3 (by kernel_rfl)).symm.trans h1_) (by decide), fun _ h1_ => absurd ((hon 7 (by kernel_rfl)).symm.trans h1_) (by decide), fun h0_ => (by (with_reducible repeat (first | apply Kd.R_alloc | apply Kd.R_drewN | apply Kd.R_drew)); exact Kd.R_mono (Kd.R_far (p := ⟨gb343, 1, none⟩) (Kd.R_far (p := ⟨gb343, 0, none⟩) (Kd.R_types (Q_HO354 h0_) BK343.out (by decide)) (fun _ hk => hk.2) (.int .i64 t347)) (fun _ hk => hk.2) (.int .i64 t348)) (fun _ hk => trivial)), Q_HA_HO354, fun h0_ => (by (with_reducible repeat (first | apply Kd.R_alloc | apply Kd.R_drewN | apply Kd.R_drew)); exact Kd.R_mono (Kd.R_far (p := ⟨gb343, 1, none⟩) (Kd.R_far (p := ⟨gb343, 0, none⟩) (Kd.R_types (Q_HO357 h0_) BK343.out (by decide)) (fun _ hk => hk.2) (.int .i64 t347)) (fun _ hk => hk.2) (.int .i64 t348)) (fun _ hk => trivial)), Q_HA_HO357, fun _ => (by repeat (first | (with_reducible first | exact HI346.out | apply IsS84.alloc | apply IsS84.drewN | apply IsS84.drew | apply IsS84.set_1 | refine IsS84.far ?_ NB346_343.out _) | exact HI346.out)), fun _ => (by (with_reducible repeat (first | refine blk_drewN ?_ _ | refine blk_drew ?_ | refine blk_alloc ?_ _)); refine blk_put (cs := #[.int .i64 t347, .int .i64 0]) ?_ 1 _ rfl; (with_reducible repeat (first | refine blk_drewN ?_ _ | refine blk_drew ?_ | refine blk_alloc ?_ _)); refine blk_put (cs := #[.int .i64 0, .int .i64 0]) ?_ 0 _ rfl; (with_reducible repeat (first | refine blk_drewN ?_ _ | refine blk_drew ?_ | refine blk_alloc ?_ _)); exact BK343.out), Q_X8_, Q_X10_⟩
            refine steps_cons ?_ ?_
            · rintro b a w' ⟨v353, adz_v353, v356, adz_v356, m8_, m10_, ha, Q_BK343, Q_HI346, Q_HB, Q_HI346_e1, Q_HI346_e3, Q_HO354, Q_HA_HO354, Q_HO357, Q_HA_HO357, Q_HI346_e7, Q_BK343_e12, Q_X8_, Q_X10_⟩ hb_ hon hoff
              refine ⟨_, rfl, fun K hK => ?_⟩
              have e18 : a.tmps[18]? = some (.int .i64 (rd y352 (rd y355 t358))) := by rw [ha]; exact putSel_on (e := (11, 18, .int .i64 (rd y352 (rd y355 t358)))) 8 rfl rfl (hon 11 (by kernel_rfl)) rfl
              replace ha := Aside0.mk ha
              have HB := Aside0.mk Q_HB
              have HO354 := Aside0.mk (Q_HO354 (hon 4 (by kernel_rfl)))
              have HA_HO354 := Aside0.mk (Q_HA_HO354 (hon 4 (by kernel_rfl)))
              have HO357 := Aside0.mk (Q_HO357 (hon 5 (by kernel_rfl)))
              have HA_HO357 := Aside0.mk (Q_HA_HO357 (hon 5 (by kernel_rfl)))
              have HI346 := Aside0.mk (Q_HI346_e7 (hon 7 (by kernel_rfl)))
              have BK343 := Aside0.mk (Q_BK343_e12 (hon 12 (by kernel_rfl)))
              refine value_ (w1 := w') (v := .int .i64 (rd y352 (rd y355 t358))) (by rfl) rfl ?_ ?_
              · go_simp
                (try simp only [i64_w])
                try rfl
              refine hK.out _ _ ⟨v353, adz_v353, v356, adz_v356, m8_, m10_, (by rw [ha.out]; exact putSel_upk 9 hb_ rfl rfl rfl), fun h0_ => absurd ((hon 12 (by kernel_rfl)).symm.trans h0_) (by decide), fun h0_ => absurd ((hon 1 (by kernel_rfl)).symm.trans h0_) (by decide), Q_HB, fun _ h1_ => absurd ((hon 3 (by kernel_rfl)).symm.trans h1_) (by decide), fun _ h1_ => absurd ((hon 7 (by kernel_rfl)).symm.trans h1_) (by decide), Q_HO354, Q_HA_HO354, Q_HO357, Q_HA_HO357, Q_HI346_e7, Q_BK343_e12, Q_X8_, Q_X10_⟩
            exact steps_nil
          rintro b a w24 hall ⟨v353, adz_v353, v356, adz_v356, m8_, m10_, ha, Q_BK343, Q_HI346, Q_HB, Q_HI346_e1, Q_HI346_e3, Q_HO354, Q_HA_HO354, Q_HO357, Q_HA_HO357, Q_HI346_e7, Q_BK343_e12, Q_X8_, Q_X10_⟩
          clear BK343 HB HI346
          have hb1_ := hall 1 (by kernel_rfl)
          have hb3_ := hall 3 (by kernel_rfl)
          have hb4_ := hall 4 (by kernel_rfl)
          have hb5_ := hall 5 (by kernel_rfl)
          have hb7_ := hall 7 (by kernel_rfl)
          have hb8_ := hall 8 (by kernel_rfl)
          have hb9_ := hall 9 (by kernel_rfl)
          have hb10_ := hall 10 (by kernel_rfl)
          have hb11_ := hall 11 (by kernel_rfl)
          have hb12_ := hall 12 (by kernel_rfl)
          have hb13_ := hall 13 (by kernel_rfl)
          subst ha
          obtain rfl := Q_X8_ hb8_
          obtain rfl := Q_X10_ hb10_
          simp only [putSel, hb1_, hb3_, hb4_, hb5_, hb7_, hb8_, hb9_, hb10_, hb11_, hb12_, hb13_, if_true, Act.put, List.setIfInBounds_toArray, List.set_cons_zero, List.set_cons_succ]
          clear Q_BK343
          clear Q_HI346
          have HB := Aside0.mk Q_HB
          clear Q_HB
          clear Q_HI346_e1
          clear Q_HI346_e3
          have HO354 := Aside0.mk (Q_HO354 hb4_)
          clear Q_HO354
          have HA_HO354 := Aside0.mk (Q_HA_HO354 hb4_)
          clear Q_HA_HO354
          have HO357 := Aside0.mk (Q_HO357 hb5_)
          clear Q_HO357
          have HA_HO357 := Aside0.mk (Q_HA_HO357 hb5_)
          clear Q_HA_HO357
          have HI346 := Aside0.mk (Q_HI346_e7 hb7_)
          clear Q_HI346_e7
          have BK343 := Aside0.mk (Q_BK343_e12 hb12_)
          clear Q_BK343_e12
          clear hall hb1_ hb3_ hb4_ hb5_ hb7_ hb8_ hb9_ hb10_ hb11_ hb12_ hb13_
          obtain ⟨co25, eo25⟩ := HA_HO354.out
          clear HA_HO354
          subst eo25
          obtain ⟨co26, eo26⟩ := HA_HO357.out
          clear HA_HO357
          subst eo26
          try go_wp2
          refine bodyPost_ret (results_ct rfl _ _ gb343 37 #[.int .i64 t347, .int .i64 t348] (0, 0) _ rfl (by (with_reducible repeat (first | refine blk_drewN ?_ _ | refine blk_drew ?_ | refine blk_alloc ?_ _)); exact BK343.out) Try.underlying37 rfl (by kernel_rfl)) rfl ?_
          exact ⟨by first | rfl | (simp [errW_none, errW_some] <;> rfl) | (simp [*, errW_none, errW_some] <;> rfl), by repeat (first | (with_reducible first | exact HB.out | apply below_alloc | apply pw_below_drewN | apply below_drew1 | refine below_set ?_ (IsS84.ge HI346.out) | refine below_set ?_ GE343.out) | exact HB.out)⟩
        · rw [if_neg c9] at H
          exact absurd H (by simp)
      · rw [if_neg c8] at H
        exact absurd H (by simp)
    · rw [if_neg c7] at H
      exact absurd H (by simp)
  · rw [if_neg c6] at H
    exact absurd H (by simp)

end Go.Proofs.Ytooabmmnbifclaa.P
