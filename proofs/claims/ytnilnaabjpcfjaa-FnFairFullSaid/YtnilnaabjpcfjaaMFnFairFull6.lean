/- The law FnFairFull for every input, part 6 of its proof: what the program's functions answer, and the plain law. No condition. -/
import Derived.Test.YtnilnaabjpcfjaaMFnFairFull1
import Derived.Test.YtnilnaabjpcfjaaMFnFairFull2
import Derived.Test.YtnilnaabjpcfjaaMFnFairFull3
import Derived.Test.YtnilnaabjpcfjaaMFnFairFull4
import Derived.Test.YtnilnaabjpcfjaaMFnFairFull5
import Derived.Sort.Lot0
set_option maxRecDepth 100000
namespace Go.Proofs.Ytnilnaabjpcfjaa.P
open Go.RowKit Go.Proofs.YtnilnaabjpcfjaaW.PrintWords Go.Proofs.YtnilnaabjpcfjaaW.PrintLast Go.Proofs.YtnilnaabjpcfjaaW.PrintMore
attribute [local go_sem] ze7 ze8 zf5 zf6 zem zen ze9 zfa
set_option linter.unusedVariables false
set_option linter.unusedSimpArgs false
theorem Zq21 {X0 P : Prop} (x0 : za X0) (h : X0 → P := by intro x0; (with_reducible repeat (first | apply Kd.zeu | apply Kd.zet | apply Kd.zd0)); exact x0) : P := h x0.out
mutual
def laws_FnFairFull.j0 : Nat → List (S35) → Int → List (List Int) → Bool → Int → Int → Option (Bool)
 | 0, _, _, _, _, _, _ => none
 | k + 1, x3, x4, x5, x41, x555000, x555001 => if x41 = true then ((zdv.f).bind fun t555 => (some t555)) else (if 0 ≤ (x3.length : Int) then (if ((x3.length : Int) : Int).toNat ≤ 35184372088832 then (laws_FnFairFull.l0 k x3 x4 x5 (List.replicate ((x3.length : Int) : Int).toNat 0) 0 x555000 x555001) else (none)) else (none))
def laws_FnFairFull.l0 : Nat → List (S35) → Int → List (List Int) → List Int → Int → Int → Int → Option (Bool)
 | 0, _, _, _, _, _, _, _ => none
 | k + 1, x3, x4, x5, x7, x8, x555000, x555001 => if x8 < 120 then (if x555000 = (wrap64 (x4 * x555001)) then (if 0 ≤ x8 then (if x8 < (x5.length : Int) then (laws_FnFairFull.j2 k x3 x4 x5 x7 x8 (((zcn x5 x8).length : Int) != x4) x555000 x555001) else (none)) else (none)) else (laws_FnFairFull.j2 k x3 x4 x5 x7 x8 false x555000 x555001)) else (some true)
def laws_FnFairFull.j2 : Nat → List (S35) → Int → List (List Int) → List Int → Int → Bool → Int → Int → Option (Bool)
 | 0, _, _, _, _, _, _, _, _ => none
 | k + 1, x3, x4, x5, x7, x8, x65, x555000, x555001 => if x65 = true then (some false) else (laws_FnFairFull.l1 k x3 x4 x5 x7 x8 0 x555000 x555001)
def laws_FnFairFull.l1 : Nat → List (S35) → Int → List (List Int) → List Int → Int → Int → Int → Int → Option (Bool)
 | 0, _, _, _, _, _, _, _, _ => none
 | k + 1, x3, x4, x5, x7, x8, x9, x555000, x555001 => if 0 ≤ x8 then (if x8 < (x5.length : Int) then (if x9 < ((zcn x5 x8).length : Int) then (if 0 ≤ x9 then (if 0 ≤ (rd (zcn x5 x8) x9) then (if (rd (zcn x5 x8) x9) < (x7.length : Int) then (laws_FnFairFull.l1 k x3 x4 x5 (x7.set ((rd (zcn x5 x8) x9) : Int).toNat (wrap64 ((rd x7 (rd (zcn x5 x8) x9)) + 1))) x8 (wrap64 (x9 + 1)) x555000 x555001) else (none)) else (none)) else (none)) else (laws_FnFairFull.l2 k x3 x4 x5 x7 x8 0 x555000 x555001)) else (none)) else (none)
def laws_FnFairFull.l2 : Nat → List (S35) → Int → List (List Int) → List Int → Int → Int → Int → Int → Option (Bool)
 | 0, _, _, _, _, _, _, _, _ => none
 | k + 1, x3, x4, x5, x7, x8, x10, x555000, x555001 => if x10 < (x3.length : Int) then (if 0 ≤ x10 then (if ((zg x3 x10).f2) = 0 then (none) else (if (Int.tmod (wrap64 (x8 + 1)) ((zg x3 x10).f2)) = 0 then (if x10 < (x7.length : Int) then (if (rd x7 x10) = (wrap64 ((wrap64 (Int.tdiv (wrap64 (x8 + 1)) ((zg x3 x10).f2))) * ((zg x3 x10).f0))) then (laws_FnFairFull.l2 k x3 x4 x5 x7 x8 (wrap64 (x10 + 1)) x555000 x555001) else (some false)) else (none)) else (laws_FnFairFull.l2 k x3 x4 x5 x7 x8 (wrap64 (x10 + 1)) x555000 x555001))) else (none)) else (laws_FnFairFull.l0 k x3 x4 x5 x7 (wrap64 (x8 + 1)) x555000 x555001)
end
def laws_FnFairFull.f (k : Nat) (l0 : List Int) : Option (Bool) := if (l0.length : Int) > 1048576 then (some true) else ((zcv.f k l0).bind fun bt541 => ((zbu.f k bt541.1 bt541.2).bind fun t545 => ((zu.f k bt541.1 bt541.2).bind fun t548 => ((zby.f k t545 t548).bind fun t551 => (if t551 = true then ((zb9.f k bt541.1).bind fun bt552 => (if (t545.length : Int) = 120 then (laws_FnFairFull.j0 k bt541.1 bt541.2 t545 (decide (bt552.1 > (wrap64 (bt541.2 * bt552.2)))) bt552.1 bt552.2) else (laws_FnFairFull.j0 k bt541.1 bt541.2 t545 true bt552.1 bt552.2))) else (some false))))))
def laws_FnFairFull.T19 : Bool × List (List Nat × List Nat) := (true, [([], []), ([], []), ([], []), ([1, 2], [1, 2]), ([3], [3]), ([], []), ([4, 5], [4, 5]), ([6], [6]), ([], []), ([], []), ([], []), ([9, 10], [9, 10]), ([11], [11]), ([], []), ([12, 13], [12, 13]), ([14], [14]), ([8, 15], [8, 15]), ([16], [16]), ([17], [17]), ([0, 7, 0, 1, 2, 3, 4, 5, 6, 7, 8, 9, 10, 11, 12, 13, 14, 15, 16, 17, 18], [0, 7]), ([19, 18, 0, 1, 2, 3, 4, 5, 6, 7, 8, 9, 10, 11, 12, 13, 14, 15, 16, 17, 18], [18, 19])])
def laws_FnFairFull.B19 : List Nat := [0, 0, 0, 6, 14, 0, 62, 126, 0, 0, 0, 1536, 3584, 0, 15872, 32256, 65280, 130816, 261888, 524287, 1048575]
theorem laws_FnFairFull.tab19 : rtab .any (opsOf Try.f8 19) = laws_FnFairFull.T19 := by kernel_rfl
theorem laws_FnFairFull.bits19 : zcs laws_FnFairFull.T19.2 laws_FnFairFull.B19 = true := by kernel_rfl
def laws_FnFairFull.T23 : Bool × List (List Nat × List Nat) := (true, [([], []), ([0], [0]), ([], []), ([], []), ([2, 3], [2, 3]), ([4], [4]), ([5], [5]), ([1, 6], [1, 6]), ([7], [7]), ([8], [8]), ([9], [9]), ([9], [9]), ([10, 11, 9], [9, 10, 11]), ([12, 9], [9, 12]), ([9], [9]), ([14, 9], [9, 14]), ([9], [9]), ([9], [9]), ([16, 17, 9], [9, 16, 17]), ([18, 9], [9, 18]), ([19, 9], [9, 19]), ([15, 20, 9], [9, 15, 20]), ([9], [9]), ([9], [9]), ([22, 23, 9], [9, 22, 23]), ([24, 9], [9, 24]), ([25, 9], [9, 25]), ([21, 26, 9], [9, 21, 26]), ([13, 27, 9], [9, 13, 27]), ([9, 28], [9, 28])])
def laws_FnFairFull.B23 : List Nat := [0, 1, 0, 0, 12, 28, 60, 127, 255, 511, 1023, 1023, 4095, 8191, 1023, 17407, 1023, 1023, 197631, 459775, 984063, 2081791, 1023, 1023, 12583935, 29361151, 62915583, 134202367, 268435455, 536870911]
theorem laws_FnFairFull.tab23 : rtab .any (opsOf Try.f8 23) = laws_FnFairFull.T23 := by kernel_rfl
theorem laws_FnFairFull.bits23 : zcs laws_FnFairFull.T23.2 laws_FnFairFull.B23 = true := by kernel_rfl
set_option maxHeartbeats 8000000 in
theorem laws_FnFairFull.calls (k : Nat) (A0 : Option Addr) (c0 : Nat) (l0 : List Int) (r : Bool) (w : World) (hr0 : Kd.C (Kd.int .u8) w A0 l0.length l0) (hc0 : l0.length ≤ c0) (h : laws_FnFairFull.f k l0 = some r) :
  Calls Try.prog 8 #[.slice A0 l0.length c0] w fun e w' => e = .returned (.bool r) ∧ Below w.heap.size w w' := by
 have hu30 := Try.underlying30
 have HR0 := za.mk hr0
 have HC0 := za.mk hc0
 clear hr0 hc0
 have HB := za.mk (Below.refl w.heap.size w)
 have H : (if (l0.length : Int) > 1048576 then (some true) else ((zcv.f k l0).bind fun bt541 => ((zbu.f k bt541.1 bt541.2).bind fun t545 => ((zu.f k bt541.1 bt541.2).bind fun t548 => ((zby.f k t545 t548).bind fun t551 => (if t551 = true then ((zb9.f k bt541.1).bind fun bt552 => (if (t545.length : Int) = 120 then (laws_FnFairFull.j0 k bt541.1 bt541.2 t545 (decide (bt552.1 > (wrap64 (bt541.2 * bt552.2)))) bt552.1 bt552.2) else (laws_FnFairFull.j0 k bt541.1 bt541.2 t545 true bt552.1 bt552.2))) else (some false))))))) = some r := h
 clear h
 by_cases c2 : (l0.length : Int) > 1048576
 ·rw [if_pos c2] at H
  have c2b0 : decide (1048576 < (l0.length : Int)) = true := decide_eq_true c2;have c2b1 : decide (1048576 < l0.length) = true := decide_eq_true (by omega);clear c2;obtain rfl := Option.some.inj H;go_enter Try.func8, Try.ntmps8;go_wp2;go_ret;exact ⟨by first | rfl | (simp [zq, zt] <;> rfl) | (simp [*, zq, zt] <;> rfl), Zq1 HB⟩
 ·rw [if_neg c2] at H
  have c2b0 : decide (1048576 < (l0.length : Int)) = false := decide_eq_false c2;have c2b1 : decide (1048576 < l0.length) = false := decide_eq_false (by omega);clear c2;replace H := Option.bind_eq_some_iff.mp H;obtain ⟨⟨t541, t542⟩, A30, H⟩ := H;replace H : ((zbu.f k t541 t542).bind fun t545 => ((zu.f k t541 t542).bind fun t548 => ((zby.f k t545 t548).bind fun t551 => (if t551 = true then ((zb9.f k t541).bind fun bt552 => (if (t545.length : Int) = 120 then (laws_FnFairFull.j0 k t541 t542 t545 (decide (bt552.1 > (wrap64 (t542 * bt552.2)))) bt552.1 bt552.2) else (laws_FnFairFull.j0 k t541 t542 t545 true bt552.1 bt552.2))) else (some false))))) = some r := H;have A3 := za.mk A30;clear A30;replace H := Option.bind_eq_some_iff.mp H;obtain ⟨t545, A40, H⟩ := H;replace H : ((zu.f k t541 t542).bind fun t548 => ((zby.f k t545 t548).bind fun t551 => (if t551 = true then ((zb9.f k t541).bind fun bt552 => (if (t545.length : Int) = 120 then (laws_FnFairFull.j0 k t541 t542 t545 (decide (bt552.1 > (wrap64 (t542 * bt552.2)))) bt552.1 bt552.2) else (laws_FnFairFull.j0 k t541 t542 t545 true bt552.1 bt552.2))) else (some false)))) = some r := H;have A4 := za.mk A40;clear A40;replace H := Option.bind_eq_some_iff.mp H;obtain ⟨t548, A50, H⟩ := H;replace H : ((zby.f k t545 t548).bind fun t551 => (if t551 = true then ((zb9.f k t541).bind fun bt552 => (if (t545.length : Int) = 120 then (laws_FnFairFull.j0 k t541 t542 t545 (decide (bt552.1 > (wrap64 (t542 * bt552.2)))) bt552.1 bt552.2) else (laws_FnFairFull.j0 k t541 t542 t545 true bt552.1 bt552.2))) else (some false))) = some r := H;have A5 := za.mk A50;clear A50;replace H := Option.bind_eq_some_iff.mp H;obtain ⟨t551, A60, H⟩ := H;replace H : (if t551 = true then ((zb9.f k t541).bind fun bt552 => (if (t545.length : Int) = 120 then (laws_FnFairFull.j0 k t541 t542 t545 (decide (bt552.1 > (wrap64 (t542 * bt552.2)))) bt552.1 bt552.2) else (laws_FnFairFull.j0 k t541 t542 t545 true bt552.1 bt552.2))) else (some false)) = some r := H;have A6 := za.mk A60;clear A60;by_cases c7 : t551 = true
  ·subst c7
   have H1 : ((zb9.f k t541).bind fun bt552 => (if (t545.length : Int) = 120 then (laws_FnFairFull.j0 k t541 t542 t545 (decide (bt552.1 > (wrap64 (t542 * bt552.2)))) bt552.1 bt552.2) else (laws_FnFairFull.j0 k t541 t542 t545 true bt552.1 bt552.2))) = some r := by rw [if_pos rfl] at H; exact H
   clear H;have H := H1;clear H1;replace H := Option.bind_eq_some_iff.mp H;obtain ⟨⟨t552, t553⟩, A80, H⟩ := H;replace H : (if (t545.length : Int) = 120 then (laws_FnFairFull.j0 k t541 t542 t545 (decide (t552 > (wrap64 (t542 * t553)))) t552 t553) else (laws_FnFairFull.j0 k t541 t542 t545 true t552 t553)) = some r := H;have A8 := za.mk A80;clear A80;have HC9 := za.mk H;clear H;go_enter Try.func8, Try.ntmps8
   go_upto_region 8 with (first | ((with_reducible refine zw (f := 9) rfl ?_); refine zbv (some 16) rfl rfl Try.func9 (by kernel_rfl) rfl #[.slice A0 l0.length c0] rfl Zmt ?_; (with_reducible refine (zcv.calls k _ _ l0 t541 t542 _ ?side1 ?side2 A3.out).mono ?_); (case side1 => exact Zq17 HR0); (case side2 => exact HC0.out); rintro e w10 ⟨v543, rfl, ho0, hb⟩; refine ⟨_, rfl, ?_⟩; have n0_ := za.mk (Kd.zcw ho0 (zba (Zq1 HB))); have n1_ := za.mk (zn (Zq1 HB) hb); clear HB; have HO544 := n0_; have HB := n1_; clear n0_ n1_; (try clear hb); (try clear hb2); (try clear hk); (try clear hi); (try clear ho0); obtain ⟨Ao11, co11, eo11⟩ := Kd.zct HO544.out; subst eo11) | ((with_reducible refine zw (f := 10) rfl ?_); refine zbv (some 21) rfl rfl Try.func10 (by kernel_rfl) rfl #[.slice Ao11 t541.length co11, .int .i64 t542] rfl Zmt ?_; (with_reducible refine (zbu.calls k _ _ t541 t542 t545 _ ?side1 ?side2 A4.out).mono ?_); (case side1 => exact Zq18 ((Kd.zbo HO544.out).2.2)); (case side2 => exact (Kd.zbo HO544.out).2.1); rintro e w12 ⟨v546, rfl, ho0, hb⟩; refine ⟨_, rfl, ?_⟩; have n0_ := za.mk (Kd.zcy (Zq12 HO544) hb); have n1_ := za.mk (Kd.zfc ho0 (zba (Zq1 HB))); have n2_ := za.mk (zn (Zq1 HB) hb); clear HO544; clear HB; have HO544 := n0_; have HO547 := n1_; have HB := n2_; clear n0_ n1_ n2_; (try clear hb); (try clear hb2); (try clear hk); (try clear hi); (try clear ho0)) | ((with_reducible refine zw (f := 12) rfl ?_); refine zbv (some 25) rfl rfl Try.func12 (by kernel_rfl) rfl #[.slice Ao11 t541.length co11, .int .i64 t542] rfl Zmt ?_; (with_reducible refine (zu.calls k _ _ t541 t542 t548 _ ?side1 ?side2 A5.out).mono ?_); (case side1 => exact Zq18 ((Kd.zbo HO544.out).2.2)); (case side2 => exact (Kd.zbo HO544.out).2.1); rintro e w13 ⟨v549, rfl, ho0, hb⟩; replace ho0 := Kd.Qc_of_S ho0; refine ⟨_, rfl, ?_⟩; have n0_ := za.mk (Kd.zcy (Zq12 HO544) hb); have n1_ := za.mk (Kd.zgy (Zq21 HO547) (Kd.Qc_base ho0) hb); have n2_ := za.mk (Kd.zfc (Kd.Qc_new' ho0 (Kd.Qc_lt (Zq21 HO547))) (zba (Zq1 HB))); have n3_ := za.mk (zn (Zq1 HB) hb); clear HO544; clear HO547; clear HB; have HO544 := n0_; have HO547 := n1_; have HO550 := n2_; have HB := n3_; clear n0_ n1_ n2_ n3_; (try clear hb); (try clear hb2); (try clear hk); (try clear hi); (try clear ho0); obtain ⟨Ao14, co14, eo14⟩ := Kd.zfr HO547.out; subst eo14; obtain ⟨Ao15, co15, eo15⟩ := Kd.zfr HO550.out; subst eo15) | ((with_reducible refine zw (f := 11) rfl ?_); refine zbv (some 26) rfl rfl Try.func11 (by kernel_rfl) rfl #[.slice Ao14 t545.length co14, .slice Ao15 t548.length co15] rfl Zmt ?_; (with_reducible refine (zby.calls k _ _ t545 _ _ t548 true _ ?side1 ?side2 ?side3 ?side4 A6.out).mono ?_); (case side1 => exact Zq18 ((Kd.zcu HO547.out).2.2)); (case side2 => exact (Kd.zcu HO547.out).2.1); (case side3 => exact Zq18 ((Kd.zcu HO550.out).2.2)); (case side4 => exact (Kd.zcu HO550.out).2.1); rintro e w' ⟨rfl, ⟨nd, rfl⟩⟩; refine ⟨_, rfl, ?_⟩; (try (rw [zf7 w13]; generalize hq_ : World.drewN w13 _ = w13; have n0_ : za (Kd.R k35 35 w13 w.heap.size (fun _ => True) (.slice Ao11 t541.length co11) t541) := ⟨by rw [← hq_]; exact (Zq12 HO544)⟩; have n1_ : za (Kd.Qc (Kd.cut 3 (Kd.int .i64)) 33 w13 w.heap.size (fun k_ => some k_ ≠ (.slice Ao15 t548.length co15 : Value).ownBlock) (.slice Ao14 t545.length co14) t545) := ⟨by rw [← hq_]; exact (by (with_reducible repeat (first | apply Kd.zeu | apply Kd.zet | apply Kd.zd0)); exact Kd.zev HO547.out (fun _ hk => hk.2))⟩; have n2_ : za (Kd.Qc (Kd.cut 3 (Kd.int .i64)) 33 w13 w.heap.size (fun k_ => some k_ ≠ (.slice Ao14 t545.length co14 : Value).ownBlock) (.slice Ao15 t548.length co15) t548) := ⟨by rw [← hq_]; exact (by (with_reducible repeat (first | apply Kd.zeu | apply Kd.zet | apply Kd.zd0)); exact Kd.zev HO550.out (fun _ hk => hk.2))⟩; have n3_ : za (Below w.heap.size w w13) := ⟨by rw [← hq_]; exact (Zq1 HB)⟩; clear HO544 HO547 HO550 HB hq_; have HO544 := n0_; have HO547 := n1_; have HO550 := n2_; have HB := n3_; clear n0_ n1_ n2_ n3_))) | ((with_reducible refine zw (f := 13) rfl ?_); refine zbv (some 29) rfl rfl Try.func13 (by kernel_rfl) rfl #[.slice Ao11 t541.length co11] rfl Zmt ?_; (with_reducible refine (zb9.calls k _ _ t541 t552 t553 _ ?side1 ?side2 A8.out).mono ?_); (case side1 => exact Zq18 ((Kd.zbo HO544.out).2.2)); (case side2 => exact (Kd.zbo HO544.out).2.1); rintro e w16 ⟨rfl, hb⟩; refine ⟨_, rfl, ?_⟩; have n0_ := za.mk (Kd.zcy (Zq12 HO544) hb); have n1_ := za.mk (Kd.zfq (Zq21 HO547) hb); have n2_ := za.mk (Kd.zfq (Zq21 HO550) hb); have n3_ := za.mk (zn (Zq1 HB) hb); clear HO544; clear HO547; clear HO550; clear HB; have HO544 := n0_; have HO547 := n1_; have HO550 := n2_; have HB := n3_; clear n0_ n1_ n2_ n3_; (try clear hb); (try clear hb2); (try clear hk); (try clear hi)) | ((with_reducible refine zbx (N := 6) rfl ?_); (try (refine zhs (by rfl) ?_; dsimp only)); refine zb0 ?hg (N := 6) ?hd (cs := #[.int .i64 0, .int .i64 0]) (t := 30) ?hr ?_; (case hd => rfl); (case hg => rfl); (case hr => first | (go_simp; done) | (go_simp; rfl)); intro gb554 hg w17 hbox hb; have n0_ := za.mk (Kd.zcy (Zq12 HO544) hb); have n1_ := za.mk (Kd.zfq (Zq21 HO547) hb); have n2_ := za.mk (Kd.zfq (Zq21 HO550) hb); have n3_ := za.mk (zn (Zq1 HB) hb); have n4_ := za.mk (hbox); have n5_ := za.mk ((by rw [hg]; exact (zba (Zq1 HB)) : w.heap.size ≤ gb554)); have n6_ := za.mk ((by rw [hg]; exact (zba (Zq1 HB)) : w.heap.size ≤ gb554)); clear HO544; clear HO547; clear HO550; clear HB; have HO544 := n0_; have HO547 := n1_; have HO550 := n2_; have HB := n3_; have BK554 := n4_; have GW554 := n5_; have GE554 := n6_; clear n0_ n1_ n2_ n3_ n4_ n5_ n6_; clear hb hbox hg; have hcz18_0 : w17.cell? ⟨gb554, 0, none⟩ = some (.int .i64 0) := (ze BK554.out 0).trans rfl; have hcz18_1 : w17.cell? ⟨gb554, 1, none⟩ = some (.int .i64 0) := (ze BK554.out 1).trans rfl; have hfz18_0 := zo BK554.out 0; have hfz18_1 := zo BK554.out 1))
   (try simp only [Act.put, Zs1, Zs2, Zs3])
   go_cut [41] (fun v41 wc => ∃ (kq : Nat) (x41_8 : Bool), v41 = .bool x41_8 ∧ za (laws_FnFairFull.j0 kq t541 t542 t545 x41_8 t552 t553 = some r) ∧ za (kq ≤ k) ∧ za (Kd.R k35 35 wc w.heap.size (fun _ => True) (.slice Ao11 t541.length co11) t541) ∧ za (Kd.Qc (Kd.cut 3 (Kd.int .i64)) 33 wc w.heap.size (fun _ => True) (.slice Ao14 t545.length co14) t545) ∧ za (wc.heap[gb554]? = some (.cells #[.int .i64 t552, .int .i64 t553] 30 (0, 0))) ∧ za (Below w.heap.size w wc))
   case first =>
    have H := HC9.out;clear HC9;by_cases c19 : (t545.length : Int) = 120
    ·rw [if_pos c19] at H
     have c19b0 : ((t545.length : Int) == 120) = true := beq_iff_eq.mpr c19;have c19b1 : ((t545.length : Int) != 120) = false := bne_eq_false_iff_eq.mpr c19;clear c19;(first | rw [c19b0] | (simp only [zh, zi]; rw [c19b0]) | skip);have H' := za.mk H;clear H;have hcz20_0 : w17.cell? ⟨gb554, 0, none⟩ = some (.int .i64 0) := (ze BK554.out 0).trans rfl;have hcz20_1 : w17.cell? ⟨gb554, 1, none⟩ = some (.int .i64 0) := (ze BK554.out 1).trans rfl;have hfz20_0 := zo BK554.out 0;have hfz20_1 := zo BK554.out 1;go_wp2;go_meet
     case rel => exact ⟨_, (decide (t552 > (wrap64 (t542 * t553)))), Zrs, H', ⟨by first | omega | exact Nat.le_refl _⟩, ⟨by (with_reducible repeat (first | apply Kd.zcg | apply Kd.zch | apply Kd.zb5)); exact Kd.zbm (Kd.ze0 (p := ⟨gb554, 1, none⟩) (Kd.ze0 (p := ⟨gb554, 0, none⟩) (Kd.zd4 HO544.out BK554.out (by decide)) (fun _ hk => hk.2) (.int .i64 t552)) (fun _ hk => hk.2) (.int .i64 t553)) (fun _ hk => trivial)⟩, ⟨by (with_reducible repeat (first | apply Kd.zeu | apply Kd.zet | apply Kd.zd0)); exact Kd.zev (Kd.zhu (p := ⟨gb554, 1, none⟩) (Kd.zhu (p := ⟨gb554, 0, none⟩) (Kd.Qc_types HO547.out BK554.out (by decide)) (fun _ hk => hk.2) (.int .i64 t552)) (fun _ hk => hk.2) (.int .i64 t553)) (fun _ hk => trivial)⟩, ⟨by (with_reducible repeat (first | refine zbe ?_ _ | refine zz ?_ | refine zbd ?_ _)); refine zcj (cs := #[.int .i64 t552, .int .i64 0]) ?_ 1 _ rfl; (with_reducible repeat (first | refine zbe ?_ _ | refine zz ?_ | refine zbd ?_ _)); refine zcj (cs := #[.int .i64 0, .int .i64 0]) ?_ 0 _ rfl; (with_reducible repeat (first | refine zbe ?_ _ | refine zz ?_ | refine zbd ?_ _)); exact BK554.out⟩, ⟨Zq3 HB GE554⟩⟩
    ·rw [if_neg c19] at H
     have c19b0 : ((t545.length : Int) == 120) = false := beq_eq_false_iff_ne.mpr c19;have c19b1 : ((t545.length : Int) != 120) = true := bne_iff_ne.mpr c19;(first | rw [c19b0] | (simp only [zh, zi]; rw [c19b0]) | skip);have H' := za.mk H;clear H;go_wp2;go_meet
     case rel => exact ⟨_, (true), Zrs, H', ⟨by first | omega | exact Nat.le_refl _⟩, ⟨by (with_reducible repeat (first | apply Kd.zcg | apply Kd.zch | apply Kd.zb5)); exact Kd.zbm (Kd.ze0 (p := ⟨gb554, 1, none⟩) (Kd.ze0 (p := ⟨gb554, 0, none⟩) (Kd.zd4 HO544.out BK554.out (by decide)) (fun _ hk => hk.2) (.int .i64 t552)) (fun _ hk => hk.2) (.int .i64 t553)) (fun _ hk => trivial)⟩, ⟨by (with_reducible repeat (first | apply Kd.zeu | apply Kd.zet | apply Kd.zd0)); exact Kd.zev (Kd.zhu (p := ⟨gb554, 1, none⟩) (Kd.zhu (p := ⟨gb554, 0, none⟩) (Kd.Qc_types HO547.out BK554.out (by decide)) (fun _ hk => hk.2) (.int .i64 t552)) (fun _ hk => hk.2) (.int .i64 t553)) (fun _ hk => trivial)⟩, ⟨by (with_reducible repeat (first | refine zbe ?_ _ | refine zz ?_ | refine zbd ?_ _)); refine zcj (cs := #[.int .i64 t552, .int .i64 0]) ?_ 1 _ rfl; (with_reducible repeat (first | refine zbe ?_ _ | refine zz ?_ | refine zbd ?_ _)); refine zcj (cs := #[.int .i64 0, .int .i64 0]) ?_ 0 _ rfl; (with_reducible repeat (first | refine zbe ?_ _ | refine zz ?_ | refine zbd ?_ _)); exact BK554.out⟩, ⟨Zq3 HB GE554⟩⟩
   case rest =>
    clear HC9
    (try clear c1);(try clear c2);(try clear c2b0);(try clear c2b1);(try clear p2);(try clear p6);(try clear c7);(try clear c8);(try clear c9);(try clear c10);(try clear c11);(try clear c12);(try clear c13);(try clear c19);(try clear c19b0);(try clear c19b1);(try clear hcz18_0);(try clear hcz18_1);(try clear hcz20_0);(try clear hcz20_1);(try clear hfz18_0);(try clear hfz18_1);(try clear hfz20_0);(try clear hfz20_1)
    obtain ⟨kq, x41_8, rfl, HA, HJ8, HO_3, HO_5, BK554, HB⟩ := hcut
    cases kq with
    | zero => exact absurd HA.out (by simp [laws_FnFairFull.j0])
    | succ kj8 =>
     have H := HA.out;clear HA;simp only [laws_FnFairFull.j0] at H;by_cases c21 : x41_8 = true
     ·subst c21
      have H1 : ((zdv.f).bind fun t555 => (some t555)) = some r := by rw [if_pos rfl] at H; exact H
      clear H;have H := H1;clear H1;replace H := Option.bind_eq_some_iff.mp H;obtain ⟨t555, A220, H⟩ := H;replace H : (some t555) = some r := H;have A22 := za.mk A220;clear A220;obtain rfl := Option.some.inj H;go_wp2_with (first | ((with_reducible refine zw (f := 14) rfl ?_); refine zbv (some 42) rfl rfl Try.func14 (by kernel_rfl) rfl #[] rfl Zmt ?_; (with_reducible refine (zdv.calls  t555 _ A22.out).mono ?_); rintro e w23 ⟨rfl, hb⟩; refine ⟨_, rfl, ?_⟩; have n0_ := za.mk (Kd.zcy (Zq12 HO_3) hb); have n1_ := za.mk (Kd.zfq (Zq21 HO_5) hb); have n2_ := za.mk (zbk (g := gb554) (o := .cells #[.int .i64 t552, .int .i64 t553] 30 (0, 0)) (Zq2 BK554) hb); have n3_ := za.mk (zn (Zq3 HB GE554) hb); clear HO_3; clear HO_5; clear BK554; clear HB; have HO_3 := n0_; have HO_5 := n1_; have BK554 := n2_; have HB := n3_; clear n0_ n1_ n2_ n3_; (try clear hb); (try clear hb2); (try clear hk); (try clear hi)));go_ret;exact ⟨by first | rfl | (simp [zq, zt] <;> rfl) | (simp [*, zq, zt] <;> rfl), Zq3 HB GE554⟩
     ·replace c21 := Bool.eq_false_iff.mpr c21
      subst c21;have H1 : (if 0 ≤ (t541.length : Int) then (if ((t541.length : Int) : Int).toNat ≤ 35184372088832 then (laws_FnFairFull.l0 kj8 t541 t542 t545 (List.replicate ((t541.length : Int) : Int).toNat 0) 0 t552 t553) else (none)) else (none)) = some r := by rw [if_neg (show ¬ (false = true) by decide)] at H; exact H
      clear H;have H := H1;clear H1;by_cases c24 : 0 ≤ (t541.length : Int)
      ·rw [if_pos c24] at H
       have c24b0 := eq_true c24;have c24b1 : decide (0 ≤ (t541.length : Int)) = true := decide_eq_true c24;clear c24;by_cases c25 : ((t541.length : Int) : Int).toNat ≤ 35184372088832
       ·rw [if_pos c25] at H
        have c25b0 := eq_true c25;have c25b1 : decide (((t541.length : Int) : Int).toNat ≤ 35184372088832) = true := decide_eq_true c25;clear c25;obtain ⟨y556, hy556⟩ : ∃ y_ : List Int, y_ = (List.replicate ((t541.length : Int) : Int).toNat 0) := ⟨_, rfl⟩;replace H : (laws_FnFairFull.l0 kj8 t541 t542 t545 y556 0 t552 t553) = some r := by first | (rw [hy556]; with_reducible exact H) | (have H2_ := (Option.bind_some _ _).symm.trans H; rw [hy556]; with_reducible exact H2_) | (have H2_ := (Option.bind_some _ _).symm.trans H; with_reducible exact H2_) | with_reducible exact H | (rw [hy556]; exact H) | exact H
        have Ny556 := za.mk hy556;clear hy556;have H' := za.mk H;clear H;go_wp2_with (first | ((with_reducible refine zbx (N := 45) rfl ?_); (try (refine zhs (by rfl) ?_; dsimp only)); refine Kd.R_make (Kd.int .i64) _ 3 rfl (N := 45) rfl 33 _ _ rfl (t541.length : Int) rfl rfl Try.underlying33 (.int .i64 0) 8 info3 rfl (by decide) (by omega) 0 (ok := fun _ => True) (okp := fun _ => True) rfl (fun _ hk => hk) trivial (of_decide_eq_true Zas) (Nat.le_trans (Nat.mul_le_mul_right _ (of_decide_eq_true Zas : (t541.length : Int).toNat ≤ 35184372088832)) (by omega)) (Below.refl _ _) (Nat.le_refl _) ?_; intro v557 w26 ho27 hb hg_ hnew_; clear hg_ hnew_; (first | rw [← Ny556.out] at ho27 | (simp only [Int.reduceToNat] at ho27; rw [← Ny556.out] at ho27)); have n0_ := za.mk (Kd.zcy (Zq12 HO_3) hb); have n1_ := za.mk (Kd.zgy (Zq21 HO_5) (Kd.zc8 ho27) hb); have n2_ := za.mk (Kd.zcw ho27 (zba (Zq3 HB GE554))); have n3_ := za.mk (zbk (g := gb554) (o := .cells #[.int .i64 t552, .int .i64 t553] 30 (0, 0)) (Zq2 BK554) hb); have n4_ := za.mk (zn (Zq3 HB GE554) hb); clear HO_3; clear HO_5; clear BK554; clear HB; have HO_3 := n0_; have HO_5 := n1_; have HO558 := n2_; have BK554 := n3_; have HB := n4_; clear n0_ n1_ n2_ n3_ n4_; clear hb ho27))
        go_loopg [8] kj8 (fun kq v8 w' => ∃ (x7_2 : List Int) (x8_2 : Int), v8 = .int .i64 x8_2 ∧ za (laws_FnFairFull.l0 kq t541 t542 t545 x7_2 x8_2 t552 t553 = some r) ∧ za (kq ≤ kj8) ∧ za (Kd.R k35 35 w' w.heap.size (fun _ => True) (.slice Ao11 t541.length co11) t541) ∧ za (Kd.Qc (Kd.cut 3 (Kd.int .i64)) 33 w' w.heap.size (fun k_ => some k_ ≠ (v557 : Value).ownBlock) (.slice Ao14 t545.length co14) t545) ∧ za (Kd.R (Kd.int .i64) 3 w' w.heap.size (fun _ => True) v557 x7_2) ∧ za (w'.heap[gb554]? = some (.cells #[.int .i64 t552, .int .i64 t553] 30 (0, 0))) ∧ za (Below w.heap.size w w'))
        case atStart => exact ⟨(y556), (0), Zrs, H', ⟨Nat.le_refl _⟩, ⟨Zq12 HO_3⟩, ⟨by (with_reducible repeat (first | apply Kd.zeu | apply Kd.zet | apply Kd.zd0)); exact Kd.zev HO_5.out (fun _ hk => hk.2)⟩, ⟨Zq12 HO558⟩, ⟨Zq2 BK554⟩, ⟨Zq3 HB GE554⟩⟩
        case round =>
         clear H'
         (try clear c1);(try clear c2);(try clear c2b0);(try clear c2b1);(try clear p2);(try clear p6);(try clear c7);(try clear c8);(try clear c9);(try clear c10);(try clear c11);(try clear c12);(try clear c13);(try clear c14);(try clear c19);(try clear c19b0);(try clear c19b1);(try clear c21);(try clear c24);(try clear c24b0);(try clear c24b1);(try clear c25);(try clear c25b0);(try clear c25b1);(try clear hcz18_0);(try clear hcz18_1);(try clear hcz20_0);(try clear hcz20_1);(try clear hfz18_0);(try clear hfz18_1);(try clear hfz20_0);(try clear hfz20_1);(try clear p2);(try clear p6)
         obtain ⟨x7_2, x8_2, rfl, HA, HK2, HO_3, HO_5, HO_7, BK554, HB⟩ := hrel
         cases gk with
         | zero => exact absurd HA.out (by simp [laws_FnFairFull.l0])
         | succ k2 =>
          have H := HA.out;clear HA;simp only [laws_FnFairFull.l0] at H;by_cases c28 : x8_2 < 120
          ·rw [if_pos c28] at H
           have c28b0 : decide (x8_2 < 120) = true := decide_eq_true c28;clear c28;have HC29 := za.mk H;clear H
           go_upto_region 14 with (fail)
           go_cut [65] (fun v65 wc => ∃ (kq : Nat) (x65_28 : Bool), v65 = .bool x65_28 ∧ za (laws_FnFairFull.j2 kq t541 t542 t545 x7_2 x8_2 x65_28 t552 t553 = some r) ∧ za (kq ≤ k2) ∧ za (Kd.R k35 35 wc w.heap.size (fun _ => True) (.slice Ao11 t541.length co11) t541) ∧ za (Kd.Qc (Kd.cut 3 (Kd.int .i64)) 33 wc w.heap.size (fun k_ => some k_ ≠ (v557 : Value).ownBlock) (.slice Ao14 t545.length co14) t545) ∧ za (Kd.R (Kd.int .i64) 3 wc w.heap.size (fun _ => True) v557 x7_2) ∧ za (wc.heap[gb554]? = some (.cells #[.int .i64 t552, .int .i64 t553] 30 (0, 0))) ∧ za (Below w.heap.size w wc))
           case first =>
            have H := HC29.out;clear HC29;by_cases c30 : t552 = (wrap64 (t542 * t553))
            ·rw [if_pos c30] at H
             have c30b0 : (t552 == (wrap64 (t542 * t553))) = true := beq_iff_eq.mpr c30;have c30b1 : (t552 != (wrap64 (t542 * t553))) = false := bne_eq_false_iff_eq.mpr c30;clear c30;(first | rw [c30b0] | (simp only [zh, zi]; rw [c30b0]) | skip);by_cases c31 : 0 ≤ x8_2
             ·rw [if_pos c31] at H
              have c31b0 : decide (0 ≤ x8_2) = true := decide_eq_true c31;clear c31;by_cases c32 : x8_2 < (t545.length : Int)
              ·rw [if_pos c32] at H
               have c32b0 : decide (x8_2 < (t545.length : Int)) = true := decide_eq_true c32;clear c32;have H' := za.mk H;clear H;have hcz33_0 : wr.cell? ⟨gb554, 0, none⟩ = some (.int .i64 t552) := (ze BK554.out 0).trans rfl;have hcz33_1 : wr.cell? ⟨gb554, 1, none⟩ = some (.int .i64 t553) := (ze BK554.out 1).trans rfl;have hfz33_0 := zo BK554.out 0;have hfz33_1 := zo BK554.out 1;have p559 : 0 ≤ (x8_2 : Int) := of_decide_eq_true Zas;have q559 : x8_2 < (t545.length : Int) := of_decide_eq_true Zas;obtain ⟨ad559, A559_0, c559_0, e559, hx559_0, hl559_0, hi559_0⟩ := zib (Kd.zcu HO_5.out).2.2 x8_2 p559 q559
               cases e559
               obtain ⟨ce559, hce559, hMe559, hcc559⟩ := Kd.zja HO_5.out [] x8_2 p559 (by first | exact q559 | exact of_decide_eq_true Zas | (have e_ := (Kd.zcu HO_5.out).1; omega));obtain ⟨ve559_0, rfl, ge559_0⟩ := hMe559;have hv559_0 := hcc559 0 _ rfl;rw [Nat.add_zero, show ((Kd.cut 3 (Kd.int .i64))).sz = 1 from rfl, Nat.mul_one] at hv559_0;replace hv559_0 := Option.some.inj (hv559_0.symm.trans hx559_0);rw [hv559_0] at ge559_0;have HL559_0 := za.mk (show Kd.Qc (Kd.int .i64) 3 _ _ _ _ (zcn t545 x8_2) from ge559_0);clear hv559_0 ge559_0;clear hcc559 hce559;have HR559_0 := za.mk hi559_0;have HC559_0 := za.mk hl559_0;clear hi559_0 hl559_0;replace p559 := eq_true p559;replace q559 := eq_true q559;go_wp2;go_meet
               case rel => exact ⟨_, ((((zcn t545 x8_2).length : Int) != t542)), Zrs, H', ⟨by have := HJ8.out; have := HK2.out; first | omega | exact Nat.le_refl _⟩, ⟨Zq12 HO_3⟩, ⟨Zq21 HO_5⟩, ⟨Zq12 HO_7⟩, ⟨Zq2 BK554⟩, ⟨Zq3 HB GE554⟩⟩
              ·rw [if_neg c32] at H
               exact absurd H (by simp)
             ·rw [if_neg c31] at H
              exact absurd H (by simp)
            ·rw [if_neg c30] at H
             have c30b0 : (t552 == (wrap64 (t542 * t553))) = false := beq_eq_false_iff_ne.mpr c30;have c30b1 : (t552 != (wrap64 (t542 * t553))) = true := bne_iff_ne.mpr c30;(first | rw [c30b0] | (simp only [zh, zi]; rw [c30b0]) | skip);have H' := za.mk H;clear H;have hcz34_0 : wr.cell? ⟨gb554, 0, none⟩ = some (.int .i64 t552) := (ze BK554.out 0).trans rfl;have hcz34_1 : wr.cell? ⟨gb554, 1, none⟩ = some (.int .i64 t553) := (ze BK554.out 1).trans rfl;have hfz34_0 := zo BK554.out 0;have hfz34_1 := zo BK554.out 1;go_wp2;go_meet
             case rel => exact ⟨_, (false), Zrs, H', ⟨by have := HJ8.out; have := HK2.out; first | omega | exact Nat.le_refl _⟩, ⟨Zq12 HO_3⟩, ⟨Zq21 HO_5⟩, ⟨Zq12 HO_7⟩, ⟨Zq2 BK554⟩, ⟨Zq3 HB GE554⟩⟩
           case rest =>
            clear HC29
            (try clear c1);(try clear c2);(try clear c2b0);(try clear c2b1);(try clear p2);(try clear c3);(try clear c5);(try clear p5);(try clear q5);(try clear hx5);(try clear p6);(try clear c7);(try clear c8);(try clear c9);(try clear c10);(try clear c11);(try clear c12);(try clear c13);(try clear c14);(try clear c19);(try clear c19b0);(try clear c19b1);(try clear c21);(try clear c24);(try clear c24b0);(try clear c24b1);(try clear c25);(try clear c25b0);(try clear c25b1);(try clear c28);(try clear c28b0);(try clear c30);(try clear c30b0);(try clear c30b1);(try clear c31);(try clear c31b0);(try clear c32);(try clear c32b0);(try clear hcz18_0);(try clear hcz18_1);(try clear hcz20_0);(try clear hcz20_1);(try clear hcz33_0);(try clear hcz33_1);(try clear hcz34_0);(try clear hcz34_1);(try clear hfz18_0);(try clear hfz18_1);(try clear hfz20_0);(try clear hfz20_1);(try clear hfz33_0);(try clear hfz33_1);(try clear hfz34_0);(try clear hfz34_1);(try clear hx559_0);(try clear p2);(try clear p559);(try clear p6);(try clear q559)
            obtain ⟨kq, x65_28, rfl, HA, HJ28, HO_3, HO_5, HO_7, BK554, HB⟩ := hcut
            cases kq with
            | zero => exact absurd HA.out (by simp [laws_FnFairFull.j2])
            | succ kj28 =>
             have H := HA.out;clear HA;simp only [laws_FnFairFull.j2] at H;by_cases c35 : x65_28 = true
             ·subst c35
              have H1 : (some false) = some r := by rw [if_pos rfl] at H; exact H
              clear H;have H := H1;clear H1;obtain rfl := Option.some.inj H;go_wp2;go_ret;exact ⟨by first | rfl | (simp [zq, zt] <;> rfl) | (simp [*, zq, zt] <;> rfl), Zq3 HB GE554⟩
             ·replace c35 := Bool.eq_false_iff.mpr c35
              subst c35;have H1 : (laws_FnFairFull.l1 kj28 t541 t542 t545 x7_2 x8_2 0 t552 t553) = some r := by rw [if_neg (show ¬ (false = true) by decide)] at H; exact H
              clear H;have H := H1;clear H1;have H' := za.mk H;clear H;go_wp2
              go_loopg [9] kj28 (fun kq v9 w' => ∃ (x7_4 : List Int) (x9_4 : Int), v9 = .int .i64 x9_4 ∧ za (laws_FnFairFull.l1 kq t541 t542 t545 x7_4 x8_2 x9_4 t552 t553 = some r) ∧ za (kq ≤ kj28) ∧ za (Kd.R k35 35 w' w.heap.size (fun _ => True) (.slice Ao11 t541.length co11) t541) ∧ za (Kd.Qc (Kd.cut 3 (Kd.int .i64)) 33 w' w.heap.size (fun k_ => some k_ ≠ (v557 : Value).ownBlock) (.slice Ao14 t545.length co14) t545) ∧ za (Kd.R (Kd.int .i64) 3 w' w.heap.size (fun _ => True) v557 x7_4) ∧ za (w'.heap[gb554]? = some (.cells #[.int .i64 t552, .int .i64 t553] 30 (0, 0))) ∧ za (Below w.heap.size w w'))
              case atStart => exact ⟨(x7_2), (0), Zrs, H', ⟨Nat.le_refl _⟩, ⟨Zq12 HO_3⟩, ⟨Zq21 HO_5⟩, ⟨Zq12 HO_7⟩, ⟨Zq2 BK554⟩, ⟨Zq3 HB GE554⟩⟩
              case round =>
               clear H'
               (try clear c1);(try clear c2);(try clear c2b0);(try clear c2b1);(try clear p2);(try clear c3);(try clear c5);(try clear p5);(try clear q5);(try clear hx5);(try clear p6);(try clear c7);(try clear c8);(try clear c9);(try clear c10);(try clear c11);(try clear c12);(try clear c13);(try clear c14);(try clear c19);(try clear c19b0);(try clear c19b1);(try clear c21);(try clear c24);(try clear c24b0);(try clear c24b1);(try clear c25);(try clear c25b0);(try clear c25b1);(try clear c28);(try clear c28b0);(try clear c30);(try clear c30b0);(try clear c30b1);(try clear c31);(try clear c31b0);(try clear c32);(try clear c32b0);(try clear c35);(try clear hcz18_0);(try clear hcz18_1);(try clear hcz20_0);(try clear hcz20_1);(try clear hcz33_0);(try clear hcz33_1);(try clear hcz34_0);(try clear hcz34_1);(try clear hfz18_0);(try clear hfz18_1);(try clear hfz20_0);(try clear hfz20_1);(try clear hfz33_0);(try clear hfz33_1);(try clear hfz34_0);(try clear hfz34_1);(try clear hx559_0);(try clear p2);(try clear p5);(try clear p559);(try clear p6);(try clear q5);(try clear q559)
               obtain ⟨x7_4, x9_4, rfl, HA, HK4, HO_3, HO_5, HO_7, BK554, HB⟩ := hrel
               cases gk with
               | zero => exact absurd HA.out (by simp [laws_FnFairFull.l1])
               | succ k4 =>
                have H := HA.out;clear HA;simp only [laws_FnFairFull.l1] at H;by_cases c36 : 0 ≤ x8_2
                ·rw [if_pos c36] at H
                 have c36b0 : decide (0 ≤ x8_2) = true := decide_eq_true c36;clear c36;by_cases c37 : x8_2 < (t545.length : Int)
                 ·rw [if_pos c37] at H
                  have c37b0 : decide (x8_2 < (t545.length : Int)) = true := decide_eq_true c37;clear c37;by_cases c38 : x9_4 < ((zcn t545 x8_2).length : Int)
                  ·rw [if_pos c38] at H
                   have c38b0 : decide (x9_4 < ((zcn t545 x8_2).length : Int)) = true := decide_eq_true c38;clear c38;by_cases c39 : 0 ≤ x9_4
                   ·rw [if_pos c39] at H
                    have c39b0 : decide (0 ≤ x9_4) = true := decide_eq_true c39;clear c39;by_cases c40 : 0 ≤ (rd (zcn t545 x8_2) x9_4)
                    ·rw [if_pos c40] at H
                     have c40b0 : decide (0 ≤ (rd (zcn t545 x8_2) x9_4)) = true := decide_eq_true c40;clear c40;by_cases c41 : (rd (zcn t545 x8_2) x9_4) < (x7_4.length : Int)
                     ·rw [if_pos c41] at H
                      have c41b0 : decide ((rd (zcn t545 x8_2) x9_4) < (x7_4.length : Int)) = true := decide_eq_true c41;clear c41;obtain ⟨y566, hy566⟩ : ∃ y_ : List Int, y_ = (x7_4.set ((rd (zcn t545 x8_2) x9_4) : Int).toNat (wrap64 ((rd x7_4 (rd (zcn t545 x8_2) x9_4)) + 1))) := ⟨_, rfl⟩;replace H : (laws_FnFairFull.l1 k4 t541 t542 t545 y566 x8_2 (wrap64 (x9_4 + 1)) t552 t553) = some r := by first | (rw [hy566]; with_reducible exact H) | (have H2_ := (Option.bind_some _ _).symm.trans H; rw [hy566]; with_reducible exact H2_) | (have H2_ := (Option.bind_some _ _).symm.trans H; with_reducible exact H2_) | with_reducible exact H | (rw [hy566]; exact H) | exact H
                      have Ny566 := za.mk hy566;clear hy566;have H' := za.mk H;clear H;have p560 : 0 ≤ (x8_2 : Int) := of_decide_eq_true Zas;have q560 : x8_2 < (t545.length : Int) := of_decide_eq_true Zas;obtain ⟨ad560, A560_0, c560_0, e560, hx560_0, hl560_0, hi560_0⟩ := zib (Kd.zcu HO_5.out).2.2 x8_2 p560 q560
                      cases e560
                      obtain ⟨ce560, hce560, hMe560, hcc560⟩ := Kd.zja HO_5.out [] x8_2 p560 (by first | exact q560 | exact of_decide_eq_true Zas | (have e_ := (Kd.zcu HO_5.out).1; omega));obtain ⟨ve560_0, rfl, ge560_0⟩ := hMe560;have hv560_0 := hcc560 0 _ rfl;rw [Nat.add_zero, show ((Kd.cut 3 (Kd.int .i64))).sz = 1 from rfl, Nat.mul_one] at hv560_0;replace hv560_0 := Option.some.inj (hv560_0.symm.trans hx560_0);rw [hv560_0] at ge560_0;have HL560_0 := za.mk (show Kd.Qc (Kd.int .i64) 3 _ _ _ _ (zcn t545 x8_2) from ge560_0);clear hv560_0 ge560_0;clear hcc560 hce560;have HR560_0 := za.mk hi560_0;have HC560_0 := za.mk hl560_0;clear hi560_0 hl560_0;replace p560 := eq_true p560;replace q560 := eq_true q560
                      try go_wp2
                      have n0_ := za.mk (Kd.zb5 HO_3.out);have n1_ := za.mk (Kd.zd0 HO_5.out);have n2_ := za.mk (Kd.zb5 HO_7.out);have n3_ := za.mk (Kd.zd0 HL560_0.out);have n4_ := za.mk (zz BK554.out);have n5_ := za.mk (Kd.zd5 HR560_0.out);have n6_ := za.mk (zbh HB.out);clear HO_3;clear HO_5;clear HO_7;clear HL560_0;clear BK554;clear HR560_0;clear HB;have HO_3 := n0_;have HO_5 := n1_;have HO_7 := n2_;have HL560_0 := n3_;have BK554 := n4_;have HR560_0 := n5_;have HB := n6_;clear n0_ n1_ n2_ n3_ n4_ n5_ n6_;have p561 : 0 ≤ (x8_2 : Int) := of_decide_eq_true Zas;have q561 : x8_2 < (t545.length : Int) := of_decide_eq_true Zas;obtain ⟨ad561, A561_0, c561_0, e561, hx561_0, hl561_0, hi561_0⟩ := zib (Kd.zcu HO_5.out).2.2 x8_2 p561 q561;obtain rfl : ad560 = ad561 := (by injection e561);obtain ⟨ce561, hce561, hMe561, hcc561⟩ := Kd.zja HO_5.out [] x8_2 p561 (by first | exact q561 | exact of_decide_eq_true Zas | (have e_ := (Kd.zcu HO_5.out).1; omega));obtain ⟨ve561_0, rfl, ge561_0⟩ := hMe561;have hv561_0 := hcc561 0 _ rfl;rw [Nat.add_zero, show ((Kd.cut 3 (Kd.int .i64))).sz = 1 from rfl, Nat.mul_one] at hv561_0;replace hv561_0 := Option.some.inj (hv561_0.symm.trans hx561_0);rw [hv561_0] at ge561_0;have HL561_0 := za.mk (show Kd.Qc (Kd.int .i64) 3 _ _ _ _ (zcn t545 x8_2) from ge561_0);clear hv561_0 ge561_0;clear hcc561 hce561;have HR561_0 := za.mk hi561_0;have HC561_0 := za.mk hl561_0;clear hi561_0 hl561_0;replace p561 := eq_true p561;replace q561 := eq_true q561;have p562 : 0 ≤ (x9_4 : Int) := of_decide_eq_true Zas;have q562 : x9_4 < ((zcn t545 x8_2).length : Int) := of_decide_eq_true Zas;obtain ⟨ad562, e562, hx562_0⟩ := Kd.zb6 (by repeat (first | (with_reducible exact HR561_0.out) | (with_reducible refine Kd.zdu ?_ _) | (with_reducible refine Kd.zd6 ?_ _) | (with_reducible refine Kd.zd5 ?_) | exact HR561_0.out)) x9_4 p562 q562
                      cases e562
                      replace p562 := eq_true p562;replace q562 := eq_true q562;have p563 : 0 ≤ (x8_2 : Int) := of_decide_eq_true Zas;have q563 : x8_2 < (t545.length : Int) := of_decide_eq_true Zas;obtain ⟨ad563, A563_0, c563_0, e563, hx563_0, hl563_0, hi563_0⟩ := zib (Kd.zcu HO_5.out).2.2 x8_2 p563 q563;obtain rfl : ad560 = ad563 := (by injection e563);obtain ⟨ce563, hce563, hMe563, hcc563⟩ := Kd.zja HO_5.out [] x8_2 p563 (by first | exact q563 | exact of_decide_eq_true Zas | (have e_ := (Kd.zcu HO_5.out).1; omega));obtain ⟨ve563_0, rfl, ge563_0⟩ := hMe563;have hv563_0 := hcc563 0 _ rfl;rw [Nat.add_zero, show ((Kd.cut 3 (Kd.int .i64))).sz = 1 from rfl, Nat.mul_one] at hv563_0;replace hv563_0 := Option.some.inj (hv563_0.symm.trans hx563_0);rw [hv563_0] at ge563_0;have HL563_0 := za.mk (show Kd.Qc (Kd.int .i64) 3 _ _ _ _ (zcn t545 x8_2) from ge563_0);clear hv563_0 ge563_0;clear hcc563 hce563;have HR563_0 := za.mk hi563_0;have HC563_0 := za.mk hl563_0;clear hi563_0 hl563_0;replace p563 := eq_true p563;replace q563 := eq_true q563;have ea_ := Option.some.inj (hx561_0.symm.trans hx563_0);injection ea_ with ea_ en_ ec_;subst ea_;subst ec_;clear en_;have p564 : 0 ≤ (x9_4 : Int) := of_decide_eq_true Zas;have q564 : x9_4 < ((zcn t545 x8_2).length : Int) := of_decide_eq_true Zas;obtain ⟨ad564, e564, hx564_0⟩ := Kd.zb6 (by repeat (first | (with_reducible exact HR563_0.out) | (with_reducible refine Kd.zdu ?_ _) | (with_reducible refine Kd.zd6 ?_ _) | (with_reducible refine Kd.zd5 ?_) | exact HR563_0.out)) x9_4 p564 q564
                      cases e564
                      replace p564 := eq_true p564;replace q564 := eq_true q564;obtain ⟨Ao44, co44, eo44⟩ := Kd.zct HO_7.out;(first | subst eo44 | (injection eo44 with f1_ f2_ f3_; have f4_ := f1_.symm; have f5_ := f3_.symm; clear f1_ f2_ f3_; subst f4_; subst f5_));have p565 : 0 ≤ ((rd (zcn t545 x8_2) x9_4) : Int) := of_decide_eq_true Zas;have q565 : (rd (zcn t545 x8_2) x9_4) < (x7_4.length : Int) := of_decide_eq_true Zas;obtain ⟨ad565, e565, hx565_0⟩ := Kd.zb6 (Kd.zbo HO_7.out).2.2 (rd (zcn t545 x8_2) x9_4) p565 q565
                      cases e565
                      replace p565 := eq_true p565;replace q565 := eq_true q565;have p42 : 0 ≤ ((rd (zcn t545 x8_2) x9_4) : Int) := of_decide_eq_true Zas;have q42 : ((rd (zcn t545 x8_2) x9_4) : Int) < ((x7_4.length : Int) : Int) := of_decide_eq_true Zas;obtain ⟨go42, co42, eo42, gb42, gl42, cl42, HG42⟩ := Kd.zhn HO_7.out (by omega);(first | cases eo42 | (injection eo42 with ea_ en_ ec_; (first | subst ea_ | (injection ea_ with ea_; subst ea_)); subst ec_; clear en_));have GB42 := za.mk gb42;have GG42 := za.mk HG42;clear gb42 gl42 HG42;(first | simp only [add_plain] at hx565_0 | skip);obtain ⟨hx42_0, hf42_0⟩ := Kd.zgq 0 HO_7.out ((rd (zcn t545 x8_2) x9_4) : Int) p42 q42;replace p42 := eq_true p42;replace q42 := eq_true q42;have HP45 := Kd.R_putn HO_7.out ((rd (zcn t545 x8_2) x9_4) : Int) (wrap64 ((rd x7_4 (rd (zcn t545 x8_2) x9_4)) + 1));rw [← Ny566.out] at HP45;have HQ45 := za.mk HP45;clear HP45;refine zci (n := 21) (S := fun w' => w'.cell? (ad560.add (x8_2).toNat) = some (.slice (some ad562) (zcn t545 x8_2).length c561_0) ∧ w'.cell? (ad562.add (x9_4).toNat) = some (.int .i64 (rd (zcn t545 x8_2) x9_4)) ∧ w'.cell? (ad560.add (x8_2).toNat) = some (.slice (some ad562) (zcn t545 x8_2).length c561_0) ∧ w'.cell? (ad562.add (x9_4).toNat) = some (.int .i64 (rd (zcn t545 x8_2) x9_4)) ∧ w'.cell? ⟨go42, ((rd (zcn t545 x8_2) x9_4)).toNat, none⟩ = some (.int .i64 (rd x7_4 (rd (zcn t545 x8_2) x9_4)))) (ds := [20]) #[false, false, false, false, false, false, false, false, false, false, false, false, false, false, false, false, false, false, false, false, false] (by kernel_rfl) rfl rfl ⟨hx561_0, hx562_0, hx563_0, hx564_0, hx565_0⟩ (fun hHeld => ?_); refine zbp laws_FnFairFull.tab19 laws_FnFairFull.bits19 (fun HT_ HW_ => ?_);generalize wr.drew = w43 at HO_3 HO_5 HO_7 HL560_0 BK554 HR560_0 HB GG42 HL561_0 HL563_0 HQ45 HR561_0 HR563_0 hf42_0 hx42_0 hx561_0 hx562_0 hx563_0 hx564_0 hx565_0 hHeld ⊢;refine zl (i := 0) (N := some 75) (v := ?_) (a' := ?_) #[true, false, false, false, false, false, false, false, false, false, false, false, false, false, false, false, false, false, false, false, false] rfl rfl (zf HT_.out (by kernel_rfl)) (fun _ _ _ h => h) (Or.inl ⟨by rfl, ?_⟩) ?_ ?_;rotate_left
                      ·intro w'
                       go_simp;with_reducible rfl
                      rotate_left
                      ·simp only [Act.put, Zs1, Zs2, Zs3, zh, zi]
                       rfl
                      refine zl (i := 1) (N := some 76) (v := ?_) (a' := ?_) #[true, true, false, false, false, false, false, false, false, false, false, false, false, false, false, false, false, false, false, false, false] rfl rfl (zf HT_.out (by kernel_rfl)) (fun _ _ _ h => h) (Or.inl ⟨by rfl, ?_⟩) ?_ ?_;rotate_left
                      ·intro w'
                       go_simp;with_reducible rfl
                      rotate_left
                      ·simp only [Act.put, Zs1, Zs2, Zs3, zh, zi]
                       rfl
                      refine zl (i := 2) (N := some 77) (v := ?_) (a' := ?_) #[true, true, true, false, false, false, false, false, false, false, false, false, false, false, false, false, false, false, false, false, false] rfl rfl (zf HT_.out (by kernel_rfl)) (fun _ _ _ h => h) (Or.inl ⟨by rfl, ?_⟩) ?_ ?_;rotate_left
                      ·intro w'
                       go_simp;with_reducible rfl
                      rotate_left
                      ·simp only [Act.put, Zs1, Zs2, Zs3, zh, zi]
                       rfl
                      refine zl (i := 3) (N := some 78) (v := ?_) (a' := ?_) #[true, true, true, true, false, false, false, false, false, false, false, false, false, false, false, false, false, false, false, false, false] rfl rfl (zf HT_.out (by kernel_rfl)) (fun _ _ _ h => h) (Or.inl ⟨by rfl, ?_⟩) ?_ ?_;rotate_left
                      ·intro w'
                       go_simp;with_reducible rfl
                      rotate_left
                      ·simp only [Act.put, Zs1, Zs2, Zs3, zh, zi]
                       rfl
                      refine zl (i := 5) (N := some 80) (v := ?_) (a' := ?_) #[true, true, true, true, false, true, false, false, false, false, false, false, false, false, false, false, false, false, false, false, false] rfl rfl (zf HT_.out (by kernel_rfl)) (fun _ _ _ h => h) (Or.inl ⟨by rfl, ?_⟩) ?_ ?_;rotate_left
                      ·intro w'
                       go_simp;with_reducible rfl
                      rotate_left
                      ·simp only [Act.put, Zs1, Zs2, Zs3, zh, zi]
                       rfl
                      refine zl (i := 8) (N := some 83) (v := ?_) (a' := ?_) #[true, true, true, true, false, true, false, false, true, false, false, false, false, false, false, false, false, false, false, false, false] rfl rfl (zf HT_.out (by kernel_rfl)) (fun _ _ _ h => h) (Or.inl ⟨by rfl, ?_⟩) ?_ ?_;rotate_left
                      ·intro w'
                       go_simp;with_reducible rfl
                      rotate_left
                      ·simp only [Act.put, Zs1, Zs2, Zs3, zh, zi]
                       rfl
                      refine zl (i := 9) (N := some 84) (v := ?_) (a' := ?_) #[true, true, true, true, false, true, false, false, true, true, false, false, false, false, false, false, false, false, false, false, false] rfl rfl (zf HT_.out (by kernel_rfl)) (fun _ _ _ h => h) (Or.inl ⟨by rfl, ?_⟩) ?_ ?_;rotate_left
                      ·intro w'
                       go_simp;with_reducible rfl
                      rotate_left
                      ·simp only [Act.put, Zs1, Zs2, Zs3, zh, zi]
                       rfl
                      refine zl (i := 10) (N := some 85) (v := ?_) (a' := ?_) #[true, true, true, true, false, true, false, false, true, true, true, false, false, false, false, false, false, false, false, false, false] rfl rfl (zf HT_.out (by kernel_rfl)) (fun _ _ _ h => h) (Or.inl ⟨by rfl, ?_⟩) ?_ ?_;rotate_left
                      ·intro w'
                       go_simp;with_reducible rfl
                      rotate_left
                      ·simp only [Act.put, Zs1, Zs2, Zs3, zh, zi]
                       rfl
                      refine zl (i := 11) (N := some 86) (v := ?_) (a' := ?_) #[true, true, true, true, false, true, false, false, true, true, true, true, false, false, false, false, false, false, false, false, false] rfl rfl (zf HT_.out (by kernel_rfl)) (fun _ _ _ h => h) (Or.inl ⟨by rfl, ?_⟩) ?_ ?_;rotate_left
                      ·intro w'
                       go_simp;with_reducible rfl
                      rotate_left
                      ·simp only [Act.put, Zs1, Zs2, Zs3, zh, zi]
                       rfl
                      refine zl (i := 13) (N := some 88) (v := ?_) (a' := ?_) #[true, true, true, true, false, true, false, false, true, true, true, true, false, true, false, false, false, false, false, false, false] rfl rfl (zf HT_.out (by kernel_rfl)) (fun _ _ _ h => h) (Or.inl ⟨by rfl, ?_⟩) ?_ ?_;rotate_left
                      ·intro w'
                       go_simp;with_reducible rfl
                      rotate_left
                      ·simp only [Act.put, Zs1, Zs2, Zs3, zh, zi]
                       rfl
                      refine zbw (i := 4) (N := some 79) (v := ?_) (a' := ?_) #[true, true, true, true, true, true, false, false, true, true, true, true, false, true, false, false, false, false, false, false, false] rfl rfl (z8 HT_.out HW_.out (by kernel_rfl)) (fun _ _ _ h => h) (Or.inl ⟨by rfl, ?_⟩) hHeld ?_ ?_;rotate_left
                      ·rintro w' ⟨s0, s1, s2, s3, s4⟩
                       go_simp;with_reducible rfl
                      rotate_left
                      ·simp only [Act.put, Zs1, Zs2, Zs3, zh, zi]
                       rfl
                      refine zl (i := 6) (N := some 81) (v := ?_) (a' := ?_) #[true, true, true, true, true, true, true, false, true, true, true, true, false, true, false, false, false, false, false, false, false] rfl rfl (zf HT_.out (by kernel_rfl)) (fun _ _ _ h => h) (Or.inl ⟨by rfl, ?_⟩) ?_ ?_;rotate_left
                      ·intro w'
                       go_simp;with_reducible rfl
                      rotate_left
                      ·simp only [Act.put, Zs1, Zs2, Zs3, zh, zi]
                       rfl
                      refine zbw (i := 7) (N := some 82) (v := ?_) (a' := ?_) #[true, true, true, true, true, true, true, true, true, true, true, true, false, true, false, false, false, false, false, false, false] rfl rfl (z8 HT_.out HW_.out (by kernel_rfl)) (fun _ _ _ h => h) (Or.inl ⟨by rfl, ?_⟩) hHeld ?_ ?_;rotate_left
                      ·rintro w' ⟨s0, s1, s2, s3, s4⟩
                       go_simp;with_reducible rfl
                      rotate_left
                      ·simp only [Act.put, Zs1, Zs2, Zs3, zh, zi]
                       rfl
                      refine zbw (i := 12) (N := some 87) (v := ?_) (a' := ?_) #[true, true, true, true, true, true, true, true, true, true, true, true, true, true, false, false, false, false, false, false, false] rfl rfl (z8 HT_.out HW_.out (by kernel_rfl)) (fun _ _ _ h => h) (Or.inl ⟨by rfl, ?_⟩) hHeld ?_ ?_;rotate_left
                      ·rintro w' ⟨s0, s1, s2, s3, s4⟩
                       go_simp;with_reducible rfl
                      rotate_left
                      ·simp only [Act.put, Zs1, Zs2, Zs3, zh, zi]
                       rfl
                      refine zl (i := 14) (N := some 89) (v := ?_) (a' := ?_) #[true, true, true, true, true, true, true, true, true, true, true, true, true, true, true, false, false, false, false, false, false] rfl rfl (zf HT_.out (by kernel_rfl)) (fun _ _ _ h => h) (Or.inl ⟨by rfl, ?_⟩) ?_ ?_;rotate_left
                      ·intro w'
                       go_simp;with_reducible rfl
                      rotate_left
                      ·simp only [Act.put, Zs1, Zs2, Zs3, zh, zi]
                       rfl
                      refine zbw (i := 15) (N := some 90) (v := ?_) (a' := ?_) #[true, true, true, true, true, true, true, true, true, true, true, true, true, true, true, true, false, false, false, false, false] rfl rfl (z8 HT_.out HW_.out (by kernel_rfl)) (fun _ _ _ h => h) (Or.inl ⟨by rfl, ?_⟩) hHeld ?_ ?_;rotate_left
                      ·rintro w' ⟨s0, s1, s2, s3, s4⟩
                       go_simp;with_reducible rfl
                      rotate_left
                      ·simp only [Act.put, Zs1, Zs2, Zs3, zh, zi]
                       rfl
                      refine zl (i := 16) (N := some 91) (v := ?_) (a' := ?_) #[true, true, true, true, true, true, true, true, true, true, true, true, true, true, true, true, true, false, false, false, false] rfl rfl (zf HT_.out (by kernel_rfl)) (fun _ _ _ h => h) (Or.inl ⟨by rfl, ?_⟩) ?_ ?_;rotate_left
                      ·intro w'
                       go_simp;with_reducible rfl
                      rotate_left
                      ·simp only [Act.put, Zs1, Zs2, Zs3, zh, zi]
                       rfl
                      refine zbw (i := 17) (N := some 92) (v := ?_) (a' := ?_) #[true, true, true, true, true, true, true, true, true, true, true, true, true, true, true, true, true, true, false, false, false] rfl rfl (z8 HT_.out HW_.out (by kernel_rfl)) (fun _ _ _ h => h) (Or.inl ⟨by rfl, ?_⟩) hHeld ?_ ?_;rotate_left
                      ·rintro w' ⟨s0, s1, s2, s3, s4⟩
                       go_simp;with_reducible rfl
                      rotate_left
                      ·simp only [Act.put, Zs1, Zs2, Zs3, zh, zi]
                       rfl
                      refine zl (i := 18) (N := some 93) (v := ?_) (a' := ?_) #[true, true, true, true, true, true, true, true, true, true, true, true, true, true, true, true, true, true, true, false, false] rfl rfl (zf HT_.out (by kernel_rfl)) (fun _ _ _ h => h) (Or.inl ⟨by rfl, ?_⟩) ?_ ?_;rotate_left
                      ·intro w'
                       go_simp;with_reducible rfl
                      rotate_left
                      ·simp only [Act.put, Zs1, Zs2, Zs3, zh, zi]
                       rfl
                      refine zl (i := 19) (N := some 94) (v := ?_) (a' := ?_) #[true, true, true, true, true, true, true, true, true, true, true, true, true, true, true, true, true, true, true, true, false] rfl rfl (zf HT_.out (by kernel_rfl)) (fun _ _ _ h => h) (Or.inl ⟨by rfl, ?_⟩) ?_ ?_;rotate_left
                      ·intro w'
                       go_simp;with_reducible rfl
                      rotate_left
                      ·simp only [Act.put, Zs1, Zs2, Zs3, zh, zi]
                       rfl
                      refine last_ (i := 20) (N := none) #[true, true, true, true, true, true, true, true, true, true, true, true, true, true, true, true, true, true, true, true, true] rfl rfl (zbz HT_.out (by kernel_rfl)) (by decide) (fun K hK => ?_);refine zh9 (w1 := ?_) (by rfl) rfl ?_ ?_;rotate_left
                      ·go_simp
                       rfl
                      refine hK.out _ _ ?_;clear hK K;refine zcz (zb4 HT_.out (by kernel_rfl)) ?_
                      try go_wp2
                      go_roundg k4
                      case measure => have := HJ8.out; have := HK2.out; have := HJ28.out; have := HK4.out; omega
                      case rel => exact ⟨(y566), (wrap64 (x9_4 + 1)), Zrs, H', ⟨by have := HJ8.out; have := HK2.out; have := HJ28.out; have := HK4.out; omega⟩, ⟨by (with_reducible repeat (first | apply Kd.zcg | apply Kd.zch | apply Kd.zb5)); exact Kd.zbm (Kd.ze0 (p := ⟨go42, ((rd (zcn t545 x8_2) x9_4) : Int).toNat, none⟩) (Kd.zd4 HO_3.out GG42.out (by decide)) (fun _ hk => hk.2) (.int .i64 (wrap64 ((rd x7_4 (rd (zcn t545 x8_2) x9_4)) + 1)))) (fun _ hk => trivial)⟩, ⟨by (with_reducible repeat (first | apply Kd.zeu | apply Kd.zet | apply Kd.zd0)); exact Kd.zev (Kd.zhu (p := ⟨go42, ((rd (zcn t545 x8_2) x9_4) : Int).toNat, none⟩) (Kd.zev HO_5.out (fun k_ hk => (⟨hk, fun e_ => hk (by rw [e_]; rfl)⟩ : _ ∧ k_ ≠ go42))) (fun _ hk => hk.2) (.int .i64 (wrap64 ((rd x7_4 (rd (zcn t545 x8_2) x9_4)) + 1)))) (fun _ hk => hk.1)⟩, ⟨Zq12 HQ45⟩, ⟨by (with_reducible repeat (first | refine zbe ?_ _ | refine zz ?_ | refine zbd ?_ _)); refine zc4 ?_ (by have h_ := Kd.R_ne HO_7.out BK554.out (by decide); intro e_; exact h_ (by rw [e_]; rfl)) _; (with_reducible repeat (first | refine zbe ?_ _ | refine zz ?_ | refine zbd ?_ _)); exact BK554.out⟩, ⟨Zq19 HB GB42 GE554⟩⟩
                     ·rw [if_neg c41] at H
                      exact absurd H (by simp)
                    ·rw [if_neg c40] at H
                     exact absurd H (by simp)
                   ·rw [if_neg c39] at H
                    exact absurd H (by simp)
                  ·rw [if_neg c38] at H
                   have c38b0 : decide (x9_4 < ((zcn t545 x8_2).length : Int)) = false := decide_eq_false c38;clear c38;have H' := za.mk H;clear H;have p560 : 0 ≤ (x8_2 : Int) := of_decide_eq_true Zas;have q560 : x8_2 < (t545.length : Int) := of_decide_eq_true Zas;obtain ⟨ad560, A560_0, c560_0, e560, hx560_0, hl560_0, hi560_0⟩ := zib (Kd.zcu HO_5.out).2.2 x8_2 p560 q560
                   cases e560
                   obtain ⟨ce560, hce560, hMe560, hcc560⟩ := Kd.zja HO_5.out [] x8_2 p560 (by first | exact q560 | exact of_decide_eq_true Zas | (have e_ := (Kd.zcu HO_5.out).1; omega));obtain ⟨ve560_0, rfl, ge560_0⟩ := hMe560;have hv560_0 := hcc560 0 _ rfl;rw [Nat.add_zero, show ((Kd.cut 3 (Kd.int .i64))).sz = 1 from rfl, Nat.mul_one] at hv560_0;replace hv560_0 := Option.some.inj (hv560_0.symm.trans hx560_0);rw [hv560_0] at ge560_0;have HL560_0 := za.mk (show Kd.Qc (Kd.int .i64) 3 _ _ _ _ (zcn t545 x8_2) from ge560_0);clear hv560_0 ge560_0;clear hcc560 hce560;have HR560_0 := za.mk hi560_0;have HC560_0 := za.mk hl560_0;clear hi560_0 hl560_0;replace p560 := eq_true p560;replace q560 := eq_true q560;go_wp2
                   go_loopg [10] k4 (fun kq v10 w' => ∃ (x10_5 : Int), v10 = .int .i64 x10_5 ∧ za (laws_FnFairFull.l2 kq t541 t542 t545 x7_4 x8_2 x10_5 t552 t553 = some r) ∧ za (kq ≤ k4) ∧ za (Kd.R k35 35 w' w.heap.size (fun _ => True) (.slice Ao11 t541.length co11) t541) ∧ za (Kd.Qc (Kd.cut 3 (Kd.int .i64)) 33 w' w.heap.size (fun k_ => some k_ ≠ (v557 : Value).ownBlock) (.slice (some ad560) t545.length co14) t545) ∧ za (Kd.R (Kd.int .i64) 3 w' w.heap.size (fun _ => True) v557 x7_4) ∧ za (w'.heap[gb554]? = some (.cells #[.int .i64 t552, .int .i64 t553] 30 (0, 0))) ∧ za (Kd.C (Kd.int .i64) w' A560_0 (zcn t545 x8_2).length (zcn t545 x8_2)) ∧ za (Below w.heap.size w w'))
                   case atStart => exact ⟨(0), Zrs, H', ⟨Nat.le_refl _⟩, ⟨Zq12 HO_3⟩, ⟨Zq21 HO_5⟩, ⟨Zq12 HO_7⟩, ⟨Zq2 BK554⟩, ⟨by repeat (first | (with_reducible exact HR560_0.out) | (with_reducible refine Kd.zdu ?_ _) | (with_reducible refine Kd.zd6 ?_ _) | (with_reducible refine Kd.zd5 ?_) | exact HR560_0.out)⟩, ⟨Zq3 HB GE554⟩⟩
                   case round =>
                    clear H'
                    (try clear c1);(try clear c2);(try clear c2b0);(try clear c2b1);(try clear p2);(try clear c3);(try clear c4);(try clear p4);(try clear q4);(try clear hx4);(try clear hf4);(try clear c5);(try clear p5);(try clear q5);(try clear hx5);(try clear p6);(try clear c7);(try clear c8);(try clear c9);(try clear c10);(try clear c11);(try clear c12);(try clear c13);(try clear c14);(try clear c19);(try clear c19b0);(try clear c19b1);(try clear c21);(try clear c24);(try clear c24b0);(try clear c24b1);(try clear c25);(try clear c25b0);(try clear c25b1);(try clear c28);(try clear c28b0);(try clear c30);(try clear c30b0);(try clear c30b1);(try clear c31);(try clear c31b0);(try clear c32);(try clear c32b0);(try clear c35);(try clear c36);(try clear c36b0);(try clear c37);(try clear c37b0);(try clear c38);(try clear c38b0);(try clear c39);(try clear c39b0);(try clear c40);(try clear c40b0);(try clear c41);(try clear c41b0);(try clear p42);(try clear q42);(try clear hx42);(try clear hf42);(try clear hcz18_0);(try clear hcz18_1);(try clear hcz20_0);(try clear hcz20_1);(try clear hcz33_0);(try clear hcz33_1);(try clear hcz34_0);(try clear hcz34_1);(try clear hfz18_0);(try clear hfz18_1);(try clear hfz20_0);(try clear hfz20_1);(try clear hfz33_0);(try clear hfz33_1);(try clear hfz34_0);(try clear hfz34_1);(try clear hx42_0);(try clear hx559_0);(try clear hx560_0);(try clear hx561_0);(try clear hx562_0);(try clear hx563_0);(try clear hx564_0);(try clear hx565_0);(try clear p2);(try clear p42);(try clear p5);(try clear p559);(try clear p560);(try clear p561);(try clear p562);(try clear p563);(try clear p564);(try clear p565);(try clear p6);(try clear q42);(try clear q5);(try clear q559);(try clear q560);(try clear q561);(try clear q562);(try clear q563);(try clear q564);(try clear q565)
                    obtain ⟨x10_5, rfl, HA, HK5, HO_3, HO_5, HO_7, BK554, HR560_0, HB⟩ := hrel
                    cases gk with
                    | zero => exact absurd HA.out (by simp [laws_FnFairFull.l2])
                    | succ k5 =>
                     have H := HA.out;clear HA;simp only [laws_FnFairFull.l2] at H;by_cases c46 : x10_5 < (t541.length : Int)
                     ·rw [if_pos c46] at H
                      have c46b0 : decide (x10_5 < (t541.length : Int)) = true := decide_eq_true c46;clear c46;by_cases c47 : 0 ≤ x10_5
                      ·rw [if_pos c47] at H
                       have c47b0 : decide (0 ≤ x10_5) = true := decide_eq_true c47;clear c47;by_cases c48 : ((zg t541 x10_5).f2) = 0
                       ·rw [if_pos c48] at H
                        exact absurd H (by simp)
                       ·rw [if_neg c48] at H
                        have c48b0 : (((zg t541 x10_5).f2) == 0) = false := beq_eq_false_iff_ne.mpr c48;have c48b1 : (((zg t541 x10_5).f2) != 0) = true := bne_iff_ne.mpr c48;by_cases c49 : (Int.tmod (wrap64 (x8_2 + 1)) ((zg t541 x10_5).f2)) = 0
                        ·rw [if_pos c49] at H
                         have c49b0 : ((Int.tmod (wrap64 (x8_2 + 1)) ((zg t541 x10_5).f2)) == 0) = true := beq_iff_eq.mpr c49;have c49b1 : ((Int.tmod (wrap64 (x8_2 + 1)) ((zg t541 x10_5).f2)) != 0) = false := bne_eq_false_iff_eq.mpr c49;clear c49;by_cases c50 : x10_5 < (x7_4.length : Int)
                         ·rw [if_pos c50] at H
                          have c50b0 : decide (x10_5 < (x7_4.length : Int)) = true := decide_eq_true c50;clear c50;by_cases c51 : (rd x7_4 x10_5) = (wrap64 ((wrap64 (Int.tdiv (wrap64 (x8_2 + 1)) ((zg t541 x10_5).f2))) * ((zg t541 x10_5).f0)))
                          ·rw [if_pos c51] at H
                           have c51b0 : ((rd x7_4 x10_5) == (wrap64 ((wrap64 (Int.tdiv (wrap64 (x8_2 + 1)) ((zg t541 x10_5).f2))) * ((zg t541 x10_5).f0)))) = true := beq_iff_eq.mpr c51;have c51b1 : ((rd x7_4 x10_5) != (wrap64 ((wrap64 (Int.tdiv (wrap64 (x8_2 + 1)) ((zg t541 x10_5).f2))) * ((zg t541 x10_5).f0)))) = false := bne_eq_false_iff_eq.mpr c51;clear c51;have H' := za.mk H;clear H
                           try go_wp2
                           have n0_ := za.mk (Kd.zb5 HO_3.out);have n1_ := za.mk (Kd.zd0 HO_5.out);have n2_ := za.mk (Kd.zb5 HO_7.out);have n3_ := za.mk (zz BK554.out);have n4_ := za.mk (Kd.zd5 HR560_0.out);have n5_ := za.mk (zbh HB.out);clear HO_3;clear HO_5;clear HO_7;clear BK554;clear HR560_0;clear HB;have HO_3 := n0_;have HO_5 := n1_;have HO_7 := n2_;have BK554 := n3_;have HR560_0 := n4_;have HB := n5_;clear n0_ n1_ n2_ n3_ n4_ n5_;have p567 : 0 ≤ (x10_5 : Int) := of_decide_eq_true Zas;have q567 : x10_5 < (t541.length : Int) := of_decide_eq_true Zas;obtain ⟨ad567, e567, hx567_0, hx567_1, hx567_2⟩ := zck (Kd.zbo HO_3.out).2.2 x10_5 p567 q567
                           cases e567
                           replace p567 := eq_true p567;replace q567 := eq_true q567;obtain ⟨Ao53, co53, eo53⟩ := Kd.zct HO_7.out;(first | subst eo53 | (injection eo53 with f1_ f2_ f3_; have f4_ := f1_.symm; have f5_ := f3_.symm; clear f1_ f2_ f3_; subst f4_; subst f5_));have p568 : 0 ≤ (x10_5 : Int) := of_decide_eq_true Zas;have q568 : x10_5 < (x7_4.length : Int) := of_decide_eq_true Zas;obtain ⟨ad568, e568, hx568_0⟩ := Kd.zb6 (Kd.zbo HO_7.out).2.2 x10_5 p568 q568
                           cases e568
                           replace p568 := eq_true p568;replace q568 := eq_true q568;have p569 : 0 ≤ (x10_5 : Int) := of_decide_eq_true Zas;have q569 : x10_5 < (t541.length : Int) := of_decide_eq_true Zas;obtain ⟨ad569, e569, hx569_0, hx569_1, hx569_2⟩ := zck (Kd.zbo HO_3.out).2.2 x10_5 p569 q569;obtain rfl : ad567 = ad569 := (by injection e569);replace p569 := eq_true p569;replace q569 := eq_true q569;have p570 : 0 ≤ (x10_5 : Int) := of_decide_eq_true Zas;have q570 : x10_5 < (t541.length : Int) := of_decide_eq_true Zas;obtain ⟨ad570, e570, hx570_0, hx570_1, hx570_2⟩ := zck (Kd.zbo HO_3.out).2.2 x10_5 p570 q570;obtain rfl : ad567 = ad570 := (by injection e570);replace p570 := eq_true p570;replace q570 := eq_true q570;refine zci (n := 30) (S := fun w' => w'.cell? (ad567.add ((x10_5).toNat * 3)) = some (.int .i64 ((zg t541 x10_5).f0)) ∧ w'.cell? ⟨(ad567.add ((x10_5).toNat * 3)).block, (ad567.add ((x10_5).toNat * 3)).off + 1, none⟩ = some (.int .i64 ((zg t541 x10_5).f1)) ∧ w'.cell? ⟨(ad567.add ((x10_5).toNat * 3)).block, (ad567.add ((x10_5).toNat * 3)).off + 2, none⟩ = some (.int .i64 ((zg t541 x10_5).f2)) ∧ w'.cell? (ad568.add (x10_5).toNat) = some (.int .i64 (rd x7_4 x10_5)) ∧ w'.cell? (ad567.add ((x10_5).toNat * 3)) = some (.int .i64 ((zg t541 x10_5).f0)) ∧ w'.cell? ⟨(ad567.add ((x10_5).toNat * 3)).block, (ad567.add ((x10_5).toNat * 3)).off + 1, none⟩ = some (.int .i64 ((zg t541 x10_5).f1)) ∧ w'.cell? ⟨(ad567.add ((x10_5).toNat * 3)).block, (ad567.add ((x10_5).toNat * 3)).off + 2, none⟩ = some (.int .i64 ((zg t541 x10_5).f2)) ∧ w'.cell? (ad567.add ((x10_5).toNat * 3)) = some (.int .i64 ((zg t541 x10_5).f0)) ∧ w'.cell? ⟨(ad567.add ((x10_5).toNat * 3)).block, (ad567.add ((x10_5).toNat * 3)).off + 1, none⟩ = some (.int .i64 ((zg t541 x10_5).f1)) ∧ w'.cell? ⟨(ad567.add ((x10_5).toNat * 3)).block, (ad567.add ((x10_5).toNat * 3)).off + 2, none⟩ = some (.int .i64 ((zg t541 x10_5).f2))) (ds := []) #[false, false, false, false, false, false, false, false, false, false, false, false, false, false, false, false, false, false, false, false, false, false, false, false, false, false, false, false, false, false] (by kernel_rfl) rfl rfl ⟨hx567_0, hx567_1, hx567_2, hx568_0, hx569_0, hx569_1, hx569_2, hx570_0, hx570_1, hx570_2⟩ (fun hHeld => ?_); refine zbp laws_FnFairFull.tab23 laws_FnFairFull.bits23 (fun HT_ HW_ => ?_);generalize wr.drew = w52 at HO_3 HO_5 HO_7 BK554 HR560_0 HB hx567_0 hx567_1 hx567_2 hx568_0 hx569_0 hx569_1 hx569_2 hx570_0 hx570_1 hx570_2 hHeld ⊢;refine zl (i := 0) (N := some 101) (v := ?_) (a' := ?_) #[true, false, false, false, false, false, false, false, false, false, false, false, false, false, false, false, false, false, false, false, false, false, false, false, false, false, false, false, false, false] rfl rfl (zf HT_.out (by kernel_rfl)) (fun _ _ _ h => h) (Or.inl ⟨by rfl, ?_⟩) ?_ ?_;rotate_left
                           ·intro w'
                            go_simp;with_reducible rfl
                           rotate_left
                           ·simp only [Act.put, Zs1, Zs2, Zs3, zh, zi]
                            rfl
                           refine zl (i := 1) (N := some 102) (v := ?_) (a' := ?_) #[true, true, false, false, false, false, false, false, false, false, false, false, false, false, false, false, false, false, false, false, false, false, false, false, false, false, false, false, false, false] rfl rfl (zf HT_.out (by kernel_rfl)) (fun _ _ _ h => h) (Or.inl ⟨by rfl, ?_⟩) ?_ ?_;rotate_left
                           ·intro w'
                            go_simp;with_reducible rfl
                           rotate_left
                           ·simp only [Act.put, Zs1, Zs2, Zs3, zh, zi]
                            rfl
                           refine zl (i := 2) (N := some 103) (v := ?_) (a' := ?_) #[true, true, true, false, false, false, false, false, false, false, false, false, false, false, false, false, false, false, false, false, false, false, false, false, false, false, false, false, false, false] rfl rfl (zf HT_.out (by kernel_rfl)) (fun _ _ _ h => h) (Or.inl ⟨by rfl, ?_⟩) ?_ ?_;rotate_left
                           ·intro w'
                            go_simp;with_reducible rfl
                           rotate_left
                           ·simp only [Act.put, Zs1, Zs2, Zs3, zh, zi]
                            rfl
                           refine zl (i := 3) (N := some 104) (v := ?_) (a' := ?_) #[true, true, true, true, false, false, false, false, false, false, false, false, false, false, false, false, false, false, false, false, false, false, false, false, false, false, false, false, false, false] rfl rfl (zf HT_.out (by kernel_rfl)) (fun _ _ _ h => h) (Or.inl ⟨by rfl, ?_⟩) ?_ ?_;rotate_left
                           ·intro w'
                            go_simp;with_reducible rfl
                           rotate_left
                           ·simp only [Act.put, Zs1, Zs2, Zs3, zh, zi]
                            rfl
                           refine zl (i := 4) (N := some 105) (v := ?_) (a' := ?_) #[true, true, true, true, true, false, false, false, false, false, false, false, false, false, false, false, false, false, false, false, false, false, false, false, false, false, false, false, false, false] rfl rfl (zf HT_.out (by kernel_rfl)) (fun _ _ _ h => h) (Or.inl ⟨by rfl, ?_⟩) ?_ ?_;rotate_left
                           ·intro w'
                            go_simp;with_reducible rfl
                           rotate_left
                           ·simp only [Act.put, Zs1, Zs2, Zs3, zh, zi]
                            rfl
                           refine zl (i := 5) (N := some 106) (v := ?_) (a' := ?_) #[true, true, true, true, true, true, false, false, false, false, false, false, false, false, false, false, false, false, false, false, false, false, false, false, false, false, false, false, false, false] rfl rfl (zf HT_.out (by kernel_rfl)) (fun _ _ _ h => h) (Or.inl ⟨by rfl, ?_⟩) ?_ ?_;rotate_left
                           ·intro w'
                            go_simp;with_reducible rfl
                           rotate_left
                           ·simp only [Act.put, Zs1, Zs2, Zs3, zh, zi]
                            rfl
                           refine zbw (i := 6) (N := some 107) (v := ?_) (a' := ?_) #[true, true, true, true, true, true, true, false, false, false, false, false, false, false, false, false, false, false, false, false, false, false, false, false, false, false, false, false, false, false] rfl rfl (z8 HT_.out HW_.out (by kernel_rfl)) (fun _ _ _ h => h) (Or.inl ⟨by rfl, ?_⟩) hHeld ?_ ?_;rotate_left
                           ·rintro w' ⟨s0, s1, s2, s3, s4, s5, s6, s7, s8, s9⟩
                            go_simp;with_reducible rfl
                           rotate_left
                           ·simp only [Act.put, Zs1, Zs2, Zs3, zh, zi]
                            rfl
                           refine zl (i := 7) (N := some 108) (v := ?_) (a' := ?_) #[true, true, true, true, true, true, true, true, false, false, false, false, false, false, false, false, false, false, false, false, false, false, false, false, false, false, false, false, false, false] rfl rfl (zf HT_.out (by kernel_rfl)) (fun _ _ _ h => h) (Or.inl ⟨by rfl, ?_⟩) ?_ ?_;rotate_left
                           ·intro w'
                            go_simp;with_reducible rfl
                           rotate_left
                           ·simp only [Act.put, Zs1, Zs2, Zs3, zh, zi]
                            rfl
                           refine zl (i := 8) (N := some 109) (v := ?_) (a' := ?_) #[true, true, true, true, true, true, true, true, true, false, false, false, false, false, false, false, false, false, false, false, false, false, false, false, false, false, false, false, false, false] rfl rfl (zf HT_.out (by kernel_rfl)) (fun _ _ _ h => h) (Or.inl ⟨by rfl, ?_⟩) ?_ ?_;rotate_left
                           ·intro w'
                            go_simp;with_reducible rfl
                           rotate_left
                           ·simp only [Act.put, Zs1, Zs2, Zs3, zh, zi]
                            rfl
                           refine zl (i := 9) (N := some 110) (v := ?_) (a' := ?_) #[true, true, true, true, true, true, true, true, true, true, false, false, false, false, false, false, false, false, false, false, false, false, false, false, false, false, false, false, false, false] rfl rfl (zf HT_.out (by kernel_rfl)) (fun _ _ _ h => h) (Or.inl ⟨by rfl, ?_⟩) ?_ ?_;rotate_left
                           ·intro w'
                            go_simp;with_reducible rfl
                           rotate_left
                           ·simp only [Act.put, Zs1, Zs2, Zs3, zh, zi]
                            rfl
                           refine zl (i := 10) (N := some 111) (v := ?_) (a' := ?_) #[true, true, true, true, true, true, true, true, true, true, true, false, false, false, false, false, false, false, false, false, false, false, false, false, false, false, false, false, false, false] rfl rfl (zf HT_.out (by kernel_rfl)) (fun _ _ _ h => h) (Or.inl ⟨by rfl, ?_⟩) ?_ ?_;rotate_left
                           ·intro w'
                            go_simp;with_reducible rfl
                           rotate_left
                           ·simp only [Act.put, Zs1, Zs2, Zs3, zh, zi]
                            rfl
                           refine zl (i := 11) (N := some 112) (v := ?_) (a' := ?_) #[true, true, true, true, true, true, true, true, true, true, true, true, false, false, false, false, false, false, false, false, false, false, false, false, false, false, false, false, false, false] rfl rfl (zf HT_.out (by kernel_rfl)) (fun _ _ _ h => h) (Or.inl ⟨by rfl, ?_⟩) ?_ ?_;rotate_left
                           ·intro w'
                            go_simp;with_reducible rfl
                           rotate_left
                           ·simp only [Act.put, Zs1, Zs2, Zs3, zh, zi]
                            rfl
                           refine zl (i := 12) (N := some 113) (v := ?_) (a' := ?_) #[true, true, true, true, true, true, true, true, true, true, true, true, true, false, false, false, false, false, false, false, false, false, false, false, false, false, false, false, false, false] rfl rfl (zf HT_.out (by kernel_rfl)) (fun _ _ _ h => h) (Or.inl ⟨by rfl, ?_⟩) ?_ ?_;rotate_left
                           ·intro w'
                            go_simp;with_reducible rfl
                           rotate_left
                           ·simp only [Act.put, Zs1, Zs2, Zs3, zh, zi]
                            rfl
                           refine zl (i := 14) (N := some 115) (v := ?_) (a' := ?_) #[true, true, true, true, true, true, true, true, true, true, true, true, true, false, true, false, false, false, false, false, false, false, false, false, false, false, false, false, false, false] rfl rfl (zf HT_.out (by kernel_rfl)) (fun _ _ _ h => h) (Or.inl ⟨by rfl, ?_⟩) ?_ ?_;rotate_left
                           ·intro w'
                            go_simp;with_reducible rfl
                           rotate_left
                           ·simp only [Act.put, Zs1, Zs2, Zs3, zh, zi]
                            rfl
                           refine zl (i := 15) (N := some 116) (v := ?_) (a' := ?_) #[true, true, true, true, true, true, true, true, true, true, true, true, true, false, true, true, false, false, false, false, false, false, false, false, false, false, false, false, false, false] rfl rfl (zf HT_.out (by kernel_rfl)) (fun _ _ _ h => h) (Or.inl ⟨by rfl, ?_⟩) ?_ ?_;rotate_left
                           ·intro w'
                            go_simp;with_reducible rfl
                           rotate_left
                           ·simp only [Act.put, Zs1, Zs2, Zs3, zh, zi]
                            rfl
                           refine zl (i := 16) (N := some 117) (v := ?_) (a' := ?_) #[true, true, true, true, true, true, true, true, true, true, true, true, true, false, true, true, true, false, false, false, false, false, false, false, false, false, false, false, false, false] rfl rfl (zf HT_.out (by kernel_rfl)) (fun _ _ _ h => h) (Or.inl ⟨by rfl, ?_⟩) ?_ ?_;rotate_left
                           ·intro w'
                            go_simp;with_reducible rfl
                           rotate_left
                           ·simp only [Act.put, Zs1, Zs2, Zs3, zh, zi]
                            rfl
                           refine zl (i := 17) (N := some 118) (v := ?_) (a' := ?_) #[true, true, true, true, true, true, true, true, true, true, true, true, true, false, true, true, true, true, false, false, false, false, false, false, false, false, false, false, false, false] rfl rfl (zf HT_.out (by kernel_rfl)) (fun _ _ _ h => h) (Or.inl ⟨by rfl, ?_⟩) ?_ ?_;rotate_left
                           ·intro w'
                            go_simp;with_reducible rfl
                           rotate_left
                           ·simp only [Act.put, Zs1, Zs2, Zs3, zh, zi]
                            rfl
                           refine zl (i := 18) (N := some 119) (v := ?_) (a' := ?_) #[true, true, true, true, true, true, true, true, true, true, true, true, true, false, true, true, true, true, true, false, false, false, false, false, false, false, false, false, false, false] rfl rfl (zf HT_.out (by kernel_rfl)) (fun _ _ _ h => h) (Or.inl ⟨by rfl, ?_⟩) ?_ ?_;rotate_left
                           ·intro w'
                            go_simp;with_reducible rfl
                           rotate_left
                           ·simp only [Act.put, Zs1, Zs2, Zs3, zh, zi]
                            rfl
                           refine zl (i := 19) (N := some 120) (v := ?_) (a' := ?_) #[true, true, true, true, true, true, true, true, true, true, true, true, true, false, true, true, true, true, true, true, false, false, false, false, false, false, false, false, false, false] rfl rfl (zf HT_.out (by kernel_rfl)) (fun _ _ _ h => h) (Or.inl ⟨by rfl, ?_⟩) ?_ ?_;rotate_left
                           ·intro w'
                            go_simp;with_reducible rfl
                           rotate_left
                           ·simp only [Act.put, Zs1, Zs2, Zs3, zh, zi]
                            rfl
                           refine zl (i := 22) (N := some 123) (v := ?_) (a' := ?_) #[true, true, true, true, true, true, true, true, true, true, true, true, true, false, true, true, true, true, true, true, false, false, true, false, false, false, false, false, false, false] rfl rfl (zf HT_.out (by kernel_rfl)) (fun _ _ _ h => h) (Or.inl ⟨by rfl, ?_⟩) ?_ ?_;rotate_left
                           ·intro w'
                            go_simp;with_reducible rfl
                           rotate_left
                           ·simp only [Act.put, Zs1, Zs2, Zs3, zh, zi]
                            rfl
                           refine zl (i := 23) (N := some 124) (v := ?_) (a' := ?_) #[true, true, true, true, true, true, true, true, true, true, true, true, true, false, true, true, true, true, true, true, false, false, true, true, false, false, false, false, false, false] rfl rfl (zf HT_.out (by kernel_rfl)) (fun _ _ _ h => h) (Or.inl ⟨by rfl, ?_⟩) ?_ ?_;rotate_left
                           ·intro w'
                            go_simp;with_reducible rfl
                           rotate_left
                           ·simp only [Act.put, Zs1, Zs2, Zs3, zh, zi]
                            rfl
                           refine zl (i := 24) (N := some 125) (v := ?_) (a' := ?_) #[true, true, true, true, true, true, true, true, true, true, true, true, true, false, true, true, true, true, true, true, false, false, true, true, true, false, false, false, false, false] rfl rfl (zf HT_.out (by kernel_rfl)) (fun _ _ _ h => h) (Or.inl ⟨by rfl, ?_⟩) ?_ ?_;rotate_left
                           ·intro w'
                            go_simp;with_reducible rfl
                           rotate_left
                           ·simp only [Act.put, Zs1, Zs2, Zs3, zh, zi]
                            rfl
                           refine zl (i := 25) (N := some 126) (v := ?_) (a' := ?_) #[true, true, true, true, true, true, true, true, true, true, true, true, true, false, true, true, true, true, true, true, false, false, true, true, true, true, false, false, false, false] rfl rfl (zf HT_.out (by kernel_rfl)) (fun _ _ _ h => h) (Or.inl ⟨by rfl, ?_⟩) ?_ ?_;rotate_left
                           ·intro w'
                            go_simp;with_reducible rfl
                           rotate_left
                           ·simp only [Act.put, Zs1, Zs2, Zs3, zh, zi]
                            rfl
                           refine zbw (i := 13) (N := some 114) (v := ?_) (a' := ?_) #[true, true, true, true, true, true, true, true, true, true, true, true, true, true, true, true, true, true, true, true, false, false, true, true, true, true, false, false, false, false] rfl rfl (z8 HT_.out HW_.out (by kernel_rfl)) (fun _ _ _ h => h) (Or.inl ⟨by rfl, ?_⟩) hHeld ?_ ?_;rotate_left
                           ·rintro w' ⟨s0, s1, s2, s3, s4, s5, s6, s7, s8, s9⟩
                            go_simp;with_reducible rfl
                           rotate_left
                           ·simp only [Act.put, Zs1, Zs2, Zs3, zh, zi]
                            rfl
                           refine zbw (i := 20) (N := some 121) (v := ?_) (a' := ?_) #[true, true, true, true, true, true, true, true, true, true, true, true, true, true, true, true, true, true, true, true, true, false, true, true, true, true, false, false, false, false] rfl rfl (z8 HT_.out HW_.out (by kernel_rfl)) (fun _ _ _ h => h) (Or.inl ⟨by rfl, ?_⟩) hHeld ?_ ?_;rotate_left
                           ·rintro w' ⟨s0, s1, s2, s3, s4, s5, s6, s7, s8, s9⟩
                            go_simp;with_reducible rfl
                           rotate_left
                           ·simp only [Act.put, Zs1, Zs2, Zs3, zh, zi]
                            rfl
                           refine zl (i := 21) (N := some 122) (v := ?_) (a' := ?_) #[true, true, true, true, true, true, true, true, true, true, true, true, true, true, true, true, true, true, true, true, true, true, true, true, true, true, false, false, false, false] rfl rfl (zf HT_.out (by kernel_rfl)) (fun _ _ _ h => h) (Or.inl ⟨by rfl, ?_⟩) ?_ ?_;rotate_left
                           ·intro w'
                            go_simp;with_reducible rfl
                           rotate_left
                           ·simp only [Act.put, Zs1, Zs2, Zs3, zh, zi]
                            rfl
                           refine zbw (i := 26) (N := some 127) (v := ?_) (a' := ?_) #[true, true, true, true, true, true, true, true, true, true, true, true, true, true, true, true, true, true, true, true, true, true, true, true, true, true, true, false, false, false] rfl rfl (z8 HT_.out HW_.out (by kernel_rfl)) (fun _ _ _ h => h) (Or.inl ⟨by rfl, ?_⟩) hHeld ?_ ?_;rotate_left
                           ·rintro w' ⟨s0, s1, s2, s3, s4, s5, s6, s7, s8, s9⟩
                            go_simp;with_reducible rfl
                           rotate_left
                           ·simp only [Act.put, Zs1, Zs2, Zs3, zh, zi]
                            rfl
                           refine zl (i := 27) (N := some 128) (v := ?_) (a' := ?_) #[true, true, true, true, true, true, true, true, true, true, true, true, true, true, true, true, true, true, true, true, true, true, true, true, true, true, true, true, false, false] rfl rfl (zf HT_.out (by kernel_rfl)) (fun _ _ _ h => h) (Or.inl ⟨by rfl, ?_⟩) ?_ ?_;rotate_left
                           ·intro w'
                            go_simp;with_reducible rfl
                           rotate_left
                           ·simp only [Act.put, Zs1, Zs2, Zs3, zh, zi]
                            rfl
                           refine zl (i := 28) (N := some 129) (v := ?_) (a' := ?_) #[true, true, true, true, true, true, true, true, true, true, true, true, true, true, true, true, true, true, true, true, true, true, true, true, true, true, true, true, true, false] rfl rfl (zf HT_.out (by kernel_rfl)) (fun _ _ _ h => h) (Or.inl ⟨by rfl, ?_⟩) ?_ ?_;rotate_left
                           ·intro w'
                            go_simp;with_reducible rfl
                           rotate_left
                           ·simp only [Act.put, Zs1, Zs2, Zs3, zh, zi]
                            rfl
                           refine zl (i := 29) (N := some 130) (v := ?_) (a' := ?_) #[true, true, true, true, true, true, true, true, true, true, true, true, true, true, true, true, true, true, true, true, true, true, true, true, true, true, true, true, true, true] rfl rfl (zf HT_.out (by kernel_rfl)) (fun _ _ _ h => h) (Or.inl ⟨by rfl, ?_⟩) ?_ ?_;rotate_left
                           ·intro w'
                            go_simp;with_reducible rfl
                           rotate_left
                           ·simp only [Act.put, Zs1, Zs2, Zs3, zh, zi]
                            rfl
                           refine zcz (zb4 HT_.out (by kernel_rfl)) ?_
                           try go_wp2
                           go_roundg k5
                           case measure => have := HJ8.out; have := HK2.out; have := HJ28.out; have := HK4.out; have := HK5.out; omega
                           case rel => exact ⟨(wrap64 (x10_5 + 1)), Zrs, H', ⟨by have := HJ8.out; have := HK2.out; have := HJ28.out; have := HK4.out; have := HK5.out; omega⟩, ⟨Zq12 HO_3⟩, ⟨Zq21 HO_5⟩, ⟨Zq12 HO_7⟩, ⟨Zq2 BK554⟩, ⟨by repeat (first | (with_reducible exact HR560_0.out) | (with_reducible refine Kd.zdu ?_ _) | (with_reducible refine Kd.zd6 ?_ _) | (with_reducible refine Kd.zd5 ?_) | exact HR560_0.out)⟩, ⟨Zq3 HB GE554⟩⟩
                          ·rw [if_neg c51] at H
                           have c51b0 : ((rd x7_4 x10_5) == (wrap64 ((wrap64 (Int.tdiv (wrap64 (x8_2 + 1)) ((zg t541 x10_5).f2))) * ((zg t541 x10_5).f0)))) = false := beq_eq_false_iff_ne.mpr c51;have c51b1 : ((rd x7_4 x10_5) != (wrap64 ((wrap64 (Int.tdiv (wrap64 (x8_2 + 1)) ((zg t541 x10_5).f2))) * ((zg t541 x10_5).f0)))) = true := bne_iff_ne.mpr c51;obtain rfl := Option.some.inj H
                           try go_wp2
                           have n0_ := za.mk (Kd.zb5 HO_3.out);have n1_ := za.mk (Kd.zd0 HO_5.out);have n2_ := za.mk (Kd.zb5 HO_7.out);have n3_ := za.mk (zz BK554.out);have n4_ := za.mk (Kd.zd5 HR560_0.out);have n5_ := za.mk (zbh HB.out);clear HO_3;clear HO_5;clear HO_7;clear BK554;clear HR560_0;clear HB;have HO_3 := n0_;have HO_5 := n1_;have HO_7 := n2_;have BK554 := n3_;have HR560_0 := n4_;have HB := n5_;clear n0_ n1_ n2_ n3_ n4_ n5_;have p567 : 0 ≤ (x10_5 : Int) := of_decide_eq_true Zas;have q567 : x10_5 < (t541.length : Int) := of_decide_eq_true Zas;obtain ⟨ad567, e567, hx567_0, hx567_1, hx567_2⟩ := zck (Kd.zbo HO_3.out).2.2 x10_5 p567 q567
                           cases e567
                           replace p567 := eq_true p567;replace q567 := eq_true q567;obtain ⟨Ao55, co55, eo55⟩ := Kd.zct HO_7.out;(first | subst eo55 | (injection eo55 with f1_ f2_ f3_; have f4_ := f1_.symm; have f5_ := f3_.symm; clear f1_ f2_ f3_; subst f4_; subst f5_));have p568 : 0 ≤ (x10_5 : Int) := of_decide_eq_true Zas;have q568 : x10_5 < (x7_4.length : Int) := of_decide_eq_true Zas;obtain ⟨ad568, e568, hx568_0⟩ := Kd.zb6 (Kd.zbo HO_7.out).2.2 x10_5 p568 q568
                           cases e568
                           replace p568 := eq_true p568;replace q568 := eq_true q568;have p569 : 0 ≤ (x10_5 : Int) := of_decide_eq_true Zas;have q569 : x10_5 < (t541.length : Int) := of_decide_eq_true Zas;obtain ⟨ad569, e569, hx569_0, hx569_1, hx569_2⟩ := zck (Kd.zbo HO_3.out).2.2 x10_5 p569 q569;obtain rfl : ad567 = ad569 := (by injection e569);replace p569 := eq_true p569;replace q569 := eq_true q569;have p570 : 0 ≤ (x10_5 : Int) := of_decide_eq_true Zas;have q570 : x10_5 < (t541.length : Int) := of_decide_eq_true Zas;obtain ⟨ad570, e570, hx570_0, hx570_1, hx570_2⟩ := zck (Kd.zbo HO_3.out).2.2 x10_5 p570 q570;obtain rfl : ad567 = ad570 := (by injection e570);replace p570 := eq_true p570;replace q570 := eq_true q570;refine zci (n := 30) (S := fun w' => w'.cell? (ad567.add ((x10_5).toNat * 3)) = some (.int .i64 ((zg t541 x10_5).f0)) ∧ w'.cell? ⟨(ad567.add ((x10_5).toNat * 3)).block, (ad567.add ((x10_5).toNat * 3)).off + 1, none⟩ = some (.int .i64 ((zg t541 x10_5).f1)) ∧ w'.cell? ⟨(ad567.add ((x10_5).toNat * 3)).block, (ad567.add ((x10_5).toNat * 3)).off + 2, none⟩ = some (.int .i64 ((zg t541 x10_5).f2)) ∧ w'.cell? (ad568.add (x10_5).toNat) = some (.int .i64 (rd x7_4 x10_5)) ∧ w'.cell? (ad567.add ((x10_5).toNat * 3)) = some (.int .i64 ((zg t541 x10_5).f0)) ∧ w'.cell? ⟨(ad567.add ((x10_5).toNat * 3)).block, (ad567.add ((x10_5).toNat * 3)).off + 1, none⟩ = some (.int .i64 ((zg t541 x10_5).f1)) ∧ w'.cell? ⟨(ad567.add ((x10_5).toNat * 3)).block, (ad567.add ((x10_5).toNat * 3)).off + 2, none⟩ = some (.int .i64 ((zg t541 x10_5).f2)) ∧ w'.cell? (ad567.add ((x10_5).toNat * 3)) = some (.int .i64 ((zg t541 x10_5).f0)) ∧ w'.cell? ⟨(ad567.add ((x10_5).toNat * 3)).block, (ad567.add ((x10_5).toNat * 3)).off + 1, none⟩ = some (.int .i64 ((zg t541 x10_5).f1)) ∧ w'.cell? ⟨(ad567.add ((x10_5).toNat * 3)).block, (ad567.add ((x10_5).toNat * 3)).off + 2, none⟩ = some (.int .i64 ((zg t541 x10_5).f2))) (ds := []) #[false, false, false, false, false, false, false, false, false, false, false, false, false, false, false, false, false, false, false, false, false, false, false, false, false, false, false, false, false, false] (by kernel_rfl) rfl rfl ⟨hx567_0, hx567_1, hx567_2, hx568_0, hx569_0, hx569_1, hx569_2, hx570_0, hx570_1, hx570_2⟩ (fun hHeld => ?_); refine zbp laws_FnFairFull.tab23 laws_FnFairFull.bits23 (fun HT_ HW_ => ?_);generalize wr.drew = w54 at HO_3 HO_5 HO_7 BK554 HR560_0 HB hx567_0 hx567_1 hx567_2 hx568_0 hx569_0 hx569_1 hx569_2 hx570_0 hx570_1 hx570_2 hHeld ⊢;refine zl (i := 0) (N := some 101) (v := ?_) (a' := ?_) #[true, false, false, false, false, false, false, false, false, false, false, false, false, false, false, false, false, false, false, false, false, false, false, false, false, false, false, false, false, false] rfl rfl (zf HT_.out (by kernel_rfl)) (fun _ _ _ h => h) (Or.inl ⟨by rfl, ?_⟩) ?_ ?_;rotate_left
                           ·intro w'
                            go_simp;with_reducible rfl
                           rotate_left
                           ·simp only [Act.put, Zs1, Zs2, Zs3, zh, zi]
                            rfl
                           refine zl (i := 1) (N := some 102) (v := ?_) (a' := ?_) #[true, true, false, false, false, false, false, false, false, false, false, false, false, false, false, false, false, false, false, false, false, false, false, false, false, false, false, false, false, false] rfl rfl (zf HT_.out (by kernel_rfl)) (fun _ _ _ h => h) (Or.inl ⟨by rfl, ?_⟩) ?_ ?_;rotate_left
                           ·intro w'
                            go_simp;with_reducible rfl
                           rotate_left
                           ·simp only [Act.put, Zs1, Zs2, Zs3, zh, zi]
                            rfl
                           refine zl (i := 2) (N := some 103) (v := ?_) (a' := ?_) #[true, true, true, false, false, false, false, false, false, false, false, false, false, false, false, false, false, false, false, false, false, false, false, false, false, false, false, false, false, false] rfl rfl (zf HT_.out (by kernel_rfl)) (fun _ _ _ h => h) (Or.inl ⟨by rfl, ?_⟩) ?_ ?_;rotate_left
                           ·intro w'
                            go_simp;with_reducible rfl
                           rotate_left
                           ·simp only [Act.put, Zs1, Zs2, Zs3, zh, zi]
                            rfl
                           refine zl (i := 3) (N := some 104) (v := ?_) (a' := ?_) #[true, true, true, true, false, false, false, false, false, false, false, false, false, false, false, false, false, false, false, false, false, false, false, false, false, false, false, false, false, false] rfl rfl (zf HT_.out (by kernel_rfl)) (fun _ _ _ h => h) (Or.inl ⟨by rfl, ?_⟩) ?_ ?_;rotate_left
                           ·intro w'
                            go_simp;with_reducible rfl
                           rotate_left
                           ·simp only [Act.put, Zs1, Zs2, Zs3, zh, zi]
                            rfl
                           refine zl (i := 4) (N := some 105) (v := ?_) (a' := ?_) #[true, true, true, true, true, false, false, false, false, false, false, false, false, false, false, false, false, false, false, false, false, false, false, false, false, false, false, false, false, false] rfl rfl (zf HT_.out (by kernel_rfl)) (fun _ _ _ h => h) (Or.inl ⟨by rfl, ?_⟩) ?_ ?_;rotate_left
                           ·intro w'
                            go_simp;with_reducible rfl
                           rotate_left
                           ·simp only [Act.put, Zs1, Zs2, Zs3, zh, zi]
                            rfl
                           refine zl (i := 5) (N := some 106) (v := ?_) (a' := ?_) #[true, true, true, true, true, true, false, false, false, false, false, false, false, false, false, false, false, false, false, false, false, false, false, false, false, false, false, false, false, false] rfl rfl (zf HT_.out (by kernel_rfl)) (fun _ _ _ h => h) (Or.inl ⟨by rfl, ?_⟩) ?_ ?_;rotate_left
                           ·intro w'
                            go_simp;with_reducible rfl
                           rotate_left
                           ·simp only [Act.put, Zs1, Zs2, Zs3, zh, zi]
                            rfl
                           refine zbw (i := 6) (N := some 107) (v := ?_) (a' := ?_) #[true, true, true, true, true, true, true, false, false, false, false, false, false, false, false, false, false, false, false, false, false, false, false, false, false, false, false, false, false, false] rfl rfl (z8 HT_.out HW_.out (by kernel_rfl)) (fun _ _ _ h => h) (Or.inl ⟨by rfl, ?_⟩) hHeld ?_ ?_;rotate_left
                           ·rintro w' ⟨s0, s1, s2, s3, s4, s5, s6, s7, s8, s9⟩
                            go_simp;with_reducible rfl
                           rotate_left
                           ·simp only [Act.put, Zs1, Zs2, Zs3, zh, zi]
                            rfl
                           refine zl (i := 7) (N := some 108) (v := ?_) (a' := ?_) #[true, true, true, true, true, true, true, true, false, false, false, false, false, false, false, false, false, false, false, false, false, false, false, false, false, false, false, false, false, false] rfl rfl (zf HT_.out (by kernel_rfl)) (fun _ _ _ h => h) (Or.inl ⟨by rfl, ?_⟩) ?_ ?_;rotate_left
                           ·intro w'
                            go_simp;with_reducible rfl
                           rotate_left
                           ·simp only [Act.put, Zs1, Zs2, Zs3, zh, zi]
                            rfl
                           refine zl (i := 8) (N := some 109) (v := ?_) (a' := ?_) #[true, true, true, true, true, true, true, true, true, false, false, false, false, false, false, false, false, false, false, false, false, false, false, false, false, false, false, false, false, false] rfl rfl (zf HT_.out (by kernel_rfl)) (fun _ _ _ h => h) (Or.inl ⟨by rfl, ?_⟩) ?_ ?_;rotate_left
                           ·intro w'
                            go_simp;with_reducible rfl
                           rotate_left
                           ·simp only [Act.put, Zs1, Zs2, Zs3, zh, zi]
                            rfl
                           refine zl (i := 9) (N := some 110) (v := ?_) (a' := ?_) #[true, true, true, true, true, true, true, true, true, true, false, false, false, false, false, false, false, false, false, false, false, false, false, false, false, false, false, false, false, false] rfl rfl (zf HT_.out (by kernel_rfl)) (fun _ _ _ h => h) (Or.inl ⟨by rfl, ?_⟩) ?_ ?_;rotate_left
                           ·intro w'
                            go_simp;with_reducible rfl
                           rotate_left
                           ·simp only [Act.put, Zs1, Zs2, Zs3, zh, zi]
                            rfl
                           refine zl (i := 10) (N := some 111) (v := ?_) (a' := ?_) #[true, true, true, true, true, true, true, true, true, true, true, false, false, false, false, false, false, false, false, false, false, false, false, false, false, false, false, false, false, false] rfl rfl (zf HT_.out (by kernel_rfl)) (fun _ _ _ h => h) (Or.inl ⟨by rfl, ?_⟩) ?_ ?_;rotate_left
                           ·intro w'
                            go_simp;with_reducible rfl
                           rotate_left
                           ·simp only [Act.put, Zs1, Zs2, Zs3, zh, zi]
                            rfl
                           refine zl (i := 11) (N := some 112) (v := ?_) (a' := ?_) #[true, true, true, true, true, true, true, true, true, true, true, true, false, false, false, false, false, false, false, false, false, false, false, false, false, false, false, false, false, false] rfl rfl (zf HT_.out (by kernel_rfl)) (fun _ _ _ h => h) (Or.inl ⟨by rfl, ?_⟩) ?_ ?_;rotate_left
                           ·intro w'
                            go_simp;with_reducible rfl
                           rotate_left
                           ·simp only [Act.put, Zs1, Zs2, Zs3, zh, zi]
                            rfl
                           refine zl (i := 12) (N := some 113) (v := ?_) (a' := ?_) #[true, true, true, true, true, true, true, true, true, true, true, true, true, false, false, false, false, false, false, false, false, false, false, false, false, false, false, false, false, false] rfl rfl (zf HT_.out (by kernel_rfl)) (fun _ _ _ h => h) (Or.inl ⟨by rfl, ?_⟩) ?_ ?_;rotate_left
                           ·intro w'
                            go_simp;with_reducible rfl
                           rotate_left
                           ·simp only [Act.put, Zs1, Zs2, Zs3, zh, zi]
                            rfl
                           refine zl (i := 14) (N := some 115) (v := ?_) (a' := ?_) #[true, true, true, true, true, true, true, true, true, true, true, true, true, false, true, false, false, false, false, false, false, false, false, false, false, false, false, false, false, false] rfl rfl (zf HT_.out (by kernel_rfl)) (fun _ _ _ h => h) (Or.inl ⟨by rfl, ?_⟩) ?_ ?_;rotate_left
                           ·intro w'
                            go_simp;with_reducible rfl
                           rotate_left
                           ·simp only [Act.put, Zs1, Zs2, Zs3, zh, zi]
                            rfl
                           refine zl (i := 15) (N := some 116) (v := ?_) (a' := ?_) #[true, true, true, true, true, true, true, true, true, true, true, true, true, false, true, true, false, false, false, false, false, false, false, false, false, false, false, false, false, false] rfl rfl (zf HT_.out (by kernel_rfl)) (fun _ _ _ h => h) (Or.inl ⟨by rfl, ?_⟩) ?_ ?_;rotate_left
                           ·intro w'
                            go_simp;with_reducible rfl
                           rotate_left
                           ·simp only [Act.put, Zs1, Zs2, Zs3, zh, zi]
                            rfl
                           refine zl (i := 16) (N := some 117) (v := ?_) (a' := ?_) #[true, true, true, true, true, true, true, true, true, true, true, true, true, false, true, true, true, false, false, false, false, false, false, false, false, false, false, false, false, false] rfl rfl (zf HT_.out (by kernel_rfl)) (fun _ _ _ h => h) (Or.inl ⟨by rfl, ?_⟩) ?_ ?_;rotate_left
                           ·intro w'
                            go_simp;with_reducible rfl
                           rotate_left
                           ·simp only [Act.put, Zs1, Zs2, Zs3, zh, zi]
                            rfl
                           refine zl (i := 17) (N := some 118) (v := ?_) (a' := ?_) #[true, true, true, true, true, true, true, true, true, true, true, true, true, false, true, true, true, true, false, false, false, false, false, false, false, false, false, false, false, false] rfl rfl (zf HT_.out (by kernel_rfl)) (fun _ _ _ h => h) (Or.inl ⟨by rfl, ?_⟩) ?_ ?_;rotate_left
                           ·intro w'
                            go_simp;with_reducible rfl
                           rotate_left
                           ·simp only [Act.put, Zs1, Zs2, Zs3, zh, zi]
                            rfl
                           refine zl (i := 18) (N := some 119) (v := ?_) (a' := ?_) #[true, true, true, true, true, true, true, true, true, true, true, true, true, false, true, true, true, true, true, false, false, false, false, false, false, false, false, false, false, false] rfl rfl (zf HT_.out (by kernel_rfl)) (fun _ _ _ h => h) (Or.inl ⟨by rfl, ?_⟩) ?_ ?_;rotate_left
                           ·intro w'
                            go_simp;with_reducible rfl
                           rotate_left
                           ·simp only [Act.put, Zs1, Zs2, Zs3, zh, zi]
                            rfl
                           refine zl (i := 19) (N := some 120) (v := ?_) (a' := ?_) #[true, true, true, true, true, true, true, true, true, true, true, true, true, false, true, true, true, true, true, true, false, false, false, false, false, false, false, false, false, false] rfl rfl (zf HT_.out (by kernel_rfl)) (fun _ _ _ h => h) (Or.inl ⟨by rfl, ?_⟩) ?_ ?_;rotate_left
                           ·intro w'
                            go_simp;with_reducible rfl
                           rotate_left
                           ·simp only [Act.put, Zs1, Zs2, Zs3, zh, zi]
                            rfl
                           refine zl (i := 22) (N := some 123) (v := ?_) (a' := ?_) #[true, true, true, true, true, true, true, true, true, true, true, true, true, false, true, true, true, true, true, true, false, false, true, false, false, false, false, false, false, false] rfl rfl (zf HT_.out (by kernel_rfl)) (fun _ _ _ h => h) (Or.inl ⟨by rfl, ?_⟩) ?_ ?_;rotate_left
                           ·intro w'
                            go_simp;with_reducible rfl
                           rotate_left
                           ·simp only [Act.put, Zs1, Zs2, Zs3, zh, zi]
                            rfl
                           refine zl (i := 23) (N := some 124) (v := ?_) (a' := ?_) #[true, true, true, true, true, true, true, true, true, true, true, true, true, false, true, true, true, true, true, true, false, false, true, true, false, false, false, false, false, false] rfl rfl (zf HT_.out (by kernel_rfl)) (fun _ _ _ h => h) (Or.inl ⟨by rfl, ?_⟩) ?_ ?_;rotate_left
                           ·intro w'
                            go_simp;with_reducible rfl
                           rotate_left
                           ·simp only [Act.put, Zs1, Zs2, Zs3, zh, zi]
                            rfl
                           refine zl (i := 24) (N := some 125) (v := ?_) (a' := ?_) #[true, true, true, true, true, true, true, true, true, true, true, true, true, false, true, true, true, true, true, true, false, false, true, true, true, false, false, false, false, false] rfl rfl (zf HT_.out (by kernel_rfl)) (fun _ _ _ h => h) (Or.inl ⟨by rfl, ?_⟩) ?_ ?_;rotate_left
                           ·intro w'
                            go_simp;with_reducible rfl
                           rotate_left
                           ·simp only [Act.put, Zs1, Zs2, Zs3, zh, zi]
                            rfl
                           refine zl (i := 25) (N := some 126) (v := ?_) (a' := ?_) #[true, true, true, true, true, true, true, true, true, true, true, true, true, false, true, true, true, true, true, true, false, false, true, true, true, true, false, false, false, false] rfl rfl (zf HT_.out (by kernel_rfl)) (fun _ _ _ h => h) (Or.inl ⟨by rfl, ?_⟩) ?_ ?_;rotate_left
                           ·intro w'
                            go_simp;with_reducible rfl
                           rotate_left
                           ·simp only [Act.put, Zs1, Zs2, Zs3, zh, zi]
                            rfl
                           refine zbw (i := 13) (N := some 114) (v := ?_) (a' := ?_) #[true, true, true, true, true, true, true, true, true, true, true, true, true, true, true, true, true, true, true, true, false, false, true, true, true, true, false, false, false, false] rfl rfl (z8 HT_.out HW_.out (by kernel_rfl)) (fun _ _ _ h => h) (Or.inl ⟨by rfl, ?_⟩) hHeld ?_ ?_;rotate_left
                           ·rintro w' ⟨s0, s1, s2, s3, s4, s5, s6, s7, s8, s9⟩
                            go_simp;with_reducible rfl
                           rotate_left
                           ·simp only [Act.put, Zs1, Zs2, Zs3, zh, zi]
                            rfl
                           refine zbw (i := 20) (N := some 121) (v := ?_) (a' := ?_) #[true, true, true, true, true, true, true, true, true, true, true, true, true, true, true, true, true, true, true, true, true, false, true, true, true, true, false, false, false, false] rfl rfl (z8 HT_.out HW_.out (by kernel_rfl)) (fun _ _ _ h => h) (Or.inl ⟨by rfl, ?_⟩) hHeld ?_ ?_;rotate_left
                           ·rintro w' ⟨s0, s1, s2, s3, s4, s5, s6, s7, s8, s9⟩
                            go_simp;with_reducible rfl
                           rotate_left
                           ·simp only [Act.put, Zs1, Zs2, Zs3, zh, zi]
                            rfl
                           refine zl (i := 21) (N := some 122) (v := ?_) (a' := ?_) #[true, true, true, true, true, true, true, true, true, true, true, true, true, true, true, true, true, true, true, true, true, true, true, true, true, true, false, false, false, false] rfl rfl (zf HT_.out (by kernel_rfl)) (fun _ _ _ h => h) (Or.inl ⟨by rfl, ?_⟩) ?_ ?_;rotate_left
                           ·intro w'
                            go_simp;with_reducible rfl
                           rotate_left
                           ·simp only [Act.put, Zs1, Zs2, Zs3, zh, zi]
                            rfl
                           refine zbw (i := 26) (N := some 127) (v := ?_) (a' := ?_) #[true, true, true, true, true, true, true, true, true, true, true, true, true, true, true, true, true, true, true, true, true, true, true, true, true, true, true, false, false, false] rfl rfl (z8 HT_.out HW_.out (by kernel_rfl)) (fun _ _ _ h => h) (Or.inl ⟨by rfl, ?_⟩) hHeld ?_ ?_;rotate_left
                           ·rintro w' ⟨s0, s1, s2, s3, s4, s5, s6, s7, s8, s9⟩
                            go_simp;with_reducible rfl
                           rotate_left
                           ·simp only [Act.put, Zs1, Zs2, Zs3, zh, zi]
                            rfl
                           refine zl (i := 27) (N := some 128) (v := ?_) (a' := ?_) #[true, true, true, true, true, true, true, true, true, true, true, true, true, true, true, true, true, true, true, true, true, true, true, true, true, true, true, true, false, false] rfl rfl (zf HT_.out (by kernel_rfl)) (fun _ _ _ h => h) (Or.inl ⟨by rfl, ?_⟩) ?_ ?_;rotate_left
                           ·intro w'
                            go_simp;with_reducible rfl
                           rotate_left
                           ·simp only [Act.put, Zs1, Zs2, Zs3, zh, zi]
                            rfl
                           refine zl (i := 28) (N := some 129) (v := ?_) (a' := ?_) #[true, true, true, true, true, true, true, true, true, true, true, true, true, true, true, true, true, true, true, true, true, true, true, true, true, true, true, true, true, false] rfl rfl (zf HT_.out (by kernel_rfl)) (fun _ _ _ h => h) (Or.inl ⟨by rfl, ?_⟩) ?_ ?_;rotate_left
                           ·intro w'
                            go_simp;with_reducible rfl
                           rotate_left
                           ·simp only [Act.put, Zs1, Zs2, Zs3, zh, zi]
                            rfl
                           refine zl (i := 29) (N := some 130) (v := ?_) (a' := ?_) #[true, true, true, true, true, true, true, true, true, true, true, true, true, true, true, true, true, true, true, true, true, true, true, true, true, true, true, true, true, true] rfl rfl (zf HT_.out (by kernel_rfl)) (fun _ _ _ h => h) (Or.inl ⟨by rfl, ?_⟩) ?_ ?_;rotate_left
                           ·intro w'
                            go_simp;with_reducible rfl
                           rotate_left
                           ·simp only [Act.put, Zs1, Zs2, Zs3, zh, zi]
                            rfl
                           refine zcz (zb4 HT_.out (by kernel_rfl)) ?_
                           try go_wp2
                           go_ret;exact ⟨by first | rfl | (simp [zq, zt] <;> rfl) | (simp [*, zq, zt] <;> rfl), Zq3 HB GE554⟩
                         ·rw [if_neg c50] at H
                          exact absurd H (by simp)
                        ·rw [if_neg c49] at H
                         have c49b0 : ((Int.tmod (wrap64 (x8_2 + 1)) ((zg t541 x10_5).f2)) == 0) = false := beq_eq_false_iff_ne.mpr c49;have c49b1 : ((Int.tmod (wrap64 (x8_2 + 1)) ((zg t541 x10_5).f2)) != 0) = true := bne_iff_ne.mpr c49;have H' := za.mk H;clear H
                         try go_wp2
                         have n0_ := za.mk (Kd.zb5 HO_3.out);have n1_ := za.mk (Kd.zd0 HO_5.out);have n2_ := za.mk (Kd.zb5 HO_7.out);have n3_ := za.mk (zz BK554.out);have n4_ := za.mk (Kd.zd5 HR560_0.out);have n5_ := za.mk (zbh HB.out);clear HO_3;clear HO_5;clear HO_7;clear BK554;clear HR560_0;clear HB;have HO_3 := n0_;have HO_5 := n1_;have HO_7 := n2_;have BK554 := n3_;have HR560_0 := n4_;have HB := n5_;clear n0_ n1_ n2_ n3_ n4_ n5_;have p567 : 0 ≤ (x10_5 : Int) := of_decide_eq_true Zas;have q567 : x10_5 < (t541.length : Int) := of_decide_eq_true Zas;obtain ⟨ad567, e567, hx567_0, hx567_1, hx567_2⟩ := zck (Kd.zbo HO_3.out).2.2 x10_5 p567 q567
                         cases e567
                         replace p567 := eq_true p567;replace q567 := eq_true q567;refine zci (n := 30) (S := fun w' => w'.cell? (ad567.add ((x10_5).toNat * 3)) = some (.int .i64 ((zg t541 x10_5).f0)) ∧ w'.cell? ⟨(ad567.add ((x10_5).toNat * 3)).block, (ad567.add ((x10_5).toNat * 3)).off + 1, none⟩ = some (.int .i64 ((zg t541 x10_5).f1)) ∧ w'.cell? ⟨(ad567.add ((x10_5).toNat * 3)).block, (ad567.add ((x10_5).toNat * 3)).off + 2, none⟩ = some (.int .i64 ((zg t541 x10_5).f2))) (ds := []) #[false, false, false, false, false, false, false, false, false, false, false, false, false, false, false, false, false, false, false, false, false, false, false, false, false, false, false, false, false, false] (by kernel_rfl) rfl rfl ⟨hx567_0, hx567_1, hx567_2⟩ (fun hHeld => ?_); refine zbp laws_FnFairFull.tab23 laws_FnFairFull.bits23 (fun HT_ HW_ => ?_);generalize wr.drew = w56 at HO_3 HO_5 HO_7 BK554 HR560_0 HB hx567_0 hx567_1 hx567_2 hHeld ⊢;refine zl (i := 0) (N := some 101) (v := ?_) (a' := ?_) #[true, false, false, false, false, false, false, false, false, false, false, false, false, false, false, false, false, false, false, false, false, false, false, false, false, false, false, false, false, false] rfl rfl (zf HT_.out (by kernel_rfl)) (fun _ _ _ h => h) (Or.inl ⟨by rfl, ?_⟩) ?_ ?_;rotate_left
                         ·intro w'
                          go_simp;with_reducible rfl
                         rotate_left
                         ·simp only [Act.put, Zs1, Zs2, Zs3, zh, zi]
                          rfl
                         refine zl (i := 1) (N := some 102) (v := ?_) (a' := ?_) #[true, true, false, false, false, false, false, false, false, false, false, false, false, false, false, false, false, false, false, false, false, false, false, false, false, false, false, false, false, false] rfl rfl (zf HT_.out (by kernel_rfl)) (fun _ _ _ h => h) (Or.inl ⟨by rfl, ?_⟩) ?_ ?_;rotate_left
                         ·intro w'
                          go_simp;with_reducible rfl
                         rotate_left
                         ·simp only [Act.put, Zs1, Zs2, Zs3, zh, zi]
                          rfl
                         refine zl (i := 2) (N := some 103) (v := ?_) (a' := ?_) #[true, true, true, false, false, false, false, false, false, false, false, false, false, false, false, false, false, false, false, false, false, false, false, false, false, false, false, false, false, false] rfl rfl (zf HT_.out (by kernel_rfl)) (fun _ _ _ h => h) (Or.inl ⟨by rfl, ?_⟩) ?_ ?_;rotate_left
                         ·intro w'
                          go_simp;with_reducible rfl
                         rotate_left
                         ·simp only [Act.put, Zs1, Zs2, Zs3, zh, zi]
                          rfl
                         refine zl (i := 3) (N := some 104) (v := ?_) (a' := ?_) #[true, true, true, true, false, false, false, false, false, false, false, false, false, false, false, false, false, false, false, false, false, false, false, false, false, false, false, false, false, false] rfl rfl (zf HT_.out (by kernel_rfl)) (fun _ _ _ h => h) (Or.inl ⟨by rfl, ?_⟩) ?_ ?_;rotate_left
                         ·intro w'
                          go_simp;with_reducible rfl
                         rotate_left
                         ·simp only [Act.put, Zs1, Zs2, Zs3, zh, zi]
                          rfl
                         refine zl (i := 4) (N := some 105) (v := ?_) (a' := ?_) #[true, true, true, true, true, false, false, false, false, false, false, false, false, false, false, false, false, false, false, false, false, false, false, false, false, false, false, false, false, false] rfl rfl (zf HT_.out (by kernel_rfl)) (fun _ _ _ h => h) (Or.inl ⟨by rfl, ?_⟩) ?_ ?_;rotate_left
                         ·intro w'
                          go_simp;with_reducible rfl
                         rotate_left
                         ·simp only [Act.put, Zs1, Zs2, Zs3, zh, zi]
                          rfl
                         refine zl (i := 5) (N := some 106) (v := ?_) (a' := ?_) #[true, true, true, true, true, true, false, false, false, false, false, false, false, false, false, false, false, false, false, false, false, false, false, false, false, false, false, false, false, false] rfl rfl (zf HT_.out (by kernel_rfl)) (fun _ _ _ h => h) (Or.inl ⟨by rfl, ?_⟩) ?_ ?_;rotate_left
                         ·intro w'
                          go_simp;with_reducible rfl
                         rotate_left
                         ·simp only [Act.put, Zs1, Zs2, Zs3, zh, zi]
                          rfl
                         refine zbw (i := 6) (N := some 107) (v := ?_) (a' := ?_) #[true, true, true, true, true, true, true, false, false, false, false, false, false, false, false, false, false, false, false, false, false, false, false, false, false, false, false, false, false, false] rfl rfl (z8 HT_.out HW_.out (by kernel_rfl)) (fun _ _ _ h => h) (Or.inl ⟨by rfl, ?_⟩) hHeld ?_ ?_;rotate_left
                         ·rintro w' ⟨s0, s1, s2⟩
                          go_simp;with_reducible rfl
                         rotate_left
                         ·simp only [Act.put, Zs1, Zs2, Zs3, zh, zi]
                          rfl
                         refine zl (i := 7) (N := some 108) (v := ?_) (a' := ?_) #[true, true, true, true, true, true, true, true, false, false, false, false, false, false, false, false, false, false, false, false, false, false, false, false, false, false, false, false, false, false] rfl rfl (zf HT_.out (by kernel_rfl)) (fun _ _ _ h => h) (Or.inl ⟨by rfl, ?_⟩) ?_ ?_;rotate_left
                         ·intro w'
                          go_simp;with_reducible rfl
                         rotate_left
                         ·simp only [Act.put, Zs1, Zs2, Zs3, zh, zi]
                          rfl
                         refine zl (i := 8) (N := some 109) (v := ?_) (a' := ?_) #[true, true, true, true, true, true, true, true, true, false, false, false, false, false, false, false, false, false, false, false, false, false, false, false, false, false, false, false, false, false] rfl rfl (zf HT_.out (by kernel_rfl)) (fun _ _ _ h => h) (Or.inl ⟨by rfl, ?_⟩) ?_ ?_;rotate_left
                         ·intro w'
                          go_simp;with_reducible rfl
                         rotate_left
                         ·simp only [Act.put, Zs1, Zs2, Zs3, zh, zi]
                          rfl
                         refine zl (i := 9) (N := some 110) (v := ?_) (a' := ?_) #[true, true, true, true, true, true, true, true, true, true, false, false, false, false, false, false, false, false, false, false, false, false, false, false, false, false, false, false, false, false] rfl rfl (zf HT_.out (by kernel_rfl)) (fun _ _ _ h => h) (Or.inl ⟨by rfl, ?_⟩) ?_ ?_;rotate_left
                         ·intro w'
                          go_simp;with_reducible rfl
                         rotate_left
                         ·simp only [Act.put, Zs1, Zs2, Zs3, zh, zi]
                          rfl
                         refine zl (i := 10) (N := some 111) (v := undef) (a' := ?_) #[true, true, true, true, true, true, true, true, true, true, true, false, false, false, false, false, false, false, false, false, false, false, false, false, false, false, false, false, false, false] rfl rfl (zf HT_.out (by kernel_rfl)) (fun _ _ _ h => h) (Or.inr ⟨by rfl, rfl⟩) ?_ ?_;rotate_left
                         ·simp only [Act.put, Zs1, Zs2, Zs3, zh, zi]
                          rfl
                         refine zl (i := 11) (N := some 112) (v := undef) (a' := ?_) #[true, true, true, true, true, true, true, true, true, true, true, true, false, false, false, false, false, false, false, false, false, false, false, false, false, false, false, false, false, false] rfl rfl (zf HT_.out (by kernel_rfl)) (fun _ _ _ h => h) (Or.inr ⟨by rfl, rfl⟩) ?_ ?_;rotate_left
                         ·simp only [Act.put, Zs1, Zs2, Zs3, zh, zi]
                          rfl
                         refine zl (i := 12) (N := some 113) (v := undef) (a' := ?_) #[true, true, true, true, true, true, true, true, true, true, true, true, true, false, false, false, false, false, false, false, false, false, false, false, false, false, false, false, false, false] rfl rfl (zf HT_.out (by kernel_rfl)) (fun _ _ _ h => h) (Or.inr ⟨by rfl, rfl⟩) ?_ ?_;rotate_left
                         ·simp only [Act.put, Zs1, Zs2, Zs3, zh, zi]
                          rfl
                         refine zl (i := 13) (N := some 114) (v := undef) (a' := ?_) #[true, true, true, true, true, true, true, true, true, true, true, true, true, true, false, false, false, false, false, false, false, false, false, false, false, false, false, false, false, false] rfl rfl (zf HT_.out (by kernel_rfl)) (fun _ _ _ h => h) (Or.inr ⟨by rfl, rfl⟩) ?_ ?_;rotate_left
                         ·simp only [Act.put, Zs1, Zs2, Zs3, zh, zi]
                          rfl
                         refine zl (i := 14) (N := some 115) (v := undef) (a' := ?_) #[true, true, true, true, true, true, true, true, true, true, true, true, true, true, true, false, false, false, false, false, false, false, false, false, false, false, false, false, false, false] rfl rfl (zf HT_.out (by kernel_rfl)) (fun _ _ _ h => h) (Or.inr ⟨by rfl, rfl⟩) ?_ ?_;rotate_left
                         ·simp only [Act.put, Zs1, Zs2, Zs3, zh, zi]
                          rfl
                         refine zl (i := 15) (N := some 116) (v := undef) (a' := ?_) #[true, true, true, true, true, true, true, true, true, true, true, true, true, true, true, true, false, false, false, false, false, false, false, false, false, false, false, false, false, false] rfl rfl (zf HT_.out (by kernel_rfl)) (fun _ _ _ h => h) (Or.inr ⟨by rfl, rfl⟩) ?_ ?_;rotate_left
                         ·simp only [Act.put, Zs1, Zs2, Zs3, zh, zi]
                          rfl
                         refine zl (i := 16) (N := some 117) (v := undef) (a' := ?_) #[true, true, true, true, true, true, true, true, true, true, true, true, true, true, true, true, true, false, false, false, false, false, false, false, false, false, false, false, false, false] rfl rfl (zf HT_.out (by kernel_rfl)) (fun _ _ _ h => h) (Or.inr ⟨by rfl, rfl⟩) ?_ ?_;rotate_left
                         ·simp only [Act.put, Zs1, Zs2, Zs3, zh, zi]
                          rfl
                         refine zl (i := 17) (N := some 118) (v := undef) (a' := ?_) #[true, true, true, true, true, true, true, true, true, true, true, true, true, true, true, true, true, true, false, false, false, false, false, false, false, false, false, false, false, false] rfl rfl (zf HT_.out (by kernel_rfl)) (fun _ _ _ h => h) (Or.inr ⟨by rfl, rfl⟩) ?_ ?_;rotate_left
                         ·simp only [Act.put, Zs1, Zs2, Zs3, zh, zi]
                          rfl
                         refine zl (i := 18) (N := some 119) (v := undef) (a' := ?_) #[true, true, true, true, true, true, true, true, true, true, true, true, true, true, true, true, true, true, true, false, false, false, false, false, false, false, false, false, false, false] rfl rfl (zf HT_.out (by kernel_rfl)) (fun _ _ _ h => h) (Or.inr ⟨by rfl, rfl⟩) ?_ ?_;rotate_left
                         ·simp only [Act.put, Zs1, Zs2, Zs3, zh, zi]
                          rfl
                         refine zl (i := 19) (N := some 120) (v := undef) (a' := ?_) #[true, true, true, true, true, true, true, true, true, true, true, true, true, true, true, true, true, true, true, true, false, false, false, false, false, false, false, false, false, false] rfl rfl (zf HT_.out (by kernel_rfl)) (fun _ _ _ h => h) (Or.inr ⟨by rfl, rfl⟩) ?_ ?_;rotate_left
                         ·simp only [Act.put, Zs1, Zs2, Zs3, zh, zi]
                          rfl
                         refine zl (i := 20) (N := some 121) (v := undef) (a' := ?_) #[true, true, true, true, true, true, true, true, true, true, true, true, true, true, true, true, true, true, true, true, true, false, false, false, false, false, false, false, false, false] rfl rfl (zf HT_.out (by kernel_rfl)) (fun _ _ _ h => h) (Or.inr ⟨by rfl, rfl⟩) ?_ ?_;rotate_left
                         ·simp only [Act.put, Zs1, Zs2, Zs3, zh, zi]
                          rfl
                         refine zl (i := 21) (N := some 122) (v := undef) (a' := ?_) #[true, true, true, true, true, true, true, true, true, true, true, true, true, true, true, true, true, true, true, true, true, true, false, false, false, false, false, false, false, false] rfl rfl (zf HT_.out (by kernel_rfl)) (fun _ _ _ h => h) (Or.inr ⟨by rfl, rfl⟩) ?_ ?_;rotate_left
                         ·simp only [Act.put, Zs1, Zs2, Zs3, zh, zi]
                          rfl
                         refine zl (i := 22) (N := some 123) (v := undef) (a' := ?_) #[true, true, true, true, true, true, true, true, true, true, true, true, true, true, true, true, true, true, true, true, true, true, true, false, false, false, false, false, false, false] rfl rfl (zf HT_.out (by kernel_rfl)) (fun _ _ _ h => h) (Or.inr ⟨by rfl, rfl⟩) ?_ ?_;rotate_left
                         ·simp only [Act.put, Zs1, Zs2, Zs3, zh, zi]
                          rfl
                         refine zl (i := 23) (N := some 124) (v := undef) (a' := ?_) #[true, true, true, true, true, true, true, true, true, true, true, true, true, true, true, true, true, true, true, true, true, true, true, true, false, false, false, false, false, false] rfl rfl (zf HT_.out (by kernel_rfl)) (fun _ _ _ h => h) (Or.inr ⟨by rfl, rfl⟩) ?_ ?_;rotate_left
                         ·simp only [Act.put, Zs1, Zs2, Zs3, zh, zi]
                          rfl
                         refine zl (i := 24) (N := some 125) (v := undef) (a' := ?_) #[true, true, true, true, true, true, true, true, true, true, true, true, true, true, true, true, true, true, true, true, true, true, true, true, true, false, false, false, false, false] rfl rfl (zf HT_.out (by kernel_rfl)) (fun _ _ _ h => h) (Or.inr ⟨by rfl, rfl⟩) ?_ ?_;rotate_left
                         ·simp only [Act.put, Zs1, Zs2, Zs3, zh, zi]
                          rfl
                         refine zl (i := 25) (N := some 126) (v := undef) (a' := ?_) #[true, true, true, true, true, true, true, true, true, true, true, true, true, true, true, true, true, true, true, true, true, true, true, true, true, true, false, false, false, false] rfl rfl (zf HT_.out (by kernel_rfl)) (fun _ _ _ h => h) (Or.inr ⟨by rfl, rfl⟩) ?_ ?_;rotate_left
                         ·simp only [Act.put, Zs1, Zs2, Zs3, zh, zi]
                          rfl
                         refine zl (i := 26) (N := some 127) (v := undef) (a' := ?_) #[true, true, true, true, true, true, true, true, true, true, true, true, true, true, true, true, true, true, true, true, true, true, true, true, true, true, true, false, false, false] rfl rfl (zf HT_.out (by kernel_rfl)) (fun _ _ _ h => h) (Or.inr ⟨by rfl, rfl⟩) ?_ ?_;rotate_left
                         ·simp only [Act.put, Zs1, Zs2, Zs3, zh, zi]
                          rfl
                         refine zl (i := 27) (N := some 128) (v := undef) (a' := ?_) #[true, true, true, true, true, true, true, true, true, true, true, true, true, true, true, true, true, true, true, true, true, true, true, true, true, true, true, true, false, false] rfl rfl (zf HT_.out (by kernel_rfl)) (fun _ _ _ h => h) (Or.inr ⟨by rfl, rfl⟩) ?_ ?_;rotate_left
                         ·simp only [Act.put, Zs1, Zs2, Zs3, zh, zi]
                          rfl
                         refine zl (i := 28) (N := some 129) (v := undef) (a' := ?_) #[true, true, true, true, true, true, true, true, true, true, true, true, true, true, true, true, true, true, true, true, true, true, true, true, true, true, true, true, true, false] rfl rfl (zf HT_.out (by kernel_rfl)) (fun _ _ _ h => h) (Or.inr ⟨by rfl, rfl⟩) ?_ ?_;rotate_left
                         ·simp only [Act.put, Zs1, Zs2, Zs3, zh, zi]
                          rfl
                         refine zl (i := 29) (N := some 130) (v := ?_) (a' := ?_) #[true, true, true, true, true, true, true, true, true, true, true, true, true, true, true, true, true, true, true, true, true, true, true, true, true, true, true, true, true, true] rfl rfl (zf HT_.out (by kernel_rfl)) (fun _ _ _ h => h) (Or.inl ⟨by rfl, ?_⟩) ?_ ?_;rotate_left
                         ·intro w'
                          go_simp;with_reducible rfl
                         rotate_left
                         ·simp only [Act.put, Zs1, Zs2, Zs3, zh, zi]
                          rfl
                         refine zcz (zb4 HT_.out (by kernel_rfl)) ?_
                         try go_wp2
                         go_roundg k5
                         case measure => have := HJ8.out; have := HK2.out; have := HJ28.out; have := HK4.out; have := HK5.out; omega
                         case rel => exact ⟨(wrap64 (x10_5 + 1)), Zrs, H', ⟨by have := HJ8.out; have := HK2.out; have := HJ28.out; have := HK4.out; have := HK5.out; omega⟩, ⟨Zq12 HO_3⟩, ⟨Zq21 HO_5⟩, ⟨Zq12 HO_7⟩, ⟨Zq2 BK554⟩, ⟨by repeat (first | (with_reducible exact HR560_0.out) | (with_reducible refine Kd.zdu ?_ _) | (with_reducible refine Kd.zd6 ?_ _) | (with_reducible refine Kd.zd5 ?_) | exact HR560_0.out)⟩, ⟨Zq3 HB GE554⟩⟩
                      ·rw [if_neg c47] at H
                       exact absurd H (by simp)
                     ·rw [if_neg c46] at H
                      have c46b0 : decide (x10_5 < (t541.length : Int)) = false := decide_eq_false c46;clear c46;have H' := za.mk H;clear H;go_wp2;go_roundg k5
                      case measure => have := HJ8.out; have := HK2.out; have := HJ28.out; have := HK4.out; have := HK5.out; omega
                      case rel => exact ⟨(x7_4), (wrap64 (x8_2 + 1)), Zrs, H', ⟨by have := HJ8.out; have := HK2.out; have := HJ28.out; have := HK4.out; have := HK5.out; omega⟩, ⟨Zq12 HO_3⟩, ⟨Zq21 HO_5⟩, ⟨Zq12 HO_7⟩, ⟨Zq2 BK554⟩, ⟨Zq3 HB GE554⟩⟩
                 ·rw [if_neg c37] at H
                  exact absurd H (by simp)
                ·rw [if_neg c36] at H
                 exact absurd H (by simp)
          ·rw [if_neg c28] at H
           have c28b0 : decide (x8_2 < 120) = false := decide_eq_false c28;clear c28;obtain rfl := Option.some.inj H;go_wp2;go_ret;exact ⟨by first | rfl | (simp [zq, zt] <;> rfl) | (simp [*, zq, zt] <;> rfl), Zq3 HB GE554⟩
       ·rw [if_neg c25] at H
        exact absurd H (by simp)
      ·rw [if_neg c24] at H
       exact absurd H (by simp)
  ·replace c7 := Bool.eq_false_iff.mpr c7
   subst c7;have H1 : (some false) = some r := by rw [if_neg (show ¬ (false = true) by decide)] at H; exact H
   clear H;have H := H1;clear H1;obtain rfl := Option.some.inj H;go_enter Try.func8, Try.ntmps8;go_wp2_with (first | ((with_reducible refine zw (f := 9) rfl ?_); refine zbv (some 16) rfl rfl Try.func9 (by kernel_rfl) rfl #[.slice A0 l0.length c0] rfl Zmt ?_; (with_reducible refine (zcv.calls k _ _ l0 t541 t542 _ ?side1 ?side2 A3.out).mono ?_); (case side1 => exact Zq17 HR0); (case side2 => exact HC0.out); rintro e w57 ⟨v543, rfl, ho0, hb⟩; refine ⟨_, rfl, ?_⟩; have n0_ := za.mk (Kd.zcw ho0 (zba (Zq1 HB))); have n1_ := za.mk (zn (Zq1 HB) hb); clear HB; have HO544 := n0_; have HB := n1_; clear n0_ n1_; (try clear hb); (try clear hb2); (try clear hk); (try clear hi); (try clear ho0); obtain ⟨Ao58, co58, eo58⟩ := Kd.zct HO544.out; subst eo58) | ((with_reducible refine zw (f := 10) rfl ?_); refine zbv (some 21) rfl rfl Try.func10 (by kernel_rfl) rfl #[.slice Ao58 t541.length co58, .int .i64 t542] rfl Zmt ?_; (with_reducible refine (zbu.calls k _ _ t541 t542 t545 _ ?side1 ?side2 A4.out).mono ?_); (case side1 => exact Zq18 ((Kd.zbo HO544.out).2.2)); (case side2 => exact (Kd.zbo HO544.out).2.1); rintro e w59 ⟨v546, rfl, ho0, hb⟩; refine ⟨_, rfl, ?_⟩; have n0_ := za.mk (Kd.zcy (Zq12 HO544) hb); have n1_ := za.mk (Kd.zfc ho0 (zba (Zq1 HB))); have n2_ := za.mk (zn (Zq1 HB) hb); clear HO544; clear HB; have HO544 := n0_; have HO547 := n1_; have HB := n2_; clear n0_ n1_ n2_; (try clear hb); (try clear hb2); (try clear hk); (try clear hi); (try clear ho0)) | ((with_reducible refine zw (f := 12) rfl ?_); refine zbv (some 25) rfl rfl Try.func12 (by kernel_rfl) rfl #[.slice Ao58 t541.length co58, .int .i64 t542] rfl Zmt ?_; (with_reducible refine (zu.calls k _ _ t541 t542 t548 _ ?side1 ?side2 A5.out).mono ?_); (case side1 => exact Zq18 ((Kd.zbo HO544.out).2.2)); (case side2 => exact (Kd.zbo HO544.out).2.1); rintro e w60 ⟨v549, rfl, ho0, hb⟩; replace ho0 := Kd.Qc_of_S ho0; refine ⟨_, rfl, ?_⟩; have n0_ := za.mk (Kd.zcy (Zq12 HO544) hb); have n1_ := za.mk (Kd.zgy (Zq21 HO547) (Kd.Qc_base ho0) hb); have n2_ := za.mk (Kd.zfc (Kd.Qc_new' ho0 (Kd.Qc_lt (Zq21 HO547))) (zba (Zq1 HB))); have n3_ := za.mk (zn (Zq1 HB) hb); clear HO544; clear HO547; clear HB; have HO544 := n0_; have HO547 := n1_; have HO550 := n2_; have HB := n3_; clear n0_ n1_ n2_ n3_; (try clear hb); (try clear hb2); (try clear hk); (try clear hi); (try clear ho0); obtain ⟨Ao61, co61, eo61⟩ := Kd.zfr HO547.out; subst eo61; obtain ⟨Ao62, co62, eo62⟩ := Kd.zfr HO550.out; subst eo62) | ((with_reducible refine zw (f := 11) rfl ?_); refine zbv (some 26) rfl rfl Try.func11 (by kernel_rfl) rfl #[.slice Ao61 t545.length co61, .slice Ao62 t548.length co62] rfl Zmt ?_; (with_reducible refine (zby.calls k _ _ t545 _ _ t548 false _ ?side1 ?side2 ?side3 ?side4 A6.out).mono ?_); (case side1 => exact Zq18 ((Kd.zcu HO547.out).2.2)); (case side2 => exact (Kd.zcu HO547.out).2.1); (case side3 => exact Zq18 ((Kd.zcu HO550.out).2.2)); (case side4 => exact (Kd.zcu HO550.out).2.1); rintro e w' ⟨rfl, ⟨nd, rfl⟩⟩; refine ⟨_, rfl, ?_⟩));go_ret;exact ⟨by first | rfl | (simp [zq, zt] <;> rfl) | (simp [*, zq, zt] <;> rfl), Zq1 HB⟩
def laws_FnFairFull.Pure : Prop := ∀ (l0 : List Int), l0.length * 1 ≤ 140737488351232 → (l0.length ≤ maxLen ∧ ∀ y0 ∈ l0, (Lit.int .u8 y0).wf = true) → ∃ k, laws_FnFairFull.f k l0 = some true
end Go.Proofs.Ytnilnaabjpcfjaa.P
namespace Go.Proofs.Ytnilnaabjpcfjaa.Base
open Go.RowKit Go.Proofs.Ytnilnaabjpcfjaa.P Go.Proofs.YtnilnaabjpcfjaaW.PrintWords Go.Proofs.YtnilnaabjpcfjaaW.PrintLast Go.Proofs.YtnilnaabjpcfjaaW.PrintMore
theorem w64 {x : Int} (h0 : -9223372036854775808 ≤ x) (h1 : x < 9223372036854775808) : wrap64 x = x := by unfold wrap64; omega
theorem zgf {a b A B : Int} (ha : 0 ≤ a) (hA : a ≤ A) (hb : 0 ≤ b) (hB : b ≤ B) : 0 ≤ a * b ∧ a * b ≤ A * B :=
  ⟨Int.mul_nonneg ha hb, Int.mul_le_mul hA hB hb (by omega)⟩
theorem in_f (a b c : Int) : zdd.f a b c = some (decide (b ≤ a ∧ a ≤ c)) := by
  unfold zdd.f
  by_cases h : a ≥ b
  · rw [if_pos h]; simp [show b ≤ a from h]
  · rw [if_neg h]; simp [show ¬ b ≤ a from h]
theorem l1In_f (a b c : Int) : zce.f a b c = some (decide (b ≤ a ∧ a ≤ c)) := by
  unfold zce.f
  by_cases h : a ≥ b
  · rw [if_pos h]; simp [show b ≤ a from h]
  · rw [if_neg h]; simp [show ¬ b ≤ a from h]
theorem zfu {α : Type} (p : Prop) [Decidable p] (x y : Option α) : (some (decide p)).bind (fun t => if t = true then x else y) = if p then x else y := by
  by_cases hp : p <;> simp [hp]
theorem zey {a b : Int} (h : 0 ≤ a) : Int.tdiv a b = a / b := Int.tdiv_eq_ediv_of_nonneg h
theorem tmod_pos {a b : Int} (h : 0 ≤ a) : Int.tmod a b = a % b := Int.tmod_eq_emod_of_nonneg h
end Go.Proofs.Ytnilnaabjpcfjaa.Base
namespace Go.Proofs.Ytnilnaabjpcfjaa.Alive
open Go.RowKit Go.Proofs.Ytnilnaabjpcfjaa.P Go.Proofs.Ytnilnaabjpcfjaa.Base Go.Proofs.YtnilnaabjpcfjaaW.PrintWords Go.Proofs.YtnilnaabjpcfjaaW.PrintLast
def TV (c d p : Int) : Prop := 1 ≤ c ∧ c ≤ 8 ∧ c ≤ d ∧ d ≤ p ∧ p ≤ 12
instance (c d p : Int) : Decidable (TV c d p) := by unfold TV; infer_instance
theorem task_f (c d p : Int) : zcm.f c d p = some (decide (TV c d p)) := by
  unfold zcm.f
  rw [in_f, in_f, zfu, zfu]
  by_cases h1 : 1 ≤ c ∧ c ≤ 8
  · by_cases h2 : c ≤ d ∧ d ≤ p
    · rw [if_pos h1, if_pos h2]; congr 1; rw [decide_eq_decide]; unfold TV; omega
    · rw [if_pos h1, if_neg h2]; congr 1; symm; rw [decide_eq_false_iff_not]; unfold TV; omega
  · rw [if_neg h1]; congr 1; symm; rw [decide_eq_false_iff_not]; unfold TV; omega
theorem alive_f : zdv.f = some true := by
  unfold zdv.f
  rw [task_f]; rfl
end Go.Proofs.Ytnilnaabjpcfjaa.Alive
namespace Go.Proofs.Ytnilnaabjpcfjaa.Win
open Go.RowKit Go.Proofs.Ytnilnaabjpcfjaa.P Go.Proofs.Ytnilnaabjpcfjaa.Base Go.Proofs.Ytnilnaabjpcfjaa.Alive Go.Proofs.YtnilnaabjpcfjaaW.PrintWords Go.Proofs.YtnilnaabjpcfjaaW.PrintLast
def wr (c p k : Int) : Int := k * p / c
def wd (c p k : Int) : Int := ((k + 1) * p + c - 1) / c
theorem div_sp {x c : Int} (hc : 1 ≤ c) : x / c * c ≤ x ∧ x < x / c * c + c := by
  have h3 := Int.mul_ediv_add_emod x c
  have h4 := Int.emod_nonneg x (show c ≠ 0 by omega)
  have h5 := Int.emod_lt_of_pos x (show 0 < c by omega)
  rw [Int.mul_comm] at h3
  omega
theorem wr_sp {c p k : Int} (hc : 1 ≤ c) : wr c p k * c ≤ k * p ∧ k * p < wr c p k * c + c := div_sp hc
theorem wd_sp {c p k : Int} (hc : 1 ≤ c) : (k + 1) * p ≤ wd c p k * c ∧ wd c p k * c < (k + 1) * p + c := by
  have := div_sp (x := (k + 1) * p + c - 1) hc
  unfold wd; omega
theorem wr_bd {c p k : Int} (hc : 1 ≤ c) (hp : 0 ≤ p) (hp2 : p ≤ 12) (hk : 0 ≤ k) (hk2 : k ≤ 2000000) : 0 ≤ k * p ∧ k * p ≤ 24000000 ∧ 0 ≤ wr c p k ∧ wr c p k ≤ 24000000 := by
  have h := zgf (a := k) (b := p) (A := 2000000) (B := 12) hk hk2 hp hp2
  have h0 := Int.ediv_nonneg h.1 (show 0 ≤ c by omega)
  have h1 := Int.ediv_le_self c h.1
  unfold wr; omega
theorem wd_bd {c p k : Int} (hc : 1 ≤ c) (hc2 : c ≤ 8) (hp : 0 ≤ p) (hp2 : p ≤ 12) (hk : 0 ≤ k) (hk2 : k ≤ 2000000) : 0 ≤ (k + 1) * p ∧ (k + 1) * p ≤ 24000012 ∧ 0 ≤ wd c p k ∧ wd c p k ≤ 24000100 := by
  have h := zgf (a := k + 1) (b := p) (A := 2000001) (B := 12) (by omega) (by omega) hp hp2
  have h0 := Int.ediv_nonneg (show 0 ≤ (k + 1) * p + c - 1 by omega) (show 0 ≤ c by omega)
  have h1 := Int.ediv_le_self c (show 0 ≤ (k + 1) * p + c - 1 by omega)
  unfold wd; omega
theorem zj4 {c d p k : Int} (hv : TV c d p) (hk : 0 ≤ k) (hk2 : k ≤ 2000000) : zbn.f c d p k = some (wr c p k, wd c p k) := by
  unfold TV at hv
  have h1 := wr_bd (c := c) (p := p) (k := k) (by omega) (by omega) (by omega) hk hk2
  have h2 := wd_bd (c := c) (p := p) (k := k) (by omega) (by omega) (by omega) (by omega) hk hk2
  unfold zbn.f zea.f
  rw [if_neg (by omega), if_neg (by omega)]
  simp only [Option.bind_some]
  rw [w64 (x := k + 1) (by omega) (by omega), w64 (x := (k + 1) * p) (by omega) (by omega), w64 (x := k * p) (by omega) (by omega), w64 (x := (k + 1) * p + c) (by omega) (by omega), w64 (x := (k + 1) * p + c - 1) (by omega) (by omega), zey (by omega), zey (by omega)]
  show some (wrap64 (wr c p k), wrap64 (wd c p k)) = _
  rw [w64 (by omega) (by omega), w64 (by omega) (by omega)]
theorem zgg {c d p k : Int} (hv : TV c d p) (hk : 0 ≤ k) (hk2 : k ≤ 2000000) : zbf.f c d p k = some (wr c p k, wd c p k) := by
  unfold TV at hv
  have h1 := wr_bd (c := c) (p := p) (k := k) (by omega) (by omega) (by omega) hk hk2
  have h2 := wd_bd (c := c) (p := p) (k := k) (by omega) (by omega) (by omega) (by omega) hk hk2
  unfold zbf.f
  rw [if_neg (by omega)]
  rw [w64 (x := k + 1) (by omega) (by omega), w64 (x := (k + 1) * p) (by omega) (by omega), w64 (x := k * p) (by omega) (by omega), w64 (x := (k + 1) * p + c) (by omega) (by omega), w64 (x := (k + 1) * p + c - 1) (by omega) (by omega), zey (by omega), zey (by omega)]
  show some (wrap64 (wr c p k), wrap64 (wd c p k)) = _
  rw [w64 (by omega) (by omega), w64 (by omega) (by omega)]
end Go.Proofs.Ytnilnaabjpcfjaa.Win
namespace Go.Proofs.Ytnilnaabjpcfjaa.Set
open Go.RowKit Go.Proofs.Ytnilnaabjpcfjaa.P Go.Proofs.Ytnilnaabjpcfjaa.Base Go.Proofs.Ytnilnaabjpcfjaa.Alive Go.Proofs.YtnilnaabjpcfjaaW.PrintWords Go.Proofs.YtnilnaabjpcfjaaW.PrintLast
abbrev Task := S35
def TVt (t : Task) : Prop := TV t.f0 t.f1 t.f2
instance (t : Task) : Decidable (TVt t) := by unfold TVt; infer_instance
def zeb (l : List Task) : Prop := l.length ≤ 5 ∧ ∀ t ∈ l, TVt t
instance (l : List Task) : Decidable (zeb l) := by unfold zeb; infer_instance
def Impl (l : List Task) : Prop := zeb l ∧ ∀ t ∈ l, t.f1 = t.f2
instance (l : List Task) : Decidable (Impl l) := by unfold Impl; infer_instance
theorem taskOk_iff (t : Task) : taskOk t = decide (TVt t) := by
  unfold taskOk
  rw [decide_eq_decide]; unfold TVt TV; omega
theorem zj5 (l : List Task) : zc3.f l = some (decide (¬ ∀ t ∈ l, TVt t)) := by
  unfold zc3.f
  congr 1
  rw [Bool.eq_iff_iff, List.any_eq_true]
  simp [zc3.bad, taskOk_iff]
theorem set_f (l : List Task) : zco.f l = some (decide (zeb l)) := by
  unfold zco.f
  by_cases h : (l.length : Int) ≤ 5
  · rw [if_pos h, zj5]
    simp only [Option.bind_some]
    congr 1
    rw [Bool.eq_iff_iff]
    unfold zeb
    have : l.length ≤ 5 := by omega
    simp [this]
  · rw [if_neg h]
    congr 1; symm; rw [decide_eq_false_iff_not]
    unfold zeb; omega
theorem any_late_f (l : List Task) : zc6.f l = some (decide (¬ ∀ t ∈ l, t.f1 = t.f2)) := by
  unfold zc6.f
  congr 1
  rw [Bool.eq_iff_iff, List.any_eq_true]
  simp [zc6.bad]
theorem impl_f (l : List Task) : zc2.f l = some (decide (Impl l)) := by
  unfold zc2.f
  rw [set_f, zfu, any_late_f]
  simp only [Option.bind_some]
  by_cases h : zeb l
  · rw [if_pos h]
    congr 1
    rw [Bool.eq_iff_iff]
    unfold Impl
    simp [h]
  · rw [if_neg h]
    congr 1; symm; rw [decide_eq_false_iff_not]
    exact fun h' => h h'.1
end Go.Proofs.Ytnilnaabjpcfjaa.Set
set_option linter.unusedVariables false
set_option linter.unusedSectionVars false
namespace Go.Proofs.Ytnilnaabjpcfjaa.Pd2
def sm (f : Nat → Int) : Nat → Int
  | 0 => 0
  | n + 1 => sm f n + f n
theorem zfg {f g : Nat → Int} : ∀ n, (∀ k, k < n → f k ≤ g k) → sm f n ≤ sm g n
  | 0, _ => Int.le_refl _
  | n + 1, h => by
    have h1 := zfg n (fun k hk => h k (by omega))
    have h2 := h n (by omega)
    simp only [sm]
    omega
theorem zdp {f g : Nat → Int} (n : Nat) (h : ∀ k, k < n → f k = g k) : sm f n = sm g n := by
  have h1 := zfg n (fun k hk => Int.le_of_eq (h k hk))
  have h2 := zfg n (fun k hk => Int.le_of_eq (h k hk).symm)
  omega
theorem zhw (f g : Nat → Int) : ∀ n, sm (fun k => f k + g k) n = sm f n + sm g n
  | 0 => rfl
  | n + 1 => by have := zhw f g n; simp only [sm]; omega
theorem zje (f g : Nat → Int) : ∀ n, sm (fun k => f k - g k) n = sm f n - sm g n
  | 0 => rfl
  | n + 1 => by have := zje f g n; simp only [sm]; omega
theorem zhx (c : Int) (f : Nat → Int) : ∀ n, sm (fun k => c * f k) n = c * sm f n
  | 0 => by simp [sm]
  | n + 1 => by have := zhx c f n; simp only [sm]; rw [this, Int.mul_add]
theorem ze3 : ∀ n, sm (fun _ => 0) n = 0
  | 0 => rfl
  | n + 1 => by have := ze3 n; simp only [sm]; omega
theorem zfv {f : Nat → Int} (n : Nat) (h : ∀ k, k < n → 0 ≤ f k) : 0 ≤ sm f n := by
  have := zfg (f := fun _ => 0) n h
  rw [ze3] at this; exact this
theorem sm_pick {f : Nat → Int} : ∀ n j, j < n → (∀ k, k < n → k ≠ j → f k = 0) → sm f n = f j
  | 0, j, h, _ => by omega
  | n + 1, j, hj, h => by
    simp only [sm]
    by_cases hn : j = n
    · subst hn
      have h1 : sm f j = sm (fun _ => 0) j := zdp j (fun k hk => h k (by omega) (by omega))
      rw [ze3] at h1; omega
    · have h1 := sm_pick n j (by omega) (fun k hk hkj => h k (by omega) hkj)
      have h2 := h n (by omega) (by omega)
      omega
theorem zeg (f : Nat → Int) (n j : Nat) (hj : j < n) : sm f n = sm (fun k => if k = j then 0 else f k) n + f j := by
  have h1 : sm f n = sm (fun k => (if k = j then 0 else f k) + (if k = j then f j else 0)) n :=
    zdp n (fun k _ => by by_cases h : k = j <;> simp [h])
  rw [h1, zhw]
  have h2 := sm_pick (f := fun k => if k = j then f j else 0) n j hj (fun k _ hk => by simp [hk])
  simp only [if_true] at h2
  rw [h2]
theorem zjf {f : Nat → Int} (n j : Nat) (hj : j < n) (h : ∀ k, k < n → 0 ≤ f k) : f j ≤ sm f n := by
  rw [zeg f n j hj]
  have := zfv (f := fun k => if k = j then 0 else f k) n (fun k hk => by by_cases h' : k = j <;> simp [h', h k hk])
  omega
def on (p : Bool) : Int := if p then 1 else 0
theorem zg1 (p : Bool) : 0 ≤ on p := by cases p <;> decide
theorem on_le (p : Bool) : on p ≤ 1 := by cases p <;> decide
theorem on_mono {p q : Bool} (h : p = true → q = true) : on p ≤ on q := by
  cases p <;> cases q <;> simp_all [on]
def ct (p : Nat → Bool) (n : Nat) : Int := sm (fun k => on (p k)) n
theorem zf9 {p q : Nat → Bool} (n : Nat) (h : ∀ k, k < n → p k = true → q k = true) : ct p n ≤ ct q n :=
  zfg n (fun k hk => on_mono (h k hk))
theorem ct_congr {p q : Nat → Bool} (n : Nat) (h : ∀ k, k < n → p k = q k) : ct p n = ct q n := zdp n (fun k hk => by rw [h k hk])
theorem ex_max (p : Nat → Bool) (κ : Nat → Int) : ∀ n, (∃ k, k < n ∧ p k = true) → ∃ k, k < n ∧ p k = true ∧ ∀ j, j < n → p j = true → κ j ≤ κ k
  | 0, h => by obtain ⟨k, hk, _⟩ := h; omega
  | n + 1, h => by
    by_cases h1 : ∃ k, k < n ∧ p k = true
    · obtain ⟨k, hk, hp, hm⟩ := ex_max p κ n h1
      by_cases h2 : p n = true ∧ κ k < κ n
      · refine ⟨n, by omega, h2.1, fun j hj hpj => ?_⟩
        by_cases h3 : j = n
        · subst h3; exact Int.le_refl _
        · have := hm j (by omega) hpj; omega
      · refine ⟨k, by omega, hp, fun j hj hpj => ?_⟩
        by_cases h3 : j = n
        · subst h3
          by_cases h4 : κ k < κ j
          · exact absurd ⟨hpj, h4⟩ h2
          · omega
        · exact hm j (by omega) hpj
    · obtain ⟨k, hk, hp⟩ := h
      have hkn : k = n := by
        by_cases h3 : k = n
        · exact h3
        · exact absurd ⟨k, by omega, hp⟩ h1
      subst hkn
      refine ⟨k, hk, hp, fun j hj hpj => ?_⟩
      by_cases h3 : j = k
      · subst h3; exact Int.le_refl _
      · exact absurd ⟨j, by omega, hpj⟩ h1
def ch (e : Nat → Bool) (κ : Nat → Int) (n : Nat) (m : Int) (k : Nat) : Bool :=
  decide (k < n) && e k && decide (ct (fun j => e j && decide (κ j < κ k)) n < m)
section
variable {e : Nat → Bool} {κ : Nat → Int} {n : Nat} {m : Int}
theorem zhy {k : Nat} : ch e κ n m k = true ↔ k < n ∧ e k = true ∧ ct (fun j => e j && decide (κ j < κ k)) n < m := by
  unfold ch; simp [and_assoc]
theorem zj6 {k j : Nat} (h : ch e κ n m k = true) (hj : j < n) (hej : e j = true) (hk : κ j < κ k) : ch e κ n m j = true := by
  rw [zhy] at h ⊢
  refine ⟨hj, hej, Int.lt_of_le_of_lt (zf9 n (fun i _ hi => ?_)) h.2.2⟩
  simp only [Bool.and_eq_true, decide_eq_true_eq] at hi ⊢
  exact ⟨hi.1, by omega⟩
theorem ch_le (hm : 0 ≤ m) (hinj : ∀ i j, i < n → j < n → e i = true → e j = true → κ i = κ j → i = j) : ct (ch e κ n m) n ≤ m := by
  by_cases h0 : ∃ k, k < n ∧ ch e κ n m k = true
  · obtain ⟨k, hk, hc, hmax⟩ := ex_max (ch e κ n m) κ n h0
    have h1 := (zhy.1 hc).2.2
    have h2 : ct (ch e κ n m) n ≤ ct (fun j => e j && decide (κ j < κ k)) n + 1 := by
      unfold ct
      rw [zeg (fun j => on (ch e κ n m j)) n k hk]
      have h3 := zfg (f := fun j => if j = k then 0 else on (ch e κ n m j)) (g := fun j => on (e j && decide (κ j < κ k))) n (fun j hj => by
        show (if j = k then 0 else on (ch e κ n m j)) ≤ _
        by_cases hjk : j = k
        · rw [if_pos hjk]; exact zg1 _
        · rw [if_neg hjk]
          apply on_mono
          intro hcj
          have := hmax j hj hcj
          have he := (zhy.1 hcj).2.1
          simp only [Bool.and_eq_true, decide_eq_true_eq]
          refine ⟨he, ?_⟩
          by_cases hl : κ j < κ k
          · exact hl
          · exact absurd (hinj j k hj hk he (zhy.1 hc).2.1 (by omega)) hjk)
      have h4 := on_le (ch e κ n m k)
      exact Int.add_le_add h3 h4
    omega
  · have : ct (ch e κ n m) n ≤ ct (fun _ => false) n := zf9 n (fun k hk hc => absurd ⟨k, hk, hc⟩ h0)
    have h2 : ct (fun _ => false) n = 0 := ze3 n
    omega
theorem ch_full {k : Nat} (hk : k < n) (hek : e k = true) (hn : ch e κ n m k = false) : m ≤ ct (ch e κ n m) n := by
  obtain ⟨k, hk, hp, hmin⟩ := ex_max (fun k => e k && !(ch e κ n m k)) (fun k => - κ k) n ⟨k, hk, by simp [hek, hn]⟩
  simp only [Bool.and_eq_true, Bool.not_eq_true'] at hp
  have h1 : ¬ ct (fun j => e j && decide (κ j < κ k)) n < m := by
    intro h
    have := zhy.2 ⟨hk, hp.1, h⟩
    rw [hp.2] at this; cases this
  have h2 : ct (fun j => e j && decide (κ j < κ k)) n ≤ ct (ch e κ n m) n := zf9 n (fun j hj h => by
    simp only [Bool.and_eq_true, decide_eq_true_eq] at h
    by_cases hc : ch e κ n m j = true
    · exact hc
    · have := hmin j hj (by simp [h.1, hc])
      omega)
  omega
end
def fl (L W : Int) (k u : Nat) : Int := max 0 (min L (W * (u : Int) - L * (k : Int)))
def sh (L W : Int) (k u : Nat) : Int := fl L W k (u + 1) - fl L W k u
section
variable {L W : Int} {r d : Nat → Nat} (hL : 0 < L) (hW : 0 < W) (hWL : W ≤ L)
  (hr : ∀ k u : Nat, r k ≤ u ↔ L * (k : Int) < W * ((u : Int) + 1)) (hd : ∀ k u : Nat, d k ≤ u ↔ L * ((k : Int) + 1) ≤ W * (u : Int))
theorem mul1 (a b : Int) : a * (b + 1) = a * b + a := by rw [Int.mul_add, Int.mul_one]
theorem mulc (a : Int) (k : Nat) : a * ((k + 1 : Nat) : Int) = a * (k : Int) + a := by rw [← mul1]; congr 1
include hr hWL hL in
theorem r_lt (k : Nat) : r k < r (k + 1) := by
  have h1 := (hr (k + 1) (r (k + 1))).1 (Nat.le_refl _)
  rw [mulc, mul1] at h1
  by_cases h0 : r (k + 1) = 0
  · rw [h0] at h1
    have h2 : 0 ≤ L * (k : Int) := Int.mul_nonneg (by omega) (by omega)
    simp at h1; omega
  · obtain ⟨v, hv⟩ : ∃ v, r (k + 1) = v + 1 := ⟨r (k + 1) - 1, by omega⟩
    rw [hv] at h1 ⊢
    rw [mulc] at h1
    have := (hr k v).2 (by rw [mul1]; omega)
    omega
include hd hL hWL in
theorem d_lt (k : Nat) : d k < d (k + 1) := by
  have h1 := (hd (k + 1) (d (k + 1))).1 (Nat.le_refl _)
  rw [mul1, mulc] at h1
  by_cases h0 : d (k + 1) = 0
  · rw [h0] at h1
    have h2 : 0 ≤ L * (k : Int) := Int.mul_nonneg (by omega) (by omega)
    simp at h1; omega
  · obtain ⟨v, hv⟩ : ∃ v, d (k + 1) = v + 1 := ⟨d (k + 1) - 1, by omega⟩
    rw [hv] at h1 ⊢
    rw [mulc] at h1
    have := (hd k v).2 (by rw [mul1]; omega)
    omega
theorem zec {g : Nat → Nat} (h : ∀ k, g k < g (k + 1)) {i j : Nat} (hij : i < j) : g i < g j := by
  induction j with
  | zero => omega
  | succ j ih =>
    have := h j
    by_cases hj : i = j
    · subst hj; exact this
    · have := ih (by omega); omega
theorem st_inj {g : Nat → Nat} (h : ∀ k, g k < g (k + 1)) {i j : Nat} (hij : g i = g j) : i = j := by
  by_cases h1 : i < j
  · have := zec h h1; omega
  · by_cases h2 : j < i
    · have := zec h h2; omega
    · omega
include hr hd in
theorem ov (k : Nat) : d k ≤ r (k + 1) + 1 := by
  have h1 := (hr (k + 1) (r (k + 1))).1 (Nat.le_refl _)
  refine (hd k (r (k + 1) + 1)).2 ?_
  rw [mulc] at h1
  rw [mul1]
  push_cast
  omega
include hr hd hL in
theorem r_lt_d (k : Nat) : r k < d k := by
  have h1 := (hd k (d k)).1 (Nat.le_refl _)
  rw [mul1] at h1
  have h2 : 0 ≤ L * (k : Int) := Int.mul_nonneg (by omega) (by omega)
  by_cases h0 : d k = 0
  · rw [h0] at h1; simp at h1; omega
  · obtain ⟨v, hv⟩ : ∃ v, d k = v + 1 := ⟨d k - 1, by omega⟩
    rw [hv] at h1 ⊢
    have h3 : W * ((v + 1 : Nat) : Int) = W * ((v : Int) + 1) := by congr 1
    rw [h3] at h1
    have := (hr k v).2 (by omega)
    omega
include hr hd hL in
theorem heavy_of (k : Nat) (h : d k ≤ r k + 2) : L ≤ 2 * W := by
  have h1 := (hd k (r k + 2)).1 h
  rw [mul1] at h1
  by_cases h0 : r k = 0
  · rw [h0] at h1
    have h2 : 0 ≤ L * (k : Int) := Int.mul_nonneg (by omega) (by omega)
    simp at h1; omega
  · obtain ⟨v, hv⟩ : ∃ v, r k = v + 1 := ⟨r k - 1, by omega⟩
    have h2 : ¬ r k ≤ v := by omega
    rw [hr k v, mul1] at h2
    rw [hv, show ((v + 1 + 2 : Nat) : Int) = (v : Int) + 1 + 1 + 1 by omega, mul1, mul1, mul1] at h1
    omega
include hr hd in
theorem heavy_len (k : Nat) (h : L ≤ 2 * W) : d k ≤ r k + 3 := by
  have h1 := (hr k (r k)).1 (Nat.le_refl _)
  refine (hd k (r k + 3)).2 ?_
  rw [show ((r k + 3 : Nat) : Int) = (r k : Int) + 1 + 1 + 1 by omega, mul1, mul1, mul1, mul1]
  rw [mul1] at h1
  omega
include hW in
theorem wu (u : Nat) : 0 ≤ W * (u : Int) := Int.mul_nonneg (by omega) (by omega)
include hL in
theorem lk (k : Nat) : 0 ≤ L * (k : Int) := Int.mul_nonneg (by omega) (by omega)
include hW in
theorem zjg (k u : Nat) : 0 ≤ sh L W k u := by
  unfold sh fl; rw [mulc]; omega
include hW in
theorem sh_le (k u : Nat) : sh L W k u ≤ W := by
  unfold sh fl; rw [mulc]; omega
include hL hW hr hd in
theorem sh_zero (k u : Nat) (h : ¬ (r k ≤ u ∧ u < d k)) : sh L W k u = 0 := by
  unfold sh fl; rw [mulc]
  by_cases h1 : r k ≤ u
  · have h2 : d k ≤ u := by omega
    rw [hd, mul1] at h2
    omega
  · rw [hr, mul1] at h1
    omega
include hL in
theorem fl_start (k : Nat) : fl L W k 0 = 0 := by
  have := lk hL k
  unfold fl; simp; omega
include hL hd in
theorem fl_end (k u : Nat) (h : d k ≤ u) : fl L W k u = L := by
  rw [hd, mul1] at h
  unfold fl; omega
include hL hW in
theorem fl_sum (u : Nat) : ∀ n : Nat, sm (fun k => fl L W k u) n = min (W * (u : Int)) (L * (n : Int))
  | 0 => by have := wu hW u; simp [sm]; omega
  | n + 1 => by
    have h1 := fl_sum u n
    have h2 := lk hL n
    have h3 := wu hW u
    simp only [sm]
    rw [h1, mulc]
    unfold fl
    omega
include hL hW in
theorem sh_sum (u n : Nat) : sm (fun k => sh L W k u) n ≤ W := by
  have h1 : sm (fun k => sh L W k u) n = sm (fun k => fl L W k (u + 1)) n - sm (fun k => fl L W k u) n := zje _ _ n
  rw [h1, fl_sum hL hW, fl_sum hL hW, mulc]
  omega
include hL hW hWL hr hd in
theorem sh_after (j n t : Nat) (h1 : d j = t + 1) (h2 : r (j + n + 1) ≤ t + n) (h3 : t + n + 1 < d (j + n + 1)) : sh L W j t ≤ sh L W (j + n + 1) (t + n + 1) := by
  have e1 := (hr (j + n + 1) (t + n)).1 h2
  have e2 : ¬ d (j + n + 1) ≤ t + n + 1 := by omega
  rw [hd] at e2
  have e3 := sh_le (L := L) hW j t
  have e4 : 0 ≤ (L - W) * ((n : Int) + 1) := Int.mul_nonneg (by omega) (by omega)
  have e5 : (L - W) * ((n : Int) + 1) = L * (n : Int) + L - (W * (n : Int) + W) := by rw [Int.sub_mul, mul1, mul1]
  have a1 : W * (((t + n : Nat) : Int) + 1) = W * (t : Int) + W * (n : Int) + W := by rw [mul1]; push_cast; rw [Int.mul_add]
  have a2 : L * ((j + n + 1 : Nat) : Int) = L * (j : Int) + L * (n : Int) + L := by rw [mulc]; push_cast; rw [Int.mul_add]
  have a3 : L * (((j + n + 1 : Nat) : Int) + 1) = L * (j : Int) + L * (n : Int) + L + L := by rw [mul1, a2]
  have a4 : W * ((t + n + 1 : Nat) : Int) = W * (t : Int) + W * (n : Int) + W := by rw [mulc]; push_cast; rw [Int.mul_add]
  have a5 : W * ((t + n + 1 + 1 : Nat) : Int) = W * (t : Int) + W * (n : Int) + W + W := by rw [mulc, a4]
  have e6 := (hd j (t + 1)).1 (by omega)
  rw [a1, a2] at e1
  rw [a3, a4] at e2
  unfold sh fl at e3 ⊢
  rw [a5, a4, a2]
  rw [mulc] at e3 ⊢
  omega
end
structure Sys where
  N : Nat
  M : Int
  L : Int
  W : Nat → Int
  r : Nat → Nat → Nat
  d : Nat → Nat → Nat
  b : Nat → Nat → Bool
  D : Nat → Nat → Int
  K : Nat → Nat → Int
structure Good (S : Sys) : Prop where
  M0 : 0 ≤ S.M
  L0 : 0 < S.L
  W0 : ∀ T, T < S.N → 0 < S.W T
  WL : ∀ T, T < S.N → S.W T ≤ S.L
  hr : ∀ T, T < S.N → ∀ k u : Nat, S.r T k ≤ u ↔ S.L * (k : Int) < S.W T * ((u : Int) + 1)
  hd : ∀ T, T < S.N → ∀ k u : Nat, S.d T k ≤ u ↔ S.L * ((k : Int) + 1) ≤ S.W T * (u : Int)
  hb : ∀ T, T < S.N → ∀ k, S.b T k = true ↔ S.r T (k + 1) + 1 = S.d T k
  Kne : ∀ T V, T < S.N → V < S.N → T ≠ V → ∀ k l, S.K T k ≠ S.K V l
  Kd : ∀ T V, T < S.N → V < S.N → ∀ k l, S.K T k ≤ S.K V l → S.d T k ≤ S.d V l
  Kb : ∀ T V, T < S.N → V < S.N → ∀ k l, S.K T k ≤ S.K V l → S.d T k = S.d V l → S.b V l = true → S.b T k = true ∧ S.D V l ≤ S.D T k
  Dl : ∀ T, T < S.N → 2 * S.W T < S.L → ∀ k, S.D T k = 0
  Dh : ∀ T, T < S.N → S.L ≤ 2 * S.W T → ∀ k, ∃ i, k ≤ i ∧ (∀ l, k ≤ l → l < i → S.b T l = true ∧ (k < l → S.d T l < S.r T l + 3)) ∧
    ((k < i ∧ S.r T i + 3 ≤ S.d T i ∧ S.D T k = (S.d T i : Int) - 1) ∨ (¬ (k < i ∧ S.r T i + 3 ≤ S.d T i) ∧ S.b T i = false ∧ S.D T k = (S.d T i : Int)))
  U : sm S.W S.N ≤ S.M * S.L
namespace Sys
variable (S : Sys)
abbrev St := Nat → List Nat
def el (P : St) (u T : Nat) : Bool := match P T with | [] => false | k :: _ => decide (S.r T k ≤ u)
def key (P : St) (T : Nat) : Int := S.K T ((P T).headD 0)
def sel (P : St) (u T : Nat) : Bool := ch (S.el P u) (S.key P) S.N S.M T
def nxt (P : St) (u : Nat) : St := fun T => if S.sel P u T then (P T).tail else P T
def run (Z : St) : Nat → St
  | 0 => Z
  | u + 1 => S.nxt (run Z u) u
def nsel (P : St) (u : Nat) : Int := ct (S.sel P u) S.N
def Rm (P P' : St) (T c : Nat) : Prop := c ∈ P T ∧ P' T = (P T).erase c ∧ ∀ V, V ≠ T → P' V = P V
def Srt (P : St) : Prop := ∀ T, (P T).Pairwise (· < ·)
variable {S}
theorem zg2 {P : St} {u T : Nat} : S.el P u T = true ↔ ∃ k l, P T = k :: l ∧ S.r T k ≤ u := by
  unfold el
  cases h : P T with
  | nil => simp
  | cons k l => simp
theorem zd1 {P : St} {u T : Nat} : S.sel P u T = true ↔ T < S.N ∧ S.el P u T = true ∧ ct (fun j => S.el P u j && decide (S.key P j < S.key P T)) S.N < S.M := zhy
theorem zeh {P : St} {u T : Nat} (h : S.sel P u T = true) : T < S.N := (zd1.1 h).1
theorem zjh {P : St} {u T : Nat} (h : S.sel P u T = true) : S.el P u T = true := (zd1.1 h).2.1
theorem zih {P : St} {u T : Nat} (h : S.sel P u T = true) : ∃ k l, P T = k :: l ∧ S.r T k ≤ u := zg2.1 (zjh h)
theorem srt_nxt {P : St} {u : Nat} (h : Srt P) : Srt (S.nxt P u) := by
  intro T
  unfold nxt
  split
  · exact (h T).sublist (List.tail_sublist _)
  · exact h T
theorem zga {Z : St} (h : Srt Z) : ∀ u, Srt (S.run Z u)
  | 0 => h
  | u + 1 => srt_nxt (zga h u)
theorem zgb {P : St} {u T k : Nat} (h : k ∈ S.nxt P u T) : k ∈ P T := by
  unfold nxt at h
  split at h
  · exact List.mem_of_mem_tail h
  · exact h
theorem zii {Z : St} {T k : Nat} {u v : Nat} (huv : u ≤ v) (h : k ∈ S.run Z v T) : k ∈ S.run Z u T := by
  induction v with
  | zero => obtain rfl : u = 0 := by omega
            exact h
  | succ v ih =>
    by_cases e : u = v + 1
    · subst e; exact h
    · exact ih (by omega) (zgb h)
theorem zd2 {P : St} {u T : Nat} (h : S.sel P u T = false) : S.nxt P u T = P T := by unfold nxt; simp [h]
theorem zek {P : St} {u T k : Nat} {l : List Nat} (h : S.sel P u T = true) (hp : P T = k :: l) : S.nxt P u T = l := by unfold nxt; simp [h, hp]
theorem head_not {P : St} (hs : Srt P) {T k : Nat} {l : List Nat} (h : P T = k :: l) : k ∉ l := by
  have := hs T
  rw [h, List.pairwise_cons] at this
  intro hk
  have := this.1 k hk
  omega
section
variable (G : Good S)
include G
theorem inj {P : St} {u i j : Nat} (hi : i < S.N) (hj : j < S.N) (h : S.key P i = S.key P j) : i = j := by
  by_cases e : i = j
  · exact e
  · exact absurd h (G.Kne i j hi hj e _ _)
theorem nsel_le (P : St) (u : Nat) : S.nsel P u ≤ S.M := ch_le G.M0 (fun i j hi hj _ _ h => inj G (u := u) hi hj h)
theorem zhi {T : Nat} (hT : T < S.N) (k : Nat) : S.d T k < S.d T (k + 1) := Go.Proofs.Ytnilnaabjpcfjaa.Pd2.d_lt G.L0 (G.WL T hT) (G.hd T hT) k
theorem r_inc {T : Nat} (hT : T < S.N) (k : Nat) : S.r T k < S.r T (k + 1) := Go.Proofs.Ytnilnaabjpcfjaa.Pd2.r_lt G.L0 (G.WL T hT) (G.hr T hT) k
theorem r_d {T : Nat} (hT : T < S.N) (k : Nat) : S.r T k < S.d T k := Go.Proofs.Ytnilnaabjpcfjaa.Pd2.r_lt_d G.L0 (G.hr T hT) (G.hd T hT) k
theorem over {T : Nat} (hT : T < S.N) (k : Nat) : S.d T k ≤ S.r T (k + 1) + 1 := Go.Proofs.Ytnilnaabjpcfjaa.Pd2.ov (G.hr T hT) (G.hd T hT) k
theorem K_inc {T : Nat} (hT : T < S.N) {k l : Nat} (h : k < l) : S.K T k < S.K T l := by
  by_cases e : S.K T k < S.K T l
  · exact e
  · have h1 := G.Kd T T hT hT l k (by omega)
    have h2 := zec (zhi G hT) h
    omega
omit G in
theorem full {P : St} {u T : Nat} (hT : T < S.N) (he : S.el P u T = true) (h : S.sel P u T = false) : S.M ≤ S.nsel P u := ch_full hT he h
omit G in
theorem zfw {P : St} {u T : Nat} (hh : S.nsel P u < S.M) (hT : T < S.N) (he : S.el P u T = true) : S.sel P u T = true := by
  cases h : S.sel P u T with
  | true => rfl
  | false => have := full hT he h; omega
omit G in
theorem zji {P P' : St} {u : Nat} (he : ∀ T, T < S.N → S.el P' u T = S.el P u T) (hk : ∀ T, T < S.N → S.el P u T = true → S.key P' T = S.key P T) (T : Nat) : S.sel P' u T = S.sel P u T := by
  have h1 : ∀ V, V < S.N → S.el P u V = true → ct (fun j => S.el P' u j && decide (S.key P' j < S.key P' V)) S.N = ct (fun j => S.el P u j && decide (S.key P j < S.key P V)) S.N := by
    intro V hV hVe
    apply ct_congr
    intro j hj
    rw [he j hj]
    cases hje : S.el P u j with
    | false => rfl
    | true => rw [hk j hj hje, hk V hV hVe]
  by_cases hs : S.sel P u T = true
  · rw [hs]
    have h2 := zd1.1 hs
    exact zd1.2 ⟨h2.1, by rw [he T h2.1]; exact h2.2.1, by rw [h1 T h2.1 h2.2.1]; exact h2.2.2⟩
  · have hs' : S.sel P u T = false := by simpa using hs
    rw [hs']
    by_cases hs2 : S.sel P' u T = true
    · have h2 := zd1.1 hs2
      have h3 : S.el P u T = true := by rw [← he T h2.1]; exact h2.2.1
      exact absurd (zd1.2 ⟨h2.1, h3, by rw [← h1 T h2.1 h3]; exact h2.2.2⟩) hs
    · simpa using hs2
theorem zhz {P P' : St} {u T c : Nat} (hs : Srt P) (hT : T < S.N) (h : Rm P P' T c) :
    (¬ (S.sel P u T = true ∧ ∃ l, P T = c :: l) ∧ Rm (S.nxt P u) (S.nxt P' u) T c) ∨
    (S.sel P u T = true ∧ (∃ l, P T = c :: l) ∧ ((∀ V, S.nxt P' u V = S.nxt P u V) ∨
      ∃ V y, V < S.N ∧ Rm (S.nxt P u) (S.nxt P' u) V y ∧ S.K T c < S.K V y ∧ S.r V y ≤ u ∧ (∃ l, S.nxt P u V = y :: l) ∧ (V ≠ T → S.el P u V = true ∧ S.sel P u V = false))) := by
  obtain ⟨hc, hPT, hPV⟩ := h
  have hkV : ∀ V, V ≠ T → S.key P' V = S.key P V := fun V hV => by unfold key; rw [hPV V hV]
  have heV : ∀ V, V ≠ T → S.el P' u V = S.el P u V := fun V hV => by unfold el; rw [hPV V hV]
  cases hP : P T with
  | nil => rw [hP] at hc; cases hc
  | cons k l =>
    by_cases hkc : k = c
    ·
      subst hkc
      have hl : P' T = l := by rw [hPT, hP]; simp
      cases hsel : S.sel P u T with
      | true =>
        right
        refine ⟨rfl, ⟨l, rfl⟩, ?_⟩
        have hT1 : S.nxt P u T = l := zek hsel hP
        have heT : S.el P u T = true := zjh hsel
        have hstay : ∀ V, V ≠ T → S.sel P u V = true → S.sel P' u V = true := by
          intro V hV hsV
          have h2 := zd1.1 hsV
          refine zd1.2 ⟨h2.1, by rw [heV V hV]; exact h2.2.1, Int.lt_of_le_of_lt (zf9 S.N (fun j hj hj2 => ?_)) h2.2.2⟩
          simp only [Bool.and_eq_true, decide_eq_true_eq] at hj2 ⊢
          rw [hkV V hV] at hj2
          by_cases hjT : j = T
          · subst hjT
            refine ⟨heT, ?_⟩
            have h3 : S.key P j < S.key P' j := by
              unfold key
              rw [hP, hl]
              cases l with
              | nil => have := hj2.1; unfold el at this; rw [hl] at this; cases this
              | cons y l2 =>
                have := hs j
                rw [hP, List.pairwise_cons] at this
                exact K_inc G hT (this.1 y (by simp))
            omega
          · rw [heV j hjT, hkV j hjT] at hj2
            exact hj2
        by_cases hex : ∃ V, V < S.N ∧ S.sel P' u V = true ∧ ¬ (V ≠ T ∧ S.sel P u V = true)
        · obtain ⟨V, hV, hsV, hnV⟩ := hex
          have hone : ∀ V2, V2 < S.N → V2 ≠ V → S.sel P' u V2 = true → V2 ≠ T ∧ S.sel P u V2 = true := by
            intro V2 hV2 hne hs2
            by_cases hd : V2 ≠ T ∧ S.sel P u V2 = true
            · exact hd
            · exfalso
              by_cases hh : S.nsel P u < S.M
              · have hall : ∀ X, X < S.N → S.sel P' u X = true → ¬ (X ≠ T ∧ S.sel P u X = true) → X = T := by
                  intro X hX hsX hnX
                  by_cases hXT : X = T
                  · exact hXT
                  · exact absurd ⟨hXT, zfw hh hX (by rw [← heV X hXT]; exact zjh hsX)⟩ hnX
                exact hne ((hall V2 hV2 hs2 hd).trans (hall V hV hsV hnV).symm)
              · have hM' := nsel_le G P' u
                unfold nsel ct at hM' hh
                rw [zeg _ S.N T hT] at hh
                rw [zeg _ S.N V hV, zeg _ S.N V2 hV2] at hM'
                simp only [hsel, hsV, hs2, if_neg hne] at hh hM'
                have hq : sm (fun k => if k = T then 0 else on (S.sel P u k)) S.N ≤ sm (fun k => if k = V2 then 0 else if k = V then 0 else on (S.sel P' u k)) S.N := by
                  apply zfg
                  intro j hj
                  show (if j = T then 0 else on (S.sel P u j)) ≤ (if j = V2 then 0 else if j = V then 0 else on (S.sel P' u j))
                  by_cases hjT : j = T
                  · rw [if_pos hjT]
                    split
                    · exact Int.le_refl _
                    · split
                      · exact Int.le_refl _
                      · exact zg1 _
                  · rw [if_neg hjT]
                    cases hsj : S.sel P u j with
                    | false =>
                      show (0 : Int) ≤ _
                      split
                      · exact Int.le_refl _
                      · split
                        · exact Int.le_refl _
                        · exact zg1 _
                    | true =>
                      rw [if_neg (fun e => hd (by subst e; exact ⟨hjT, hsj⟩)), if_neg (fun e => hnV (by subst e; exact ⟨hjT, hsj⟩)), hstay j hjT hsj]
                      exact Int.le_refl _
                have ho : on true = 1 := rfl
                rw [ho] at hh hM'
                omega
          have hrest : ∀ X, X ≠ V → X ≠ T → S.nxt P' u X = S.nxt P u X := by
            intro X hXV hXT
            have : S.sel P' u X = S.sel P u X := by
              cases h1 : S.sel P u X with
              | true => exact hstay X hXT h1
              | false =>
                cases h2 : S.sel P' u X with
                | false => rfl
                | true => have := (hone X (zeh h2) hXV h2).2; rw [h1] at this; cases this
            unfold nxt; rw [this, hPV X hXT]
          obtain ⟨y, l2, hy, hry⟩ := zih hsV
          right
          by_cases hVT : V = T
          · subst hVT
            rw [hl] at hy
            refine ⟨V, y, hV, ⟨?_, ?_, ?_⟩, ?_, hry, ⟨l2, by rw [hT1, hy]⟩, fun h => absurd rfl h⟩
            · rw [hT1, hy]; simp
            · rw [hT1, hy, zek hsV (by rw [hl, hy])]; simp
            · intro X hX; exact hrest X hX hX
            · have := hs V
              rw [hP, hy, List.pairwise_cons] at this
              exact K_inc G hT (this.1 y (by simp))
          · have hnsel : S.sel P u V = false := by
              cases h1 : S.sel P u V with
              | false => rfl
              | true => exact absurd ⟨hVT, h1⟩ hnV
            have heV2 : S.el P u V = true := by rw [← heV V hVT]; exact zjh hsV
            have hy2 : P V = y :: l2 := by rw [← hPV V hVT]; exact hy
            refine ⟨V, y, hV, ⟨?_, ?_, ?_⟩, ?_, hry, ⟨l2, by rw [zd2 hnsel, hy2]⟩, fun _ => ⟨heV2, hnsel⟩⟩
            · rw [zd2 hnsel, hy2]; simp
            · rw [zd2 hnsel, hy2, zek hsV hy]; simp
            · intro X hX
              by_cases hXT : X = T
              · subst hXT
                have hn : S.sel P' u X = false := by
                  cases h1 : S.sel P' u X with
                  | false => rfl
                  | true => exact absurd rfl (hone X hT hX h1).1
                rw [zd2 hn, hT1, hl]
              · exact hrest X hX hXT
            · have h3 : ¬ S.key P V < S.key P T := by
                intro h4
                have := zj6 hsel hV heV2 h4
                rw [show ch (S.el P u) (S.key P) S.N S.M V = S.sel P u V from rfl, hnsel] at this
                cases this
              have h4 := G.Kne T V hT hV (fun e => hVT e.symm) k y
              unfold key at h3
              rw [hy2, hP] at h3
              simp only [List.headD_cons] at h3
              omega
        · left
          intro V
          by_cases hVT : V = T
          · subst hVT
            have hn : S.sel P' u V = false := by
              cases h1 : S.sel P' u V with
              | false => rfl
              | true => exact absurd ⟨V, hT, h1, fun h => h.1 rfl⟩ hex
            rw [zd2 hn, hT1, hl]
          · have : S.sel P' u V = S.sel P u V := by
              cases h1 : S.sel P u V with
              | true => exact hstay V hVT h1
              | false =>
                cases h2 : S.sel P' u V with
                | false => rfl
                | true => exact absurd ⟨V, zeh h2, h2, fun h => by rw [h1] at h; cases h.2⟩ hex
            unfold nxt; rw [this, hPV V hVT]
      | false =>
        left
        refine ⟨fun h => by simp at h, ?_⟩
        have hnextK : S.el P' u T = true → S.key P T < S.key P' T := by
          intro he
          obtain ⟨y, l2, hy, hry⟩ := zg2.1 he
          unfold key
          rw [hP, hy]
          have := hs T
          rw [hP, ← hl, hy, List.pairwise_cons] at this
          exact K_inc G hT (this.1 y (by simp))
        have hnextE : S.el P' u T = true → S.el P u T = true := by
          intro he
          obtain ⟨y, l2, hy, hry⟩ := zg2.1 he
          refine zg2.2 ⟨k, l, hP, ?_⟩
          have h5 := hs T
          rw [hP, ← hl, hy, List.pairwise_cons] at h5
          have := zec (r_inc G hT) (h5.1 y (by simp))
          omega
        have hsame : ∀ V, S.sel P' u V = S.sel P u V := by
          cases heT : S.el P u T with
          | false =>
            have he' : S.el P' u T = false := by
              cases h1 : S.el P' u T with
              | false => rfl
              | true => have := hnextE h1; rw [heT] at this; cases this
            apply zji
            · intro V hV
              by_cases hVT : V = T
              · subst hVT; rw [he', heT]
              · exact heV V hVT
            · intro V hV he
              by_cases hVT : V = T
              · subst hVT; rw [heT] at he; cases he
              · exact hkV V hVT
          | true =>
            have hM := full hT heT hsel
            have hbef : ∀ V, S.sel P u V = true → V ≠ T ∧ S.key P V < S.key P T := by
              intro V hsV
              have hVT : V ≠ T := by rintro rfl; rw [hsel] at hsV; cases hsV
              refine ⟨hVT, ?_⟩
              by_cases h1 : S.key P V < S.key P T
              · exact h1
              · have h2 : S.key P V ≠ S.key P T := fun h => hVT (inj G (u := u) (zeh hsV) hT h)
                have := zj6 hsV hT heT (by omega)
                rw [show ch (S.el P u) (S.key P) S.N S.M T = S.sel P u T from rfl, hsel] at this
                cases this
            intro V
            cases hsV : S.sel P u V with
            | true =>
              obtain ⟨hVT, hlt⟩ := hbef V hsV
              have h2 := zd1.1 hsV
              refine zd1.2 ⟨h2.1, by rw [heV V hVT]; exact h2.2.1, Int.lt_of_le_of_lt (zf9 S.N (fun j hj hj2 => ?_)) h2.2.2⟩
              simp only [Bool.and_eq_true, decide_eq_true_eq] at hj2 ⊢
              rw [hkV V hVT] at hj2
              by_cases hjT : j = T
              · subst hjT
                have := hnextK hj2.1
                omega
              · rw [heV j hjT, hkV j hjT] at hj2
                exact hj2
            | false =>
              cases hsV' : S.sel P' u V with
              | false => rfl
              | true =>
                exfalso
                have h2 := zd1.1 hsV'
                have h3 : S.M ≤ ct (fun j => S.el P' u j && decide (S.key P' j < S.key P' V)) S.N := by
                  refine Int.le_trans hM (zf9 S.N (fun j hj hj2 => ?_))
                  obtain ⟨hjT, hlt⟩ := hbef j hj2
                  simp only [Bool.and_eq_true, decide_eq_true_eq]
                  rw [heV j hjT, hkV j hjT]
                  refine ⟨zjh hj2, ?_⟩
                  by_cases hVT : V = T
                  · subst hVT
                    have := hnextK h2.2.1
                    omega
                  · rw [hkV V hVT]
                    by_cases h4 : S.key P j < S.key P V
                    · exact h4
                    · have hjV : j ≠ V := by rintro rfl; rw [hsV] at hj2; cases hj2
                      have h5 : S.key P j ≠ S.key P V := fun h => hjV (inj G (u := u) hj h2.1 h)
                      have := zj6 hj2 h2.1 (by rw [← heV V hVT]; exact h2.2.1) (by omega)
                      rw [show ch (S.el P u) (S.key P) S.N S.M V = S.sel P u V from rfl, hsV] at this
                      cases this
                omega
        refine ⟨by rw [zd2 hsel]; exact hc, ?_, ?_⟩
        · rw [zd2 hsel, zd2 (by rw [hsame]; exact hsel)]; exact hPT
        · intro V hV
          unfold nxt
          rw [hsame, hPV V hV]
    ·
      left
      refine ⟨?_, ?_⟩
      · rintro ⟨_, l2, h2⟩
        injection h2 with h3 h4
        exact hkc h3
      · have hP' : P' T = k :: l.erase c := by
          rw [hPT, hP, List.erase_cons_tail]
          simpa using hkc
        have hcl : c ∈ l := by
          rw [hP] at hc
          rcases List.mem_cons.1 hc with h | h
          · exact absurd h.symm hkc
          · exact h
        have hsame : ∀ V, S.sel P' u V = S.sel P u V := by
          apply zji
          · intro V _
            by_cases hVT : V = T
            · subst hVT; unfold el; rw [hP', hP]
            · exact heV V hVT
          · intro V _ _
            by_cases hVT : V = T
            · subst hVT; unfold key; rw [hP', hP]; rfl
            · exact hkV V hVT
        refine ⟨?_, ?_, ?_⟩
        · unfold nxt; split
          · rw [hP]; exact hcl
          · exact hc
        · unfold nxt; rw [hsame]; split
          · rw [hP', hP]; rfl
          · exact hPT
        · intro V hV
          unfold nxt
          rw [hsame, hPV V hV]
end
end Sys
namespace Sys
variable {S : Sys}
def Nm (S : Sys) (Z : St) (u : Nat) : Prop := ∀ T, T < S.N → ∀ k, k ∈ S.run Z u T → u < S.d T k
theorem run_eq {Z Z' : St} {u v : Nat} (huv : u ≤ v) (h : ∀ T, S.run Z' u T = S.run Z u T) : ∀ T, S.run Z' v T = S.run Z v T := by
  induction v with
  | zero => obtain rfl : u = 0 := by omega
            exact h
  | succ v ih =>
    by_cases e : u = v + 1
    · subst e; exact h
    · have := funext (ih (by omega))
      intro T
      show S.nxt (S.run Z' v) v T = S.nxt (S.run Z v) v T
      rw [this]
section
variable (G : Good S) {Z : St} (hs : Srt Z)
include G hs
theorem chain {Z' : St} {T0 x : Nat} (hT0 : T0 < S.N) (h : Rm Z Z' T0 x) : ∀ u, (∀ V, S.run Z' u V = S.run Z u V) ∨
    ∃ T c, T < S.N ∧ Rm (S.run Z u) (S.run Z' u) T c ∧ S.K T0 x ≤ S.K T c ∧ (x ∈ S.run Z u T0 → T = T0 ∧ c = x) ∧ (x ∉ S.run Z u T0 → (∃ l, S.run Z u T = c :: l) ∧ S.r T c < u)
  | 0 => Or.inr ⟨T0, x, hT0, h, Int.le_refl _, fun _ => ⟨rfl, rfl⟩, fun hn => absurd h.1 hn⟩
  | u + 1 => by
    rcases chain hT0 h u with h1 | ⟨T, c, hT, hR, hK, hin, hout⟩
    · exact Or.inl (run_eq (Nat.le_succ u) h1)
    · have hsu := zga (S := S) hs u
      rcases zhz (u := u) G hsu hT hR with ⟨hns, hR2⟩ | ⟨hsel, ⟨l, hl⟩, h2⟩
      · right
        refine ⟨T, c, hT, hR2, hK, fun hx => hin (zgb hx), fun hx => ?_⟩
        by_cases hxu : x ∈ S.run Z u T0
        · obtain ⟨e1, e2⟩ := hin hxu
          subst e1; subst e2
          exact absurd hR2.1 hx
        · obtain ⟨⟨l, hl⟩, hr⟩ := hout hxu
          have hn : S.sel (S.run Z u) u T = false := by
            cases e : S.sel (S.run Z u) u T with
            | false => rfl
            | true => exact absurd ⟨e, l, hl⟩ hns
          exact ⟨⟨l, by rw [show S.run Z (u + 1) = S.nxt (S.run Z u) u from rfl, zd2 hn, hl]⟩, by omega⟩
      · rcases h2 with h2 | ⟨V, y, hV, hR2, hK2, hry, hy, hVT⟩
        · exact Or.inl h2
        · right
          refine ⟨V, y, hV, hR2, by omega, fun hx => ?_, fun _ => ⟨hy, by omega⟩⟩
          exfalso
          obtain ⟨e1, e2⟩ := hin (zgb hx)
          subst e1; subst e2
          have : S.run Z (u + 1) T = l := zek hsel hl
          rw [this] at hx
          exact head_not hsu hl hx
structure Mis (S : Sys) (Z : St) (td Tm m : Nat) : Prop where
  hTm : Tm < S.N
  hm : m ∈ S.run Z td Tm
  hmd : S.d Tm m ≤ td
  first : ∀ u, u < td → Nm S Z u
  less : ∀ T, T < S.N → ∀ x, x ∈ Z T → ∃ Z', Rm Z Z' T x ∧ Nm S Z' td
variable {td Tm m : Nat} (H : Mis S Z td Tm m)
include H
omit hs in
theorem hmd : S.d Tm m = td := by
  have h1 := H.hmd
  by_cases e : td = 0
  · have := r_d G H.hTm m; omega
  · have := H.first (td - 1) (by omega) Tm H.hTm m (zii (by omega) H.hm)
    omega
omit G hs in
theorem apart {Z' : St} (hN : Nm S Z' td) {u : Nat} (hu : u ≤ td) : ¬ (∀ V, S.run Z' u V = S.run Z u V) := by
  intro h
  have h1 := run_eq hu h Tm
  have h2 := H.hm
  rw [← h1] at h2
  have h3 := hN Tm H.hTm m h2
  have h4 := H.hmd
  omega
theorem all_d {T x : Nat} (hT : T < S.N) (hx : x ∈ Z T) : S.d T x ≤ td := by
  obtain ⟨Z', hR, hN⟩ := H.less T hT x hx
  rcases chain G hs hT hR td with h | ⟨V, c, hV, hR2, hK, _, _⟩
  · exact absurd h (apart H hN (Nat.le_refl _))
  · have hmn : m ∉ S.run Z' td Tm := fun h => by
      have h3 := hN Tm H.hTm m h
      have h4 := H.hmd
      omega
    have e1 : Tm = V := by
      by_cases e : Tm = V
      · exact e
      · exact absurd (by rw [hR2.2.2 Tm e]; exact H.hm) hmn
    subst e1
    have e2 : m = c := by
      by_cases e : m = c
      · exact e
      · rw [hR2.2.1] at hmn
        exact absurd ((List.mem_erase_of_ne e).2 H.hm) hmn
    subst e2
    have := G.Kd T Tm hT hV x m hK
    have := hmd G H
    omega
theorem hole {t T0 x : Nat} (ht : t < td) (hh : S.nsel (S.run Z t) t < S.M) (hT0 : T0 < S.N) (hx : x ∈ Z T0) (hxn : x ∉ S.run Z (t + 1) T0) :
    ∃ T c l, S.sel (S.run Z t) t T = true ∧ S.run Z t T = c :: (c + 1) :: l ∧ S.K T0 x ≤ S.K T c ∧ S.d T c = t + 1 ∧ S.b T c = true ∧ (x ∈ S.run Z t T0 → T = T0 ∧ c = x) := by
  obtain ⟨Z', hR, hN⟩ := H.less T0 hT0 x hx
  have hst := zga (S := S) hs t
  rcases chain G hs hT0 hR t with h | ⟨T, c, hT, hR2, hK, hin, hout⟩
  · exact absurd h (apart H hN (by omega))
  · rcases zhz (u := t) G hst hT hR2 with ⟨hns, hR3⟩ | ⟨hsel, ⟨l, hl⟩, h2⟩
    · exfalso
      by_cases hxt : x ∈ S.run Z t T0
      · obtain ⟨e1, e2⟩ := hin hxt
        subst e1; subst e2
        exact hxn hR3.1
      · obtain ⟨⟨l, hl⟩, hr⟩ := hout hxt
        exact hns ⟨zfw hh hT (zg2.2 ⟨c, l, hl, by omega⟩), l, hl⟩
    · rcases h2 with h2 | ⟨V, y, hV, hR3, hK2, hry, ⟨l2, hy⟩, hVT⟩
      · exact absurd h2 (apart (u := t + 1) H hN (by omega))
      · have e : V = T := by
          by_cases e : V = T
          · exact e
          · have h3 := hVT e
            have := zfw hh hV h3.1
            rw [h3.2] at this; cases this
        subst e
        rw [zek hsel hl] at hy
        have hcy : c < y := by
          have := hst V
          rw [hl, hy, List.pairwise_cons] at this
          exact this.1 y (by simp)
        have h1 := H.first t ht V hV c (by rw [hl]; simp)
        have h3 := over G hV c
        have h4 : y = c + 1 := by
          by_cases e : y = c + 1
          · exact e
          · have := zec (r_inc G hV) (show c + 1 < y by omega)
            omega
        subst h4
        exact ⟨V, c, l2, hsel, by rw [hl, hy], hK, by omega, (G.hb V hV c).2 (by omega), hin⟩
end
end Sys
def ls (g : Nat → Int) : List Nat → Int
  | [] => 0
  | k :: l => g k + ls g l
theorem ls_sm (g : Nat → Int) (B : Nat) : ∀ l : List Nat, l.Nodup → (∀ k ∈ l, k < B) → ls g l = sm (fun k => if k ∈ l then g k else 0) B
  | [], _, _ => by
    have : sm (fun k => if k ∈ ([] : List Nat) then g k else 0) B = sm (fun _ => 0) B := zdp B (fun k _ => by simp)
    rw [this, ze3]; rfl
  | a :: l, hn, hB => by
    have hn' := List.nodup_cons.1 hn
    have ih := ls_sm g B l hn'.2 (fun k hk => hB k (List.mem_cons_of_mem _ hk))
    rw [zeg _ B a (hB a (by simp))]
    simp only [List.mem_cons, true_or, if_true]
    have : sm (fun k => if k = a then 0 else if k = a ∨ k ∈ l then g k else 0) B = sm (fun k => if k ∈ l then g k else 0) B := zdp B (fun k _ => by
      show (if k = a then 0 else if k = a ∨ k ∈ l then g k else 0) = (if k ∈ l then g k else 0)
      by_cases h : k = a
      · subst h; rw [if_pos rfl, if_neg hn'.1]
      · rw [if_neg h]; simp [h])
    rw [this, ← ih]
    simp only [ls]; omega
theorem bounded : ∀ l : List Nat, ∃ B, ∀ k ∈ l, k < B
  | [] => ⟨0, by simp⟩
  | a :: l => by
    obtain ⟨B, h⟩ := bounded l
    refine ⟨B + a + 1, fun k hk => ?_⟩
    rcases List.mem_cons.1 hk with e | e
    · omega
    · have := h k e; omega
theorem ls_le_sm {g : Nat → Int} (h0 : ∀ k, 0 ≤ g k) (B : Nat) {l : List Nat} (hn : l.Nodup) (hB : ∀ k ∈ l, k < B) : ls g l ≤ sm g B := by
  rw [ls_sm g B l hn hB]
  apply zfg
  intro k _
  show (if k ∈ l then g k else 0) ≤ g k
  split
  · exact Int.le_refl _
  · exact h0 k
theorem ls_sub (f g : Nat → Int) : ∀ l, ls (fun k => f k - g k) l = ls f l - ls g l
  | [] => rfl
  | k :: l => by have := ls_sub f g l; simp only [ls]; omega
theorem zei (c : Int) {g : Nat → Int} : ∀ l : List Nat, (∀ k ∈ l, g k = c) → ls g l = c * (l.length : Int)
  | [], _ => by simp [ls]
  | k :: l, h => by
    have h1 := zei c l (fun k hk => h k (List.mem_cons_of_mem _ hk))
    have h2 := h k (by simp)
    simp only [ls, List.length_cons]
    rw [h1, h2, mulc]; omega
theorem ls_one {g : Nat → Int} {j : Nat} (h0 : 0 ≤ g j) : ∀ l : List Nat, l.Nodup → (∀ k ∈ l, k ≠ j → g k = 0) → ls g l ≤ g j
  | [], _, _ => h0
  | k :: l, hn, h => by
    have hn' := List.nodup_cons.1 hn
    simp only [ls]
    by_cases e : k = j
    · subst e
      have h1 := zei 0 (g := g) l (fun i hi => h i (List.mem_cons_of_mem _ hi) (by rintro rfl; exact hn'.1 hi))
      omega
    · have h1 := h k (by simp) e
      have h2 := ls_one h0 l hn'.2 (fun i hi => h i (List.mem_cons_of_mem _ hi))
      omega
theorem zij {l : List Nat} (h : l.Pairwise (· < ·)) : l.Nodup := h.imp (fun h => by omega)
theorem last {p : Nat → Prop} : ∀ n, p 0 → ¬ p n → ∃ t, t < n ∧ p t ∧ ∀ u, t < u → u ≤ n → ¬ p u
  | 0, h0, hn => absurd h0 hn
  | n + 1, h0, hn => by
    by_cases h : p n
    · exact ⟨n, by omega, h, fun u h1 h2 => by obtain rfl : u = n + 1 := by omega
                                               exact hn⟩
    · obtain ⟨t, h1, h2, h3⟩ := last n h0 h
      refine ⟨t, by omega, h2, fun u h4 h5 => ?_⟩
      by_cases e : u = n + 1
      · subst e; exact hn
      · exact h3 u h4 (by omega)
namespace Sys
variable {S : Sys}
def lag (S : Sys) (Z : St) (u : Nat) : Int := sm (fun T => ls (fun k => fl S.L (S.W T) k u) (Z T) - S.L * (((Z T).length : Int) - ((S.run Z u T).length : Int))) S.N
def idl (S : Sys) (Z : St) (u T : Nat) : Int := ls (fun k => sh S.L (S.W T) k u) (Z T)
section
variable (G : Good S) {Z : St} (hs : Srt Z)
theorem len_step (u T : Nat) : ((S.run Z (u + 1) T).length : Int) = ((S.run Z u T).length : Int) - on (S.sel (S.run Z u) u T) := by
  show ((S.nxt (S.run Z u) u T).length : Int) = _
  cases e : S.sel (S.run Z u) u T with
  | false => rw [zd2 e]; simp [on]
  | true =>
    obtain ⟨k, l, hp, _⟩ := zih e
    rw [zek e hp, hp]; simp [on]
theorem zgj (u : Nat) : lag S Z (u + 1) = lag S Z u + sm (idl S Z u) S.N - S.L * S.nsel (S.run Z u) u := by
  have h1 : lag S Z (u + 1) = sm (fun T => (ls (fun k => fl S.L (S.W T) k u) (Z T) - S.L * (((Z T).length : Int) - ((S.run Z u T).length : Int))) + (idl S Z u T - S.L * on (S.sel (S.run Z u) u T))) S.N := by
    apply zdp
    intro T hT
    show ls (fun k => fl S.L (S.W T) k (u + 1)) (Z T) - S.L * (((Z T).length : Int) - ((S.run Z (u + 1) T).length : Int)) = _
    rw [len_step u T]
    have h2 : idl S Z u T = ls (fun k => fl S.L (S.W T) k (u + 1)) (Z T) - ls (fun k => fl S.L (S.W T) k u) (Z T) := ls_sub _ _ _
    rw [h2]
    have h3 : S.L * (((Z T).length : Int) - (((S.run Z u T).length : Int) - on (S.sel (S.run Z u) u T))) = S.L * (((Z T).length : Int) - ((S.run Z u T).length : Int)) + S.L * on (S.sel (S.run Z u) u T) := by
      rw [← Int.mul_add]; congr 1; omega
    rw [h3]; omega
  rw [h1, zhw, zje (idl S Z u), zhx]
  unfold lag nsel ct
  omega
include G
theorem lag_start : lag S Z 0 = 0 := by
  have h1 : lag S Z 0 = sm (fun _ => 0) S.N := by
    apply zdp
    intro T hT
    show ls (fun k => fl S.L (S.W T) k 0) (Z T) - S.L * (((Z T).length : Int) - ((Z T).length : Int)) = 0
    rw [zei 0 (Z T) (fun k _ => fl_start G.L0 k)]
    simp
  rw [h1, ze3]
theorem zjj {T : Nat} (hT : T < S.N) (u : Nat) {l : List Nat} (hn : l.Nodup) : ls (fun k => sh S.L (S.W T) k u) l ≤ S.W T := by
  obtain ⟨B, hB⟩ := bounded l
  exact Int.le_trans (ls_le_sm (fun k => zjg (G.W0 T hT) k u) B hn hB) (sh_sum G.L0 (G.W0 T hT) u B)
theorem b_two {T : Nat} (hT : T < S.N) {k : Nat} (hb : S.b T k = true) : S.r T k + 2 ≤ S.d T k := by
  have h1 := (G.hb T hT k).1 hb
  have h2 := r_inc G hT k
  omega
include hs
theorem idl_le {T : Nat} (hT : T < S.N) (u : Nat) : idl S Z u T ≤ S.W T := zjj G hT u (zij (hs T))
theorem idl_less {T : Nat} (hT : T < S.N) (u : Nat) {j : Nat} (hj : j ∉ Z T) : idl S Z u T + sh S.L (S.W T) j u ≤ S.W T := by
  have := zjj G hT u (l := j :: Z T) (List.nodup_cons.2 ⟨hj, zij (hs T)⟩)
  simp only [ls] at this
  unfold idl
  omega
omit hs in
theorem idl_zero {T : Nat} (hT : T < S.N) (u : Nat) (h : ∀ k ∈ Z T, ¬ (S.r T k ≤ u ∧ u < S.d T k)) : idl S Z u T = 0 := by
  have h1 := zei 0 (g := fun k => sh S.L (S.W T) k u) (Z T) (fun k hk => sh_zero G.L0 (G.W0 T hT) (G.hr T hT) (G.hd T hT) k u (h k hk))
  rw [Int.zero_mul] at h1
  exact h1
theorem idl_one {T : Nat} (hT : T < S.N) (u j : Nat) (h : ∀ k ∈ Z T, k ≠ j → ¬ (S.r T k ≤ u ∧ u < S.d T k)) : idl S Z u T ≤ sh S.L (S.W T) j u :=
  ls_one (g := fun k => sh S.L (S.W T) k u) (j := j) (zjg (G.W0 T hT) j u) (Z T) (zij (hs T)) (fun k hk hkj => sh_zero G.L0 (G.W0 T hT) (G.hr T hT) (G.hd T hT) k u (h k hk hkj))
end
end Sys
namespace Sys
variable {S : Sys}
section
variable (G : Good S) {Z : St} (hs : Srt Z) {td Tm m : Nat} (H : Mis S Z td Tm m)
include G hs H
theorem zgk {t T : Nat} (ht : t < td) (hh : S.nsel (S.run Z t) t < S.M) (hsel : S.sel (S.run Z t) t T = true) :
    ∃ c l, S.run Z t T = c :: (c + 1) :: l ∧ S.d T c = t + 1 ∧ S.b T c = true := by
  obtain ⟨c, l, hc, hrc⟩ := zih hsel
  have hst := zga (S := S) hs t
  have hn : c ∉ S.run Z (t + 1) T := by
    rw [show S.run Z (t + 1) T = l from zek hsel hc]
    exact head_not hst hc
  obtain ⟨T2, c2, l2, h1, h2, h3, h4, h5, h6⟩ := hole G hs H ht hh (zeh hsel) (zii (by omega : 0 ≤ t) (by rw [hc]; simp)) hn
  obtain ⟨e1, e2⟩ := h6 (by rw [hc]; simp)
  subst e1; subst e2
  exact ⟨c2, l2, h2, h4, h5⟩
theorem ze4 {t T x : Nat} (hh : S.nsel (S.run Z t) t < S.M) (hT : T < S.N) (hn : S.sel (S.run Z t) t T = false) (hr : S.r T x ≤ t) : x ∉ S.run Z t T := by
  intro hx
  have hst := zga (S := S) hs t
  cases hp : S.run Z t T with
  | nil => rw [hp] at hx; cases hx
  | cons k l =>
    have hk : S.r T k ≤ t := by
      rw [hp] at hx
      rcases List.mem_cons.1 hx with e | e
      · subst e; exact hr
      · have h1 := hst T
        rw [hp, List.pairwise_cons] at h1
        have := zec (r_inc G hT) (h1.1 x e)
        omega
    have := zfw hh hT (zg2.2 ⟨k, l, hp, hk⟩)
    rw [hn] at this; cases this
def Pn (S : Sys) (Z : St) (td t n : Nat) (i : Nat → Nat) : Prop :=
  t + n < td ∧ S.nsel (S.run Z (t + n)) (t + n) < S.M ∧ (∀ T, S.sel (S.run Z (t + n)) (t + n) T = S.sel (S.run Z t) t T) ∧
    ∀ T, S.sel (S.run Z t) t T = true → (∃ l, S.run Z (t + n) T = (i T + n) :: (i T + n + 1) :: l) ∧ S.d T (i T + n) = t + n + 1 ∧ S.b T (i T + n) = true
variable {t : Nat} {i : Nat → Nat}
theorem idl_other {n : Nat} (ht : t < td) (hh : S.nsel (S.run Z t) t < S.M) (hP : ∀ n', n' ≤ n → Pn S Z td t n' i) {n' : Nat} (h0 : 0 < n') (hn : n' ≤ n) {T : Nat} (hT : T < S.N) (hA : S.sel (S.run Z t) t T = false) : idl S Z (t + n') T = 0 := by
  apply idl_zero G hT
  rintro k hk ⟨h1, h2⟩
  obtain ⟨p1, p2, p3, p4⟩ := hP n' hn
  have h3 := ze4 G hs H p2 hT (by rw [p3]; exact hA) h1
  have h3' : k ∉ S.run Z (t + n' + 1) T := fun h => h3 (zgb h)
  obtain ⟨T2, c2, l2, a1, a2, a3, a4, a5, a6⟩ := hole G hs H p1 p2 hT hk h3'
  have h4 := G.Kd T T2 hT (zeh a1) k c2 a3
  have h5 : k ∉ S.run Z (t + 1) T := by
    intro h6
    have h7 : ∀ q, 1 ≤ q → q ≤ n' → k ∈ S.run Z (t + q) T := by
      intro q
      induction q with
      | zero => intro h; omega
      | succ q ih =>
        intro _ hq
        by_cases e : q = 0
        · subst e; exact h6
        · have h8 := ih (by omega) (by omega)
          have h9 := (hP q (by omega)).2.2.1 T
          rw [hA] at h9
          rw [show S.run Z (t + (q + 1)) T = S.nxt (S.run Z (t + q)) (t + q) T from rfl, zd2 h9]
          exact h8
    exact h3 (h7 n' h0 (Nat.le_refl _))
  obtain ⟨T3, c3, l3, b1, b2, b3, b4, b5, b6⟩ := hole G hs H ht hh hT hk h5
  have h10 := G.Kd T T3 hT (zeh b1) k c3 b3
  omega
omit hs H in
theorem D_far {T : Nat} (hT : T < S.N) (hw : S.L ≤ 2 * S.W T) {k n t : Nat} (h : ∀ n', n' ≤ n → S.d T (k + n') = t + n' + 1 ∧ S.b T (k + n') = true) : (t : Int) + n + 2 ≤ S.D T k := by
  obtain ⟨j, hj, _, h2⟩ := G.Dh T hT hw k
  have hrk : ∀ n', n' ≤ n → S.r T (k + n' + 1) = t + n' := by
    intro n' hn'
    have h3 := h n' hn'
    have h4 := (G.hb T hT (k + n')).1 h3.2
    omega
  have h5 : k + n < j := by
    by_cases e : k + n < j
    · exact e
    · exfalso
      obtain ⟨q, rfl⟩ : ∃ q, j = k + q := ⟨j - k, by omega⟩
      have h6 := h q (by omega)
      rcases h2 with ⟨a1, a2, a3⟩ | ⟨a1, a2, a3⟩
      · obtain ⟨q', rfl⟩ : ∃ q', q = q' + 1 := ⟨q - 1, by omega⟩
        have h7 := hrk q' (by omega)
        rw [show k + (q' + 1) = k + q' + 1 by omega] at a2 h6
        omega
      · rw [h6.2] at a2; cases a2
  have h6 : t + n + 1 < S.d T (k + n + 1) := by
    have h7 := zhi G hT (k + n)
    have := (h n (Nat.le_refl _)).1
    omega
  by_cases e : j = k + n + 1
  · subst e
    have h7 := hrk n (Nat.le_refl _)
    rcases h2 with ⟨a1, a2, a3⟩ | ⟨a1, a2, a3⟩ <;> omega
  · have h7 := zec (zhi G hT) (show k + n + 1 < j by omega)
    rcases h2 with ⟨a1, a2, a3⟩ | ⟨a1, a2, a3⟩ <;> omega
omit hs H in
theorem D_near {T : Nat} (hT : T < S.N) {k n t : Nat} (hd : S.d T k = t + 1) (hb : S.b T k = true) (hD : (t : Int) + n + 2 ≤ S.D T k) : ∀ n', n' ≤ n → S.d T (k + n') = t + n' + 1 ∧ S.b T (k + n') = true := by
  have hw : S.L ≤ 2 * S.W T := by
    by_cases e : S.L ≤ 2 * S.W T
    · exact e
    · have := G.Dl T hT (by omega) k; omega
  obtain ⟨j, hj, h1, h2⟩ := G.Dh T hT hw k
  intro n'
  induction n' with
  | zero => intro _; exact ⟨hd, hb⟩
  | succ q ih =>
    intro hq
    obtain ⟨e1, e2⟩ := ih (by omega)
    have h3 := (G.hb T hT (k + q)).1 e2
    have h4 := r_inc G hT (k + q + 1)
    have h5 := zhi G hT (k + q)
    have h6 := heavy_len (G.hr T hT) (G.hd T hT) (k + q + 1) hw
    have hne : j ≠ k + q + 1 := by
      rintro rfl
      rcases h2 with ⟨a1, a2, a3⟩ | ⟨a1, a2, a3⟩
      · omega
      · have : S.d T (k + q + 1) < S.r T (k + q + 1) + 3 := by
          by_cases e : S.d T (k + q + 1) < S.r T (k + q + 1) + 3
          · exact e
          · exact absurd ⟨by omega, by omega⟩ a1
        omega
    have hlt : k + q + 1 < j := by
      by_cases e : k + q + 1 < j
      · exact e
      · exfalso
        obtain ⟨q2, rfl⟩ : ∃ q2, j = k + q2 := ⟨j - k, by omega⟩
        rcases h2 with ⟨a1, a2, a3⟩ | ⟨a1, a2, a3⟩
        · have h7 := zec (zhi G hT) (show k + q2 < k + q + 1 by omega)
          have h8 : S.d T (k + q2) ≤ S.d T (k + q) := by
            by_cases e3 : q2 = q
            · subst e3; exact Nat.le_refl _
            · exact Nat.le_of_lt (zec (zhi G hT) (by omega))
          omega
        · have h8 : S.d T (k + q2) ≤ S.d T (k + q) := by
            by_cases e3 : q2 = q
            · subst e3; exact Nat.le_refl _
            · exact Nat.le_of_lt (zec (zhi G hT) (by omega))
          omega
    have h9 := h1 (k + q + 1) (by omega) hlt
    have h10 := h9.2 (by omega)
    rw [show k + (q + 1) = k + q + 1 by omega]
    exact ⟨by omega, h9.1⟩
theorem next_hole {n : Nat} (hl : lag S Z t < S.L) (hl2 : ∀ u, t < u → u ≤ td → S.L ≤ lag S Z u) (ht : t < td) (hh : S.nsel (S.run Z t) t < S.M) (hP : ∀ n', n' ≤ n → Pn S Z td t n' i) (htn : t + n + 1 < td) : S.nsel (S.run Z (t + n + 1)) (t + n + 1) < S.M := by
  by_cases hfull : S.nsel (S.run Z (t + n + 1)) (t + n + 1) < S.M
  · exact hfull
  exfalso
  have hL0 := G.L0
  have hcnt : ∀ q, q ≤ n → lag S Z (t + q + 1) ≤ lag S Z t + sm (fun T => if S.sel (S.run Z t) t T = true then 0 else idl S Z t T) S.N := by
    intro q
    induction q with
    | zero =>
      intro _
      have h1 : lag S Z (t + 1) = lag S Z t + sm (idl S Z t) S.N - S.L * S.nsel (S.run Z t) t := zgj t
      have h2 : sm (idl S Z t) S.N ≤ sm (fun T => (if S.sel (S.run Z t) t T = true then 0 else idl S Z t T) + S.L * on (S.sel (S.run Z t) t T)) S.N := by
        apply zfg
        intro T hT
        show idl S Z t T ≤ (if S.sel (S.run Z t) t T = true then 0 else idl S Z t T) + S.L * on (S.sel (S.run Z t) t T)
        cases e : S.sel (S.run Z t) t T with
        | true =>
          have h3 := idl_le G hs hT t
          have h4 := G.WL T hT
          simp [on]; omega
        | false => simp [on]
      rw [zhw, zhx] at h2
      unfold nsel ct at h1
      show lag S Z (t + 1) ≤ _
      omega
    | succ q ih =>
      intro hq
      have h0 := ih (by omega)
      obtain ⟨p1, p2, p3, p4⟩ := hP (q + 1) hq
      have h1 : lag S Z (t + (q + 1) + 1) = lag S Z (t + (q + 1)) + sm (idl S Z (t + (q + 1))) S.N - S.L * S.nsel (S.run Z (t + (q + 1))) (t + (q + 1)) := zgj _
      have h2 : sm (idl S Z (t + (q + 1))) S.N ≤ sm (fun T => S.L * on (S.sel (S.run Z (t + (q + 1))) (t + (q + 1)) T)) S.N := by
        apply zfg
        intro T hT
        show idl S Z (t + (q + 1)) T ≤ S.L * on (S.sel (S.run Z (t + (q + 1))) (t + (q + 1)) T)
        rw [p3]
        cases e : S.sel (S.run Z t) t T with
        | true =>
          have h3 := idl_le G hs hT (t + (q + 1))
          have h4 := G.WL T hT
          simp [on]; omega
        | false => rw [idl_other G hs H ht hh hP (by omega) hq hT e]; simp [on]
      rw [zhx] at h2
      unfold nsel ct at h1
      rw [show t + (q + 1) = t + q + 1 by omega] at *
      omega
  have h1 : lag S Z (t + n + 1 + 1) = lag S Z (t + n + 1) + sm (idl S Z (t + n + 1)) S.N - S.L * S.nsel (S.run Z (t + n + 1)) (t + n + 1) := zgj _
  have h2 := hcnt n (Nat.le_refl _)
  have h3 := hl2 (t + n + 1 + 1) (by omega) (by omega)
  have h4 : S.L * S.M ≤ S.L * S.nsel (S.run Z (t + n + 1)) (t + n + 1) := Int.mul_le_mul_of_nonneg_left (by omega) (by omega)
  have h5 : sm (idl S Z (t + n + 1)) S.N ≤ sm (fun T => S.W T - (if S.sel (S.run Z t) t T = true then 0 else idl S Z t T)) S.N := by
    apply zfg
    intro T hT
    show idl S Z (t + n + 1) T ≤ S.W T - (if S.sel (S.run Z t) t T = true then 0 else idl S Z t T)
    have h6 := idl_le G hs hT (t + n + 1)
    cases hA : S.sel (S.run Z t) t T with
    | true => simp; exact h6
    | false =>
      simp only [Bool.false_eq_true, if_false]
      have hone : ∀ k ∈ Z T, S.r T k ≤ t → t < S.d T k → S.d T k = t + 1 ∧ S.b T k = true ∧ ∃ T2 c, S.sel (S.run Z t) t T2 = true ∧ (∃ l, S.run Z t T2 = c :: l) ∧ S.D T2 c ≤ S.D T k := by
        intro k hk hr1 hr2
        have e1 := ze4 G hs H hh hT hA hr1
        obtain ⟨T2, c, l, a1, a2, a3, a4, a5, a6⟩ := hole G hs H ht hh hT hk (fun h => e1 (zgb h))
        have e2 := G.Kd T T2 hT (zeh a1) k c a3
        have e3 : S.d T k = S.d T2 c := by omega
        have e4 := G.Kb T T2 hT (zeh a1) k c a3 e3 a5
        exact ⟨by omega, e4.1, T2, c, a1, ⟨_, a2⟩, e4.2⟩
      by_cases hB : ∃ k, k ∈ Z T ∧ S.r T k ≤ t ∧ t < S.d T k
      · obtain ⟨j, hj, hj1, hj2⟩ := hB
        obtain ⟨e1, e2, T2, c, a1, ⟨l, a2⟩, a3⟩ := hone j hj hj1 hj2
        have hle : idl S Z t T ≤ sh S.L (S.W T) j t := by
          apply idl_one G hs hT
          rintro k hk hkj ⟨q1, q2⟩
          have := (hone k hk q1 q2).1
          exact hkj (st_inj (zhi G hT) (by omega))
        have hi : c = i T2 := by
          obtain ⟨⟨l3, g1⟩, _⟩ := (hP 0 (by omega)).2.2.2 T2 a1
          rw [show t + 0 = t by omega, a2] at g1
          injection g1 with g2 _
        have hfar : ∀ n', n' ≤ n → S.d T2 (c + n') = t + n' + 1 ∧ S.b T2 (c + n') = true := by
          intro n' hn'
          rw [hi]
          exact ((hP n' hn').2.2.2 T2 a1).2
        have hchain : ∀ n', n' ≤ n → S.d T (j + n') = t + n' + 1 ∧ S.b T (j + n') = true := by
          by_cases en : n = 0
          · subst en
            intro n' hn'
            obtain rfl : n' = 0 := by omega
            exact ⟨e1, e2⟩
          · have hT2 := zeh a1
            have hw : S.L ≤ 2 * S.W T2 := by
              have g1 := hfar 0 (by omega)
              have g2 := hfar 1 (by omega)
              have g3 := (G.hb T2 hT2 (c + 0)).1 g1.2
              exact heavy_of G.L0 (G.hr T2 hT2) (G.hd T2 hT2) (c + 1) (by rw [show c + 0 + 1 = c + 1 by omega] at g3; omega)
            have hD := D_far G hT2 hw hfar
            exact D_near G hT e1 e2 (by omega)
        have hlast := hchain n (Nat.le_refl _)
        have hrl : S.r T (j + n + 1) = t + n := by
          have := (G.hb T hT (j + n)).1 hlast.2
          omega
        have hdl : t + n + 1 < S.d T (j + n + 1) := by have := zhi G hT (j + n); omega
        have hnot : j + n + 1 ∉ Z T := by
          intro hin
          obtain ⟨p1, p2, p3, p4⟩ := hP n (Nat.le_refl _)
          have g1 := ze4 G hs H p2 hT (by rw [p3]; exact hA) (show S.r T (j + n + 1) ≤ t + n by omega)
          obtain ⟨T3, c3, l3, b1, b2, b3, b4, b5, b6⟩ := hole G hs H p1 p2 hT hin (fun h => g1 (zgb h))
          have := G.Kd T T3 hT (zeh b1) _ c3 b3
          omega
        have g1 := idl_less G hs hT (t + n + 1) hnot
        have g2 := sh_after G.L0 (G.W0 T hT) (G.WL T hT) (G.hr T hT) (G.hd T hT) j n t e1 (by omega) hdl
        omega
      · have : idl S Z t T = 0 := idl_zero G hT t (fun k hk h => hB ⟨k, hk, h.1, h.2⟩)
        omega
  rw [zje S.W] at h5
  have h6 := G.U
  rw [Int.mul_comm] at h6
  omega
end
end Sys
namespace Sys
variable {S : Sys}
section
variable (G : Good S) {Z : St} (hs : Srt Z)
include G hs
theorem no_mis {td Tm m : Nat} (H : Mis S Z td Tm m) : False := by
  have hL0 := G.L0
  have hend : ¬ lag S Z td < S.L := by
    have h1 : sm (fun T => S.L * ((S.run Z td T).length : Int)) S.N ≤ lag S Z td := by
      apply zfg
      intro T hT
      show S.L * ((S.run Z td T).length : Int) ≤ ls (fun k => fl S.L (S.W T) k td) (Z T) - S.L * (((Z T).length : Int) - ((S.run Z td T).length : Int))
      rw [zei S.L (g := fun k => fl S.L (S.W T) k td) (Z T) (fun k hk => fl_end G.L0 (G.hd T hT) k td (all_d G hs H hT hk)), Int.mul_sub]
      omega
    have h2 := zjf (f := fun T => S.L * ((S.run Z td T).length : Int)) S.N Tm H.hTm (fun k _ => Int.mul_nonneg (by omega) (by omega))
    have h3 : 1 ≤ (S.run Z td Tm).length := List.length_pos_of_mem H.hm
    have h4 : S.L * 1 ≤ S.L * ((S.run Z td Tm).length : Int) := Int.mul_le_mul_of_nonneg_left (by omega) (by omega)
    have h5 : S.L * ((S.run Z td Tm).length : Int) ≤ sm (fun T => S.L * ((S.run Z td T).length : Int)) S.N := h2
    omega
  obtain ⟨t, ht, hl, hl2⟩ := last (p := fun u => lag S Z u < S.L) td (by show lag S Z 0 < S.L; rw [lag_start G]; omega) hend
  have hl3 : ∀ u, t < u → u ≤ td → S.L ≤ lag S Z u := fun u h1 h2 => by have := hl2 u h1 h2; omega
  have hh : S.nsel (S.run Z t) t < S.M := by
    by_cases e : S.nsel (S.run Z t) t < S.M
    · exact e
    · exfalso
      have h1 : lag S Z (t + 1) = lag S Z t + sm (idl S Z t) S.N - S.L * S.nsel (S.run Z t) t := zgj t
      have h2 : sm (idl S Z t) S.N ≤ sm S.W S.N := zfg S.N (fun T hT => idl_le G hs hT t)
      have h3 := G.U
      have h4 : S.L * S.M ≤ S.L * S.nsel (S.run Z t) t := Int.mul_le_mul_of_nonneg_left (by omega) (by omega)
      have h5 := hl3 (t + 1) (by omega) (by omega)
      rw [Int.mul_comm] at h3
      omega
  have hall : ∀ n, Pn S Z td t n (fun T => (S.run Z t T).headD 0) := by
    intro n
    induction n using Nat.strongRecOn with
    | ind n ih =>
      cases n with
      | zero =>
        refine ⟨ht, hh, fun T => rfl, fun T hT => ?_⟩
        obtain ⟨c, l, h1, h2, h3⟩ := zgk G hs H ht hh hT
        show (∃ l, S.run Z t T = ((S.run Z t T).headD 0 + 0) :: ((S.run Z t T).headD 0 + 0 + 1) :: l) ∧ S.d T ((S.run Z t T).headD 0 + 0) = t + 0 + 1 ∧ S.b T ((S.run Z t T).headD 0 + 0) = true
        rw [h1]
        exact ⟨⟨l, rfl⟩, h2, h3⟩
      | succ n =>
        have hP : ∀ n', n' ≤ n → Pn S Z td t n' (fun T => (S.run Z t T).headD 0) := fun n' h => ih n' (by omega)
        obtain ⟨p1, p2, p3, p4⟩ := hP n (Nat.le_refl _)
        have hmd := hmd G H
        have htn : t + n + 1 < td := by
          by_cases e : t + n + 1 < td
          · exact e
          · exfalso
            have e2 : td = t + n + 1 := by omega
            have h1 := r_d G H.hTm m
            have hm2 : m ∈ S.run Z (t + n) Tm := zii (by omega) H.hm
            cases hsel : S.sel (S.run Z (t + n)) (t + n) Tm with
            | false => exact ze4 G hs H p2 H.hTm hsel (by omega) hm2
            | true =>
              obtain ⟨c, l, h2, h3, h4⟩ := zgk G hs H p1 p2 hsel
              have h5 := H.hm
              rw [e2, show S.run Z (t + n + 1) Tm = (c + 1) :: l from zek hsel h2] at h5
              have h6 := zga (S := S) hs (t + n) Tm
              rw [h2, List.pairwise_cons] at h6
              have h7 := zec (zhi G H.hTm) (h6.1 m h5)
              omega
        have hh2 := next_hole G hs H hl hl3 ht hh hP htn
        have hold : ∀ T, S.sel (S.run Z t) t T = true → ∃ l, S.run Z (t + n + 1) T = ((S.run Z t T).headD 0 + n + 1) :: l ∧ S.r T ((S.run Z t T).headD 0 + n + 1) = t + n := by
          intro T hT
          obtain ⟨⟨l, h1⟩, h2, h3⟩ := p4 T hT
          have h4 := (G.hb T (zeh hT) ((S.run Z t T).headD 0 + n)).1 h3
          have h5 : S.d T ((S.run Z t T).headD 0 + n) = t + n + 1 := h2
          exact ⟨l, zek (by rw [p3]; exact hT) h1, by omega⟩
        have hsame : ∀ T, S.sel (S.run Z (t + n + 1)) (t + n + 1) T = S.sel (S.run Z t) t T := by
          intro T
          cases hA : S.sel (S.run Z t) t T with
          | true =>
            obtain ⟨l, h1, h2⟩ := hold T hA
            exact zfw hh2 (zeh hA) (zg2.2 ⟨_, l, h1, by omega⟩)
          | false =>
            cases hV : S.sel (S.run Z (t + n + 1)) (t + n + 1) T with
            | false => rfl
            | true =>
              exfalso
              obtain ⟨c, l, h1, h2, h3⟩ := zgk G hs H htn hh2 hV
              have h4 := b_two G (zeh hV) h3
              have h5 : S.sel (S.run Z (t + n)) (t + n) T = false := by rw [p3]; exact hA
              exact ze4 G hs H p2 (zeh hV) h5 (show S.r T c ≤ t + n by omega) (zii (by omega : t + n ≤ t + n + 1) (by rw [h1]; simp))
        refine ⟨htn, hh2, hsame, fun T hT => ?_⟩
        obtain ⟨l, h1, h2⟩ := hold T hT
        obtain ⟨c, l2, h3, h4, h5⟩ := zgk G hs H htn hh2 (by rw [hsame]; exact hT)
        rw [h1] at h3
        injection h3 with e1 e2
        refine ⟨⟨l2, ?_⟩, ?_, ?_⟩
        · show S.run Z (t + n + 1) T = _
          rw [h1, e2, ← e1]; rfl
        · show S.d T ((S.run Z t T).headD 0 + n + 1) = _
          rw [e1, h4]; omega
        · show S.b T ((S.run Z t T).headD 0 + n + 1) = true
          rw [e1]; exact h5
  have := (hall td).1
  omega
end
def size (S : Sys) (Z : St) : Int := sm (fun T => ((Z T).length : Int)) S.N
theorem size_rm {Z Z' : St} {T c : Nat} (hT : T < S.N) (h : Rm Z Z' T c) : size S Z' + 1 = size S Z := by
  unfold size
  rw [zeg (fun T => ((Z T).length : Int)) S.N T hT, zeg (fun T => ((Z' T).length : Int)) S.N T hT]
  have h1 : sm (fun k => if k = T then 0 else ((Z' k).length : Int)) S.N = sm (fun k => if k = T then 0 else ((Z k).length : Int)) S.N := by
    apply zdp
    intro k _
    show (if k = T then 0 else ((Z' k).length : Int)) = (if k = T then 0 else ((Z k).length : Int))
    by_cases e : k = T
    · rw [if_pos e, if_pos e]
    · rw [if_neg e, if_neg e, h.2.2 k e]
  have h2 := List.length_erase_of_mem h.1
  have h3 := List.length_pos_of_mem h.1
  rw [h1, h.2.1, h2]
  show _ + ((((Z T).length - 1 : Nat)) : Int) + 1 = _ + ((Z T).length : Int)
  omega
theorem zg3 (G : Good S) : ∀ (n : Nat) (Z : St), Srt Z → size S Z ≤ n → ∀ u, Nm S Z u
  | n, Z, hs, hn, u => by
    induction u using Nat.strongRecOn with
    | ind td ihu =>
      intro T hT k hk
      by_cases e : td < S.d T k
      · exact e
      · exfalso
        refine no_mis G hs (td := td) (Tm := T) (m := k) ⟨hT, hk, by omega, fun u hu => ihu u hu, fun T2 hT2 x hx => ?_⟩
        have hR : Rm Z (fun V => if V = T2 then (Z V).erase x else Z V) T2 x := ⟨hx, if_pos rfl, fun V hV => if_neg hV⟩
        refine ⟨_, hR, ?_⟩
        have h1 := size_rm (S := S) hT2 hR
        match n, hn with
        | 0, hn =>
          have : 0 ≤ size S (fun V => if V = T2 then (Z V).erase x else Z V) := zfv S.N (fun k _ => by omega)
          omega
        | n + 1, hn =>
          refine zg3 G n _ ?_ (by omega) td
          intro V
          show (if V = T2 then (Z V).erase x else Z V).Pairwise (· < ·)
          split
          · exact (hs V).sublist (List.erase_sublist)
          · exact hs V
end Sys
end Go.Proofs.Ytnilnaabjpcfjaa.Pd2
namespace Go.Proofs.Ytnilnaabjpcfjaa.Fair
open Go.RowKit Go.Proofs.Ytnilnaabjpcfjaa.P Go.Proofs.Ytnilnaabjpcfjaa.Base Go.Proofs.Ytnilnaabjpcfjaa.Alive Go.Proofs.Ytnilnaabjpcfjaa.Win Go.Proofs.Ytnilnaabjpcfjaa.Set Go.Proofs.YtnilnaabjpcfjaaW.PrintWords Go.Proofs.YtnilnaabjpcfjaaW.PrintLast
set_option linter.unusedVariables false
def lap (c p k : Int) : Bool := decide (wd c p k > wr c p (k + 1))
def gsc (c p k0 : Int) : Nat → Int → Int
  | 0, _ => 0
  | f + 1, i => if k0 < i ∧ 3 ≤ wd c p i - wr c p i ∧ wd c p k0 ≤ wd c p i - 1 then wd c p i - 1 else if lap c p i = true then gsc c p k0 f (i + 1) else wd c p i
def gd (c p k : Int) : Int := if 2 * c < p then 0 else gsc c p k 8 k
def key (c p k T : Int) : Int := ((2 * wd c p k + (if lap c p k = true then 0 else 1)) * 32 + (31 - (if lap c p k = true then (if 2 * c < p then 0 else gd c p k - wd c p k + 1) else 0))) * 8 + T
section
variable {c p : Int} (hc : 1 ≤ c) (hc8 : c ≤ 8) (hcp : c ≤ p) (hp : p ≤ 12)
include hc in
theorem wr_iff (k u : Int) : wr c p k ≤ u ↔ k * p < c * (u + 1) := by
  have h := wr_sp (c := c) (p := p) (k := k) hc
  rw [Int.mul_comm c, Int.add_mul]
  constructor
  · intro h1
    have := Int.mul_le_mul_of_nonneg_right h1 (show 0 ≤ c by omega)
    omega
  · intro h1
    apply Classical.byContradiction
    intro h2
    have := Int.mul_le_mul_of_nonneg_right (show u + 1 ≤ wr c p k by omega) (show 0 ≤ c by omega)
    rw [Int.add_mul] at this
    omega
include hc in
theorem zgh (k u : Int) : wd c p k ≤ u ↔ (k + 1) * p ≤ c * u := by
  have h := wd_sp (c := c) (p := p) (k := k) hc
  rw [Int.mul_comm c]
  constructor
  · intro h1
    have := Int.mul_le_mul_of_nonneg_right h1 (show 0 ≤ c by omega)
    omega
  · intro h1
    apply Classical.byContradiction
    intro h2
    have := Int.mul_le_mul_of_nonneg_right (show u + 1 ≤ wd c p k by omega) (show 0 ≤ c by omega)
    rw [Int.add_mul] at this
    omega
include hc hcp in
theorem wr_nn {k : Int} (hk : 0 ≤ k) : 0 ≤ wr c p k := Int.ediv_nonneg (Int.mul_nonneg hk (by omega)) (by omega)
include hc hcp in
theorem zg4 {k : Int} (hk : 0 ≤ k) : 1 ≤ wd c p k := by
  apply Classical.byContradiction
  intro h
  have h1 := (zgh (p := p) hc k 0).1 (by omega)
  have h2 := Int.mul_pos (show 0 < k + 1 by omega) (show 0 < p by omega)
  simp at h1; omega
include hc in
theorem zj7 (m : Int) : lap c p (c * m + (c - 1)) = false := by
  unfold lap
  rw [decide_eq_false_iff_not]
  have e : c * m + (c - 1) + 1 = c * (m + 1) := by rw [Int.mul_add, Int.mul_one]; omega
  have h1 := (zgh (p := p) hc (c * m + (c - 1)) ((m + 1) * p)).2 (by rw [e, Int.mul_assoc]; exact Int.le_refl _)
  have h2 : ¬ wr c p (c * m + (c - 1) + 1) ≤ (m + 1) * p - 1 := by
    rw [wr_iff hc, e, Int.mul_assoc, show (m + 1) * p - 1 + 1 = (m + 1) * p by omega]
    omega
  omega
include hc in
theorem gsc_ok (k0 : Int) : ∀ (f : Nat) (i : Int), k0 ≤ i → (∃ m, i ≤ c * m + (c - 1) ∧ c * m + (c - 1) < i + f) → (∀ l, k0 ≤ l → l < i → lap c p l = true ∧ (k0 < l → wd c p l < wr c p l + 3)) →
    (∀ l, k0 < l → wd c p k0 ≤ wd c p l - 1) → ∃ j, i ≤ j ∧ j < i + f ∧ (∀ l, k0 ≤ l → l < j → lap c p l = true ∧ (k0 < l → wd c p l < wr c p l + 3)) ∧
      ((k0 < j ∧ wr c p j + 3 ≤ wd c p j ∧ gsc c p k0 f i = wd c p j - 1) ∨ (¬ (k0 < j ∧ wr c p j + 3 ≤ wd c p j) ∧ lap c p j = false ∧ gsc c p k0 f i = wd c p j)) := by
  intro f
  induction f with
  | zero => rintro i _ ⟨m, h1, h2⟩; omega
  | succ f ih =>
    rintro i hi ⟨m, h1, h2⟩ hno hw
    rw [gsc]
    by_cases e1 : k0 < i ∧ 3 ≤ wd c p i - wr c p i ∧ wd c p k0 ≤ wd c p i - 1
    · rw [if_pos e1]
      exact ⟨i, Int.le_refl _, by omega, hno, Or.inl ⟨e1.1, by omega, rfl⟩⟩
    · rw [if_neg e1]
      have e2 : ¬ (k0 < i ∧ wr c p i + 3 ≤ wd c p i) := fun h => e1 ⟨h.1, by omega, hw i h.1⟩
      cases hl : lap c p i with
      | false => rw [if_neg (by decide)]; exact ⟨i, Int.le_refl _, by omega, hno, Or.inr ⟨e2, hl, rfl⟩⟩
      | true =>
        rw [if_pos rfl]
        have hne : i ≠ c * m + (c - 1) := by
          intro h
          rw [h, zj7 hc] at hl
          cases hl
        obtain ⟨j, h3, h4, h5, h6⟩ := ih (i + 1) (by omega) ⟨m, by omega, by omega⟩ (fun l q1 q2 => by
          by_cases e : l = i
          · subst e
            refine ⟨hl, fun h => ?_⟩
            apply Classical.byContradiction
            intro h7
            exact e2 ⟨h, by omega⟩
          · exact hno l q1 (by omega)) hw
        exact ⟨j, by omega, by omega, h5, h6⟩
include hc hcp in
theorem wd_inc (k l : Int) (h : k < l) : wd c p k ≤ wd c p l - 1 := by
  have h1 := wd_sp (c := c) (p := p) (k := l) hc
  rw [zgh hc]
  have h2 : wd c p l * c = c * wd c p l := Int.mul_comm _ _
  have h3 := Int.mul_le_mul_of_nonneg_right (show k + 1 + 1 ≤ l + 1 by omega) (show 0 ≤ p by omega)
  rw [Int.add_mul, Int.one_mul] at h3
  rw [Int.mul_sub, Int.mul_one]
  omega
include hc hcp hc8 in
theorem gd_ok {k : Int} (hk : 0 ≤ k) (hh : ¬ 2 * c < p) : ∃ j, k ≤ j ∧ j < k + 8 ∧ (∀ l, k ≤ l → l < j → lap c p l = true ∧ (k < l → wd c p l < wr c p l + 3)) ∧
      ((k < j ∧ wr c p j + 3 ≤ wd c p j ∧ gd c p k = wd c p j - 1) ∨ (¬ (k < j ∧ wr c p j + 3 ≤ wd c p j) ∧ lap c p j = false ∧ gd c p k = wd c p j)) := by
  unfold gd
  rw [if_neg hh]
  have h1 := Int.mul_ediv_add_emod k c
  have h2 := Int.emod_nonneg k (show c ≠ 0 by omega)
  have h3 := Int.emod_lt_of_pos k (show 0 < c by omega)
  obtain ⟨j, a1, a2, a3, a4⟩ := gsc_ok (p := p) hc k 8 k (Int.le_refl _) ⟨k / c, by omega, by omega⟩ (fun l q1 q2 => by omega) (fun l h => wd_inc hc hcp k l h)
  exact ⟨j, a1, by omega, a3, a4⟩
include hc hcp hc8 in
theorem gd_bd {k : Int} (hk : 0 ≤ k) (hh : ¬ 2 * c < p) : wd c p k ≤ gd c p k ∧ gd c p k ≤ wd c p k + 14 := by
  obtain ⟨j, h1, h2, _, h3⟩ := gd_ok hc hc8 hcp hk hh
  have h4 : wd c p j ≤ wd c p k + 14 := by
    rw [zgh hc, Int.mul_add]
    have h5 := (wd_sp (c := c) (p := p) (k := k) hc).1
    have h6 : wd c p k * c = c * wd c p k := Int.mul_comm _ _
    have h7 : (j + 1) * p ≤ (k + 1) * p + 7 * p := by
      rw [← Int.add_mul]
      exact Int.mul_le_mul_of_nonneg_right (show j + 1 ≤ (k + 1) + 7 by omega) (show 0 ≤ p by omega)
    omega
  by_cases e : j = k
  · subst e
    rcases h3 with ⟨a, _, _⟩ | ⟨_, _, b⟩ <;> omega
  · have := wd_inc hc hcp k j (by omega)
    rcases h3 with ⟨_, _, a⟩ | ⟨_, _, b⟩ <;> omega
end
theorem per (p : Int) (h1 : 1 ≤ p) (h2 : p ≤ 12) : 27720 / p * p = 27720 := by
  have : p = 1 ∨ p = 2 ∨ p = 3 ∨ p = 4 ∨ p = 5 ∨ p = 6 ∨ p = 7 ∨ p = 8 ∨ p = 9 ∨ p = 10 ∨ p = 11 ∨ p = 12 := by omega
  rcases this with rfl | rfl | rfl | rfl | rfl | rfl | rfl | rfl | rfl | rfl | rfl | rfl <;> decide
end Go.Proofs.Ytnilnaabjpcfjaa.Fair
namespace Go.Proofs.Ytnilnaabjpcfjaa.Gen
open Go.RowKit Go.Proofs.YtnilnaabjpcfjaaW.PrintWords Go.Proofs.YtnilnaabjpcfjaaW.PrintLast
def Tot {α : Type} (g : Nat → Option α) (P : α → Prop) : Prop := ∃ r, Ev g r ∧ P r
theorem Tot.ret {α : Type} {P : α → Prop} (a : α) (h : P a) : Tot (fun _ => some a) P := ⟨a, Ev.now a, h⟩
theorem Tot.mono {α : Type} {P Q : α → Prop} {g : Nat → Option α} (h : Tot g P) (hpq : ∀ a, P a → Q a) : Tot g Q := by
  obtain ⟨r, h1, h2⟩ := h
  exact ⟨r, h1, hpq r h2⟩
theorem Tot.congr {α : Type} {P : α → Prop} {g f : Nat → Option α} (e : ∀ k, g k = f k) (h : Tot f P) : Tot g P := by
  have : g = f := funext e
  rw [this]; exact h
theorem Tot.step {α : Type} {P : α → Prop} {g f : Nat → Option α} (e : ∀ k, g (k + 1) = f k) (h : Tot f P) : Tot g P := by
  obtain ⟨r, h1, h2⟩ := h
  exact ⟨r, Ev.step e h1, h2⟩
theorem Tot.bind {α β : Type} {P : α → Prop} {Q : β → Prop} {g : Nat → Option α} {f : Nat → α → Option β} (h : Tot g P) (hf : ∀ a, P a → Tot (fun k => f k a) Q) : Tot (fun k => (g k).bind (f k)) Q := by
  obtain ⟨r, h1, h2⟩ := h
  obtain ⟨q, h3, h4⟩ := hf r h2
  exact ⟨q, Ev.bind h1 h3, h4⟩
theorem Tot.zdx {α β : Type} {Q : β → Prop} {g : Option α} {f : Nat → α → Option β} {a : α} (h : g = some a) (hf : Tot (fun k => f k a) Q) : Tot (fun k => g.bind (f k)) Q := by
  subst h; exact hf
theorem Tot.yes {α : Type} {P : α → Prop} {c : Prop} [Decidable c] {g f : Nat → Option α} (hc : c) (h : Tot g P) : Tot (fun k => if c then g k else f k) P := by
  simp only [if_pos hc]; exact h
theorem Tot.no {α : Type} {P : α → Prop} {c : Prop} [Decidable c] {g f : Nat → Option α} (hc : ¬ c) (h : Tot f P) : Tot (fun k => if c then g k else f k) P := by
  simp only [if_neg hc]; exact h
theorem Tot.ite {α : Type} {P : α → Prop} {c : Prop} [Decidable c] {g f : Nat → Option α} (h1 : c → Tot g P) (h2 : ¬ c → Tot f P) : Tot (fun k => if c then g k else f k) P := by
  by_cases hc : c
  · exact Tot.yes hc (h1 hc)
  · exact Tot.no hc (h2 hc)
theorem Tot.rounds {g : Nat → Option Bool} (h : Tot g (fun r => r = true)) : ∃ k, g k = some true := by
  obtain ⟨r, h1, rfl⟩ := h
  exact h1.rounds
theorem Tot.val {α : Type} {g : Nat → Option α} {a : α} (h : Ev g a) : Tot g (fun r => r = a) := ⟨a, h, rfl⟩
theorem Tot.ev {α : Type} {g : Nat → Option α} {a : α} (h : Tot g (fun r => r = a)) : Ev g a := by
  obtain ⟨r, h1, rfl⟩ := h
  exact h1
theorem Tot.loop {σ ρ : Type} {P : ρ → Prop} (F : Nat → Nat → σ → Option ρ) (n : Nat) (Inv : Nat → σ → Prop)
    (hstep : ∀ i s, i < n → Inv i s → (∀ s', Inv (i + 1) s' → Tot (fun k => F k (i + 1) s') P) → Tot (fun k => F k i s) P)
    (hend : ∀ s, Inv n s → Tot (fun k => F k n s) P) : ∀ i s, i ≤ n → Inv i s → Tot (fun k => F k i s) P := by
  have key : ∀ d i s, i + d = n → Inv i s → Tot (fun k => F k i s) P := by
    intro d
    induction d with
    | zero => intro i s hi h; obtain rfl : i = n := by omega
              exact hend s h
    | succ d ih => intro i s hi h; exact hstep i s (by omega) h (fun s' hs' => ih (i + 1) s' (by omega) hs')
  intro i s hi h
  exact key (n - i) i s (by omega) h
theorem zj8 {α : Type} (d : α) (xs : List α) (i : Nat) (h : i < xs.length) : rdOf d xs (i : Int) = xs[i] := by
  unfold rdOf
  rw [List.getD_eq_getElem?_getD, Int.toNat_natCast, List.getElem?_eq_getElem h]
  rfl
theorem zeo (xs : List Int) (i : Nat) (h : i < xs.length) : rd xs (i : Int) = xs[i] := by
  unfold rd
  rw [List.getD_eq_getElem?_getD, Int.toNat_natCast, List.getElem?_eq_getElem h]
  rfl
theorem Tot.look {ρ : Type} {r : ρ} (F : Nat → Int → Option ρ) (n : Nat) (hstep : ∀ k (i : Nat), i < n → F (k + 1) (i : Int) = F k ((i : Int) + 1)) (hend : ∀ k, F (k + 1) (n : Int) = some r) : Tot (fun k => F k 0) (fun q => q = r) := by
  have key : ∀ d (i : Nat), i + d = n → Tot (fun k => F k (i : Int)) (fun q => q = r) := by
    intro d
    induction d with
    | zero => intro i hi; obtain rfl : i = n := by omega
              exact Tot.step (f := fun _ => some r) (fun k => hend k) (Tot.ret _ rfl)
    | succ d ih => intro i hi; exact Tot.step (fun k => hstep k i (by omega)) (by simpa using ih (i + 1) (by omega))
  simpa using key n 0 (by omega)
end Go.Proofs.Ytnilnaabjpcfjaa.Gen
namespace Go.Proofs.Ytnilnaabjpcfjaa.Fair
open Go.RowKit Go.Proofs.Ytnilnaabjpcfjaa.P Go.Proofs.Ytnilnaabjpcfjaa.Base Go.Proofs.Ytnilnaabjpcfjaa.Gen Go.Proofs.Ytnilnaabjpcfjaa.Alive Go.Proofs.Ytnilnaabjpcfjaa.Win Go.Proofs.Ytnilnaabjpcfjaa.Set Go.Proofs.YtnilnaabjpcfjaaW.PrintWords Go.Proofs.YtnilnaabjpcfjaaW.PrintLast
open Go.Proofs.Ytnilnaabjpcfjaa.Pd2
set_option linter.unusedVariables false
def tk (l : List Task) (i : Int) : Task := zg l i
def cs (l : List Task) (T : Nat) : Int := (tk l (T : Int)).f0
def ps (l : List Task) (T : Nat) : Int := (tk l (T : Int)).f2
def wt (l : List Task) (T : Nat) : Int := 27720 / ps l T * cs l T
def zel (l : List Task) (m : Int) : Pd2.Sys where
  N := l.length
  M := m
  L := 27720
  W := wt l
  r := fun T k => (wr (cs l T) (ps l T) (k : Int)).toNat
  d := fun T k => (wd (cs l T) (ps l T) (k : Int)).toNat
  b := fun T k => lap (cs l T) (ps l T) (k : Int)
  D := fun T k => gd (cs l T) (ps l T) (k : Int)
  K := fun T k => key (cs l T) (ps l T) (k : Int) (T : Int)
theorem tk_mem {l : List Task} {T : Nat} (h : T < l.length) : tk l (T : Int) ∈ l := by
  unfold tk
  rw [show zg l (T : Int) = l[T] from zj8 _ l T h]
  exact List.getElem_mem h
section
variable {l : List Task} (hI : Impl l)
include hI
theorem tv {T : Nat} (h : T < l.length) : 1 ≤ cs l T ∧ cs l T ≤ 8 ∧ cs l T ≤ ps l T ∧ ps l T ≤ 12 := by
  have h1 := hI.1.2 _ (tk_mem h)
  have h2 := hI.2 _ (tk_mem h)
  unfold TVt TV at h1
  unfold cs ps
  omega
theorem quo {T : Nat} (h : T < l.length) : 27720 / ps l T * ps l T = 27720 ∧ 0 < 27720 / ps l T := by
  have h1 := tv hI h
  have h2 := per (ps l T) (by omega) h1.2.2.2
  refine ⟨h2, ?_⟩
  apply Classical.byContradiction
  intro h3
  have := Int.mul_le_mul_of_nonneg_right (show 27720 / ps l T ≤ 0 by omega) (show 0 ≤ ps l T by omega)
  omega
theorem lt_scale {T : Nat} (h : T < l.length) (x y : Int) : 27720 * x < wt l T * y ↔ x * ps l T < cs l T * y := by
  obtain ⟨h1, h2⟩ := quo hI h
  unfold wt
  have e1 : (27720 : Int) * x = 27720 / ps l T * (x * ps l T) := by
    rw [Int.mul_comm x, ← Int.mul_assoc, h1]
  rw [e1, Int.mul_assoc]
  exact Int.mul_lt_mul_left h2
theorem le_scale {T : Nat} (h : T < l.length) (x y : Int) : 27720 * x ≤ wt l T * y ↔ x * ps l T ≤ cs l T * y := by
  obtain ⟨h1, h2⟩ := quo hI h
  unfold wt
  have e1 : (27720 : Int) * x = 27720 / ps l T * (x * ps l T) := by
    rw [Int.mul_comm x, ← Int.mul_assoc, h1]
  rw [e1, Int.mul_assoc]
  exact Int.mul_le_mul_left h2
theorem zjk {T : Nat} (h : T < l.length) : 2 * wt l T < 27720 ↔ 2 * cs l T < ps l T := by
  obtain ⟨h1, h2⟩ := quo hI h
  unfold wt
  have e1 : 2 * (27720 / ps l T * cs l T) = 27720 / ps l T * (2 * cs l T) := by rw [Int.mul_left_comm]
  have e2 : 27720 / ps l T * ps l T = 27720 := h1
  have h3 := Int.mul_lt_mul_left (b := 2 * cs l T) (c := ps l T) h2
  rw [e1]
  omega
theorem zep {T : Nat} (h : T < l.length) (k : Nat) : ∃ e g : Int, key (cs l T) (ps l T) (k : Int) (T : Int) = ((2 * wd (cs l T) (ps l T) (k : Int) + e) * 32 + (31 - g)) * 8 + (T : Int) ∧ 0 ≤ g ∧ g ≤ 15 ∧ (T : Int) < 8 ∧
    ((lap (cs l T) (ps l T) (k : Int) = true ∧ e = 0 ∧ ((2 * cs l T < ps l T ∧ g = 0 ∧ gd (cs l T) (ps l T) (k : Int) = 0) ∨ (¬ 2 * cs l T < ps l T ∧ g = gd (cs l T) (ps l T) (k : Int) - wd (cs l T) (ps l T) (k : Int) + 1 ∧ 1 ≤ g ∧ 0 ≤ gd (cs l T) (ps l T) (k : Int)))) ∨
      (lap (cs l T) (ps l T) (k : Int) = false ∧ e = 1)) := by
  obtain ⟨h1, h2, h3, h4⟩ := tv hI h
  have hN := hI.1.1
  unfold key
  cases hl : lap (cs l T) (ps l T) (k : Int) with
  | false => exact ⟨1, 0, by simp, by omega, by omega, by omega, Or.inr ⟨rfl, rfl⟩⟩
  | true =>
    by_cases hh : 2 * cs l T < ps l T
    · exact ⟨0, 0, by simp [hh], by omega, by omega, by omega, Or.inl ⟨rfl, rfl, Or.inl ⟨hh, rfl, by unfold gd; rw [if_pos hh]⟩⟩⟩
    · have h5 := gd_bd h1 h2 h3 (show 0 ≤ (k : Int) by omega) hh
      have h6 := zg4 h1 h3 (show 0 ≤ (k : Int) by omega)
      exact ⟨0, gd (cs l T) (ps l T) (k : Int) - wd (cs l T) (ps l T) (k : Int) + 1, by simp [hh], by omega, by omega, by omega, Or.inl ⟨rfl, rfl, Or.inr ⟨hh, rfl, by omega, by omega⟩⟩⟩
theorem good {m : Int} (hm : 1 ≤ m) (hU : sm (wt l) l.length ≤ m * 27720) : Pd2.Good (zel l m) where
  M0 := by show 0 ≤ m; omega
  L0 := by show (0 : Int) < 27720; omega
  W0 := fun T hT => by
    obtain ⟨h1, h2⟩ := quo hI hT
    exact Int.mul_pos h2 (by have := (tv hI hT).1; omega)
  WL := fun T hT => by
    obtain ⟨h1, h2⟩ := quo hI hT
    show 27720 / ps l T * cs l T ≤ 27720
    have := Int.mul_le_mul_of_nonneg_left (tv hI hT).2.2.1 (show 0 ≤ 27720 / ps l T by omega)
    omega
  hr := fun T hT k u => by
    obtain ⟨h1, h2, h3, h4⟩ := tv hI hT
    have h5 := wr_nn h1 h3 (show 0 ≤ (k : Int) by omega)
    show (wr (cs l T) (ps l T) (k : Int)).toNat ≤ u ↔ 27720 * (k : Int) < wt l T * ((u : Int) + 1)
    rw [lt_scale hI hT, ← wr_iff h1]
    omega
  hd := fun T hT k u => by
    obtain ⟨h1, h2, h3, h4⟩ := tv hI hT
    have h5 := zg4 h1 h3 (show 0 ≤ (k : Int) by omega)
    show (wd (cs l T) (ps l T) (k : Int)).toNat ≤ u ↔ 27720 * ((k : Int) + 1) ≤ wt l T * (u : Int)
    rw [le_scale hI hT, ← zgh h1]
    omega
  hb := fun T hT k => by
    obtain ⟨h1, h2, h3, h4⟩ := tv hI hT
    have h5 := wr_nn h1 h3 (show 0 ≤ (k : Int) + 1 by omega)
    have h6 := zg4 h1 h3 (show 0 ≤ (k : Int) by omega)
    have h7 : wd (cs l T) (ps l T) (k : Int) ≤ wr (cs l T) (ps l T) ((k : Int) + 1) + 1 := by
      rw [zgh h1]
      have := (wr_iff (p := ps l T) h1 ((k : Int) + 1) (wr (cs l T) (ps l T) ((k : Int) + 1))).1 (Int.le_refl _)
      omega
    show lap (cs l T) (ps l T) (k : Int) = true ↔ (wr (cs l T) (ps l T) ((k + 1 : Nat) : Int)).toNat + 1 = (wd (cs l T) (ps l T) (k : Int)).toNat
    rw [show ((k + 1 : Nat) : Int) = (k : Int) + 1 by omega]
    unfold lap
    rw [decide_eq_true_eq]
    omega
  Kne := fun T V hT hV hne k k2 => by
    obtain ⟨e1, g1, a1, a2, a3, a4, _⟩ := zep hI hT k
    obtain ⟨e2, g2, b1, b2, b3, b4, _⟩ := zep hI hV k2
    show key (cs l T) (ps l T) (k : Int) (T : Int) ≠ key (cs l V) (ps l V) (k2 : Int) (V : Int)
    rw [a1, b1]
    omega
  Kd := fun T V hT hV k k2 hk => by
    obtain ⟨e1, g1, a1, a2, a3, a4, a5⟩ := zep hI hT k
    obtain ⟨e2, g2, b1, b2, b3, b4, b5⟩ := zep hI hV k2
    show (wd (cs l T) (ps l T) (k : Int)).toNat ≤ (wd (cs l V) (ps l V) (k2 : Int)).toNat
    have hk' : key (cs l T) (ps l T) (k : Int) (T : Int) ≤ key (cs l V) (ps l V) (k2 : Int) (V : Int) := hk
    rw [a1, b1] at hk'
    have h1 : 0 ≤ e1 ∧ e1 ≤ 1 := by rcases a5 with h | h <;> omega
    have h2 : 0 ≤ e2 ∧ e2 ≤ 1 := by rcases b5 with h | h <;> omega
    omega
  Kb := fun T V hT hV k k2 hk hd hb => by
    obtain ⟨e1, g1, a1, a2, a3, a4, a5⟩ := zep hI hT k
    obtain ⟨e2, g2, b1, b2, b3, b4, b5⟩ := zep hI hV k2
    obtain ⟨t1, t2, t3, t4⟩ := tv hI hT
    obtain ⟨v1, v2, v3, v4⟩ := tv hI hV
    have w1 := zg4 t1 t3 (show 0 ≤ (k : Int) by omega)
    have w2 := zg4 v1 v3 (show 0 ≤ (k2 : Int) by omega)
    have hk' : key (cs l T) (ps l T) (k : Int) (T : Int) ≤ key (cs l V) (ps l V) (k2 : Int) (V : Int) := hk
    have hd' : (wd (cs l T) (ps l T) (k : Int)).toNat = (wd (cs l V) (ps l V) (k2 : Int)).toNat := hd
    have hb' : lap (cs l V) (ps l V) (k2 : Int) = true := hb
    show lap (cs l T) (ps l T) (k : Int) = true ∧ gd (cs l V) (ps l V) (k2 : Int) ≤ gd (cs l T) (ps l T) (k : Int)
    rw [a1, b1] at hk'
    rcases b5 with ⟨q1, q2, q3⟩ | ⟨q1, _⟩
    · rcases a5 with ⟨p1, p2, p3⟩ | ⟨p1, p2⟩
      · refine ⟨p1, ?_⟩
        rcases q3 with q3 | q3 <;> rcases p3 with p3 | p3 <;> omega
      · exfalso; omega
    · rw [hb'] at q1; cases q1
  Dl := fun T hT hw k => by
    show gd (cs l T) (ps l T) (k : Int) = 0
    unfold gd
    rw [if_pos ((zjk hI hT).1 hw)]
  Dh := fun T hT hw k => by
    obtain ⟨t1, t2, t3, t4⟩ := tv hI hT
    have hh : ¬ 2 * cs l T < ps l T := fun h => by
      have h1 := (zjk hI hT).2 h
      have h2 : (27720 : Int) ≤ 2 * wt l T := hw
      omega
    obtain ⟨j, j1, j2, j3, j4⟩ := gd_ok t1 t2 t3 (show 0 ≤ (k : Int) by omega) hh
    obtain ⟨i, rfl⟩ := Int.eq_ofNat_of_zero_le (show 0 ≤ j by omega)
    have wn : ∀ q : Nat, 0 ≤ wr (cs l T) (ps l T) (q : Int) := fun q => wr_nn t1 t3 (by omega)
    have dn : ∀ q : Nat, 1 ≤ wd (cs l T) (ps l T) (q : Int) := fun q => zg4 t1 t3 (by omega)
    refine ⟨i, by omega, fun q q1 q2 => ?_, ?_⟩
    · have h3 := j3 (q : Int) (by omega) (by omega)
      refine ⟨h3.1, fun h => ?_⟩
      have h4 := h3.2 (by omega)
      have := wn q
      have := dn q
      show (wd (cs l T) (ps l T) (q : Int)).toNat < (wr (cs l T) (ps l T) (q : Int)).toNat + 3
      omega
    · have h1 := wn i
      have h2 := dn i
      show (k < i ∧ (wr (cs l T) (ps l T) (i : Int)).toNat + 3 ≤ (wd (cs l T) (ps l T) (i : Int)).toNat ∧ gd (cs l T) (ps l T) (k : Int) = ((wd (cs l T) (ps l T) (i : Int)).toNat : Int) - 1) ∨
        (¬ (k < i ∧ (wr (cs l T) (ps l T) (i : Int)).toNat + 3 ≤ (wd (cs l T) (ps l T) (i : Int)).toNat) ∧ lap (cs l T) (ps l T) (i : Int) = false ∧ gd (cs l T) (ps l T) (k : Int) = ((wd (cs l T) (ps l T) (i : Int)).toNat : Int))
      rcases j4 with ⟨a, b, c⟩ | ⟨a, b, c⟩
      · left; exact ⟨by omega, by omega, by omega⟩
      · right; exact ⟨fun h => a ⟨by omega, by omega⟩, b, by omega⟩
  U := hU
end
end Go.Proofs.Ytnilnaabjpcfjaa.Fair
namespace Go.Proofs.Ytnilnaabjpcfjaa.Fair
open Go.RowKit Go.Proofs.Ytnilnaabjpcfjaa.P Go.Proofs.Ytnilnaabjpcfjaa.Base Go.Proofs.Ytnilnaabjpcfjaa.Gen Go.Proofs.Ytnilnaabjpcfjaa.Alive Go.Proofs.Ytnilnaabjpcfjaa.Win Go.Proofs.Ytnilnaabjpcfjaa.Set Go.Proofs.YtnilnaabjpcfjaaW.PrintWords Go.Proofs.YtnilnaabjpcfjaaW.PrintLast
set_option linter.unusedVariables false
theorem wrd_bd {c p k : Int} (hc : 1 ≤ c) (hc8 : c ≤ 8) (hcp : c ≤ p) (hp : p ≤ 12) (hk : 0 ≤ k) (hk2 : k ≤ 1000000) : 0 ≤ wr c p k ∧ wr c p k ≤ 24000000 ∧ 0 ≤ wd c p k ∧ wd c p k ≤ 24000100 := by
  have h1 := wr_bd (c := c) (p := p) (k := k) hc (by omega) hp hk (by omega)
  have h2 := wd_bd (c := c) (p := p) (k := k) hc hc8 (by omega) hp hk (by omega)
  omega
section
variable {c d p : Int} (hv : TV c d p)
include hv
theorem over_f {k : Int} (hk : 0 ≤ k) (hk2 : k ≤ 1000000) : zbq.f c d p k = some (lap c p k) := by
  unfold zbq.f
  rw [w64 (x := k + 1) (by omega) (by omega), zj4 hv hk (by omega), zj4 hv (show 0 ≤ k + 1 by omega) (by omega)]
  rfl
theorem zj9 {k : Int} (hk : 0 ≤ k) (hk2 : k ≤ 1000000) : zbj.f c d p k = some (if lap c p k = true then 1 else 0) := by
  unfold zbj.f
  rw [w64 (x := k + 1) (by omega) (by omega), zgg hv hk (by omega), zgg hv (show 0 ≤ k + 1 by omega) (by omega)]
  simp only [Option.bind_some]
  unfold lap
  by_cases h : wd c p k > wr c p (k + 1)
  · rw [if_pos h, if_pos (decide_eq_true h)]
  · rw [if_neg h, if_neg (by simpa using h)]
theorem group_l0 (k0 : Int) (hk0 : 0 ≤ k0) : ∀ (f : Nat) (i : Int), k0 ≤ i → i ≤ 900000 - f → (∃ m, i ≤ c * m + (c - 1) ∧ c * m + (c - 1) < i + f) →
    Tot (fun k => zbc.l0 k k0 (wd c p k0) i c d p) (fun r => r = gsc c p k0 f i) := by
  have hv' := hv
  unfold TV at hv'
  intro f
  induction f with
  | zero => rintro i _ _ ⟨m, h1, h2⟩; omega
  | succ f ih =>
    rintro i hi hib ⟨m, h1, h2⟩
    have hb := wrd_bd (c := c) (p := p) (k := i) (by omega) (by omega) (by omega) (by omega) (by omega) (by omega)
    have hj : ∀ x : Bool, (x = true ↔ k0 < i ∧ 3 ≤ wd c p i - wr c p i ∧ wd c p k0 ≤ wd c p i - 1) → Tot (fun k => zbc.j1 k k0 (wd c p k0) i x c d p (wr c p i) (wd c p i)) (fun r => r = gsc c p k0 (f + 1) i) := by
      intro x hx
      refine Tot.step (fun k => by rw [zbc.j1]) ?_
      rw [gsc]
      by_cases e : x = true
      · refine Tot.yes e (Tot.ret _ ?_)
        rw [if_pos (hx.1 e), w64 (by omega) (by omega)]
      · refine Tot.no e (Tot.zdx (over_f hv (by omega) (by omega)) ?_)
        rw [if_neg (fun h => e (hx.2 h))]
        cases hl : lap c p i with
        | false => exact Tot.no (by decide) (Tot.ret _ rfl)
        | true =>
          refine Tot.yes rfl ?_
          rw [w64 (x := i + 1) (by omega) (by omega), if_pos rfl]
          have hne : i ≠ c * m + (c - 1) := by
            intro h
            rw [h, zj7 (by omega)] at hl
            cases hl
          exact ih (i + 1) (by omega) (by omega) ⟨m, by omega, by omega⟩
    refine Tot.step (fun k => by rw [zbc.l0]) (Tot.zdx (zj4 hv (by omega) (by omega)) ?_)
    rw [w64 (x := wd c p i - wr c p i) (by omega) (by omega), w64 (x := wd c p i - 1) (by omega) (by omega)]
    refine Tot.ite (fun c1 => Tot.ite (fun c2 => hj _ ?_) (fun c2 => hj _ ?_)) (fun c1 => hj _ ?_)
    · rw [decide_eq_true_eq]
      exact ⟨fun h => ⟨by omega, by omega, by omega⟩, fun h => by omega⟩
    · exact ⟨fun h => absurd h (by decide), fun h => by omega⟩
    · exact ⟨fun h => absurd h (by decide), fun h => by omega⟩
theorem zjl {k : Int} (hk : 0 ≤ k) (hk2 : k ≤ 800000) : Tot (fun n => zbc.f n c d p k) (fun r => r = gd c p k) := by
  have hv' := hv
  unfold TV at hv'
  unfold zbc.f gd
  rw [w64 (by omega) (by omega)]
  by_cases e : 2 * c < p
  · rw [if_pos e]; exact Tot.yes e (Tot.ret _ rfl)
  · rw [if_neg e]
    refine Tot.no e (Tot.zdx (zj4 hv hk (by omega)) ?_)
    have h1 := Int.mul_ediv_add_emod k c
    have h2 := Int.emod_nonneg k (show c ≠ 0 by omega)
    have h3 := Int.emod_lt_of_pos k (show 0 < c by omega)
    exact group_l0 hv k hk 8 k (Int.le_refl _) (by omega) ⟨k / c, by omega, by omega⟩
theorem sgroup_l0 (k0 : Int) (hk0 : 0 ≤ k0) : ∀ (f : Nat) (i : Int), k0 ≤ i → i ≤ 900000 - f → (∃ m, i ≤ c * m + (c - 1) ∧ c * m + (c - 1) < i + f) →
    Tot (fun k => zbi.l0 k k0 (wd c p k0) i c d p) (fun r => r = gsc c p k0 f i) := by
  have hv' := hv
  unfold TV at hv'
  intro f
  induction f with
  | zero => rintro i _ _ ⟨m, h1, h2⟩; omega
  | succ f ih =>
    rintro i hi hib ⟨m, h1, h2⟩
    have hb := wrd_bd (c := c) (p := p) (k := i) (by omega) (by omega) (by omega) (by omega) (by omega) (by omega)
    have hj : ∀ x : Bool, (x = true ↔ k0 < i ∧ 3 ≤ wd c p i - wr c p i ∧ wd c p k0 ≤ wd c p i - 1) → Tot (fun k => zbi.j1 k k0 (wd c p k0) i x c d p (wr c p i) (wd c p i)) (fun r => r = gsc c p k0 (f + 1) i) := by
      intro x hx
      refine Tot.step (fun k => by rw [zbi.j1]) ?_
      rw [gsc]
      by_cases e : x = true
      · refine Tot.yes e (Tot.ret _ ?_)
        rw [if_pos (hx.1 e), w64 (by omega) (by omega)]
      · refine Tot.no e (Tot.zdx (zj9 hv (by omega) (by omega)) ?_)
        rw [if_neg (fun h => e (hx.2 h))]
        cases hl : lap c p i with
        | false => exact Tot.yes (by decide) (Tot.ret _ rfl)
        | true =>
          refine Tot.no (by decide) ?_
          rw [w64 (x := i + 1) (by omega) (by omega), if_pos rfl]
          have hne : i ≠ c * m + (c - 1) := by
            intro h
            rw [h, zj7 (by omega)] at hl
            cases hl
          exact ih (i + 1) (by omega) (by omega) ⟨m, by omega, by omega⟩
    refine Tot.step (fun k => by rw [zbi.l0]) (Tot.zdx (zgg hv (by omega) (by omega)) ?_)
    rw [w64 (x := wd c p i - wr c p i) (by omega) (by omega), w64 (x := wd c p i - 1) (by omega) (by omega)]
    refine Tot.ite (fun c1 => Tot.ite (fun c2 => hj _ ?_) (fun c2 => hj _ ?_)) (fun c1 => hj _ ?_)
    · rw [decide_eq_true_eq]
      exact ⟨fun h => ⟨by omega, by omega, by omega⟩, fun h => by omega⟩
    · exact ⟨fun h => absurd h (by decide), fun h => by omega⟩
    · exact ⟨fun h => absurd h (by decide), fun h => by omega⟩
theorem zh0 {k : Int} (hk : 0 ≤ k) (hk2 : k ≤ 800000) : Tot (fun n => zbi.f n c d p k) (fun r => r = gd c p k) := by
  have hv' := hv
  unfold TV at hv'
  unfold zbi.f gd
  rw [w64 (by omega) (by omega)]
  by_cases e : 2 * c < p
  · rw [if_pos e]; exact Tot.yes e (Tot.ret _ rfl)
  · rw [if_neg e]
    refine Tot.no e (Tot.zdx (zgg hv hk (by omega)) ?_)
    have h1 := Int.mul_ediv_add_emod k c
    have h2 := Int.emod_nonneg k (show c ≠ 0 by omega)
    have h3 := Int.emod_lt_of_pos k (show 0 < c by omega)
    exact sgroup_l0 hv k hk 8 k (Int.le_refl _) (by omega) ⟨k / c, by omega, by omega⟩
theorem zgi {k : Int} (hk : 0 ≤ k) : ∃ e g : Int, (∀ T, key c p k T = ((2 * wd c p k + e) * 32 + (31 - g)) * 8 + T) ∧ 0 ≤ g ∧ g ≤ 15 ∧
    ((lap c p k = true ∧ e = 0 ∧ ((g = 0 ∧ gd c p k = 0) ∨ (g = gd c p k - wd c p k + 1 ∧ 1 ≤ g ∧ 0 < gd c p k))) ∨ (lap c p k = false ∧ e = 1 ∧ g = 0)) := by
  have hv' := hv
  unfold TV at hv'
  unfold key
  cases hl : lap c p k with
  | false => exact ⟨1, 0, fun T => by simp, by omega, by omega, Or.inr ⟨rfl, rfl, rfl⟩⟩
  | true =>
    by_cases hh : 2 * c < p
    · exact ⟨0, 0, fun T => by simp [hh], by omega, by omega, Or.inl ⟨rfl, rfl, Or.inl ⟨rfl, by unfold gd; rw [if_pos hh]⟩⟩⟩
    · have h5 := gd_bd (c := c) (p := p) (by omega) (by omega) (by omega) hk hh
      have h6 := zg4 (c := c) (p := p) (by omega) (by omega) hk
      exact ⟨0, gd c p k - wd c p k + 1, fun T => by simp [hh], by omega, by omega, Or.inl ⟨rfl, rfl, Or.inr ⟨rfl, by omega, by omega⟩⟩⟩
end
theorem cmp_f (a b : Int) : cmp_Compare_int.f a b = some (if a < b then -1 else if a > b then 1 else 0) := by
  unfold cmp_Compare_int.f cmp_isNaN_int.f
  by_cases h1 : a < b
  · simp [h1]
  · by_cases h2 : a > b
    · simp [h1, h2]
    · simp [h1, h2]
theorem ahead_tot {c d p c2 d2 p2 i j : Int} (hv : TV c d p) (hv2 : TV c2 d2 p2) (hi : 0 ≤ i) (hi2 : i ≤ 800000) (hj : 0 ≤ j) (hj2 : j ≤ 800000) :
    Tot (fun n => zbg.f n c d p i c2 d2 p2 j) (fun v => v < 0 ↔ key c p i 0 < key c2 p2 j 0) := by
  obtain ⟨e1, g1, a1, a2, a3, a4⟩ := zgi hv hi
  obtain ⟨e2, g2, b1, b2, b3, b4⟩ := zgi hv2 hj
  rw [a1, b1]
  unfold zbg.f
  refine Tot.zdx (zj4 hv hi (by omega)) (Tot.zdx (zj4 hv2 hj (by omega)) (Tot.zdx (cmp_f _ _) ?_))
  simp only
  have h1 : 0 ≤ e1 ∧ e1 ≤ 1 := by rcases a4 with h | h <;> omega
  have h2 : 0 ≤ e2 ∧ e2 ≤ 1 := by rcases b4 with h | h <;> omega
  by_cases q1 : wd c p i < wd c2 p2 j
  · rw [if_pos q1]
    refine Tot.no (by decide) (Tot.ret _ ?_)
    exact ⟨fun _ => by omega, fun _ => by omega⟩
  · rw [if_neg q1]
    by_cases q2 : wd c p i > wd c2 p2 j
    · rw [if_pos q2]
      refine Tot.no (by decide) (Tot.ret _ ?_)
      exact ⟨fun h => by omega, fun h => by omega⟩
    · rw [if_neg q2]
      refine Tot.yes rfl (Tot.zdx (over_f hv hi (by omega)) (Tot.zdx (over_f hv2 hj (by omega)) ?_))
      rcases a4 with ⟨u1, u2, u3⟩ | ⟨u1, u2, u3⟩ <;> rcases b4 with ⟨v1, v2, v3⟩ | ⟨v1, v2, v3⟩ <;> rw [u1, v1]
      ·
        refine Tot.yes rfl (Tot.step (fun k => by rw [zbg.j0]) (Tot.no (by decide) (Tot.yes rfl (Tot.step (fun k => by rw [zbg.j1]) (Tot.no (by decide) (Tot.yes rfl ?_))))))
        refine Tot.bind (zjl hv2 hj hj2) ?_
        rintro _ rfl
        refine Tot.bind (zjl hv hi hi2) ?_
        rintro _ rfl
        refine Tot.zdx (cmp_f _ _) (Tot.ret _ ?_)
        have hg : g1 = g2 ∧ gd c p i = gd c2 p2 j ∨ g1 < g2 ∧ gd c p i < gd c2 p2 j ∨ g2 < g1 ∧ gd c2 p2 j < gd c p i := by
          rcases u3 with u3 | u3 <;> rcases v3 with v3 | v3 <;> omega
        rcases hg with h | h | h
        · rw [if_neg (by omega), if_neg (by omega)]; exact ⟨fun h => by omega, fun h => by omega⟩
        · rw [if_neg (by omega), if_pos (by omega)]; exact ⟨fun h => by omega, fun h => by omega⟩
        · rw [if_pos (by omega)]; exact ⟨fun h => by omega, fun h => by omega⟩
      · refine Tot.yes rfl ?_
        refine Tot.step (fun k => by rw [zbg.j0]) ?_
        refine Tot.yes (by decide) (Tot.ret _ ?_)
        exact ⟨fun _ => by omega, fun _ => by omega⟩
      · refine Tot.no (by decide) ?_
        refine Tot.step (fun k => by rw [zbg.j0]) ?_
        refine Tot.no (by decide) (Tot.yes rfl ?_)
        refine Tot.step (fun k => by rw [zbg.j1]) ?_
        refine Tot.yes (by decide) (Tot.ret _ ?_)
        exact ⟨fun h => by omega, fun h => by omega⟩
      · refine Tot.no (by decide) (Tot.step (fun k => by rw [zbg.j0]) (Tot.no (by decide) (Tot.no (by decide) (Tot.step (fun k => by rw [zbg.j1]) (Tot.no (by decide) (Tot.no (by decide) (Tot.ret _ ?_)))))))
        exact ⟨fun h => by omega, fun h => by omega⟩
def kf (l : List Task) (nx : List Int) (i : Int) : Int := key (tk l i).f0 (tk l i).f2 (rd nx i) i
theorem before_tot {l : List Task} {nx : List Int} {a b : Int} (ha : 0 ≤ a ∧ a < (l.length : Int)) (hb : 0 ≤ b ∧ b < (l.length : Int)) (hn : nx.length = l.length) (hl5 : l.length ≤ 5) (hv : TVt (tk l a)) (hv2 : TVt (tk l b)) (hi : 0 ≤ rd nx a) (hi2 : rd nx a ≤ 800000) (hj : 0 ≤ rd nx b) (hj2 : rd nx b ≤ 800000) :
    Tot (fun n => zm.f n l nx a b) (fun v => v = decide (kf l nx a < kf l nx b)) := by
  unfold TVt at hv hv2
  obtain ⟨e1, g1, a1, a2, a3, a4⟩ := zgi hv hi
  obtain ⟨e2, g2, b1, b2, b3, b4⟩ := zgi hv2 hj
  unfold kf
  rw [a1, b1]
  unfold zm.f
  refine Tot.yes ha.1 (Tot.yes ha.2 (Tot.yes (by rw [hn]; exact ha.2) (Tot.zdx (zgg hv hi (by omega)) (Tot.yes hb.1 (Tot.yes hb.2 (Tot.yes (by rw [hn]; exact hb.2) (Tot.zdx (zgg hv2 hj (by omega)) ?_)))))))
  simp only
  have h1 : 0 ≤ e1 ∧ e1 ≤ 1 := by rcases a4 with h | h <;> omega
  have h2 : 0 ≤ e2 ∧ e2 ≤ 1 := by rcases b4 with h | h <;> omega
  refine Tot.ite (fun q => ?_) (fun q => Tot.ret _ ?_)
  · have q' : wd (tk l a).f0 (tk l a).f2 (rd nx a) = wd (tk l b).f0 (tk l b).f2 (rd nx b) := q
    refine Tot.zdx (zj9 hv hi (by omega)) (Tot.zdx (zj9 hv2 hj (by omega)) ?_)
    rcases a4 with ⟨u1, u2, u3⟩ | ⟨u1, u2, u3⟩ <;> rcases b4 with ⟨v1, v2, v3⟩ | ⟨v1, v2, v3⟩ <;> rw [u1, v1]
    · refine Tot.yes rfl (Tot.yes rfl ?_)
      refine Tot.bind (zh0 hv hi hi2) ?_
      rintro _ rfl
      refine Tot.bind (zh0 hv2 hj hj2) ?_
      rintro _ rfl
      have hg : g1 = g2 ∧ gd (tk l a).f0 (tk l a).f2 (rd nx a) = gd (tk l b).f0 (tk l b).f2 (rd nx b) ∨ g1 < g2 ∧ gd (tk l a).f0 (tk l a).f2 (rd nx a) < gd (tk l b).f0 (tk l b).f2 (rd nx b) ∨ g2 < g1 ∧ gd (tk l b).f0 (tk l b).f2 (rd nx b) < gd (tk l a).f0 (tk l a).f2 (rd nx a) := by
        rcases u3 with u3 | u3 <;> rcases v3 with v3 | v3 <;> omega
      refine Tot.ite (fun r => Tot.ret _ ?_) (fun r => Tot.ret _ ?_)
      · rw [decide_eq_decide]; omega
      · rw [decide_eq_decide]; omega
    · refine Tot.no (by decide) (Tot.ret _ ?_)
      symm; rw [show decide ((if true = true then (1 : Int) else 0) > (if false = true then 1 else 0)) = true by decide]; rw [decide_eq_true_eq]; omega
    · refine Tot.no (by decide) (Tot.ret _ ?_)
      symm; rw [show decide ((if false = true then (1 : Int) else 0) > (if true = true then 1 else 0)) = false by decide]; rw [decide_eq_false_iff_not]; omega
    · refine Tot.yes rfl (Tot.no (by decide) (Tot.ret _ ?_))
      rw [decide_eq_decide]; omega
  · have q' : ¬ wd (tk l a).f0 (tk l a).f2 (rd nx a) = wd (tk l b).f0 (tk l b).f2 (rd nx b) := q
    show decide (wd (tk l a).f0 (tk l a).f2 (rd nx a) < wd (tk l b).f0 (tk l b).f2 (rd nx b)) = _
    rw [decide_eq_decide]; omega
end Go.Proofs.Ytnilnaabjpcfjaa.Fair
namespace Go.Proofs.Ytnilnaabjpcfjaa.Isort
open Go.RowKit Go.Proofs.Ytnilnaabjpcfjaa.P Go.Proofs.Ytnilnaabjpcfjaa.Base Go.Proofs.Ytnilnaabjpcfjaa.Gen Go.Proofs.YtnilnaabjpcfjaaW.PrintWords Go.Proofs.YtnilnaabjpcfjaaW.PrintLast
set_option linter.unusedVariables false
theorem zg5 (l : List Int) (i : Nat) (x : Int) (h : i < l.length) : rd (l.set i x) (i : Int) = x := by
  rw [zeo _ i (by simpa using h)]
  simp
theorem zfx (l : List Int) (i a : Nat) (x : Int) (h : a ≠ i) : rd (l.set i x) (a : Int) = rd l (a : Int) := by
  unfold rd
  rw [List.getD_eq_getElem?_getD, List.getD_eq_getElem?_getD, Int.toNat_natCast, List.getElem?_set_ne (by omega)]
theorem zik (l : List Int) (j : Nat) (h : j + 1 < l.length) : (swl l j).Perm l := by
  have := Go.Sort.perm_set_set l (j + 1) j h (by omega)
  unfold swl
  have e1 : rd l (j : Int) = l[j] := zeo l j (by omega)
  have e2 : rd l ((j : Int) + 1) = l[j + 1] := zeo l (j + 1) h
  rw [e1, e2]
  simpa [List.getElem_set] using this
section
variable (cf : Int → Int → Int) (K : Int → Int)
def But (l : List Int) (j i : Nat) : Prop := (∀ p q : Nat, p < q → q ≤ i → p ≠ j → q ≠ j → K (rd l p) ≤ K (rd l q)) ∧ ∀ q : Nat, j < q → q ≤ i → K (rd l j) ≤ K (rd l q)
def Srt (l : List Int) (i : Nat) : Prop := ∀ p q : Nat, p < q → q < i → K (rd l p) ≤ K (rd l q)
theorem inn_perm : ∀ (j : Nat) (l : List Int), j < l.length → (inn cf j l).Perm l := by
  intro j
  induction j with
  | zero => intro l _; exact List.Perm.refl _
  | succ j ih =>
    intro l hj
    rw [inn]
    split
    · exact (ih _ (by rw [zds]; omega)).trans (zik l j hj)
    · exact List.Perm.refl _
theorem zg6 (l : List Int) (j : Nat) (h : j + 1 < l.length) : rd (swl l j) (j : Int) = rd l ((j + 1 : Nat) : Int) := by
  unfold swl
  rw [zg5 _ _ _ (by rw [List.length_set]; omega)]
  rfl
theorem zfy (l : List Int) (j : Nat) (h : j + 1 < l.length) : rd (swl l j) ((j + 1 : Nat) : Int) = rd l (j : Int) := by
  unfold swl
  rw [zfx _ _ _ _ (by omega), zg5 _ _ _ h]
theorem zdy (l : List Int) (j p : Nat) (h1 : p ≠ j) (h2 : p ≠ j + 1) : rd (swl l j) (p : Int) = rd l (p : Int) := by
  unfold swl
  rw [zfx _ _ _ _ h1, zfx _ _ _ _ h2]
theorem inn_srt (i : Nat) : ∀ (j : Nat) (l : List Int), (∀ x ∈ l, ∀ y ∈ l, cf x y < 0 ↔ K x < K y) → j ≤ i → i < l.length → But K l j i → Srt K (inn cf j l) (i + 1) := by
  intro j
  induction j with
  | zero =>
    intro l _ _ _ hb p q hpq hq
    rw [inn]
    by_cases e : p = 0
    · subst e; exact hb.2 q hpq (by omega)
    · exact hb.1 p q hpq (by omega) e (by omega)
  | succ j ih =>
    intro l hcf hji hil hb
    have hj1 : j + 1 < l.length := by omega
    have m0 : rd l (j : Int) ∈ l := by rw [zeo l j (by omega)]; exact List.getElem_mem _
    have m1 : rd l ((j + 1 : Nat) : Int) ∈ l := by rw [zeo l (j + 1) hj1]; exact List.getElem_mem _
    have hc := hcf _ m1 _ m0
    rw [inn]
    by_cases h : cf (rd l ((j : Int) + 1)) (rd l (j : Int)) < 0
    · rw [if_pos h]
      have hK : K (rd l ((j + 1 : Nat) : Int)) < K (rd l (j : Int)) := hc.1 h
      refine ih _ (fun x hx y hy => hcf x ((zik l j hj1).mem_iff.1 hx) y ((zik l j hj1).mem_iff.1 hy)) (by omega) (by rw [zds]; exact hil) ⟨fun p q hpq hq hpj hqj => ?_, fun q hq hqi => ?_⟩
      · by_cases e1 : q = j + 1
        · subst e1
          rw [zfy l j hj1, zdy l j p hpj (by omega)]
          exact hb.1 p j (by omega) (by omega) (by omega) (by omega)
        · by_cases e2 : p = j + 1
          · subst e2
            rw [zfy l j hj1, zdy l j q hqj e1]
            exact hb.1 j q (by omega) hq (by omega) e1
          · rw [zdy l j p hpj e2, zdy l j q hqj e1]
            exact hb.1 p q hpq hq e2 e1
      · rw [zg6 l j hj1]
        by_cases e1 : q = j + 1
        · subst e1
          rw [zfy l j hj1]; omega
        · rw [zdy l j q (by omega) e1]
          exact hb.2 q (by omega) hqi
    · rw [if_neg h]
      have hK : K (rd l (j : Int)) ≤ K (rd l ((j + 1 : Nat) : Int)) := by
        apply Classical.byContradiction
        intro hn
        exact h (hc.2 (by omega))
      intro p q hpq hq
      by_cases e1 : q = j + 1
      · subst e1
        by_cases e2 : p = j
        · subst e2; exact hK
        · have := hb.1 p j (by omega) (by omega) (by omega) (by omega)
          omega
      · by_cases e2 : p = j + 1
        · subst e2; exact hb.2 q hpq (by omega)
        · exact hb.1 p q hpq (by omega) e2 e1
theorem outr_ok : ∀ (d i : Nat) (l : List Int), (∀ x ∈ l, ∀ y ∈ l, cf x y < 0 ↔ K x < K y) → i + d ≤ l.length → Srt K l i → (outr cf d i l).Perm l ∧ Srt K (outr cf d i l) (i + d) := by
  intro d
  induction d with
  | zero => intro i l _ _ h; exact ⟨List.Perm.refl _, h⟩
  | succ d ih =>
    intro i l hcf hi h
    have hp := inn_perm cf i l (by omega)
    have hs := inn_srt cf K i i l hcf (Nat.le_refl _) (by omega) ⟨fun p q hpq hq h1 h2 => h p q hpq (by omega), fun q h1 h2 => by omega⟩
    have := ih (i + 1) (inn cf i l) (fun x hx y hy => hcf x (hp.mem_iff.1 hx) y (hp.mem_iff.1 hy)) (by rw [hp.length_eq]; omega) hs
    refine ⟨this.1.trans hp, ?_⟩
    rw [show i + (d + 1) = i + 1 + d by omega]
    exact this.2
theorem isort_ok (l : List Int) (hcf : ∀ x ∈ l, ∀ y ∈ l, cf x y < 0 ↔ K x < K y) : (zdt cf l).Perm l ∧ Srt K (zdt cf l) l.length := by
  unfold zdt
  rcases Nat.eq_zero_or_pos l.length with h0 | h0
  · obtain rfl := List.eq_nil_of_length_eq_zero h0
    exact ⟨List.Perm.refl _, fun p q _ h => by simp at h⟩
  · have := outr_ok cf K (l.length - 1) 1 l hcf (by omega) (fun p q h1 h2 => by omega)
    rw [show 1 + (l.length - 1) = l.length by omega] at this
    exact this
end
theorem inn_at (cf : Int → Int → Int) : ∀ (j : Nat) (l : List Int), j < l.length → (∀ q : Nat, j < q → rd (inn cf j l) (q : Int) = rd l (q : Int)) ∧ ∀ p : Nat, p ≤ j → ∃ p' : Nat, p' ≤ j ∧ rd (inn cf j l) (p : Int) = rd l (p' : Int) := by
  intro j
  induction j with
  | zero => intro l _; exact ⟨fun q _ => rfl, fun p hp => ⟨p, hp, rfl⟩⟩
  | succ j ih =>
    intro l hj
    rw [inn]
    split
    · obtain ⟨h1, h2⟩ := ih (swl l j) (by rw [zds]; omega)
      refine ⟨fun q hq => ?_, fun p hp => ?_⟩
      · rw [h1 q (by omega), zdy l j q (by omega) (by omega)]
      · by_cases e : p = j + 1
        · subst e
          rw [h1 (j + 1) (by omega), zfy l j hj]
          exact ⟨j, by omega, rfl⟩
        · obtain ⟨p', h3, h4⟩ := h2 p (by omega)
          rw [h4]
          by_cases e2 : p' = j
          · subst e2; rw [zg6 l p' hj]; exact ⟨p' + 1, by omega, rfl⟩
          · rw [zdy l j p' e2 (by omega)]; exact ⟨p', by omega, rfl⟩
    · exact ⟨fun q _ => rfl, fun p hp => ⟨p, hp, rfl⟩⟩
theorem inn_same {cf cg : Int → Int → Int} : ∀ (j : Nat) (l : List Int), j < l.length → (∀ p : Nat, p < j → (cf (rd l (j : Int)) (rd l (p : Int)) < 0 ↔ cg (rd l (j : Int)) (rd l (p : Int)) < 0)) → inn cf j l = inn cg j l := by
  intro j
  induction j with
  | zero => intro l _ _; rfl
  | succ j ih =>
    intro l hj h
    have h1 : cf (rd l ((j : Int) + 1)) (rd l (j : Int)) < 0 ↔ cg (rd l ((j : Int) + 1)) (rd l (j : Int)) < 0 := h j (by omega)
    rw [inn, inn]
    by_cases e : cf (rd l ((j : Int) + 1)) (rd l (j : Int)) < 0
    · rw [if_pos e, if_pos (h1.1 e)]
      refine ih _ (by rw [zds]; omega) (fun p hp => ?_)
      rw [zg6 l j hj, zdy l j p (by omega) (by omega)]
      exact h p (by omega)
    · rw [if_neg e, if_neg (fun h2 => e (h1.2 h2))]
theorem outr_same {cf cg : Int → Int → Int} (h : ∀ x y : Int, y < x → (cf x y < 0 ↔ cg x y < 0)) : ∀ (d i : Nat) (l : List Int), i + d ≤ l.length → (∀ p q : Nat, p < q → i ≤ q → q < l.length → rd l (p : Int) < rd l (q : Int)) → outr cf d i l = outr cg d i l := by
  intro d
  induction d with
  | zero => intro i l _ _; rfl
  | succ d ih =>
    intro i l hi hs
    have h1 : inn cf i l = inn cg i l := inn_same i l (by omega) (fun p hp => h _ _ (hs p i hp (Nat.le_refl _) (by omega)))
    rw [outr, outr, h1]
    obtain ⟨h2, h3⟩ := inn_at cg i l (by omega)
    refine ih (i + 1) _ (by rw [zd3]; omega) (fun p q hpq hq hql => ?_)
    rw [zd3] at hql
    rw [h2 q (by omega)]
    by_cases e : p ≤ i
    · obtain ⟨p', h4, h5⟩ := h3 p e
      rw [h5]
      exact hs p' q (by omega) (by omega) hql
    · rw [h2 p (by omega)]
      exact hs p q hpq (by omega) hql
theorem isort_same {cf cg : Int → Int → Int} (h : ∀ x y : Int, y < x → (cf x y < 0 ↔ cg x y < 0)) {l : List Int} (hl : l.Pairwise (· < ·)) : zdt cf l = zdt cg l := by
  unfold zdt
  rcases Nat.eq_zero_or_pos l.length with h0 | h0
  · rw [h0]; rfl
  · refine outr_same h _ _ l (by omega) (fun p q hpq _ hq => ?_)
    rw [zeo l p (by omega), zeo l q hq]
    exact List.pairwise_iff_getElem.1 hl p q (by omega) hq hpq
end Go.Proofs.Ytnilnaabjpcfjaa.Isort
namespace Go.Proofs.Ytnilnaabjpcfjaa.Fair
open Go.RowKit Go.Proofs.Ytnilnaabjpcfjaa.P Go.Proofs.Ytnilnaabjpcfjaa.Base Go.Proofs.Ytnilnaabjpcfjaa.Gen Go.Proofs.Ytnilnaabjpcfjaa.Alive Go.Proofs.Ytnilnaabjpcfjaa.Win Go.Proofs.Ytnilnaabjpcfjaa.Set Go.Proofs.Ytnilnaabjpcfjaa.Isort Go.Proofs.YtnilnaabjpcfjaaW.PrintWords Go.Proofs.YtnilnaabjpcfjaaW.PrintLast
set_option linter.unusedVariables false
def elg (l : List Task) (nx : List Int) (now : Int) : Nat → List Int
  | 0 => []
  | i + 1 => if wr (tk l (i : Int)).f0 (tk l (i : Int)).f2 (rd nx (i : Int)) ≤ now then elg l nx now i ++ [(i : Int)] else elg l nx now i
def srt (l : List Task) (nx : List Int) (now : Int) : List Int := zdt (fun x y => kf l nx x - kf l nx y) (elg l nx now l.length)
def row (l : List Task) (nx : List Int) (now m : Int) : List Int := (srt l nx now).take m.toNat
def StOk (l : List Task) (nx : List Int) (t : Nat) : Prop := nx.length = l.length ∧ ∀ i : Nat, i < l.length → 0 ≤ rd nx (i : Int) ∧ rd nx (i : Int) ≤ t
theorem zil {s : List Int} (h : s.Nodup) {i j : Nat} (hi : i < s.length) (hj : j < s.length) (e : s[i] = s[j]) : i = j := by
  have h1 := List.pairwise_iff_getElem.1 h
  by_cases h2 : i < j
  · exact absurd e (h1 i j hi hj h2)
  · by_cases h3 : j < i
    · exact absurd e.symm (h1 j i hj hi h3)
    · omega
theorem ze5 (l : List Task) (nx : List Int) (now : Int) : ∀ n (x : Int), x ∈ elg l nx now n ↔ 0 ≤ x ∧ x < (n : Int) ∧ wr (tk l x).f0 (tk l x).f2 (rd nx x) ≤ now := by
  intro n
  induction n with
  | zero => intro x; simp only [elg, List.not_mem_nil, false_iff]; omega
  | succ n ih =>
    intro x
    rw [elg]
    by_cases h : wr (tk l (n : Int)).f0 (tk l (n : Int)).f2 (rd nx (n : Int)) ≤ now
    · rw [if_pos h, List.mem_append, ih, List.mem_singleton]
      constructor
      · rintro (h1 | rfl)
        · exact ⟨h1.1, by omega, h1.2.2⟩
        · exact ⟨by omega, by omega, h⟩
      · intro h1
        by_cases e : x = (n : Int)
        · exact Or.inr e
        · exact Or.inl ⟨h1.1, by omega, h1.2.2⟩
    · rw [if_neg h, ih]
      constructor
      · intro h1; exact ⟨h1.1, by omega, h1.2.2⟩
      · intro h1
        by_cases e : x = (n : Int)
        · subst e; exact absurd h1.2.2 h
        · exact ⟨h1.1, by omega, h1.2.2⟩
theorem elg_up (l : List Task) (nx : List Int) (now : Int) : ∀ n, (elg l nx now n).Pairwise (· < ·) := by
  intro n
  induction n with
  | zero => exact List.Pairwise.nil
  | succ n ih =>
    rw [elg]
    split
    · rw [List.pairwise_append]
      refine ⟨ih, List.pairwise_singleton _ _, fun x hx y hy => ?_⟩
      have := (ze5 l nx now n x).1 hx
      rw [List.mem_singleton] at hy
      omega
    · exact ih
section
variable {l : List Task} (hI : Impl l) {nx : List Int} {t : Nat} (hS : StOk l nx t) (ht : t ≤ 400000)
include hI in
theorem tvt {x : Int} (h0 : 0 ≤ x) (h1 : x < (l.length : Int)) : TVt (tk l x) := by
  obtain ⟨T, rfl⟩ := Int.eq_ofNat_of_zero_le h0
  exact hI.1.2 _ (tk_mem (by omega))
include hS in
theorem zhj {x : Int} (h0 : 0 ≤ x) (h1 : x < (l.length : Int)) : 0 ≤ rd nx x ∧ rd nx x ≤ t := by
  obtain ⟨T, rfl⟩ := Int.eq_ofNat_of_zero_le h0
  exact hS.2 T (by omega)
include hI hS in
theorem kf_inj {x y : Int} (hx0 : 0 ≤ x) (hx1 : x < (l.length : Int)) (hy0 : 0 ≤ y) (hy1 : y < (l.length : Int)) (h : kf l nx x = kf l nx y) : x = y := by
  obtain ⟨e1, g1, a1, a2, a3, a4⟩ := zgi (tvt hI hx0 hx1) (zhj hS hx0 hx1).1
  obtain ⟨e2, g2, b1, b2, b3, b4⟩ := zgi (tvt hI hy0 hy1) (zhj hS hy0 hy1).1
  unfold kf at h
  rw [a1, b1] at h
  have := hI.1.1
  omega
include hI hS in
theorem zjm (now : Int) : (srt l nx now).Perm (elg l nx now l.length) ∧ (∀ p q : Nat, p < q → q < (srt l nx now).length → kf l nx (rd (srt l nx now) (p : Int)) < kf l nx (rd (srt l nx now) (q : Int))) := by
  have h1 := isort_ok (fun x y => kf l nx x - kf l nx y) (kf l nx) (elg l nx now l.length) (fun x _ y _ => by constructor <;> intro h <;> omega)
  have hp : (srt l nx now).Perm (elg l nx now l.length) := h1.1
  refine ⟨hp, fun p q hpq hq => ?_⟩
  have h2 := h1.2 p q hpq (by rw [← hp.length_eq]; exact hq)
  have h3 : kf l nx (rd (srt l nx now) (p : Int)) ≤ kf l nx (rd (srt l nx now) (q : Int)) := h2
  have hnd : (srt l nx now).Nodup := hp.nodup_iff.2 ((elg_up l nx now l.length).imp (fun h => by omega))
  have mp : rd (srt l nx now) (p : Int) ∈ srt l nx now := by rw [zeo _ p (by omega)]; exact List.getElem_mem _
  have mq : rd (srt l nx now) (q : Int) ∈ srt l nx now := by rw [zeo _ q hq]; exact List.getElem_mem _
  have bp := (ze5 l nx now l.length _).1 (hp.mem_iff.1 mp)
  have bq := (ze5 l nx now l.length _).1 (hp.mem_iff.1 mq)
  apply Classical.byContradiction
  intro h4
  have h5 := kf_inj hI hS bp.1 bp.2.1 bq.1 bq.2.1 (by omega)
  rw [zeo _ p (by omega), zeo _ q hq] at h5
  have := zil hnd (by omega) hq h5
  omega
include hI hS in
theorem zg7 (now x : Int) : x ∈ srt l nx now ↔ 0 ≤ x ∧ x < (l.length : Int) ∧ wr (tk l x).f0 (tk l x).f2 (rd nx x) ≤ now := by
  rw [(zjm hI hS now).1.mem_iff, ze5]
include hI hS in
theorem zg8 (now : Int) : (srt l nx now).Nodup := (zjm hI hS now).1.nodup_iff.2 ((elg_up l nx now l.length).imp (fun h => by omega))
include hI hS in
theorem zim (now : Int) : (srt l nx now).length ≤ 5 := by
  rw [(zjm hI hS now).1.length_eq]
  have : ∀ n, (elg l nx now n).length ≤ n := by
    intro n
    induction n with
    | zero => exact Nat.le_refl _
    | succ n ih =>
      rw [elg]
      split
      · rw [List.length_append, List.length_singleton]; omega
      · omega
  have h1 := this l.length
  have h2 := hI.1.1
  omega
include hI hS ht in
theorem flist_elg (now : Int) : ∀ n, n ≤ l.length → zdw l nx now n = elg l nx now n := by
  intro n
  induction n with
  | zero => intro _; rfl
  | succ n ih =>
    intro hn
    have h1 := zhj hS (x := (n : Int)) (by omega) (by omega)
    have h2 : fwin l nx (n : Int) = (wr (tk l (n : Int)).f0 (tk l (n : Int)).f2 (rd nx (n : Int)), wd (tk l (n : Int)).f0 (tk l (n : Int)).f2 (rd nx (n : Int))) := by
      show (zbn.f (tk l (n : Int)).f0 (tk l (n : Int)).f1 (tk l (n : Int)).f2 (rd nx (n : Int))).getD (0, 0) = _
      rw [zj4 (tvt hI (by omega) (by omega)) h1.1 (by omega)]
      rfl
    rw [zdw, elg, h2, ih (by omega)]
theorem uni {P : Int → Nat → Prop} : ∀ ls : List Int, (∀ a ∈ ls, ∃ K, ∀ k, K ≤ k → P a k) → ∃ K, ∀ a ∈ ls, ∀ k, K ≤ k → P a k
  | [], _ => ⟨0, fun a h => by cases h⟩
  | b :: ls, h => by
    obtain ⟨K1, h1⟩ := h b (by simp)
    obtain ⟨K2, h2⟩ := uni ls (fun a ha => h a (List.mem_cons_of_mem _ ha))
    refine ⟨max K1 K2, fun a ha k hk => ?_⟩
    rcases List.mem_cons.1 ha with rfl | ha
    · exact h1 k (by omega)
    · exact h2 a ha k (by omega)
include hI hS ht in
theorem row_ev (now m : Int) (hm : 0 ≤ m) : ∃ K, ∀ k, K ≤ k → fokb k l nx (zdw l nx now l.length) = true ∧ frow k l nx now m = row l nx now m := by
  have he := flist_elg hI hS ht now l.length (Nat.le_refl _)
  have h1 : ∀ a ∈ elg l nx now l.length, ∃ K, ∀ b ∈ elg l nx now l.length, ∀ k, K ≤ k → ∃ v, zft k l nx a b = some v ∧ (v < 0 ↔ key (tk l a).f0 (tk l a).f2 (rd nx a) 0 < key (tk l b).f0 (tk l b).f2 (rd nx b) 0) := by
    intro a ha
    refine uni (P := fun b k => ∃ v, zft k l nx a b = some v ∧ (v < 0 ↔ key (tk l a).f0 (tk l a).f2 (rd nx a) 0 < key (tk l b).f0 (tk l b).f2 (rd nx b) 0)) _ (fun b hb => ?_)
    have ha' := (ze5 l nx now l.length a).1 ha
    have hb' := (ze5 l nx now l.length b).1 hb
    have r1 := zhj hS ha'.1 ha'.2.1
    have r2 := zhj hS hb'.1 hb'.2.1
    obtain ⟨v, ⟨K, hK⟩, hv⟩ := ahead_tot (tvt hI ha'.1 ha'.2.1) (tvt hI hb'.1 hb'.2.1) r1.1 (by omega) r2.1 (by omega)
    exact ⟨K, fun k hk => ⟨v, hK k hk, hv⟩⟩
  obtain ⟨K, hK⟩ := uni (P := fun a k => ∀ b ∈ elg l nx now l.length, ∃ v, zft k l nx a b = some v ∧ (v < 0 ↔ key (tk l a).f0 (tk l a).f2 (rd nx a) 0 < key (tk l b).f0 (tk l b).f2 (rd nx b) 0)) (elg l nx now l.length) (fun a ha => by
    obtain ⟨K, h⟩ := h1 a ha
    exact ⟨K, fun k hk b hb => h b hb k hk⟩)
  refine ⟨K, fun k hk => ⟨?_, ?_⟩⟩
  · rw [he, fokb_iff]
    intro a ha b hb
    obtain ⟨v, hv, _⟩ := hK a ha k hk b hb
    show zft k l nx a b = some ((zft k l nx a b).getD 0)
    rw [hv]; rfl
  · unfold frow row srt
    rw [he]
    have h2 : zdt (fcmp k l nx) (elg l nx now l.length) = zdt (fun x y => if x ∈ elg l nx now l.length ∧ y ∈ elg l nx now l.length then fcmp k l nx x y else kf l nx x - kf l nx y) (elg l nx now l.length) :=
      zj3 (fun a ha b hb => by rw [if_pos ⟨ha, hb⟩])
    have h3 := isort_same (cf := fun x y => if x ∈ elg l nx now l.length ∧ y ∈ elg l nx now l.length then fcmp k l nx x y else kf l nx x - kf l nx y) (cg := fun x y => kf l nx x - kf l nx y) (fun x y hxy => by
      show (if x ∈ elg l nx now l.length ∧ y ∈ elg l nx now l.length then fcmp k l nx x y else kf l nx x - kf l nx y) < 0 ↔ kf l nx x - kf l nx y < 0
      by_cases hb : x ∈ elg l nx now l.length ∧ y ∈ elg l nx now l.length
      · rw [if_pos hb]
        obtain ⟨v, hv, hvk⟩ := hK x hb.1 k hk y hb.2
        have hx' := (ze5 l nx now l.length x).1 hb.1
        have hy' := (ze5 l nx now l.length y).1 hb.2
        have hfc : fcmp k l nx x y = v := by unfold fcmp; rw [hv]; rfl
        rw [hfc, hvk]
        obtain ⟨e1, g1, a1, a2, a3, a4⟩ := zgi (tvt hI hx'.1 hx'.2.1) (zhj hS hx'.1 hx'.2.1).1
        obtain ⟨e2, g2, b1, b2, b3, b4⟩ := zgi (tvt hI hy'.1 hy'.2.1) (zhj hS hy'.1 hy'.2.1).1
        unfold kf
        rw [a1, b1, a1, b1]
        have := hI.1.1
        omega
      · rw [if_neg hb]) (elg_up l nx now l.length)
    rw [h2, h3]
    generalize zdt (fun x y => kf l nx x - kf l nx y) (elg l nx now l.length) = s
    by_cases h4 : m ≤ (s.length : Int)
    · rw [show min m (s.length : Int) = m by omega]
    · rw [show min m (s.length : Int) = (s.length : Int) by omega, Int.toNat_natCast, List.take_of_length_le (Nat.le_refl _), List.take_of_length_le (by omega)]
theorem l4_tot (o : List Int) (v : Int) (ho : o.length ≤ 1000) : Tot (fun k => zca.f k o v) (fun r => r < 0 ↔ v ∉ o) := by
  have loop : ∀ d i, i + d = o.length → (∀ a (h : a < o.length), a < i → o[a] ≠ v) → Tot (fun k => zca.l0 k o v (i : Int)) (fun r => r < 0 ↔ v ∉ o) := by
    intro d
    induction d with
    | zero =>
      intro i hi hm
      refine Tot.step (fun k => by rw [zca.l0]) (Tot.no (by omega) (Tot.ret _ ⟨fun _ hv => ?_, fun _ => by omega⟩))
      obtain ⟨a, ha, rfl⟩ := List.mem_iff_getElem.1 hv
      exact hm a ha (by omega) rfl
    | succ d ih =>
      intro i hi hm
      have hil : i < o.length := by omega
      refine Tot.step (fun k => by rw [zca.l0]) (Tot.yes (by omega) (Tot.yes (by omega) ?_))
      rw [zeo o i hil, w64 (by omega) (by omega)]
      refine Tot.ite (fun h => Tot.ret _ ⟨fun h2 => by omega, fun h2 => absurd (h ▸ List.getElem_mem hil) h2⟩) (fun h => ih (i + 1) (by omega) (fun a ha hai => ?_))
      by_cases e : a = i
      · subst e; exact h
      · exact hm a ha (by omega)
  exact loop o.length 0 (by omega) (fun a _ h => by omega)
include hI hS ht in
theorem fpick_tot (now m : Int) : Tot (fun k => zbb.f k l nx now m) (fun r => r = row l nx now m) := by
  have hp := zjm hI hS now
  have hlen := zim hI hS now
  have hnd := zg8 hI hS now
  obtain ⟨s, hs⟩ : ∃ s, srt l nx now = s := ⟨_, rfl⟩
  have hmem : ∀ x, x ∈ s ↔ 0 ≤ x ∧ x < (l.length : Int) ∧ wr (tk l x).f0 (tk l x).f2 (rd nx x) ≤ now := fun x => by rw [← hs]; exact zg7 hI hS now x
  rw [hs] at hp hlen hnd
  have hl5 := hI.1.1
  have main : ∀ (d q : Nat), q + d = s.length → ((q : Int) ≤ m ∨ q = 0) → Tot (fun k => zbb.l0 k l nx now m (s.take q)) (fun r => r = s.take m.toNat) := by
    intro d
    induction d with
    | zero =>
      intro q hq hqm
      have hall : ∀ x, x ∈ s → x ∈ s.take q := fun x hx => by rw [List.take_of_length_le (by omega)]; exact hx
      refine Tot.step (fun k => by rw [zbb.l0]) (Tot.ite (fun c1 => ?_) (fun c1 => Tot.ret _ ?_))
      · have scan : ∀ e i : Nat, i + e = l.length → Tot (fun k => zbb.l1 k l nx now m (s.take q) (-1) (i : Int)) (fun r => r = s.take m.toNat) := by
          intro e
          induction e with
          | zero =>
            intro i hi
            refine Tot.step (fun k => by rw [zbb.l1]) (Tot.no (by omega) (Tot.yes (by decide) (Tot.ret _ ?_)))
            rw [List.length_take] at c1
            rw [List.take_of_length_le (by omega), List.take_of_length_le (by omega)]
          | succ e ih2 =>
            intro i hi
            have r1 := zhj hS (x := (i : Int)) (by omega) (by omega)
            refine Tot.step (fun k => by rw [zbb.l1]) ?_
            refine Tot.yes (by omega) (Tot.yes (by omega) ?_)
            refine Tot.yes (by rw [hS.1]; omega) ?_
            refine Tot.zdx (zgg (tvt hI (by omega) (by omega)) r1.1 (by omega)) ?_
            rw [w64 (x := (i : Int) + 1) (by omega) (by omega)]
            refine Tot.ite (fun c2 => ?_) (fun c2 => ih2 (i + 1) (by omega))
            refine Tot.bind (l4_tot (s.take q) (i : Int) (by rw [List.length_take]; omega)) ?_
            intro r hr
            refine Tot.no (fun h => (hr.1 h) (hall _ ((hmem _).2 ⟨by omega, by omega, c2⟩))) (ih2 (i + 1) (by omega))
        exact scan l.length 0 (by omega)
      · rw [List.length_take] at c1
        rcases hqm with h | h
        · rw [show m.toNat = q by omega]
        · subst h
          have h0 : s = [] := List.eq_nil_of_length_eq_zero (by omega)
          rw [h0]; simp
    | succ d ih =>
      intro q hq hqm
      have hql : q < s.length := by omega
      have hsq : s[q] ∉ s.take q := fun h => by
        obtain ⟨a, ha, e⟩ := List.mem_iff_getElem.1 h
        rw [List.length_take] at ha
        rw [List.getElem_take] at e
        have := zil hnd (by omega) hql e
        omega
      have hbq := (hmem s[q]).1 (List.getElem_mem hql)
      refine Tot.step (fun k => by rw [zbb.l0]) (Tot.ite (fun c1 => ?_) (fun c1 => Tot.ret _ ?_))
      · rw [List.length_take] at c1
        have scan : ∀ e (i : Nat) (b : Int), i + e = l.length → ((b = -1 ∧ (i : Int) ≤ s[q]) ∨ (0 ≤ b ∧ b < (i : Int) ∧ b ∈ s ∧ b ∉ s.take q ∧ (s[q] < (i : Int) → kf l nx b ≤ kf l nx s[q]))) →
            Tot (fun k => zbb.l1 k l nx now m (s.take q) b (i : Int)) (fun r => r = s.take m.toNat) := by
          intro e
          induction e with
          | zero =>
            intro i b hi hb
            rcases hb with ⟨_, hb⟩ | ⟨hb0, hbi, hbs, hbt, hbk⟩
            · omega
            · have hbk' := hbk (by omega)
              obtain ⟨a, ha, rfl⟩ := List.mem_iff_getElem.1 hbs
              have haq : ¬ a < q := fun h => hbt (List.mem_iff_getElem.2 ⟨a, by rw [List.length_take]; omega, by rw [List.getElem_take]⟩)
              have e2 : a = q := by
                apply Classical.byContradiction
                intro hne
                have := hp.2 q a (by omega) ha
                rw [zeo s q hql, zeo s a ha] at this
                omega
              subst e2
              refine Tot.step (fun k => by rw [zbb.l1]) (Tot.no (by omega) (Tot.no (by omega) (Tot.yes (by rw [List.length_take]; omega) ?_)))
              rw [← List.take_succ_eq_append_getElem hql]
              exact ih (a + 1) (by omega) (Or.inl (by omega))
          | succ e ih2 =>
            intro i b hi hb
            have r1 := zhj hS (x := (i : Int)) (by omega) (by omega)
            refine Tot.step (fun k => by rw [zbb.l1]) ?_
            refine Tot.yes (by omega) (Tot.yes (by omega) ?_)
            refine Tot.yes (by rw [hS.1]; omega) ?_
            refine Tot.zdx (zgg (tvt hI (by omega) (by omega)) r1.1 (by omega)) ?_
            rw [w64 (x := (i : Int) + 1) (by omega) (by omega)]
            have skip : (i : Int) ≠ s[q] → Tot (fun k => zbb.l1 k l nx now m (s.take q) b ((i : Int) + 1)) (fun r => r = s.take m.toNat) := fun hne => by
              refine ih2 (i + 1) b (by omega) ?_
              rcases hb with ⟨h1, h2⟩ | ⟨h1, h2, h3, h4, h5⟩
              · left; exact ⟨h1, by omega⟩
              · right; exact ⟨h1, by omega, h3, h4, fun h => h5 (by omega)⟩
            refine Tot.ite (fun c2 => ?_) (fun c2 => skip (fun h => c2 (by rw [h]; exact hbq.2.2)))
            refine Tot.bind (l4_tot (s.take q) (i : Int) (by rw [List.length_take]; omega)) ?_
            intro r hr
            refine Tot.ite (fun c3 => ?_) (fun c3 => skip (fun h => c3 (hr.2 (by rw [h]; exact hsq))))
            have hi_s : (i : Int) ∈ s := (hmem _).2 ⟨by omega, by omega, c2⟩
            have hi_t := hr.1 c3
            refine Tot.ite (fun c4 => ?_) (fun c4 => ?_)
            · refine ih2 (i + 1) (i : Int) (by omega) (Or.inr ⟨by omega, by omega, hi_s, hi_t, fun h => ?_⟩)
              rcases hb with ⟨h1, h2⟩ | ⟨h1, _⟩
              · have : s[q] = (i : Int) := by omega
                rw [this]; exact Int.le_refl _
              · omega
            · rcases hb with ⟨h1, h2⟩ | ⟨h1, h2, h3, h4, h5⟩
              · omega
              · have hb' := (hmem b).1 h3
                have r2 := zhj hS hb'.1 hb'.2.1
                refine Tot.bind (before_tot ⟨by omega, by omega⟩ ⟨hb'.1, hb'.2.1⟩ hS.1 hl5 (tvt hI (by omega) (by omega)) (tvt hI hb'.1 hb'.2.1) r1.1 (by omega) r2.1 (by omega)) ?_
                rintro _ rfl
                refine Tot.ite (fun c5 => ?_) (fun c5 => ?_)
                · have c5 := of_decide_eq_true c5
                  refine ih2 (i + 1) (i : Int) (by omega) (Or.inr ⟨by omega, by omega, hi_s, hi_t, fun h => ?_⟩)
                  by_cases e3 : s[q] = (i : Int)
                  · rw [e3]; exact Int.le_refl _
                  · have := h5 (by omega); omega
                · have c5 : ¬ kf l nx (i : Int) < kf l nx b := fun h => c5 (decide_eq_true h)
                  refine ih2 (i + 1) b (by omega) (Or.inr ⟨h1, by omega, h3, h4, fun h => ?_⟩)
                  by_cases e3 : s[q] = (i : Int)
                  · rw [e3]; omega
                  · exact h5 (by omega)
        exact scan l.length 0 (-1) (by omega) (Or.inl ⟨rfl, by have := hbq.1; omega⟩)
      · rw [List.length_take] at c1
        rcases hqm with h | h
        · rw [show m.toNat = q by omega]
        · subst h
          rw [show m.toNat = 0 by omega]
  unfold zbb.f row
  rw [hs]
  exact main s.length 0 (by omega) (Or.inr rfl)
end
end Go.Proofs.Ytnilnaabjpcfjaa.Fair
namespace Go.Proofs.Ytnilnaabjpcfjaa.Tm
open Go.RowKit Go.Proofs.Ytnilnaabjpcfjaa.P Go.Proofs.Ytnilnaabjpcfjaa.Base Go.Proofs.Ytnilnaabjpcfjaa.Gen Go.Proofs.Ytnilnaabjpcfjaa.Alive Go.Proofs.Ytnilnaabjpcfjaa.Set Go.Proofs.YtnilnaabjpcfjaaW.PrintWords Go.Proofs.YtnilnaabjpcfjaaW.PrintLast
def sm {α : Type} (f : α → Int) : List α → Int
  | [] => 0
  | a :: l => f a + sm f l
theorem sm_append {α : Type} (f : α → Int) (l m : List α) : sm f (l ++ m) = sm f l + sm f m := by
  induction l with
  | nil => simp [sm]
  | cons a l ih => rw [List.cons_append, sm, sm, ih]; omega
theorem sm_take {α : Type} (f : α → Int) (l : List α) (i : Nat) (h : i < l.length) : sm f (l.take (i + 1)) = sm f (l.take i) + f l[i] := by
  rw [List.take_succ_eq_append_getElem h, sm_append]
  simp [sm]
theorem zfg {α : Type} (f g : α → Int) (l : List α) (h : ∀ a ∈ l, f a ≤ g a) : sm f l ≤ sm g l := by
  induction l with
  | nil => exact Int.le_refl _
  | cons a l ih =>
    have h1 := h a (List.mem_cons_self ..)
    have h2 := ih (fun x hx => h x (List.mem_cons_of_mem _ hx))
    rw [sm, sm]; omega
theorem zdp {α : Type} (f g : α → Int) (l : List α) (h : ∀ a ∈ l, f a = g a) : sm f l = sm g l := by
  induction l with
  | nil => rfl
  | cons a l ih => rw [sm, sm, h a (List.mem_cons_self ..), ih (fun x hx => h x (List.mem_cons_of_mem _ hx))]
theorem zfv {α : Type} (f : α → Int) (l : List α) (h : ∀ a ∈ l, 0 ≤ f a) : 0 ≤ sm f l := by
  induction l with
  | nil => exact Int.le_refl _
  | cons a l ih =>
    have h1 := h a (List.mem_cons_self ..)
    have h2 := ih (fun x hx => h x (List.mem_cons_of_mem _ hx))
    rw [sm]; omega
theorem sm_bd {α : Type} (f : α → Int) (l : List α) (B : Int) (hB : ∀ a ∈ l, f a ≤ B) : sm f l ≤ l.length * B := by
  induction l with
  | nil => simp [sm]
  | cons a l ih =>
    have h1 := hB a (List.mem_cons_self ..)
    have h2 := ih (fun x hx => hB x (List.mem_cons_of_mem _ hx))
    rw [sm, List.length_cons, Int.natCast_add, Int.add_mul]; simp only [Int.natCast_one, Int.one_mul]; omega
theorem zhw {α : Type} (f g : α → Int) (l : List α) : sm (fun a => f a + g a) l = sm f l + sm g l := by
  induction l with
  | nil => rfl
  | cons a l ih => rw [sm, sm, sm, ih]; omega
theorem zhx {α : Type} (f : α → Int) (c : Int) (l : List α) : sm (fun a => c * f a) l = c * sm f l := by
  induction l with
  | nil => simp [sm]
  | cons a l ih => rw [sm, sm, ih, Int.mul_add]
theorem take_bd {α : Type} (f : α → Int) (l : List α) (B : Int) (h0 : ∀ a ∈ l, 0 ≤ f a ∧ f a ≤ B) (i : Nat) (hi : i ≤ l.length) : 0 ≤ sm f (l.take i) ∧ sm f (l.take i) ≤ i * B := by
  refine ⟨zfv _ _ (fun a ha => (h0 a (List.mem_of_mem_take ha)).1), ?_⟩
  have := sm_bd f (l.take i) B (fun a ha => (h0 a (List.mem_of_mem_take ha)).2)
  rwa [List.length_take, Nat.min_eq_left hi] at this
def hy (l : List Task) : Nat := l.foldl (fun h t => Nat.lcm h t.f2.toNat) 1
theorem hy_take (l : List Task) (i : Nat) (h : i < l.length) : hy (l.take (i + 1)) = Nat.lcm (hy (l.take i)) l[i].f2.toNat := by
  unfold hy
  rw [List.take_succ_eq_append_getElem h, List.foldl_append]
  rfl
theorem fold_dvd (l : List Task) : ∀ h : Nat, h ∣ l.foldl (fun h t => Nat.lcm h t.f2.toNat) h ∧ ∀ t ∈ l, t.f2.toNat ∣ l.foldl (fun h t => Nat.lcm h t.f2.toNat) h := by
  induction l with
  | nil => intro h; exact ⟨Nat.dvd_refl _, fun t ht => by simp at ht⟩
  | cons a l ih =>
    intro h
    obtain ⟨h1, h2⟩ := ih (Nat.lcm h a.f2.toNat)
    refine ⟨Nat.dvd_trans (Nat.dvd_lcm_left _ _) h1, fun t ht => ?_⟩
    rcases List.mem_cons.1 ht with rfl | ht
    · exact Nat.dvd_trans (Nat.dvd_lcm_right _ _) h1
    · exact h2 t ht
theorem hy_dvd {l : List Task} {t : Task} (ht : t ∈ l) : t.f2.toNat ∣ hy l := (fold_dvd l 1).2 t ht
theorem fold_least (l : List Task) (m : Nat) (hm : ∀ t ∈ l, t.f2.toNat ∣ m) : ∀ h : Nat, h ∣ m → l.foldl (fun h t => Nat.lcm h t.f2.toNat) h ∣ m := by
  induction l with
  | nil => intro h hh; exact hh
  | cons a l ih =>
    intro h hh
    exact ih (fun t ht => hm t (List.mem_cons_of_mem _ ht)) _ (Nat.lcm_dvd hh (hm a (List.mem_cons_self ..)))
theorem hy_least {l : List Task} {m : Nat} (hm : ∀ t ∈ l, t.f2.toNat ∣ m) : hy l ∣ m := fold_least l m hm 1 (Nat.one_dvd _)
def AllV (l : List Task) : Prop := ∀ t ∈ l, TVt t
theorem _root_.Go.Proofs.Ytnilnaabjpcfjaa.Set.zeb.all {l : List Task} (h : zeb l) : AllV l := h.2
theorem small_dvd {p : Nat} (h1 : 1 ≤ p) (h2 : p ≤ 12) : p ∣ 27720 := by
  have : p = 1 ∨ p = 2 ∨ p = 3 ∨ p = 4 ∨ p = 5 ∨ p = 6 ∨ p = 7 ∨ p = 8 ∨ p = 9 ∨ p = 10 ∨ p = 11 ∨ p = 12 := by omega
  rcases this with rfl | rfl | rfl | rfl | rfl | rfl | rfl | rfl | rfl | rfl | rfl | rfl <;> decide
theorem hy_small {l : List Task} (h : AllV l) : hy l ∣ 27720 := hy_least fun t ht => by
  have := h t ht
  unfold TVt TV at this
  exact small_dvd (by omega) (by omega)
theorem zjn {l : List Task} (h : AllV l) : 1 ≤ hy l ∧ hy l ≤ 27720 := by
  have h1 := hy_small h
  have h2 := Nat.le_of_dvd (by omega) h1
  have h3 : hy l ≠ 0 := fun e => by rw [e] at h1; simp at h1
  omega
theorem AllV.take {l : List Task} (h : AllV l) (i : Nat) : AllV (l.take i) := fun t ht => h t (List.mem_of_mem_take ht)
theorem lcm_div (a b : Nat) (h : 0 < a) : a / Nat.gcd a b * b = Nat.lcm a b := by
  unfold Nat.lcm
  obtain ⟨k, hk⟩ := Nat.gcd_dvd_left a b
  have hg : 0 < Nat.gcd a b := Nat.gcd_pos_of_pos_left _ h
  generalize Nat.gcd a b = g at *
  subst hk
  rw [Nat.mul_div_cancel_left _ hg, Nat.mul_assoc, Nat.mul_div_cancel_left _ hg]
def wk (l : List Task) (m : Int) : Int := sm (fun t => m / t.f2 * t.f0) l
def ld (l : List Task) : Int := wk l (hy l)
def d1 (t : Int) (x : Task) : Int := if t ≥ x.f1 then ((t - x.f1) / x.f2 + 1) * x.f0 else 0
def dm (l : List Task) (t : Int) : Int := sm (d1 t) l
theorem hy_int {l : List Task} (hl : AllV l) {x : Task} (hx : x ∈ l) : x.f2 ∣ (hy l : Int) := by
  have h1 := hy_dvd hx
  have := hl x hx
  unfold TVt TV at this
  have := Int.natCast_dvd_natCast.2 h1
  rwa [Int.toNat_of_nonneg (by omega)] at this
def Edf (l : List Task) : Prop := zeb l ∧ ∀ t : Int, 1 ≤ t → t ≤ hy l → dm l t ≤ t
theorem ld_bd {l : List Task} (h : zeb l) : 0 ≤ ld l ∧ ld l ≤ 1108800 := by
  have hb := zjn h.all
  have h1 : ∀ t ∈ l, 0 ≤ (hy l : Int) / t.f2 * t.f0 ∧ (hy l : Int) / t.f2 * t.f0 ≤ 27720 * 8 := by
    intro t ht
    have := h.2 t ht
    unfold TVt TV at this
    have h1 := Int.ediv_nonneg (show 0 ≤ (hy l : Int) by omega) (show 0 ≤ t.f2 by omega)
    have h2 := Int.ediv_le_self t.f2 (show 0 ≤ (hy l : Int) by omega)
    exact zgf h1 (by omega) (by omega) (by omega)
  have h2 := take_bd _ l _ h1 l.length (Nat.le_refl _)
  rw [List.take_length] at h2
  have h3 := h.1
  unfold ld wk
  omega
theorem rdT_at (l : List Task) (i : Nat) (h : i < l.length) : zg l (i : Int) = l[i] := by
  unfold zg
  rw [List.getD_eq_getElem?_getD, Int.toNat_natCast, List.getElem?_eq_getElem h]
  rfl
theorem stv_f (c d p : Int) : zc7.f c d p = some (decide (TV c d p)) := by
  unfold zc7.f
  rw [l1In_f, l1In_f, l1In_f, zfu, zfu]
  by_cases h1 : 1 ≤ c ∧ c ≤ 8
  · by_cases h2 : c ≤ d ∧ d ≤ p
    · rw [if_pos h1, if_pos h2]; simp only [Option.bind_some]; congr 1; rw [decide_eq_decide]; unfold TV; omega
    · rw [if_pos h1, if_neg h2]; congr 1; symm; rw [decide_eq_false_iff_not]; unfold TV; omega
  · rw [if_neg h1]; congr 1; symm; rw [decide_eq_false_iff_not]; unfold TV; omega
theorem sset_ev (l : List Task) (hl : l.length ≤ 2097152) : Ev (fun k => zb3.f k l) (decide (zeb l)) := by
  have loop : ∀ d i, i + d = l.length → (∀ j (h : j < l.length), j < i → TVt l[j]) → Ev (fun k => zb3.l0 k l (i : Int)) (decide (zeb l)) := by
    intro d
    induction d with
    | zero =>
      intro i hi hm
      have ha : ∀ t ∈ l, TVt t := by
        intro t ht
        obtain ⟨j, hj, rfl⟩ := List.mem_iff_getElem.1 ht
        exact hm j hj (by omega)
      refine Ev.step (f := fun _ => some (decide (zeb l))) (fun k => ?_) (Ev.now _)
      simp only [zb3.l0]
      rw [if_neg (by omega)]
      congr 1
      rw [decide_eq_decide]
      unfold zeb
      exact ⟨fun h => ⟨by omega, ha⟩, fun h => by omega⟩
    | succ d ih =>
      intro i hi hm
      have hil : i < l.length := by omega
      by_cases hv : TVt l[i]
      · refine Ev.step (fun k => ?_) (ih (i + 1) (by omega) (fun j hj hji => ?_))
        · have hv' : TV l[i].f0 l[i].f1 l[i].f2 := hv
          simp only [zb3.l0]
          rw [if_pos (by omega), if_pos (by omega), rdT_at l i hil, stv_f, decide_eq_true hv', w64 (by omega) (by omega)]
          rfl
        · by_cases e : j = i
          · subst e; exact hv
          · exact hm j hj (by omega)
      · rw [decide_eq_false (fun h => hv (h.2 _ (List.getElem_mem hil)))]
        have hv' : ¬ TV l[i].f0 l[i].f1 l[i].f2 := hv
        refine Ev.step (f := fun _ => some false) (fun k => ?_) (Ev.now _)
        simp only [zb3.l0]
        rw [if_pos (by omega), if_pos (by omega), rdT_at l i hil, stv_f, decide_eq_false hv']
        rfl
  exact loop l.length 0 (by omega) (fun j _ h => by omega)
end Go.Proofs.Ytnilnaabjpcfjaa.Tm
