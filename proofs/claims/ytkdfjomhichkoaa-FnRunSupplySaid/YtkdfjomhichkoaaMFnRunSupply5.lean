/- The law FnRunSupply for every input, part 5 of its proof: what the program's functions answer, and the plain law. No condition. -/
import Derived.Test.YtkdfjomhichkoaaMFnRunSupply1
import Derived.Test.YtkdfjomhichkoaaMFnRunSupply3
import Derived.Test.YtkdfjomhichkoaaMFnRunSupply4
namespace Go.Proofs.Ytkdfjomhichkoaa.P
open Go.RowKit Go.Proofs.YtkdfjomhichkoaaW.PrintWords Go.Proofs.YtkdfjomhichkoaaW.PrintLast Go.Proofs.YtkdfjomhichkoaaW.PrintMore
attribute [local go_sem] max2_int min2_int max_two min_two max_three min_three max_four min_four
set_option linter.unusedVariables false
set_option linter.unusedSimpArgs false
mutual
def zq.j0 : Nat → List (S88) → List (S34) → Bool → Option (Bool)
 | 0, _, _, _ => none
 | k + 1, x0, x1, x16 => if x16 = true then (some false) else (if 0 ≤ (x0.length : Int) then (if ((x0.length : Int) : Int).toNat ≤ 35184372088832 then (zq.l0 k x0 x1 (List.replicate ((x0.length : Int) : Int).toNat 0) 0) else (none)) else (none))
def zq.l0 : Nat → List (S88) → List (S34) → List Int → Int → Option (Bool)
 | 0, _, _, _, _ => none
 | k + 1, x0, x1, x5, x6 => if x6 < (x1.length : Int) then (if 0 ≤ x6 then ((zbw.f ((ze x1 x6).f0) 0 (wrap64 ((x0.length : Int) - 1))).bind fun t318 => (if t318 = true then ((zbw.f ((ze x1 x6).f1) 0 119).bind fun t319 => (zq.j2 k x0 x1 x5 x6 (!t319) ((ze x1 x6).f0) ((ze x1 x6).f1) ((ze x1 x6).f2) ((ze x1 x6).f3))) else (zq.j2 k x0 x1 x5 x6 true ((ze x1 x6).f0) ((ze x1 x6).f1) ((ze x1 x6).f2) ((ze x1 x6).f3)))) else (none)) else (some true)
def zq.j2 : Nat → List (S88) → List (S34) → List Int → Int → Bool → Int → Int → Int → Int → Option (Bool)
 | 0, _, _, _, _, _, _, _, _, _ => none
 | k + 1, x0, x1, x5, x6, x42, x318000, x318001, x318002, x318003 => if x42 = true then (some false) else (if 0 ≤ x318000 then (if x318000 < (x0.length : Int) then (if x318000 < (x5.length : Int) then (if x318001 < (rd x5 x318000) then (zq.j3 k x0 x1 x5 x6 true x318000 x318001 x318002 x318003 ((zbf x0 x318000).f0) ((zbf x0 x318000).f1) ((zbf x0 x318000).f2)) else (if x318002 = (wrap64 (x318001 + ((zbf x0 x318000).f1))) then ((zbw.f x318003 1 ((zbf x0 x318000).f0)).bind fun t323 => (zq.j3 k x0 x1 x5 x6 (!t323) x318000 x318001 x318002 x318003 ((zbf x0 x318000).f0) ((zbf x0 x318000).f1) ((zbf x0 x318000).f2))) else (zq.j3 k x0 x1 x5 x6 true x318000 x318001 x318002 x318003 ((zbf x0 x318000).f0) ((zbf x0 x318000).f1) ((zbf x0 x318000).f2)))) else (none)) else (none)) else (none))
def zq.j3 : Nat → List (S88) → List (S34) → List Int → Int → Bool → Int → Int → Int → Int → Int → Int → Int → Option (Bool)
 | 0, _, _, _, _, _, _, _, _, _, _, _, _ => none
 | k + 1, x0, x1, x5, x6, x73, x318000, x318001, x318002, x318003, x322000, x322001, x322002 => if x73 = true then (some false) else (if x6 > 0 then (if 0 ≤ (wrap64 (x6 - 1)) then (if (wrap64 (x6 - 1)) < (x1.length : Int) then (if ((ze x1 (wrap64 (x6 - 1))).f1) > x318001 then (some false) else (if ((ze x1 (wrap64 (x6 - 1))).f1) = x318001 then (if ((ze x1 (wrap64 (x6 - 1))).f0) ≥ x318000 then (some false) else (if 0 ≤ x318000 then (if x318000 < (x5.length : Int) then (zq.l0 k x0 x1 (x5.set (x318000 : Int).toNat (wrap64 (x318001 + x322002))) (wrap64 (x6 + 1))) else (none)) else (none))) else (if 0 ≤ x318000 then (if x318000 < (x5.length : Int) then (zq.l0 k x0 x1 (x5.set (x318000 : Int).toNat (wrap64 (x318001 + x322002))) (wrap64 (x6 + 1))) else (none)) else (none)))) else (none)) else (none)) else (if 0 ≤ x318000 then (if x318000 < (x5.length : Int) then (zq.l0 k x0 x1 (x5.set (x318000 : Int).toNat (wrap64 (x318001 + x322002))) (wrap64 (x6 + 1))) else (none)) else (none)))
end
def zq.f (k : Nat) (l0 : List (S88)) (l1 : List (S34)) : Option (Bool) := (zbx.f k l0).bind fun t312 => (if t312 = true then (zq.j0 k l0 l1 (decide ((l1.length : Int) > 60))) else (zq.j0 k l0 l1 true))
set_option maxHeartbeats 8000000 in
set_option maxRecDepth 100000 in
theorem zq.calls (k : Nat) (A0 : Option Addr) (c0 : Nat) (l0 : List (S88)) (A1 : Option Addr) (c1 : Nat) (l1 : List (S34)) (r : Bool) (w : World) (hr0 : Kd.C k88 w A0 l0.length l0) (hc0 : l0.length ≤ c0) (hr1 : Kd.C k34 w A1 l1.length l1) (hc1 : l1.length ≤ c1) (h : zq.f k l0 l1 = some r) :
  Calls Try.prog 56 #[.slice A0 l0.length c0, .slice A1 l1.length c1] w fun e w' => e = .returned (.bool r) ∧ Below w.heap.size w w' := by
 have hu34 := Try.underlying34
 have hu88 := Try.underlying88
 have HR0 := za.mk hr0
 have HC0 := za.mk hc0
 clear hr0 hc0
 have HR1 := za.mk hr1
 have HC1 := za.mk hc1
 clear hr1 hc1
 have HB := za.mk (Below.refl w.heap.size w)
 have H : ((zbx.f k l0).bind fun t312 => (if t312 = true then (zq.j0 k l0 l1 (decide ((l1.length : Int) > 60))) else (zq.j0 k l0 l1 true))) = some r := h
 clear h
 have HC3 := za.mk H
 clear H
 go_enter Try.func56, Try.ntmps56
 go_upto_region 1 with (fail)
 repeat (go_quiet (fail); go_upto_region 1 with (fail))
 go_cut [16] (fun v16 wc => ∃ (kq : Nat) (x16_2 : Bool), v16 = .bool x16_2 ∧ za (zq.j0 kq l0 l1 x16_2 = some r) ∧ za (kq ≤ k) ∧ za (Below w.heap.size w wc))
 case first =>
  have H := HC3.out
  clear HC3
  replace H := Option.bind_eq_some_iff.mp H
  obtain ⟨t312, A40, H⟩ := H
  replace H : (if t312 = true then (zq.j0 k l0 l1 (decide ((l1.length : Int) > 60))) else (zq.j0 k l0 l1 true)) = some r := H
  have A4 := za.mk A40
  clear A40
  by_cases c5 : t312 = true
  ·subst c5
   have H1 : (zq.j0 k l0 l1 (decide ((l1.length : Int) > 60))) = some r := by rw [if_pos rfl] at H; exact H
   clear H
   have H := H1
   clear H1
   have H' := za.mk H
   clear H
   go_wp2_with (first | (go_at_call 46; (with_reducible refine (zbx.calls k _ _ l0 true _ ?side1 ?side2 A4.out).mono ?_); (case side1 => exact Zq6 (Kd.zb8 HR0.out HB.out)); (case side2 => exact HC0.out); rintro e w6 ⟨rfl, hb⟩; have n0_ := za.mk (zo (Zq3 HB.out) hb); clear HB; have HB := n0_; clear n0_; (try clear hb); (try clear hb2); (try clear hk); (try clear hi)))
   repeat (go_quiet (first | (go_at_call 46; (with_reducible refine (zbx.calls k _ _ l0 true _ ?side1 ?side2 A4.out).mono ?_); (case side1 => exact Zq6 (Kd.zb8 HR0.out HB.out)); (case side2 => exact HC0.out); rintro e w6 ⟨rfl, hb⟩; have n0_ := za.mk (zo (Zq3 HB.out) hb); clear HB; have HB := n0_; clear n0_; (try clear hb); (try clear hb2); (try clear hk); (try clear hi))); try go_wp2_with (first | (go_at_call 46; (with_reducible refine (zbx.calls k _ _ l0 true _ ?side1 ?side2 A4.out).mono ?_); (case side1 => exact Zq6 (Kd.zb8 HR0.out HB.out)); (case side2 => exact HC0.out); rintro e w6 ⟨rfl, hb⟩; have n0_ := za.mk (zo (Zq3 HB.out) hb); clear HB; have HB := n0_; clear n0_; (try clear hb); (try clear hb2); (try clear hk); (try clear hi))))
   go_meet
   case rel => exact ⟨_, (decide ((l1.length : Int) > 60)), Zrs, H', ⟨by first | omega | exact Nat.le_refl _⟩, ⟨Zq3 HB.out⟩⟩
  ·replace c5 := Bool.eq_false_iff.mpr c5
   subst c5
   have H1 : (zq.j0 k l0 l1 true) = some r := by rw [if_neg (show ¬ (false = true) by decide)] at H; exact H
   clear H
   have H := H1
   clear H1
   have H' := za.mk H
   clear H
   go_wp2_with (first | (go_at_call 46; (with_reducible refine (zbx.calls k _ _ l0 false _ ?side1 ?side2 A4.out).mono ?_); (case side1 => exact Zq6 (Kd.zb8 HR0.out HB.out)); (case side2 => exact HC0.out); rintro e w7 ⟨rfl, hb⟩; have n0_ := za.mk (zo (Zq3 HB.out) hb); clear HB; have HB := n0_; clear n0_; (try clear hb); (try clear hb2); (try clear hk); (try clear hi)))
   repeat (go_quiet (first | (go_at_call 46; (with_reducible refine (zbx.calls k _ _ l0 false _ ?side1 ?side2 A4.out).mono ?_); (case side1 => exact Zq6 (Kd.zb8 HR0.out HB.out)); (case side2 => exact HC0.out); rintro e w7 ⟨rfl, hb⟩; have n0_ := za.mk (zo (Zq3 HB.out) hb); clear HB; have HB := n0_; clear n0_; (try clear hb); (try clear hb2); (try clear hk); (try clear hi))); try go_wp2_with (first | (go_at_call 46; (with_reducible refine (zbx.calls k _ _ l0 false _ ?side1 ?side2 A4.out).mono ?_); (case side1 => exact Zq6 (Kd.zb8 HR0.out HB.out)); (case side2 => exact HC0.out); rintro e w7 ⟨rfl, hb⟩; have n0_ := za.mk (zo (Zq3 HB.out) hb); clear HB; have HB := n0_; clear n0_; (try clear hb); (try clear hb2); (try clear hk); (try clear hi))))
   go_meet
   case rel => exact ⟨_, (true), Zrs, H', ⟨by first | omega | exact Nat.le_refl _⟩, ⟨Zq3 HB.out⟩⟩
 case rest =>
  clear HC3
  try clear c1
  try clear p2
  try clear c5
  obtain ⟨kq, x16_2, rfl, HA, HJ2, HB⟩ := hcut
  cases kq with
  | zero => exact absurd HA.out (by simp [zq.j0])
  | succ kj2 =>
   have H := HA.out
   clear HA
   simp only [zq.j0] at H
   by_cases c8 : x16_2 = true
   ·subst c8
    have H1 : (some false) = some r := by rw [if_pos rfl] at H; exact H
    clear H
    have H := H1
    clear H1
    obtain rfl := Option.some.inj H
    go_wp2
    repeat (go_quiet (fail); try go_wp2)
    go_ret
    exact ⟨by first | rfl | (simp [zbc, zbd] <;> rfl) | (simp [*, zbc, zbd] <;> rfl), Zq3 HB.out⟩
   ·replace c8 := Bool.eq_false_iff.mpr c8
    subst c8
    have H1 : (if 0 ≤ (l0.length : Int) then (if ((l0.length : Int) : Int).toNat ≤ 35184372088832 then (zq.l0 kj2 l0 l1 (List.replicate ((l0.length : Int) : Int).toNat 0) 0) else (none)) else (none)) = some r := by rw [if_neg (show ¬ (false = true) by decide)] at H; exact H
    clear H
    have H := H1
    clear H1
    by_cases c9 : 0 ≤ (l0.length : Int)
    ·rw [if_pos c9] at H
     have c9b0 := eq_true c9
     have c9b1 : decide (0 ≤ (l0.length : Int)) = true := decide_eq_true c9
     clear c9
     by_cases c10 : ((l0.length : Int) : Int).toNat ≤ 35184372088832
     ·rw [if_pos c10] at H
      have c10b0 := eq_true c10
      have c10b1 : decide (((l0.length : Int) : Int).toNat ≤ 35184372088832) = true := decide_eq_true c10
      clear c10
      obtain ⟨y313, hy313⟩ : ∃ y_ : List Int, y_ = (List.replicate ((l0.length : Int) : Int).toNat 0) := ⟨_, rfl⟩
      replace H : (zq.l0 kj2 l0 l1 y313 0) = some r := by first | (rw [hy313]; with_reducible exact H) | (have H2_ := (Option.bind_some _ _).symm.trans H; rw [hy313]; with_reducible exact H2_) | (have H2_ := (Option.bind_some _ _).symm.trans H; with_reducible exact H2_) | with_reducible exact H | (rw [hy313]; exact H) | exact H
      have Ny313 := za.mk hy313
      clear hy313
      have H' := za.mk H
      clear H
      go_wp2_with (first | ((with_reducible refine zbp (N := 19) rfl ?_); (try (refine zcg (by rfl) ?_; dsimp only)); refine Kd.R_make (Kd.int .i64) _ 3 rfl (N := 19) rfl 27 _ _ rfl (l0.length : Int) rfl rfl Try.underlying27 (.int .i64 0) 8 info3 rfl (by decide) (by omega) 0 (ok := fun _ => True) (okp := fun _ => True) rfl (fun _ hk => hk) trivial (of_decide_eq_true Zas) (Nat.le_trans (Nat.mul_le_mul_right _ (of_decide_eq_true Zas : (l0.length : Int).toNat ≤ 35184372088832)) (by omega)) (Below.refl _ _) (Nat.le_refl _) ?_; intro v314 w11 ho12 hb hg_ hnew_; clear hg_ hnew_; (first | rw [← Ny313.out] at ho12 | (simp only [Int.reduceToNat] at ho12; rw [← Ny313.out] at ho12)); have n0_ := za.mk (Kd.zb2 ho12 (zbb (Zq3 HB.out))); have n1_ := za.mk (zo (Zq3 HB.out) hb); clear HB; have HO315 := n0_; have HB := n1_; clear n0_ n1_; clear hb ho12))
      repeat (go_quiet (first | ((with_reducible refine zbp (N := 19) rfl ?_); (try (refine zcg (by rfl) ?_; dsimp only)); refine Kd.R_make (Kd.int .i64) _ 3 rfl (N := 19) rfl 27 _ _ rfl (l0.length : Int) rfl rfl Try.underlying27 (.int .i64 0) 8 info3 rfl (by decide) (by omega) 0 (ok := fun _ => True) (okp := fun _ => True) rfl (fun _ hk => hk) trivial (of_decide_eq_true Zas) (Nat.le_trans (Nat.mul_le_mul_right _ (of_decide_eq_true Zas : (l0.length : Int).toNat ≤ 35184372088832)) (by omega)) (Below.refl _ _) (Nat.le_refl _) ?_; intro v314 w11 ho12 hb hg_ hnew_; clear hg_ hnew_; (first | rw [← Ny313.out] at ho12 | (simp only [Int.reduceToNat] at ho12; rw [← Ny313.out] at ho12)); have n0_ := za.mk (Kd.zb2 ho12 (zbb (Zq3 HB.out))); have n1_ := za.mk (zo (Zq3 HB.out) hb); clear HB; have HO315 := n0_; have HB := n1_; clear n0_ n1_; clear hb ho12)); try go_wp2_with (first | ((with_reducible refine zbp (N := 19) rfl ?_); (try (refine zcg (by rfl) ?_; dsimp only)); refine Kd.R_make (Kd.int .i64) _ 3 rfl (N := 19) rfl 27 _ _ rfl (l0.length : Int) rfl rfl Try.underlying27 (.int .i64 0) 8 info3 rfl (by decide) (by omega) 0 (ok := fun _ => True) (okp := fun _ => True) rfl (fun _ hk => hk) trivial (of_decide_eq_true Zas) (Nat.le_trans (Nat.mul_le_mul_right _ (of_decide_eq_true Zas : (l0.length : Int).toNat ≤ 35184372088832)) (by omega)) (Below.refl _ _) (Nat.le_refl _) ?_; intro v314 w11 ho12 hb hg_ hnew_; clear hg_ hnew_; (first | rw [← Ny313.out] at ho12 | (simp only [Int.reduceToNat] at ho12; rw [← Ny313.out] at ho12)); have n0_ := za.mk (Kd.zb2 ho12 (zbb (Zq3 HB.out))); have n1_ := za.mk (zo (Zq3 HB.out) hb); clear HB; have HO315 := n0_; have HB := n1_; clear n0_ n1_; clear hb ho12)))
      go_loopg [6] kj2 (fun kq v6 w' => ∃ (x5_2 : List Int) (x6_2 : Int), v6 = .int .i64 x6_2 ∧ za (zq.l0 kq l0 l1 x5_2 x6_2 = some r) ∧ za (kq ≤ kj2) ∧ za (Kd.R (Kd.int .i64) 3 w' w.heap.size (fun _ => True) v314 x5_2) ∧ za (Below w.heap.size w w'))
      case atStart => exact ⟨(y313), (0), Zrs, H', ⟨Nat.le_refl _⟩, ⟨Zq12 HO315.out⟩, ⟨Zq3 HB.out⟩⟩
      case round =>
       clear H'
       try clear c1
       try clear p2
       try clear c5
       try clear c8
       try clear c9
       try clear c9b0
       try clear c9b1
       try clear c10
       try clear c10b0
       try clear c10b1
       try clear p2
       obtain ⟨x5_2, x6_2, rfl, HA, HK2, HO_5, HB⟩ := hrel
       cases gk with
       | zero => exact absurd HA.out (by simp [zq.l0])
       | succ k2 =>
        have H := HA.out
        clear HA
        simp only [zq.l0] at H
        by_cases c13 : x6_2 < (l1.length : Int)
        ·rw [if_pos c13] at H
         have c13b0 : decide (x6_2 < (l1.length : Int)) = true := decide_eq_true c13
         clear c13
         by_cases c14 : 0 ≤ x6_2
         ·rw [if_pos c14] at H
          have c14b0 : decide (0 ≤ x6_2) = true := decide_eq_true c14
          clear c14
          have HC15 := za.mk H
          clear H
          have p316 : 0 ≤ (x6_2 : Int) := of_decide_eq_true Zas
          have q316 : x6_2 < (l1.length : Int) := of_decide_eq_true Zas
          obtain ⟨ad316, e316, hx316_0, hx316_1, hx316_2, hx316_3⟩ := zc9 HR1.out x6_2 p316 q316
          cases e316
          replace hx316_0 := (HB.out.cell (World.block_lt_of_cell? w _ hx316_0)).trans hx316_0
          replace hx316_1 := (HB.out.cell (World.block_lt_of_cell? w _ hx316_1)).trans hx316_1
          replace hx316_2 := (HB.out.cell (World.block_lt_of_cell? w _ hx316_2)).trans hx316_2
          replace hx316_3 := (HB.out.cell (World.block_lt_of_cell? w _ hx316_3)).trans hx316_3
          replace p316 := eq_true p316
          replace q316 := eq_true q316
          go_upto_region 8 with (first | ((with_reducible refine zbp (N := 7) rfl ?_); (try (refine zcg (by rfl) ?_; dsimp only)); refine zb1 ?hg (N := 7) ?hd (cs := #[.int .i64 0, .int .i64 0, .int .i64 0, .int .i64 0]) (t := 34) ?hr ?_; (case hd => rfl); (case hg => rfl); (case hr => first | (go_simp; done) | (go_simp; rfl)); intro gb317 hg w16 hbox hb; have n0_ := za.mk (Kd.zbl (Zq12 HO_5.out) hb); have n1_ := za.mk (zo (Zq3 HB.out) hb); have n2_ := za.mk (hbox); have n3_ := za.mk ((by rw [hg]; exact (zbb (Zq3 HB.out)) : w.heap.size ≤ gb317)); have n4_ := za.mk ((by rw [hg]; exact (zbb (Zq3 HB.out)) : w.heap.size ≤ gb317)); clear HO_5; clear HB; have HO_5 := n0_; have HB := n1_; have BK317 := n2_; have GW317 := n3_; have GE317 := n4_; clear n0_ n1_ n2_ n3_ n4_; clear hb hbox hg; have hcz17_0 : w16.cell? ⟨gb317, 0, none⟩ = some (.int .i64 0) := (zh BK317.out 0).trans rfl; have hcz17_1 : w16.cell? ⟨gb317, 1, none⟩ = some (.int .i64 0) := (zh BK317.out 1).trans rfl; have hcz17_2 : w16.cell? ⟨gb317, 2, none⟩ = some (.int .i64 0) := (zh BK317.out 2).trans rfl; have hcz17_3 : w16.cell? ⟨gb317, 3, none⟩ = some (.int .i64 0) := (zh BK317.out 3).trans rfl; have hfz17_0 := zg BK317.out 0; have hfz17_1 := zg BK317.out 1; have hfz17_2 := zg BK317.out 2; have hfz17_3 := zg BK317.out 3))
          repeat (go_quiet (first | ((with_reducible refine zbp (N := 7) rfl ?_); (try (refine zcg (by rfl) ?_; dsimp only)); refine zb1 ?hg (N := 7) ?hd (cs := #[.int .i64 0, .int .i64 0, .int .i64 0, .int .i64 0]) (t := 34) ?hr ?_; (case hd => rfl); (case hg => rfl); (case hr => first | (go_simp; done) | (go_simp; rfl)); intro gb317 hg w16 hbox hb; have n0_ := za.mk (Kd.zbl (Zq12 HO_5.out) hb); have n1_ := za.mk (zo (Zq3 HB.out) hb); have n2_ := za.mk (hbox); have n3_ := za.mk ((by rw [hg]; exact (zbb (Zq3 HB.out)) : w.heap.size ≤ gb317)); have n4_ := za.mk ((by rw [hg]; exact (zbb (Zq3 HB.out)) : w.heap.size ≤ gb317)); clear HO_5; clear HB; have HO_5 := n0_; have HB := n1_; have BK317 := n2_; have GW317 := n3_; have GE317 := n4_; clear n0_ n1_ n2_ n3_ n4_; clear hb hbox hg; have hcz17_0 : w16.cell? ⟨gb317, 0, none⟩ = some (.int .i64 0) := (zh BK317.out 0).trans rfl; have hcz17_1 : w16.cell? ⟨gb317, 1, none⟩ = some (.int .i64 0) := (zh BK317.out 1).trans rfl; have hcz17_2 : w16.cell? ⟨gb317, 2, none⟩ = some (.int .i64 0) := (zh BK317.out 2).trans rfl; have hcz17_3 : w16.cell? ⟨gb317, 3, none⟩ = some (.int .i64 0) := (zh BK317.out 3).trans rfl; have hfz17_0 := zg BK317.out 0; have hfz17_1 := zg BK317.out 1; have hfz17_2 := zg BK317.out 2; have hfz17_3 := zg BK317.out 3)); go_upto_region 8 with (first | ((with_reducible refine zbp (N := 7) rfl ?_); (try (refine zcg (by rfl) ?_; dsimp only)); refine zb1 ?hg (N := 7) ?hd (cs := #[.int .i64 0, .int .i64 0, .int .i64 0, .int .i64 0]) (t := 34) ?hr ?_; (case hd => rfl); (case hg => rfl); (case hr => first | (go_simp; done) | (go_simp; rfl)); intro gb317 hg w16 hbox hb; have n0_ := za.mk (Kd.zbl (Zq12 HO_5.out) hb); have n1_ := za.mk (zo (Zq3 HB.out) hb); have n2_ := za.mk (hbox); have n3_ := za.mk ((by rw [hg]; exact (zbb (Zq3 HB.out)) : w.heap.size ≤ gb317)); have n4_ := za.mk ((by rw [hg]; exact (zbb (Zq3 HB.out)) : w.heap.size ≤ gb317)); clear HO_5; clear HB; have HO_5 := n0_; have HB := n1_; have BK317 := n2_; have GW317 := n3_; have GE317 := n4_; clear n0_ n1_ n2_ n3_ n4_; clear hb hbox hg; have hcz17_0 : w16.cell? ⟨gb317, 0, none⟩ = some (.int .i64 0) := (zh BK317.out 0).trans rfl; have hcz17_1 : w16.cell? ⟨gb317, 1, none⟩ = some (.int .i64 0) := (zh BK317.out 1).trans rfl; have hcz17_2 : w16.cell? ⟨gb317, 2, none⟩ = some (.int .i64 0) := (zh BK317.out 2).trans rfl; have hcz17_3 : w16.cell? ⟨gb317, 3, none⟩ = some (.int .i64 0) := (zh BK317.out 3).trans rfl; have hfz17_0 := zg BK317.out 0; have hfz17_1 := zg BK317.out 1; have hfz17_2 := zg BK317.out 2; have hfz17_3 := zg BK317.out 3)))
          (try simp only [Act.put, List.setIfInBounds_toArray, List.set_cons_zero, List.set_cons_succ])
          go_cut [42] (fun v42 wc => ∃ (kq : Nat) (x42_14 : Bool), v42 = .bool x42_14 ∧ za (zq.j2 kq l0 l1 x5_2 x6_2 x42_14 ((ze l1 x6_2).f0) ((ze l1 x6_2).f1) ((ze l1 x6_2).f2) ((ze l1 x6_2).f3) = some r) ∧ za (kq ≤ k2) ∧ za (Kd.R (Kd.int .i64) 3 wc w.heap.size (fun _ => True) v314 x5_2) ∧ za (wc.heap[gb317]? = some (.cells #[.int .i64 ((ze l1 x6_2).f0), .int .i64 ((ze l1 x6_2).f1), .int .i64 ((ze l1 x6_2).f2), .int .i64 ((ze l1 x6_2).f3)] 34 (0, 0))) ∧ za (Below w.heap.size w wc))
          case first =>
           have H := HC15.out
           clear HC15
           replace H := Option.bind_eq_some_iff.mp H
           obtain ⟨t318, A180, H⟩ := H
           replace H : (if t318 = true then ((zbw.f ((ze l1 x6_2).f1) 0 119).bind fun t319 => (zq.j2 k2 l0 l1 x5_2 x6_2 (!t319) ((ze l1 x6_2).f0) ((ze l1 x6_2).f1) ((ze l1 x6_2).f2) ((ze l1 x6_2).f3))) else (zq.j2 k2 l0 l1 x5_2 x6_2 true ((ze l1 x6_2).f0) ((ze l1 x6_2).f1) ((ze l1 x6_2).f2) ((ze l1 x6_2).f3))) = some r := H
           have A18 := za.mk A180
           clear A180
           by_cases c19 : t318 = true
           ·subst c19
            have H1 : ((zbw.f ((ze l1 x6_2).f1) 0 119).bind fun t319 => (zq.j2 k2 l0 l1 x5_2 x6_2 (!t319) ((ze l1 x6_2).f0) ((ze l1 x6_2).f1) ((ze l1 x6_2).f2) ((ze l1 x6_2).f3))) = some r := by rw [if_pos rfl] at H; exact H
            clear H
            have H := H1
            clear H1
            replace H := Option.bind_eq_some_iff.mp H
            obtain ⟨t319, A200, H⟩ := H
            replace H : (zq.j2 k2 l0 l1 x5_2 x6_2 (!t319) ((ze l1 x6_2).f0) ((ze l1 x6_2).f1) ((ze l1 x6_2).f2) ((ze l1 x6_2).f3)) = some r := H
            have A20 := za.mk A200
            clear A200
            have H' := za.mk H
            clear H
            have hcz21_0 : w16.cell? ⟨gb317, 0, none⟩ = some (.int .i64 0) := (zh BK317.out 0).trans rfl
            have hcz21_1 : w16.cell? ⟨gb317, 1, none⟩ = some (.int .i64 0) := (zh BK317.out 1).trans rfl
            have hcz21_2 : w16.cell? ⟨gb317, 2, none⟩ = some (.int .i64 0) := (zh BK317.out 2).trans rfl
            have hcz21_3 : w16.cell? ⟨gb317, 3, none⟩ = some (.int .i64 0) := (zh BK317.out 3).trans rfl
            have hfz21_0 := zg BK317.out 0
            have hfz21_1 := zg BK317.out 1
            have hfz21_2 := zg BK317.out 2
            have hfz21_3 := zg BK317.out 3
            go_wp2_with (first | (go_at_call 102; (with_reducible refine (zbw.calls ((ze l1 x6_2).f0) 0 (wrap64 ((l0.length : Int) - 1)) true _ A18.out).mono ?_); rintro e w' ⟨rfl, ⟨nd, rfl⟩⟩; (try first | exact ⟨rfl, _, World.drewN_drewN _ _ _⟩ | exact ⟨rfl, _, Eq.trans (World.drewN_drewN _ _ _) (congrArg (World.drewN _) (Nat.add_assoc _ _ _))⟩)) | (go_at_call 102; (with_reducible refine (zbw.calls ((ze l1 x6_2).f1) 0 119 t319 _ A20.out).mono ?_); rintro e w' ⟨rfl, ⟨nd, rfl⟩⟩; (try first | exact ⟨rfl, _, World.drewN_drewN _ _ _⟩ | exact ⟨rfl, _, Eq.trans (World.drewN_drewN _ _ _) (congrArg (World.drewN _) (Nat.add_assoc _ _ _))⟩)))
            repeat (go_quiet (first | (go_at_call 102; (with_reducible refine (zbw.calls ((ze l1 x6_2).f0) 0 (wrap64 ((l0.length : Int) - 1)) true _ A18.out).mono ?_); rintro e w' ⟨rfl, ⟨nd, rfl⟩⟩; (try first | exact ⟨rfl, _, World.drewN_drewN _ _ _⟩ | exact ⟨rfl, _, Eq.trans (World.drewN_drewN _ _ _) (congrArg (World.drewN _) (Nat.add_assoc _ _ _))⟩)) | (go_at_call 102; (with_reducible refine (zbw.calls ((ze l1 x6_2).f1) 0 119 t319 _ A20.out).mono ?_); rintro e w' ⟨rfl, ⟨nd, rfl⟩⟩; (try first | exact ⟨rfl, _, World.drewN_drewN _ _ _⟩ | exact ⟨rfl, _, Eq.trans (World.drewN_drewN _ _ _) (congrArg (World.drewN _) (Nat.add_assoc _ _ _))⟩))); try go_wp2_with (first | (go_at_call 102; (with_reducible refine (zbw.calls ((ze l1 x6_2).f0) 0 (wrap64 ((l0.length : Int) - 1)) true _ A18.out).mono ?_); rintro e w' ⟨rfl, ⟨nd, rfl⟩⟩; (try first | exact ⟨rfl, _, World.drewN_drewN _ _ _⟩ | exact ⟨rfl, _, Eq.trans (World.drewN_drewN _ _ _) (congrArg (World.drewN _) (Nat.add_assoc _ _ _))⟩)) | (go_at_call 102; (with_reducible refine (zbw.calls ((ze l1 x6_2).f1) 0 119 t319 _ A20.out).mono ?_); rintro e w' ⟨rfl, ⟨nd, rfl⟩⟩; (try first | exact ⟨rfl, _, World.drewN_drewN _ _ _⟩ | exact ⟨rfl, _, Eq.trans (World.drewN_drewN _ _ _) (congrArg (World.drewN _) (Nat.add_assoc _ _ _))⟩))))
            go_meet
            case rel => exact ⟨_, (!t319), Zrs, H', ⟨by have := HJ2.out; have := HK2.out; first | omega | exact Nat.le_refl _⟩, ⟨by (with_reducible repeat (first | apply Kd.zbi | apply Kd.zbh | apply Kd.zbj)); exact Kd.zy (Kd.zb9 (p := ⟨gb317, 3, none⟩) (Kd.zb9 (p := ⟨gb317, 2, none⟩) (Kd.zb9 (p := ⟨gb317, 1, none⟩) (Kd.zb9 (p := ⟨gb317, 0, none⟩) (Kd.zb5 HO_5.out BK317.out (by decide)) (fun _ hk => hk.2) (.int .i64 ((ze l1 x6_2).f0))) (fun _ hk => hk.2) (.int .i64 ((ze l1 x6_2).f1))) (fun _ hk => hk.2) (.int .i64 ((ze l1 x6_2).f2))) (fun _ hk => hk.2) (.int .i64 ((ze l1 x6_2).f3))) (fun _ hk => trivial)⟩, ⟨by (with_reducible repeat (first | refine zn ?_ _ | refine zt ?_ | refine zm ?_ _)); refine zbu (cs := #[.int .i64 ((ze l1 x6_2).f0), .int .i64 ((ze l1 x6_2).f1), .int .i64 ((ze l1 x6_2).f2), .int .i64 0]) ?_ 3 _ rfl; (with_reducible repeat (first | refine zn ?_ _ | refine zt ?_ | refine zm ?_ _)); refine zbu (cs := #[.int .i64 ((ze l1 x6_2).f0), .int .i64 ((ze l1 x6_2).f1), .int .i64 0, .int .i64 0]) ?_ 2 _ rfl; (with_reducible repeat (first | refine zn ?_ _ | refine zt ?_ | refine zm ?_ _)); refine zbu (cs := #[.int .i64 ((ze l1 x6_2).f0), .int .i64 0, .int .i64 0, .int .i64 0]) ?_ 1 _ rfl; (with_reducible repeat (first | refine zn ?_ _ | refine zt ?_ | refine zm ?_ _)); refine zbu (cs := #[.int .i64 0, .int .i64 0, .int .i64 0, .int .i64 0]) ?_ 0 _ rfl; (with_reducible repeat (first | refine zn ?_ _ | refine zt ?_ | refine zm ?_ _)); exact BK317.out⟩, ⟨Zq5 HB.out GE317.out⟩⟩
           ·replace c19 := Bool.eq_false_iff.mpr c19
            subst c19
            have H1 : (zq.j2 k2 l0 l1 x5_2 x6_2 true ((ze l1 x6_2).f0) ((ze l1 x6_2).f1) ((ze l1 x6_2).f2) ((ze l1 x6_2).f3)) = some r := by rw [if_neg (show ¬ (false = true) by decide)] at H; exact H
            clear H
            have H := H1
            clear H1
            have H' := za.mk H
            clear H
            have hcz22_0 : w16.cell? ⟨gb317, 0, none⟩ = some (.int .i64 0) := (zh BK317.out 0).trans rfl
            have hcz22_1 : w16.cell? ⟨gb317, 1, none⟩ = some (.int .i64 0) := (zh BK317.out 1).trans rfl
            have hcz22_2 : w16.cell? ⟨gb317, 2, none⟩ = some (.int .i64 0) := (zh BK317.out 2).trans rfl
            have hcz22_3 : w16.cell? ⟨gb317, 3, none⟩ = some (.int .i64 0) := (zh BK317.out 3).trans rfl
            have hfz22_0 := zg BK317.out 0
            have hfz22_1 := zg BK317.out 1
            have hfz22_2 := zg BK317.out 2
            have hfz22_3 := zg BK317.out 3
            go_wp2_with (first | (go_at_call 102; (with_reducible refine (zbw.calls ((ze l1 x6_2).f0) 0 (wrap64 ((l0.length : Int) - 1)) false _ A18.out).mono ?_); rintro e w' ⟨rfl, ⟨nd, rfl⟩⟩; (try first | exact ⟨rfl, _, World.drewN_drewN _ _ _⟩ | exact ⟨rfl, _, Eq.trans (World.drewN_drewN _ _ _) (congrArg (World.drewN _) (Nat.add_assoc _ _ _))⟩)))
            repeat (go_quiet (first | (go_at_call 102; (with_reducible refine (zbw.calls ((ze l1 x6_2).f0) 0 (wrap64 ((l0.length : Int) - 1)) false _ A18.out).mono ?_); rintro e w' ⟨rfl, ⟨nd, rfl⟩⟩; (try first | exact ⟨rfl, _, World.drewN_drewN _ _ _⟩ | exact ⟨rfl, _, Eq.trans (World.drewN_drewN _ _ _) (congrArg (World.drewN _) (Nat.add_assoc _ _ _))⟩))); try go_wp2_with (first | (go_at_call 102; (with_reducible refine (zbw.calls ((ze l1 x6_2).f0) 0 (wrap64 ((l0.length : Int) - 1)) false _ A18.out).mono ?_); rintro e w' ⟨rfl, ⟨nd, rfl⟩⟩; (try first | exact ⟨rfl, _, World.drewN_drewN _ _ _⟩ | exact ⟨rfl, _, Eq.trans (World.drewN_drewN _ _ _) (congrArg (World.drewN _) (Nat.add_assoc _ _ _))⟩))))
            go_meet
            case rel => exact ⟨_, (true), Zrs, H', ⟨by have := HJ2.out; have := HK2.out; first | omega | exact Nat.le_refl _⟩, ⟨by (with_reducible repeat (first | apply Kd.zbi | apply Kd.zbh | apply Kd.zbj)); exact Kd.zy (Kd.zb9 (p := ⟨gb317, 3, none⟩) (Kd.zb9 (p := ⟨gb317, 2, none⟩) (Kd.zb9 (p := ⟨gb317, 1, none⟩) (Kd.zb9 (p := ⟨gb317, 0, none⟩) (Kd.zb5 HO_5.out BK317.out (by decide)) (fun _ hk => hk.2) (.int .i64 ((ze l1 x6_2).f0))) (fun _ hk => hk.2) (.int .i64 ((ze l1 x6_2).f1))) (fun _ hk => hk.2) (.int .i64 ((ze l1 x6_2).f2))) (fun _ hk => hk.2) (.int .i64 ((ze l1 x6_2).f3))) (fun _ hk => trivial)⟩, ⟨by (with_reducible repeat (first | refine zn ?_ _ | refine zt ?_ | refine zm ?_ _)); refine zbu (cs := #[.int .i64 ((ze l1 x6_2).f0), .int .i64 ((ze l1 x6_2).f1), .int .i64 ((ze l1 x6_2).f2), .int .i64 0]) ?_ 3 _ rfl; (with_reducible repeat (first | refine zn ?_ _ | refine zt ?_ | refine zm ?_ _)); refine zbu (cs := #[.int .i64 ((ze l1 x6_2).f0), .int .i64 ((ze l1 x6_2).f1), .int .i64 0, .int .i64 0]) ?_ 2 _ rfl; (with_reducible repeat (first | refine zn ?_ _ | refine zt ?_ | refine zm ?_ _)); refine zbu (cs := #[.int .i64 ((ze l1 x6_2).f0), .int .i64 0, .int .i64 0, .int .i64 0]) ?_ 1 _ rfl; (with_reducible repeat (first | refine zn ?_ _ | refine zt ?_ | refine zm ?_ _)); refine zbu (cs := #[.int .i64 0, .int .i64 0, .int .i64 0, .int .i64 0]) ?_ 0 _ rfl; (with_reducible repeat (first | refine zn ?_ _ | refine zt ?_ | refine zm ?_ _)); exact BK317.out⟩, ⟨Zq5 HB.out GE317.out⟩⟩
          case rest =>
           clear HC15
           try clear c1
           try clear p2
           try clear p3
           try clear q3
           try clear hx3
           try clear c5
           try clear p6
           try clear c8
           try clear c9
           try clear c9b0
           try clear c9b1
           try clear c10
           try clear c10b0
           try clear c10b1
           try clear c13
           try clear c13b0
           try clear c14
           try clear c14b0
           try clear c19
           try clear hcz17_0
           try clear hcz17_1
           try clear hcz17_2
           try clear hcz17_3
           try clear hcz21_0
           try clear hcz21_1
           try clear hcz21_2
           try clear hcz21_3
           try clear hcz22_0
           try clear hcz22_1
           try clear hcz22_2
           try clear hcz22_3
           try clear hfz17_0
           try clear hfz17_1
           try clear hfz17_2
           try clear hfz17_3
           try clear hfz21_0
           try clear hfz21_1
           try clear hfz21_2
           try clear hfz21_3
           try clear hfz22_0
           try clear hfz22_1
           try clear hfz22_2
           try clear hfz22_3
           try clear hx316_0
           try clear hx316_1
           try clear hx316_2
           try clear hx316_3
           try clear p2
           try clear p316
           try clear q316
           obtain ⟨kq, x42_14, rfl, HA, HJ14, HO_5, BK317, HB⟩ := hcut
           cases kq with
           | zero => exact absurd HA.out (by simp [zq.j2])
           | succ kj14 =>
            have H := HA.out
            clear HA
            simp only [zq.j2] at H
            by_cases c23 : x42_14 = true
            ·subst c23
             have H1 : (some false) = some r := by rw [if_pos rfl] at H; exact H
             clear H
             have H := H1
             clear H1
             obtain rfl := Option.some.inj H
             go_wp2
             repeat (go_quiet (fail); try go_wp2)
             go_ret
             exact ⟨by first | rfl | (simp [zbc, zbd] <;> rfl) | (simp [*, zbc, zbd] <;> rfl), Zq5 HB.out GE317.out⟩
            ·replace c23 := Bool.eq_false_iff.mpr c23
             subst c23
             have H1 : (if 0 ≤ ((ze l1 x6_2).f0) then (if ((ze l1 x6_2).f0) < (l0.length : Int) then (if ((ze l1 x6_2).f0) < (x5_2.length : Int) then (if ((ze l1 x6_2).f1) < (rd x5_2 ((ze l1 x6_2).f0)) then (zq.j3 kj14 l0 l1 x5_2 x6_2 true ((ze l1 x6_2).f0) ((ze l1 x6_2).f1) ((ze l1 x6_2).f2) ((ze l1 x6_2).f3) ((zbf l0 ((ze l1 x6_2).f0)).f0) ((zbf l0 ((ze l1 x6_2).f0)).f1) ((zbf l0 ((ze l1 x6_2).f0)).f2)) else (if ((ze l1 x6_2).f2) = (wrap64 (((ze l1 x6_2).f1) + ((zbf l0 ((ze l1 x6_2).f0)).f1))) then ((zbw.f ((ze l1 x6_2).f3) 1 ((zbf l0 ((ze l1 x6_2).f0)).f0)).bind fun t323 => (zq.j3 kj14 l0 l1 x5_2 x6_2 (!t323) ((ze l1 x6_2).f0) ((ze l1 x6_2).f1) ((ze l1 x6_2).f2) ((ze l1 x6_2).f3) ((zbf l0 ((ze l1 x6_2).f0)).f0) ((zbf l0 ((ze l1 x6_2).f0)).f1) ((zbf l0 ((ze l1 x6_2).f0)).f2))) else (zq.j3 kj14 l0 l1 x5_2 x6_2 true ((ze l1 x6_2).f0) ((ze l1 x6_2).f1) ((ze l1 x6_2).f2) ((ze l1 x6_2).f3) ((zbf l0 ((ze l1 x6_2).f0)).f0) ((zbf l0 ((ze l1 x6_2).f0)).f1) ((zbf l0 ((ze l1 x6_2).f0)).f2)))) else (none)) else (none)) else (none)) = some r := by rw [if_neg (show ¬ (false = true) by decide)] at H; exact H
             clear H
             have H := H1
             clear H1
             by_cases c24 : 0 ≤ ((ze l1 x6_2).f0)
             ·rw [if_pos c24] at H
              have c24b0 : decide (0 ≤ ((ze l1 x6_2).f0)) = true := decide_eq_true c24
              clear c24
              by_cases c25 : ((ze l1 x6_2).f0) < (l0.length : Int)
              ·rw [if_pos c25] at H
               have c25b0 : decide (((ze l1 x6_2).f0) < (l0.length : Int)) = true := decide_eq_true c25
               clear c25
               have HC26 := za.mk H
               clear H
               have hcz27_0 : wc.cell? ⟨gb317, 0, none⟩ = some (.int .i64 ((ze l1 x6_2).f0)) := (zh BK317.out 0).trans rfl
               have hcz27_1 : wc.cell? ⟨gb317, 1, none⟩ = some (.int .i64 ((ze l1 x6_2).f1)) := (zh BK317.out 1).trans rfl
               have hcz27_2 : wc.cell? ⟨gb317, 2, none⟩ = some (.int .i64 ((ze l1 x6_2).f2)) := (zh BK317.out 2).trans rfl
               have hcz27_3 : wc.cell? ⟨gb317, 3, none⟩ = some (.int .i64 ((ze l1 x6_2).f3)) := (zh BK317.out 3).trans rfl
               have hfz27_0 := zg BK317.out 0
               have hfz27_1 := zg BK317.out 1
               have hfz27_2 := zg BK317.out 2
               have hfz27_3 := zg BK317.out 3
               have p320 : 0 ≤ (((ze l1 x6_2).f0) : Int) := of_decide_eq_true Zas
               have q320 : ((ze l1 x6_2).f0) < (l0.length : Int) := of_decide_eq_true Zas
               obtain ⟨ad320, e320, hx320_0, hx320_1, hx320_2⟩ := at_T88 HR0.out ((ze l1 x6_2).f0) p320 q320
               cases e320
               replace hx320_0 := (HB.out.cell (World.block_lt_of_cell? w _ hx320_0)).trans hx320_0
               replace hx320_1 := (HB.out.cell (World.block_lt_of_cell? w _ hx320_1)).trans hx320_1
               replace hx320_2 := (HB.out.cell (World.block_lt_of_cell? w _ hx320_2)).trans hx320_2
               replace p320 := eq_true p320
               replace q320 := eq_true q320
               go_upto_region 11 with (first | ((with_reducible refine zbp (N := 8) rfl ?_); (try (refine zcg (by rfl) ?_; dsimp only)); refine zb1 ?hg (N := 8) ?hd (cs := #[.int .i64 0, .int .i64 0, .int .i64 0]) (t := 88) ?hr ?_; (case hd => rfl); (case hg => rfl); (case hr => first | (go_simp; done) | (go_simp; rfl)); intro gb321 hg w28 hbox hb; have n0_ := za.mk (Kd.zbl (Zq12 HO_5.out) hb); have n1_ := za.mk (zbg (g := gb317) (o := .cells #[.int .i64 ((ze l1 x6_2).f0), .int .i64 ((ze l1 x6_2).f1), .int .i64 ((ze l1 x6_2).f2), .int .i64 ((ze l1 x6_2).f3)] 34 (0, 0)) (Zq4 BK317.out) hb); have n2_ := za.mk (zo (Zq5 HB.out GE317.out) hb); have n3_ := za.mk (hbox); have n4_ := za.mk ((by rw [hg]; exact (zbb (Zq5 HB.out GE317.out)) : w.heap.size ≤ gb321)); have n5_ := za.mk ((by rw [hg]; exact (zbb (Zq5 HB.out GE317.out)) : w.heap.size ≤ gb321)); have n6_ := za.mk ((by rw [hg]; exact Nat.ne_of_lt (zcz (g := gb317) (o := .cells #[.int .i64 ((ze l1 x6_2).f0), .int .i64 ((ze l1 x6_2).f1), .int .i64 ((ze l1 x6_2).f2), .int .i64 ((ze l1 x6_2).f3)] 34 (0, 0)) (Zq4 BK317.out)) : gb317 ≠ gb321)); have n7_ := za.mk ((by rw [hg]; exact Nat.ne_of_gt (zcz (g := gb317) (o := .cells #[.int .i64 ((ze l1 x6_2).f0), .int .i64 ((ze l1 x6_2).f1), .int .i64 ((ze l1 x6_2).f2), .int .i64 ((ze l1 x6_2).f3)] 34 (0, 0)) (Zq4 BK317.out)) : gb321 ≠ gb317)); clear HO_5; clear BK317; clear HB; have HO_5 := n0_; have BK317 := n1_; have HB := n2_; have BK321 := n3_; have GW321 := n4_; have GE321 := n5_; have NB317_321 := n6_; have NB321_317 := n7_; clear n0_ n1_ n2_ n3_ n4_ n5_ n6_ n7_; clear hb hbox hg; have hnb29 := NB321_317.out; have hnc29 := NB317_321.out; have hcz30_0 : w28.cell? ⟨gb321, 0, none⟩ = some (.int .i64 0) := (zh BK321.out 0).trans rfl; have hcz30_1 : w28.cell? ⟨gb321, 1, none⟩ = some (.int .i64 0) := (zh BK321.out 1).trans rfl; have hcz30_2 : w28.cell? ⟨gb321, 2, none⟩ = some (.int .i64 0) := (zh BK321.out 2).trans rfl; have hfz30_0 := zg BK321.out 0; have hfz30_1 := zg BK321.out 1; have hfz30_2 := zg BK321.out 2))
               repeat (go_quiet (first | ((with_reducible refine zbp (N := 8) rfl ?_); (try (refine zcg (by rfl) ?_; dsimp only)); refine zb1 ?hg (N := 8) ?hd (cs := #[.int .i64 0, .int .i64 0, .int .i64 0]) (t := 88) ?hr ?_; (case hd => rfl); (case hg => rfl); (case hr => first | (go_simp; done) | (go_simp; rfl)); intro gb321 hg w28 hbox hb; have n0_ := za.mk (Kd.zbl (Zq12 HO_5.out) hb); have n1_ := za.mk (zbg (g := gb317) (o := .cells #[.int .i64 ((ze l1 x6_2).f0), .int .i64 ((ze l1 x6_2).f1), .int .i64 ((ze l1 x6_2).f2), .int .i64 ((ze l1 x6_2).f3)] 34 (0, 0)) (Zq4 BK317.out) hb); have n2_ := za.mk (zo (Zq5 HB.out GE317.out) hb); have n3_ := za.mk (hbox); have n4_ := za.mk ((by rw [hg]; exact (zbb (Zq5 HB.out GE317.out)) : w.heap.size ≤ gb321)); have n5_ := za.mk ((by rw [hg]; exact (zbb (Zq5 HB.out GE317.out)) : w.heap.size ≤ gb321)); have n6_ := za.mk ((by rw [hg]; exact Nat.ne_of_lt (zcz (g := gb317) (o := .cells #[.int .i64 ((ze l1 x6_2).f0), .int .i64 ((ze l1 x6_2).f1), .int .i64 ((ze l1 x6_2).f2), .int .i64 ((ze l1 x6_2).f3)] 34 (0, 0)) (Zq4 BK317.out)) : gb317 ≠ gb321)); have n7_ := za.mk ((by rw [hg]; exact Nat.ne_of_gt (zcz (g := gb317) (o := .cells #[.int .i64 ((ze l1 x6_2).f0), .int .i64 ((ze l1 x6_2).f1), .int .i64 ((ze l1 x6_2).f2), .int .i64 ((ze l1 x6_2).f3)] 34 (0, 0)) (Zq4 BK317.out)) : gb321 ≠ gb317)); clear HO_5; clear BK317; clear HB; have HO_5 := n0_; have BK317 := n1_; have HB := n2_; have BK321 := n3_; have GW321 := n4_; have GE321 := n5_; have NB317_321 := n6_; have NB321_317 := n7_; clear n0_ n1_ n2_ n3_ n4_ n5_ n6_ n7_; clear hb hbox hg; have hnb29 := NB321_317.out; have hnc29 := NB317_321.out; have hcz30_0 : w28.cell? ⟨gb321, 0, none⟩ = some (.int .i64 0) := (zh BK321.out 0).trans rfl; have hcz30_1 : w28.cell? ⟨gb321, 1, none⟩ = some (.int .i64 0) := (zh BK321.out 1).trans rfl; have hcz30_2 : w28.cell? ⟨gb321, 2, none⟩ = some (.int .i64 0) := (zh BK321.out 2).trans rfl; have hfz30_0 := zg BK321.out 0; have hfz30_1 := zg BK321.out 1; have hfz30_2 := zg BK321.out 2)); go_upto_region 11 with (first | ((with_reducible refine zbp (N := 8) rfl ?_); (try (refine zcg (by rfl) ?_; dsimp only)); refine zb1 ?hg (N := 8) ?hd (cs := #[.int .i64 0, .int .i64 0, .int .i64 0]) (t := 88) ?hr ?_; (case hd => rfl); (case hg => rfl); (case hr => first | (go_simp; done) | (go_simp; rfl)); intro gb321 hg w28 hbox hb; have n0_ := za.mk (Kd.zbl (Zq12 HO_5.out) hb); have n1_ := za.mk (zbg (g := gb317) (o := .cells #[.int .i64 ((ze l1 x6_2).f0), .int .i64 ((ze l1 x6_2).f1), .int .i64 ((ze l1 x6_2).f2), .int .i64 ((ze l1 x6_2).f3)] 34 (0, 0)) (Zq4 BK317.out) hb); have n2_ := za.mk (zo (Zq5 HB.out GE317.out) hb); have n3_ := za.mk (hbox); have n4_ := za.mk ((by rw [hg]; exact (zbb (Zq5 HB.out GE317.out)) : w.heap.size ≤ gb321)); have n5_ := za.mk ((by rw [hg]; exact (zbb (Zq5 HB.out GE317.out)) : w.heap.size ≤ gb321)); have n6_ := za.mk ((by rw [hg]; exact Nat.ne_of_lt (zcz (g := gb317) (o := .cells #[.int .i64 ((ze l1 x6_2).f0), .int .i64 ((ze l1 x6_2).f1), .int .i64 ((ze l1 x6_2).f2), .int .i64 ((ze l1 x6_2).f3)] 34 (0, 0)) (Zq4 BK317.out)) : gb317 ≠ gb321)); have n7_ := za.mk ((by rw [hg]; exact Nat.ne_of_gt (zcz (g := gb317) (o := .cells #[.int .i64 ((ze l1 x6_2).f0), .int .i64 ((ze l1 x6_2).f1), .int .i64 ((ze l1 x6_2).f2), .int .i64 ((ze l1 x6_2).f3)] 34 (0, 0)) (Zq4 BK317.out)) : gb321 ≠ gb317)); clear HO_5; clear BK317; clear HB; have HO_5 := n0_; have BK317 := n1_; have HB := n2_; have BK321 := n3_; have GW321 := n4_; have GE321 := n5_; have NB317_321 := n6_; have NB321_317 := n7_; clear n0_ n1_ n2_ n3_ n4_ n5_ n6_ n7_; clear hb hbox hg; have hnb29 := NB321_317.out; have hnc29 := NB317_321.out; have hcz30_0 : w28.cell? ⟨gb321, 0, none⟩ = some (.int .i64 0) := (zh BK321.out 0).trans rfl; have hcz30_1 : w28.cell? ⟨gb321, 1, none⟩ = some (.int .i64 0) := (zh BK321.out 1).trans rfl; have hcz30_2 : w28.cell? ⟨gb321, 2, none⟩ = some (.int .i64 0) := (zh BK321.out 2).trans rfl; have hfz30_0 := zg BK321.out 0; have hfz30_1 := zg BK321.out 1; have hfz30_2 := zg BK321.out 2)))
               (try simp only [Act.put, List.setIfInBounds_toArray, List.set_cons_zero, List.set_cons_succ])
               go_cut [73] (fun v73 wc => ∃ (kq : Nat) (x73_25 : Bool), v73 = .bool x73_25 ∧ za (zq.j3 kq l0 l1 x5_2 x6_2 x73_25 ((ze l1 x6_2).f0) ((ze l1 x6_2).f1) ((ze l1 x6_2).f2) ((ze l1 x6_2).f3) ((zbf l0 ((ze l1 x6_2).f0)).f0) ((zbf l0 ((ze l1 x6_2).f0)).f1) ((zbf l0 ((ze l1 x6_2).f0)).f2) = some r) ∧ za (kq ≤ kj14) ∧ za (Kd.R (Kd.int .i64) 3 wc w.heap.size (fun _ => True) v314 x5_2) ∧ za (wc.heap[gb317]? = some (.cells #[.int .i64 ((ze l1 x6_2).f0), .int .i64 ((ze l1 x6_2).f1), .int .i64 ((ze l1 x6_2).f2), .int .i64 ((ze l1 x6_2).f3)] 34 (0, 0))) ∧ za (wc.heap[gb321]? = some (.cells #[.int .i64 ((zbf l0 ((ze l1 x6_2).f0)).f0), .int .i64 ((zbf l0 ((ze l1 x6_2).f0)).f1), .int .i64 ((zbf l0 ((ze l1 x6_2).f0)).f2)] 88 (0, 0))) ∧ za (Below w.heap.size w wc))
               case first =>
                have H := HC26.out
                clear HC26
                by_cases c31 : ((ze l1 x6_2).f0) < (x5_2.length : Int)
                ·rw [if_pos c31] at H
                 have c31b0 : decide (((ze l1 x6_2).f0) < (x5_2.length : Int)) = true := decide_eq_true c31
                 clear c31
                 (first | rw [c31b0] | (simp only [zbq, zbt]; rw [c31b0]) | skip)
                 by_cases c32 : ((ze l1 x6_2).f1) < (rd x5_2 ((ze l1 x6_2).f0))
                 ·rw [if_pos c32] at H
                  have c32b0 : decide (((ze l1 x6_2).f1) < (rd x5_2 ((ze l1 x6_2).f0))) = true := decide_eq_true c32
                  clear c32
                  have H' := za.mk H
                  clear H
                  have hnb33 := NB317_321.out
                  have hnc33 := NB321_317.out
                  have hcz34_0 : w28.cell? ⟨gb317, 0, none⟩ = some (.int .i64 ((ze l1 x6_2).f0)) := (zh BK317.out 0).trans rfl
                  have hcz34_1 : w28.cell? ⟨gb317, 1, none⟩ = some (.int .i64 ((ze l1 x6_2).f1)) := (zh BK317.out 1).trans rfl
                  have hcz34_2 : w28.cell? ⟨gb317, 2, none⟩ = some (.int .i64 ((ze l1 x6_2).f2)) := (zh BK317.out 2).trans rfl
                  have hcz34_3 : w28.cell? ⟨gb317, 3, none⟩ = some (.int .i64 ((ze l1 x6_2).f3)) := (zh BK317.out 3).trans rfl
                  have hfz34_0 := zg BK317.out 0
                  have hfz34_1 := zg BK317.out 1
                  have hfz34_2 := zg BK317.out 2
                  have hfz34_3 := zg BK317.out 3
                  obtain ⟨Ao35, co35, eo35⟩ := Kd.zbs HO_5.out
                  subst eo35
                  have p322 : 0 ≤ (((ze l1 x6_2).f0) : Int) := of_decide_eq_true Zas
                  have q322 : ((ze l1 x6_2).f0) < (x5_2.length : Int) := of_decide_eq_true Zas
                  obtain ⟨ad322, e322, hx322_0⟩ := Kd.zcn (Kd.zbe HO_5.out).2.2 ((ze l1 x6_2).f0) p322 q322
                  cases e322
                  have hn322_0 : ad322.block ≠ gb321 := Kd.zct (Kd.R_ne HO_5.out BK321.out (by decide))
                  have hn322_1 : ad322.block ≠ gb321 := Kd.zct (Kd.R_ne HO_5.out BK321.out (by decide))
                  have hn322_2 : ad322.block ≠ gb321 := Kd.zct (Kd.R_ne HO_5.out BK321.out (by decide))
                  replace hx322_0 := (cell_far (p := ⟨gb321, 0, none⟩) (by first | (rw [add_block]; exact hn322_0) | (show (Addr.add _ _).block ≠ _; rw [add_block]; exact hn322_0) | exact hn322_0) (.int .i64 ((zbf l0 ((ze l1 x6_2).f0)).f0))).trans hx322_0
                  replace hx322_0 := (cell_far (p := ⟨gb321, 1, none⟩) (by first | (rw [add_block]; exact hn322_1) | (show (Addr.add _ _).block ≠ _; rw [add_block]; exact hn322_1) | exact hn322_1) (.int .i64 ((zbf l0 ((ze l1 x6_2).f0)).f1))).trans hx322_0
                  replace hx322_0 := (cell_far (p := ⟨gb321, 2, none⟩) (by first | (rw [add_block]; exact hn322_2) | (show (Addr.add _ _).block ≠ _; rw [add_block]; exact hn322_2) | exact hn322_2) (.int .i64 ((zbf l0 ((ze l1 x6_2).f0)).f2))).trans hx322_0
                  (try have hy322_0 := fun (n_ : Nat) => (show (((((w28.drewN n_).setCell ⟨gb321, 0, none⟩ (.int .i64 ((zbf l0 ((ze l1 x6_2).f0)).f0))).setCell ⟨gb321, 1, none⟩ (.int .i64 ((zbf l0 ((ze l1 x6_2).f0)).f1))).setCell ⟨gb321, 2, none⟩ (.int .i64 ((zbf l0 ((ze l1 x6_2).f0)).f2)))).cell? _ = some _ from hx322_0))
                  clear hn322_0
                  clear hn322_1
                  clear hn322_2
                  replace p322 := eq_true p322
                  replace q322 := eq_true q322
                  go_wp2
                  repeat (go_quiet (fail); try go_wp2)
                  go_meet
                  case rel => exact ⟨_, (true), Zrs, H', ⟨by have := HJ2.out; have := HK2.out; have := HJ14.out; first | omega | exact Nat.le_refl _⟩, ⟨by (with_reducible repeat (first | apply Kd.zbi | apply Kd.zbh | apply Kd.zbj)); exact Kd.zy (Kd.zb9 (p := ⟨gb321, 2, none⟩) (Kd.zb9 (p := ⟨gb321, 1, none⟩) (Kd.zb9 (p := ⟨gb321, 0, none⟩) (Kd.zb5 HO_5.out BK321.out (by decide)) (fun _ hk => hk.2) (.int .i64 ((zbf l0 ((ze l1 x6_2).f0)).f0))) (fun _ hk => hk.2) (.int .i64 ((zbf l0 ((ze l1 x6_2).f0)).f1))) (fun _ hk => hk.2) (.int .i64 ((zbf l0 ((ze l1 x6_2).f0)).f2))) (fun _ hk => trivial)⟩, ⟨by (with_reducible repeat (first | refine zn ?_ _ | refine zt ?_ | refine zm ?_ _)); refine zcl ?_ NB317_321.out _; (with_reducible repeat (first | refine zn ?_ _ | refine zt ?_ | refine zm ?_ _)); refine zcl ?_ NB317_321.out _; (with_reducible repeat (first | refine zn ?_ _ | refine zt ?_ | refine zm ?_ _)); refine zcl ?_ NB317_321.out _; (with_reducible repeat (first | refine zn ?_ _ | refine zt ?_ | refine zm ?_ _)); exact BK317.out⟩, ⟨by (with_reducible repeat (first | refine zn ?_ _ | refine zt ?_ | refine zm ?_ _)); refine zbu (cs := #[.int .i64 ((zbf l0 ((ze l1 x6_2).f0)).f0), .int .i64 ((zbf l0 ((ze l1 x6_2).f0)).f1), .int .i64 0]) ?_ 2 _ rfl; (with_reducible repeat (first | refine zn ?_ _ | refine zt ?_ | refine zm ?_ _)); refine zbu (cs := #[.int .i64 ((zbf l0 ((ze l1 x6_2).f0)).f0), .int .i64 0, .int .i64 0]) ?_ 1 _ rfl; (with_reducible repeat (first | refine zn ?_ _ | refine zt ?_ | refine zm ?_ _)); refine zbu (cs := #[.int .i64 0, .int .i64 0, .int .i64 0]) ?_ 0 _ rfl; (with_reducible repeat (first | refine zn ?_ _ | refine zt ?_ | refine zm ?_ _)); exact BK321.out⟩, ⟨Zq7 HB.out GE317.out GE321.out⟩⟩
                 ·rw [if_neg c32] at H
                  have c32b0 : decide (((ze l1 x6_2).f1) < (rd x5_2 ((ze l1 x6_2).f0))) = false := decide_eq_false c32
                  clear c32
                  by_cases c36 : ((ze l1 x6_2).f2) = (wrap64 (((ze l1 x6_2).f1) + ((zbf l0 ((ze l1 x6_2).f0)).f1)))
                  ·rw [if_pos c36] at H
                   have c36b0 : (((ze l1 x6_2).f2) == (wrap64 (((ze l1 x6_2).f1) + ((zbf l0 ((ze l1 x6_2).f0)).f1)))) = true := beq_iff_eq.mpr c36
                   have c36b1 : (((ze l1 x6_2).f2) != (wrap64 (((ze l1 x6_2).f1) + ((zbf l0 ((ze l1 x6_2).f0)).f1)))) = false := bne_eq_false_iff_eq.mpr c36
                   clear c36
                   replace H := Option.bind_eq_some_iff.mp H
                   obtain ⟨t323, A370, H⟩ := H
                   replace H : (zq.j3 kj14 l0 l1 x5_2 x6_2 (!t323) ((ze l1 x6_2).f0) ((ze l1 x6_2).f1) ((ze l1 x6_2).f2) ((ze l1 x6_2).f3) ((zbf l0 ((ze l1 x6_2).f0)).f0) ((zbf l0 ((ze l1 x6_2).f0)).f1) ((zbf l0 ((ze l1 x6_2).f0)).f2)) = some r := H
                   have A37 := za.mk A370
                   clear A370
                   have H' := za.mk H
                   clear H
                   have hnb38 := NB317_321.out
                   have hnc38 := NB321_317.out
                   have hcz39_0 : w28.cell? ⟨gb317, 0, none⟩ = some (.int .i64 ((ze l1 x6_2).f0)) := (zh BK317.out 0).trans rfl
                   have hcz39_1 : w28.cell? ⟨gb317, 1, none⟩ = some (.int .i64 ((ze l1 x6_2).f1)) := (zh BK317.out 1).trans rfl
                   have hcz39_2 : w28.cell? ⟨gb317, 2, none⟩ = some (.int .i64 ((ze l1 x6_2).f2)) := (zh BK317.out 2).trans rfl
                   have hcz39_3 : w28.cell? ⟨gb317, 3, none⟩ = some (.int .i64 ((ze l1 x6_2).f3)) := (zh BK317.out 3).trans rfl
                   have hfz39_0 := zg BK317.out 0
                   have hfz39_1 := zg BK317.out 1
                   have hfz39_2 := zg BK317.out 2
                   have hfz39_3 := zg BK317.out 3
                   obtain ⟨Ao40, co40, eo40⟩ := Kd.zbs HO_5.out
                   subst eo40
                   have p322 : 0 ≤ (((ze l1 x6_2).f0) : Int) := of_decide_eq_true Zas
                   have q322 : ((ze l1 x6_2).f0) < (x5_2.length : Int) := of_decide_eq_true Zas
                   obtain ⟨ad322, e322, hx322_0⟩ := Kd.zcn (Kd.zbe HO_5.out).2.2 ((ze l1 x6_2).f0) p322 q322
                   cases e322
                   have hn322_0 : ad322.block ≠ gb321 := Kd.zct (Kd.R_ne HO_5.out BK321.out (by decide))
                   have hn322_1 : ad322.block ≠ gb321 := Kd.zct (Kd.R_ne HO_5.out BK321.out (by decide))
                   have hn322_2 : ad322.block ≠ gb321 := Kd.zct (Kd.R_ne HO_5.out BK321.out (by decide))
                   replace hx322_0 := (cell_far (p := ⟨gb321, 0, none⟩) (by first | (rw [add_block]; exact hn322_0) | (show (Addr.add _ _).block ≠ _; rw [add_block]; exact hn322_0) | exact hn322_0) (.int .i64 ((zbf l0 ((ze l1 x6_2).f0)).f0))).trans hx322_0
                   replace hx322_0 := (cell_far (p := ⟨gb321, 1, none⟩) (by first | (rw [add_block]; exact hn322_1) | (show (Addr.add _ _).block ≠ _; rw [add_block]; exact hn322_1) | exact hn322_1) (.int .i64 ((zbf l0 ((ze l1 x6_2).f0)).f1))).trans hx322_0
                   replace hx322_0 := (cell_far (p := ⟨gb321, 2, none⟩) (by first | (rw [add_block]; exact hn322_2) | (show (Addr.add _ _).block ≠ _; rw [add_block]; exact hn322_2) | exact hn322_2) (.int .i64 ((zbf l0 ((ze l1 x6_2).f0)).f2))).trans hx322_0
                   (try have hy322_0 := fun (n_ : Nat) => (show (((((w28.drewN n_).setCell ⟨gb321, 0, none⟩ (.int .i64 ((zbf l0 ((ze l1 x6_2).f0)).f0))).setCell ⟨gb321, 1, none⟩ (.int .i64 ((zbf l0 ((ze l1 x6_2).f0)).f1))).setCell ⟨gb321, 2, none⟩ (.int .i64 ((zbf l0 ((ze l1 x6_2).f0)).f2)))).cell? _ = some _ from hx322_0))
                   clear hn322_0
                   clear hn322_1
                   clear hn322_2
                   replace p322 := eq_true p322
                   replace q322 := eq_true q322
                   have hcz41_0 : w28.cell? ⟨gb321, 0, none⟩ = some (.int .i64 0) := (zh BK321.out 0).trans rfl
                   have hcz41_1 : w28.cell? ⟨gb321, 1, none⟩ = some (.int .i64 0) := (zh BK321.out 1).trans rfl
                   have hcz41_2 : w28.cell? ⟨gb321, 2, none⟩ = some (.int .i64 0) := (zh BK321.out 2).trans rfl
                   have hfz41_0 := zg BK321.out 0
                   have hfz41_1 := zg BK321.out 1
                   have hfz41_2 := zg BK321.out 2
                   go_wp2_with (first | (go_at_call 102; (with_reducible refine (zbw.calls ((ze l1 x6_2).f3) 1 ((zbf l0 ((ze l1 x6_2).f0)).f0) t323 _ A37.out).mono ?_); rintro e w' ⟨rfl, ⟨nd, rfl⟩⟩; (try first | exact ⟨rfl, _, World.drewN_drewN _ _ _⟩ | exact ⟨rfl, _, Eq.trans (World.drewN_drewN _ _ _) (congrArg (World.drewN _) (Nat.add_assoc _ _ _))⟩)))
                   repeat (go_quiet (first | (go_at_call 102; (with_reducible refine (zbw.calls ((ze l1 x6_2).f3) 1 ((zbf l0 ((ze l1 x6_2).f0)).f0) t323 _ A37.out).mono ?_); rintro e w' ⟨rfl, ⟨nd, rfl⟩⟩; (try first | exact ⟨rfl, _, World.drewN_drewN _ _ _⟩ | exact ⟨rfl, _, Eq.trans (World.drewN_drewN _ _ _) (congrArg (World.drewN _) (Nat.add_assoc _ _ _))⟩))); try go_wp2_with (first | (go_at_call 102; (with_reducible refine (zbw.calls ((ze l1 x6_2).f3) 1 ((zbf l0 ((ze l1 x6_2).f0)).f0) t323 _ A37.out).mono ?_); rintro e w' ⟨rfl, ⟨nd, rfl⟩⟩; (try first | exact ⟨rfl, _, World.drewN_drewN _ _ _⟩ | exact ⟨rfl, _, Eq.trans (World.drewN_drewN _ _ _) (congrArg (World.drewN _) (Nat.add_assoc _ _ _))⟩))))
                   go_meet
                   case rel => exact ⟨_, (!t323), Zrs, H', ⟨by have := HJ2.out; have := HK2.out; have := HJ14.out; first | omega | exact Nat.le_refl _⟩, ⟨by (with_reducible repeat (first | apply Kd.zbi | apply Kd.zbh | apply Kd.zbj)); exact Kd.zy (Kd.zb9 (p := ⟨gb321, 2, none⟩) (Kd.zb9 (p := ⟨gb321, 1, none⟩) (Kd.zb9 (p := ⟨gb321, 0, none⟩) (Kd.zb5 HO_5.out BK321.out (by decide)) (fun _ hk => hk.2) (.int .i64 ((zbf l0 ((ze l1 x6_2).f0)).f0))) (fun _ hk => hk.2) (.int .i64 ((zbf l0 ((ze l1 x6_2).f0)).f1))) (fun _ hk => hk.2) (.int .i64 ((zbf l0 ((ze l1 x6_2).f0)).f2))) (fun _ hk => trivial)⟩, ⟨by (with_reducible repeat (first | refine zn ?_ _ | refine zt ?_ | refine zm ?_ _)); refine zcl ?_ NB317_321.out _; (with_reducible repeat (first | refine zn ?_ _ | refine zt ?_ | refine zm ?_ _)); refine zcl ?_ NB317_321.out _; (with_reducible repeat (first | refine zn ?_ _ | refine zt ?_ | refine zm ?_ _)); refine zcl ?_ NB317_321.out _; (with_reducible repeat (first | refine zn ?_ _ | refine zt ?_ | refine zm ?_ _)); exact BK317.out⟩, ⟨by (with_reducible repeat (first | refine zn ?_ _ | refine zt ?_ | refine zm ?_ _)); refine zbu (cs := #[.int .i64 ((zbf l0 ((ze l1 x6_2).f0)).f0), .int .i64 ((zbf l0 ((ze l1 x6_2).f0)).f1), .int .i64 0]) ?_ 2 _ rfl; (with_reducible repeat (first | refine zn ?_ _ | refine zt ?_ | refine zm ?_ _)); refine zbu (cs := #[.int .i64 ((zbf l0 ((ze l1 x6_2).f0)).f0), .int .i64 0, .int .i64 0]) ?_ 1 _ rfl; (with_reducible repeat (first | refine zn ?_ _ | refine zt ?_ | refine zm ?_ _)); refine zbu (cs := #[.int .i64 0, .int .i64 0, .int .i64 0]) ?_ 0 _ rfl; (with_reducible repeat (first | refine zn ?_ _ | refine zt ?_ | refine zm ?_ _)); exact BK321.out⟩, ⟨Zq7 HB.out GE317.out GE321.out⟩⟩
                  ·rw [if_neg c36] at H
                   have c36b0 : (((ze l1 x6_2).f2) == (wrap64 (((ze l1 x6_2).f1) + ((zbf l0 ((ze l1 x6_2).f0)).f1)))) = false := beq_eq_false_iff_ne.mpr c36
                   have c36b1 : (((ze l1 x6_2).f2) != (wrap64 (((ze l1 x6_2).f1) + ((zbf l0 ((ze l1 x6_2).f0)).f1)))) = true := bne_iff_ne.mpr c36
                   have H' := za.mk H
                   clear H
                   have hnb42 := NB317_321.out
                   have hnc42 := NB321_317.out
                   have hcz43_0 : w28.cell? ⟨gb317, 0, none⟩ = some (.int .i64 ((ze l1 x6_2).f0)) := (zh BK317.out 0).trans rfl
                   have hcz43_1 : w28.cell? ⟨gb317, 1, none⟩ = some (.int .i64 ((ze l1 x6_2).f1)) := (zh BK317.out 1).trans rfl
                   have hcz43_2 : w28.cell? ⟨gb317, 2, none⟩ = some (.int .i64 ((ze l1 x6_2).f2)) := (zh BK317.out 2).trans rfl
                   have hcz43_3 : w28.cell? ⟨gb317, 3, none⟩ = some (.int .i64 ((ze l1 x6_2).f3)) := (zh BK317.out 3).trans rfl
                   have hfz43_0 := zg BK317.out 0
                   have hfz43_1 := zg BK317.out 1
                   have hfz43_2 := zg BK317.out 2
                   have hfz43_3 := zg BK317.out 3
                   obtain ⟨Ao44, co44, eo44⟩ := Kd.zbs HO_5.out
                   subst eo44
                   have p322 : 0 ≤ (((ze l1 x6_2).f0) : Int) := of_decide_eq_true Zas
                   have q322 : ((ze l1 x6_2).f0) < (x5_2.length : Int) := of_decide_eq_true Zas
                   obtain ⟨ad322, e322, hx322_0⟩ := Kd.zcn (Kd.zbe HO_5.out).2.2 ((ze l1 x6_2).f0) p322 q322
                   cases e322
                   have hn322_0 : ad322.block ≠ gb321 := Kd.zct (Kd.R_ne HO_5.out BK321.out (by decide))
                   have hn322_1 : ad322.block ≠ gb321 := Kd.zct (Kd.R_ne HO_5.out BK321.out (by decide))
                   have hn322_2 : ad322.block ≠ gb321 := Kd.zct (Kd.R_ne HO_5.out BK321.out (by decide))
                   replace hx322_0 := (cell_far (p := ⟨gb321, 0, none⟩) (by first | (rw [add_block]; exact hn322_0) | (show (Addr.add _ _).block ≠ _; rw [add_block]; exact hn322_0) | exact hn322_0) (.int .i64 ((zbf l0 ((ze l1 x6_2).f0)).f0))).trans hx322_0
                   replace hx322_0 := (cell_far (p := ⟨gb321, 1, none⟩) (by first | (rw [add_block]; exact hn322_1) | (show (Addr.add _ _).block ≠ _; rw [add_block]; exact hn322_1) | exact hn322_1) (.int .i64 ((zbf l0 ((ze l1 x6_2).f0)).f1))).trans hx322_0
                   replace hx322_0 := (cell_far (p := ⟨gb321, 2, none⟩) (by first | (rw [add_block]; exact hn322_2) | (show (Addr.add _ _).block ≠ _; rw [add_block]; exact hn322_2) | exact hn322_2) (.int .i64 ((zbf l0 ((ze l1 x6_2).f0)).f2))).trans hx322_0
                   (try have hy322_0 := fun (n_ : Nat) => (show (((((w28.drewN n_).setCell ⟨gb321, 0, none⟩ (.int .i64 ((zbf l0 ((ze l1 x6_2).f0)).f0))).setCell ⟨gb321, 1, none⟩ (.int .i64 ((zbf l0 ((ze l1 x6_2).f0)).f1))).setCell ⟨gb321, 2, none⟩ (.int .i64 ((zbf l0 ((ze l1 x6_2).f0)).f2)))).cell? _ = some _ from hx322_0))
                   clear hn322_0
                   clear hn322_1
                   clear hn322_2
                   replace p322 := eq_true p322
                   replace q322 := eq_true q322
                   have hcz45_0 : w28.cell? ⟨gb321, 0, none⟩ = some (.int .i64 0) := (zh BK321.out 0).trans rfl
                   have hcz45_1 : w28.cell? ⟨gb321, 1, none⟩ = some (.int .i64 0) := (zh BK321.out 1).trans rfl
                   have hcz45_2 : w28.cell? ⟨gb321, 2, none⟩ = some (.int .i64 0) := (zh BK321.out 2).trans rfl
                   have hfz45_0 := zg BK321.out 0
                   have hfz45_1 := zg BK321.out 1
                   have hfz45_2 := zg BK321.out 2
                   go_wp2
                   repeat (go_quiet (fail); try go_wp2)
                   go_meet
                   case rel => exact ⟨_, (true), Zrs, H', ⟨by have := HJ2.out; have := HK2.out; have := HJ14.out; first | omega | exact Nat.le_refl _⟩, ⟨by (with_reducible repeat (first | apply Kd.zbi | apply Kd.zbh | apply Kd.zbj)); exact Kd.zy (Kd.zb9 (p := ⟨gb321, 2, none⟩) (Kd.zb9 (p := ⟨gb321, 1, none⟩) (Kd.zb9 (p := ⟨gb321, 0, none⟩) (Kd.zb5 HO_5.out BK321.out (by decide)) (fun _ hk => hk.2) (.int .i64 ((zbf l0 ((ze l1 x6_2).f0)).f0))) (fun _ hk => hk.2) (.int .i64 ((zbf l0 ((ze l1 x6_2).f0)).f1))) (fun _ hk => hk.2) (.int .i64 ((zbf l0 ((ze l1 x6_2).f0)).f2))) (fun _ hk => trivial)⟩, ⟨by (with_reducible repeat (first | refine zn ?_ _ | refine zt ?_ | refine zm ?_ _)); refine zcl ?_ NB317_321.out _; (with_reducible repeat (first | refine zn ?_ _ | refine zt ?_ | refine zm ?_ _)); refine zcl ?_ NB317_321.out _; (with_reducible repeat (first | refine zn ?_ _ | refine zt ?_ | refine zm ?_ _)); refine zcl ?_ NB317_321.out _; (with_reducible repeat (first | refine zn ?_ _ | refine zt ?_ | refine zm ?_ _)); exact BK317.out⟩, ⟨by (with_reducible repeat (first | refine zn ?_ _ | refine zt ?_ | refine zm ?_ _)); refine zbu (cs := #[.int .i64 ((zbf l0 ((ze l1 x6_2).f0)).f0), .int .i64 ((zbf l0 ((ze l1 x6_2).f0)).f1), .int .i64 0]) ?_ 2 _ rfl; (with_reducible repeat (first | refine zn ?_ _ | refine zt ?_ | refine zm ?_ _)); refine zbu (cs := #[.int .i64 ((zbf l0 ((ze l1 x6_2).f0)).f0), .int .i64 0, .int .i64 0]) ?_ 1 _ rfl; (with_reducible repeat (first | refine zn ?_ _ | refine zt ?_ | refine zm ?_ _)); refine zbu (cs := #[.int .i64 0, .int .i64 0, .int .i64 0]) ?_ 0 _ rfl; (with_reducible repeat (first | refine zn ?_ _ | refine zt ?_ | refine zm ?_ _)); exact BK321.out⟩, ⟨Zq7 HB.out GE317.out GE321.out⟩⟩
                ·rw [if_neg c31] at H
                 exact absurd H (by simp)
               case rest =>
                clear HC26
                try clear c1
                try clear c2
                try clear p2
                try clear c3
                try clear p3
                try clear q3
                try clear hx3
                try clear c4
                try clear c5
                try clear p6
                try clear c8
                try clear c9
                try clear c9b0
                try clear c9b1
                try clear c10
                try clear c10b0
                try clear c10b1
                try clear c13
                try clear c13b0
                try clear c14
                try clear c14b0
                try clear c19
                try clear c23
                try clear c24
                try clear c24b0
                try clear c25
                try clear c25b0
                try clear c29
                try clear c31
                try clear c31b0
                try clear p31
                try clear q31
                try clear hx31
                try clear c32
                try clear c32b0
                try clear p32
                try clear q32
                try clear hx32
                try clear c33
                try clear c36
                try clear c36b0
                try clear c36b1
                try clear c38
                try clear c42
                try clear hcz17_0
                try clear hcz17_1
                try clear hcz17_2
                try clear hcz17_3
                try clear hcz21_0
                try clear hcz21_1
                try clear hcz21_2
                try clear hcz21_3
                try clear hcz22_0
                try clear hcz22_1
                try clear hcz22_2
                try clear hcz22_3
                try clear hcz27_0
                try clear hcz27_1
                try clear hcz27_2
                try clear hcz27_3
                try clear hcz30_0
                try clear hcz30_1
                try clear hcz30_2
                try clear hcz34_0
                try clear hcz34_1
                try clear hcz34_2
                try clear hcz34_3
                try clear hcz39_0
                try clear hcz39_1
                try clear hcz39_2
                try clear hcz39_3
                try clear hcz41_0
                try clear hcz41_1
                try clear hcz41_2
                try clear hcz43_0
                try clear hcz43_1
                try clear hcz43_2
                try clear hcz43_3
                try clear hcz45_0
                try clear hcz45_1
                try clear hcz45_2
                try clear hfz17_0
                try clear hfz17_1
                try clear hfz17_2
                try clear hfz17_3
                try clear hfz21_0
                try clear hfz21_1
                try clear hfz21_2
                try clear hfz21_3
                try clear hfz22_0
                try clear hfz22_1
                try clear hfz22_2
                try clear hfz22_3
                try clear hfz27_0
                try clear hfz27_1
                try clear hfz27_2
                try clear hfz27_3
                try clear hfz30_0
                try clear hfz30_1
                try clear hfz30_2
                try clear hfz34_0
                try clear hfz34_1
                try clear hfz34_2
                try clear hfz34_3
                try clear hfz39_0
                try clear hfz39_1
                try clear hfz39_2
                try clear hfz39_3
                try clear hfz41_0
                try clear hfz41_1
                try clear hfz41_2
                try clear hfz43_0
                try clear hfz43_1
                try clear hfz43_2
                try clear hfz43_3
                try clear hfz45_0
                try clear hfz45_1
                try clear hfz45_2
                try clear hx316_0
                try clear hx316_1
                try clear hx316_2
                try clear hx316_3
                try clear hx320_0
                try clear hx320_1
                try clear hx320_2
                try clear hx322_0
                try clear p2
                try clear p3
                try clear p316
                try clear p320
                try clear p322
                try clear p6
                try clear q3
                try clear q316
                try clear q320
                try clear q322
                obtain ⟨kq, x73_25, rfl, HA, HJ25, HO_5, BK317, BK321, HB⟩ := hcut
                cases kq with
                | zero => exact absurd HA.out (by simp [zq.j3])
                | succ kj25 =>
                 have H := HA.out
                 clear HA
                 simp only [zq.j3] at H
                 by_cases c46 : x73_25 = true
                 ·subst c46
                  have H1 : (some false) = some r := by rw [if_pos rfl] at H; exact H
                  clear H
                  have H := H1
                  clear H1
                  obtain rfl := Option.some.inj H
                  go_wp2
                  repeat (go_quiet (fail); try go_wp2)
                  go_ret
                  exact ⟨by first | rfl | (simp [zbc, zbd] <;> rfl) | (simp [*, zbc, zbd] <;> rfl), Zq7 HB.out GE317.out GE321.out⟩
                 ·replace c46 := Bool.eq_false_iff.mpr c46
                  subst c46
                  have H1 : (if x6_2 > 0 then (if 0 ≤ (wrap64 (x6_2 - 1)) then (if (wrap64 (x6_2 - 1)) < (l1.length : Int) then (if ((ze l1 (wrap64 (x6_2 - 1))).f1) > ((ze l1 x6_2).f1) then (some false) else (if ((ze l1 (wrap64 (x6_2 - 1))).f1) = ((ze l1 x6_2).f1) then (if ((ze l1 (wrap64 (x6_2 - 1))).f0) ≥ ((ze l1 x6_2).f0) then (some false) else (if 0 ≤ ((ze l1 x6_2).f0) then (if ((ze l1 x6_2).f0) < (x5_2.length : Int) then (zq.l0 kj25 l0 l1 (x5_2.set (((ze l1 x6_2).f0) : Int).toNat (wrap64 (((ze l1 x6_2).f1) + ((zbf l0 ((ze l1 x6_2).f0)).f2)))) (wrap64 (x6_2 + 1))) else (none)) else (none))) else (if 0 ≤ ((ze l1 x6_2).f0) then (if ((ze l1 x6_2).f0) < (x5_2.length : Int) then (zq.l0 kj25 l0 l1 (x5_2.set (((ze l1 x6_2).f0) : Int).toNat (wrap64 (((ze l1 x6_2).f1) + ((zbf l0 ((ze l1 x6_2).f0)).f2)))) (wrap64 (x6_2 + 1))) else (none)) else (none)))) else (none)) else (none)) else (if 0 ≤ ((ze l1 x6_2).f0) then (if ((ze l1 x6_2).f0) < (x5_2.length : Int) then (zq.l0 kj25 l0 l1 (x5_2.set (((ze l1 x6_2).f0) : Int).toNat (wrap64 (((ze l1 x6_2).f1) + ((zbf l0 ((ze l1 x6_2).f0)).f2)))) (wrap64 (x6_2 + 1))) else (none)) else (none))) = some r := by rw [if_neg (show ¬ (false = true) by decide)] at H; exact H
                  clear H
                  have H := H1
                  clear H1
                  by_cases c47 : x6_2 > 0
                  ·rw [if_pos c47] at H
                   have c47b0 : decide (0 < x6_2) = true := decide_eq_true c47
                   clear c47
                   obtain ⟨ji48, hji48⟩ : ∃ j_ : Int, (wrap64 (x6_2 - 1)) = j_ := ⟨_, rfl⟩
                   replace H : (if 0 ≤ (ji48) then (if (ji48) < (l1.length : Int) then (if ((ze l1 (ji48)).f1) > ((ze l1 x6_2).f1) then (some false) else (if ((ze l1 (ji48)).f1) = ((ze l1 x6_2).f1) then (if ((ze l1 (ji48)).f0) ≥ ((ze l1 x6_2).f0) then (some false) else (if 0 ≤ ((ze l1 x6_2).f0) then (if ((ze l1 x6_2).f0) < (x5_2.length : Int) then (zq.l0 kj25 l0 l1 (x5_2.set (((ze l1 x6_2).f0) : Int).toNat (wrap64 (((ze l1 x6_2).f1) + ((zbf l0 ((ze l1 x6_2).f0)).f2)))) (wrap64 (x6_2 + 1))) else (none)) else (none))) else (if 0 ≤ ((ze l1 x6_2).f0) then (if ((ze l1 x6_2).f0) < (x5_2.length : Int) then (zq.l0 kj25 l0 l1 (x5_2.set (((ze l1 x6_2).f0) : Int).toNat (wrap64 (((ze l1 x6_2).f1) + ((zbf l0 ((ze l1 x6_2).f0)).f2)))) (wrap64 (x6_2 + 1))) else (none)) else (none)))) else (none)) else (none)) = some r := by first | (rw [hji48] at H; exact H) | (simp only [hji48] at H ⊢; exact H)
                   have hji48w : (IntKind.i64.wrap (x6_2 - 1)) = ji48 := (zbq _).trans hji48
                   by_cases c49 : 0 ≤ (ji48)
                   ·rw [if_pos c49] at H
                    have c49b0 : decide (0 ≤ (ji48)) = true := decide_eq_true c49
                    clear c49
                    by_cases c50 : (ji48) < (l1.length : Int)
                    ·rw [if_pos c50] at H
                     have c50b0 : decide ((ji48) < (l1.length : Int)) = true := decide_eq_true c50
                     clear c50
                     by_cases c51 : ((ze l1 (ji48)).f1) > ((ze l1 x6_2).f1)
                     ·rw [if_pos c51] at H
                      have c51b0 : decide (((ze l1 x6_2).f1) < ((ze l1 (ji48)).f1)) = true := decide_eq_true c51
                      clear c51
                      obtain rfl := Option.some.inj H
                      have p324 : 0 ≤ ((ji48) : Int) := of_decide_eq_true Zas
                      have q324 : (ji48) < (l1.length : Int) := of_decide_eq_true Zas
                      obtain ⟨ad324, e324, hx324_0, hx324_1, hx324_2, hx324_3⟩ := zc9 HR1.out (ji48) p324 q324
                      obtain rfl : ad316 = ad324 := (by injection e324)
                      replace hx324_0 := (HB.out.cell (World.block_lt_of_cell? w _ hx324_0)).trans hx324_0
                      replace hx324_1 := (HB.out.cell (World.block_lt_of_cell? w _ hx324_1)).trans hx324_1
                      replace hx324_2 := (HB.out.cell (World.block_lt_of_cell? w _ hx324_2)).trans hx324_2
                      replace hx324_3 := (HB.out.cell (World.block_lt_of_cell? w _ hx324_3)).trans hx324_3
                      replace p324 := eq_true p324
                      replace q324 := eq_true q324
                      have hnb52 := NB317_321.out
                      have hnc52 := NB321_317.out
                      have hcz53_0 : wc.cell? ⟨gb317, 0, none⟩ = some (.int .i64 ((ze l1 x6_2).f0)) := (zh BK317.out 0).trans rfl
                      have hcz53_1 : wc.cell? ⟨gb317, 1, none⟩ = some (.int .i64 ((ze l1 x6_2).f1)) := (zh BK317.out 1).trans rfl
                      have hcz53_2 : wc.cell? ⟨gb317, 2, none⟩ = some (.int .i64 ((ze l1 x6_2).f2)) := (zh BK317.out 2).trans rfl
                      have hcz53_3 : wc.cell? ⟨gb317, 3, none⟩ = some (.int .i64 ((ze l1 x6_2).f3)) := (zh BK317.out 3).trans rfl
                      have hfz53_0 := zg BK317.out 0
                      have hfz53_1 := zg BK317.out 1
                      have hfz53_2 := zg BK317.out 2
                      have hfz53_3 := zg BK317.out 3
                      go_wp2
                      repeat (go_quiet (fail); try go_wp2)
                      go_ret
                      exact ⟨by first | rfl | (simp [zbc, zbd] <;> rfl) | (simp only [← hji48]; first | rfl | (simp [zbc, zbd] <;> rfl)) | (simp [*, zbc, zbd] <;> rfl), Zq7 HB.out GE317.out GE321.out⟩
                     ·rw [if_neg c51] at H
                      have c51b0 : decide (((ze l1 x6_2).f1) < ((ze l1 (ji48)).f1)) = false := decide_eq_false c51
                      clear c51
                      by_cases c54 : ((ze l1 (ji48)).f1) = ((ze l1 x6_2).f1)
                      ·rw [if_pos c54] at H
                       have c54b0 : (((ze l1 (ji48)).f1) == ((ze l1 x6_2).f1)) = true := beq_iff_eq.mpr c54
                       have c54b1 : (((ze l1 (ji48)).f1) != ((ze l1 x6_2).f1)) = false := bne_eq_false_iff_eq.mpr c54
                       clear c54
                       by_cases c55 : ((ze l1 (ji48)).f0) ≥ ((ze l1 x6_2).f0)
                       ·rw [if_pos c55] at H
                        have c55b0 : decide (((ze l1 x6_2).f0) ≤ ((ze l1 (ji48)).f0)) = true := decide_eq_true c55
                        clear c55
                        obtain rfl := Option.some.inj H
                        have p324 : 0 ≤ ((ji48) : Int) := of_decide_eq_true Zas
                        have q324 : (ji48) < (l1.length : Int) := of_decide_eq_true Zas
                        obtain ⟨ad324, e324, hx324_0, hx324_1, hx324_2, hx324_3⟩ := zc9 HR1.out (ji48) p324 q324
                        obtain rfl : ad316 = ad324 := (by injection e324)
                        replace hx324_0 := (HB.out.cell (World.block_lt_of_cell? w _ hx324_0)).trans hx324_0
                        replace hx324_1 := (HB.out.cell (World.block_lt_of_cell? w _ hx324_1)).trans hx324_1
                        replace hx324_2 := (HB.out.cell (World.block_lt_of_cell? w _ hx324_2)).trans hx324_2
                        replace hx324_3 := (HB.out.cell (World.block_lt_of_cell? w _ hx324_3)).trans hx324_3
                        replace p324 := eq_true p324
                        replace q324 := eq_true q324
                        have hnb56 := NB317_321.out
                        have hnc56 := NB321_317.out
                        have hcz57_0 : wc.cell? ⟨gb317, 0, none⟩ = some (.int .i64 ((ze l1 x6_2).f0)) := (zh BK317.out 0).trans rfl
                        have hcz57_1 : wc.cell? ⟨gb317, 1, none⟩ = some (.int .i64 ((ze l1 x6_2).f1)) := (zh BK317.out 1).trans rfl
                        have hcz57_2 : wc.cell? ⟨gb317, 2, none⟩ = some (.int .i64 ((ze l1 x6_2).f2)) := (zh BK317.out 2).trans rfl
                        have hcz57_3 : wc.cell? ⟨gb317, 3, none⟩ = some (.int .i64 ((ze l1 x6_2).f3)) := (zh BK317.out 3).trans rfl
                        have hfz57_0 := zg BK317.out 0
                        have hfz57_1 := zg BK317.out 1
                        have hfz57_2 := zg BK317.out 2
                        have hfz57_3 := zg BK317.out 3
                        have p325 : 0 ≤ ((ji48) : Int) := of_decide_eq_true Zas
                        have q325 : (ji48) < (l1.length : Int) := of_decide_eq_true Zas
                        obtain ⟨ad325, e325, hx325_0, hx325_1, hx325_2, hx325_3⟩ := zc9 HR1.out (ji48) p325 q325
                        obtain rfl : ad316 = ad325 := (by injection e325)
                        replace hx325_0 := (HB.out.cell (World.block_lt_of_cell? w _ hx325_0)).trans hx325_0
                        replace hx325_1 := (HB.out.cell (World.block_lt_of_cell? w _ hx325_1)).trans hx325_1
                        replace hx325_2 := (HB.out.cell (World.block_lt_of_cell? w _ hx325_2)).trans hx325_2
                        replace hx325_3 := (HB.out.cell (World.block_lt_of_cell? w _ hx325_3)).trans hx325_3
                        replace p325 := eq_true p325
                        replace q325 := eq_true q325
                        have p326 : 0 ≤ ((ji48) : Int) := of_decide_eq_true Zas
                        have q326 : (ji48) < (l1.length : Int) := of_decide_eq_true Zas
                        obtain ⟨ad326, e326, hx326_0, hx326_1, hx326_2, hx326_3⟩ := zc9 HR1.out (ji48) p326 q326
                        obtain rfl : ad316 = ad326 := (by injection e326)
                        replace hx326_0 := (HB.out.cell (World.block_lt_of_cell? w _ hx326_0)).trans hx326_0
                        replace hx326_1 := (HB.out.cell (World.block_lt_of_cell? w _ hx326_1)).trans hx326_1
                        replace hx326_2 := (HB.out.cell (World.block_lt_of_cell? w _ hx326_2)).trans hx326_2
                        replace hx326_3 := (HB.out.cell (World.block_lt_of_cell? w _ hx326_3)).trans hx326_3
                        replace p326 := eq_true p326
                        replace q326 := eq_true q326
                        go_wp2
                        repeat (go_quiet (fail); try go_wp2)
                        go_ret
                        exact ⟨by first | rfl | (simp [zbc, zbd] <;> rfl) | (simp only [← hji48]; first | rfl | (simp [zbc, zbd] <;> rfl)) | (simp [*, zbc, zbd] <;> rfl), Zq7 HB.out GE317.out GE321.out⟩
                       ·rw [if_neg c55] at H
                        have c55b0 : decide (((ze l1 x6_2).f0) ≤ ((ze l1 (ji48)).f0)) = false := decide_eq_false c55
                        clear c55
                        by_cases c58 : 0 ≤ ((ze l1 x6_2).f0)
                        ·rw [if_pos c58] at H
                         have c58b0 : decide (0 ≤ ((ze l1 x6_2).f0)) = true := decide_eq_true c58
                         clear c58
                         by_cases c59 : ((ze l1 x6_2).f0) < (x5_2.length : Int)
                         ·rw [if_pos c59] at H
                          have c59b0 : decide (((ze l1 x6_2).f0) < (x5_2.length : Int)) = true := decide_eq_true c59
                          clear c59
                          obtain ⟨y327, hy327⟩ : ∃ y_ : List Int, y_ = (x5_2.set (((ze l1 x6_2).f0) : Int).toNat (wrap64 (((ze l1 x6_2).f1) + ((zbf l0 ((ze l1 x6_2).f0)).f2)))) := ⟨_, rfl⟩
                          replace H : (zq.l0 kj25 l0 l1 y327 (wrap64 (x6_2 + 1))) = some r := by first | (rw [hy327]; with_reducible exact H) | (have H2_ := (Option.bind_some _ _).symm.trans H; rw [hy327]; with_reducible exact H2_) | (have H2_ := (Option.bind_some _ _).symm.trans H; with_reducible exact H2_) | with_reducible exact H | (rw [hy327]; exact H) | exact H
                          have Ny327 := za.mk hy327
                          clear hy327
                          have H' := za.mk H
                          clear H
                          have p324 : 0 ≤ ((ji48) : Int) := of_decide_eq_true Zas
                          have q324 : (ji48) < (l1.length : Int) := of_decide_eq_true Zas
                          obtain ⟨ad324, e324, hx324_0, hx324_1, hx324_2, hx324_3⟩ := zc9 HR1.out (ji48) p324 q324
                          obtain rfl : ad316 = ad324 := (by injection e324)
                          replace hx324_0 := (HB.out.cell (World.block_lt_of_cell? w _ hx324_0)).trans hx324_0
                          replace hx324_1 := (HB.out.cell (World.block_lt_of_cell? w _ hx324_1)).trans hx324_1
                          replace hx324_2 := (HB.out.cell (World.block_lt_of_cell? w _ hx324_2)).trans hx324_2
                          replace hx324_3 := (HB.out.cell (World.block_lt_of_cell? w _ hx324_3)).trans hx324_3
                          replace p324 := eq_true p324
                          replace q324 := eq_true q324
                          have hnb61 := NB317_321.out
                          have hnc61 := NB321_317.out
                          have hcz62_0 : wc.cell? ⟨gb317, 0, none⟩ = some (.int .i64 ((ze l1 x6_2).f0)) := (zh BK317.out 0).trans rfl
                          have hcz62_1 : wc.cell? ⟨gb317, 1, none⟩ = some (.int .i64 ((ze l1 x6_2).f1)) := (zh BK317.out 1).trans rfl
                          have hcz62_2 : wc.cell? ⟨gb317, 2, none⟩ = some (.int .i64 ((ze l1 x6_2).f2)) := (zh BK317.out 2).trans rfl
                          have hcz62_3 : wc.cell? ⟨gb317, 3, none⟩ = some (.int .i64 ((ze l1 x6_2).f3)) := (zh BK317.out 3).trans rfl
                          have hfz62_0 := zg BK317.out 0
                          have hfz62_1 := zg BK317.out 1
                          have hfz62_2 := zg BK317.out 2
                          have hfz62_3 := zg BK317.out 3
                          have p325 : 0 ≤ ((ji48) : Int) := of_decide_eq_true Zas
                          have q325 : (ji48) < (l1.length : Int) := of_decide_eq_true Zas
                          obtain ⟨ad325, e325, hx325_0, hx325_1, hx325_2, hx325_3⟩ := zc9 HR1.out (ji48) p325 q325
                          obtain rfl : ad316 = ad325 := (by injection e325)
                          replace hx325_0 := (HB.out.cell (World.block_lt_of_cell? w _ hx325_0)).trans hx325_0
                          replace hx325_1 := (HB.out.cell (World.block_lt_of_cell? w _ hx325_1)).trans hx325_1
                          replace hx325_2 := (HB.out.cell (World.block_lt_of_cell? w _ hx325_2)).trans hx325_2
                          replace hx325_3 := (HB.out.cell (World.block_lt_of_cell? w _ hx325_3)).trans hx325_3
                          replace p325 := eq_true p325
                          replace q325 := eq_true q325
                          have p326 : 0 ≤ ((ji48) : Int) := of_decide_eq_true Zas
                          have q326 : (ji48) < (l1.length : Int) := of_decide_eq_true Zas
                          obtain ⟨ad326, e326, hx326_0, hx326_1, hx326_2, hx326_3⟩ := zc9 HR1.out (ji48) p326 q326
                          obtain rfl : ad316 = ad326 := (by injection e326)
                          replace hx326_0 := (HB.out.cell (World.block_lt_of_cell? w _ hx326_0)).trans hx326_0
                          replace hx326_1 := (HB.out.cell (World.block_lt_of_cell? w _ hx326_1)).trans hx326_1
                          replace hx326_2 := (HB.out.cell (World.block_lt_of_cell? w _ hx326_2)).trans hx326_2
                          replace hx326_3 := (HB.out.cell (World.block_lt_of_cell? w _ hx326_3)).trans hx326_3
                          replace p326 := eq_true p326
                          replace q326 := eq_true q326
                          have hcz63_0 : wc.cell? ⟨gb321, 0, none⟩ = some (.int .i64 ((zbf l0 ((ze l1 x6_2).f0)).f0)) := (zh BK321.out 0).trans rfl
                          have hcz63_1 : wc.cell? ⟨gb321, 1, none⟩ = some (.int .i64 ((zbf l0 ((ze l1 x6_2).f0)).f1)) := (zh BK321.out 1).trans rfl
                          have hcz63_2 : wc.cell? ⟨gb321, 2, none⟩ = some (.int .i64 ((zbf l0 ((ze l1 x6_2).f0)).f2)) := (zh BK321.out 2).trans rfl
                          have hfz63_0 := zg BK321.out 0
                          have hfz63_1 := zg BK321.out 1
                          have hfz63_2 := zg BK321.out 2
                          have p60 : 0 ≤ (((ze l1 x6_2).f0) : Int) := of_decide_eq_true Zas
                          have q60 : (((ze l1 x6_2).f0) : Int) < ((x5_2.length : Int) : Int) := of_decide_eq_true Zas
                          obtain ⟨go60, co60, eo60, gb60, gl60, cl60, HG60⟩ := Kd.zdo HO_5.out (by omega)
                          (first | cases eo60 | (injection eo60 with ea_ en_ ec_; (first | subst ea_ | (injection ea_ with ea_; subst ea_)); subst ec_; clear en_))
                          have GB60 := za.mk gb60
                          have GG60 := za.mk HG60
                          clear gb60 gl60 HG60
                          obtain ⟨hx60_0, hf60_0⟩ := Kd.zcw 0 HO_5.out (((ze l1 x6_2).f0) : Int) p60 q60
                          replace p60 := eq_true p60
                          replace q60 := eq_true q60
                          have HP64 := Kd.zc1 HO_5.out (((ze l1 x6_2).f0) : Int) (wrap64 (((ze l1 x6_2).f1) + ((zbf l0 ((ze l1 x6_2).f0)).f2)))
                          go_wp2_with (first | ((with_reducible refine zcf (t := 3) (p := 117) rfl ?_); (try (rw [zdv wc]; generalize hq_ : World.drewN wc _ = wc; have n0_ := za.mk (Kd.R_at hq_ HO_5.out); have n1_ := za.mk (blk_at hq_ BK317.out); have n2_ := za.mk (blk_at hq_ BK321.out); have n3_ := za.mk (below_at hq_ HB.out); clear hq_ HO_5 BK317 BK321 HB; have HO_5 := n0_; have BK317 := n1_; have BK321 := n2_; have HB := n3_; clear n0_ n1_ n2_ n3_; (try (have HP64 := Kd.zc1 HO_5.out (((ze l1 x6_2).f0) : Int) (wrap64 (((ze l1 x6_2).f1) + ((zbf l0 ((ze l1 x6_2).f0)).f2))))))); refine zcc (t := 3) (p := 117) (v := ?vo_w65) (w1 := (wc.setCell ⟨go60, (((ze l1 x6_2).f0) : Int).toNat, none⟩ (.int .i64 (wrap64 (((ze l1 x6_2).f1) + ((zbf l0 ((ze l1 x6_2).f0)).f2)))))) ?hg ?ho ?hn ?hr ?_; (case ho => rfl); (case hg => rfl); (case hn => rfl); (case hr => first | (go_simp; done) | (go_simp; rfl)); intro w65 hw; have hg : wc.grownBy w65 (some go60) := (by rw [hw]; exact HP64.2); have hp_ : Kd.R (Kd.int .i64) 3 w65 w.heap.size (fun _ => True) (.slice (some ⟨go60, 0, none⟩) x5_2.length co60) y327 := (by rw [hw, Ny327.out]; exact HP64.1); clear HP64; have n0_ := za.mk (hp_); have n1_ := za.mk (zbr (g := gb317) (o := .cells #[.int .i64 ((ze l1 x6_2).f0), .int .i64 ((ze l1 x6_2).f1), .int .i64 ((ze l1 x6_2).f2), .int .i64 ((ze l1 x6_2).f3)] 34 (0, 0)) (Zq4 BK317.out) hg (Kd.R_ne HO_5.out BK317.out (by decide))); have n2_ := za.mk (zbr (g := gb321) (o := .cells #[.int .i64 ((zbf l0 ((ze l1 x6_2).f0)).f0), .int .i64 ((zbf l0 ((ze l1 x6_2).f0)).f1), .int .i64 ((zbf l0 ((ze l1 x6_2).f0)).f2)] 88 (0, 0)) (Zq4 BK321.out) hg (Kd.R_ne HO_5.out BK321.out (by decide))); have n3_ := za.mk ((by rw [hw]; exact zb3 (HB.out) GB60.out : Below w.heap.size w w65)); clear HO_5; clear BK317; clear BK321; clear HB; have HO_5 := n0_; have BK317 := n1_; have BK321 := n2_; have HB := n3_; clear n0_ n1_ n2_ n3_; clear hg hw hp_))
                          repeat (go_quiet (first | ((with_reducible refine zcf (t := 3) (p := 117) rfl ?_); (try (rw [zdv wc]; generalize hq_ : World.drewN wc _ = wc; have n0_ := za.mk (Kd.R_at hq_ HO_5.out); have n1_ := za.mk (blk_at hq_ BK317.out); have n2_ := za.mk (blk_at hq_ BK321.out); have n3_ := za.mk (below_at hq_ HB.out); clear hq_ HO_5 BK317 BK321 HB; have HO_5 := n0_; have BK317 := n1_; have BK321 := n2_; have HB := n3_; clear n0_ n1_ n2_ n3_; (try (have HP64 := Kd.zc1 HO_5.out (((ze l1 x6_2).f0) : Int) (wrap64 (((ze l1 x6_2).f1) + ((zbf l0 ((ze l1 x6_2).f0)).f2))))))); refine zcc (t := 3) (p := 117) (v := ?vo_w65) (w1 := (wc.setCell ⟨go60, (((ze l1 x6_2).f0) : Int).toNat, none⟩ (.int .i64 (wrap64 (((ze l1 x6_2).f1) + ((zbf l0 ((ze l1 x6_2).f0)).f2)))))) ?hg ?ho ?hn ?hr ?_; (case ho => rfl); (case hg => rfl); (case hn => rfl); (case hr => first | (go_simp; done) | (go_simp; rfl)); intro w65 hw; have hg : wc.grownBy w65 (some go60) := (by rw [hw]; exact HP64.2); have hp_ : Kd.R (Kd.int .i64) 3 w65 w.heap.size (fun _ => True) (.slice (some ⟨go60, 0, none⟩) x5_2.length co60) y327 := (by rw [hw, Ny327.out]; exact HP64.1); clear HP64; have n0_ := za.mk (hp_); have n1_ := za.mk (zbr (g := gb317) (o := .cells #[.int .i64 ((ze l1 x6_2).f0), .int .i64 ((ze l1 x6_2).f1), .int .i64 ((ze l1 x6_2).f2), .int .i64 ((ze l1 x6_2).f3)] 34 (0, 0)) (Zq4 BK317.out) hg (Kd.R_ne HO_5.out BK317.out (by decide))); have n2_ := za.mk (zbr (g := gb321) (o := .cells #[.int .i64 ((zbf l0 ((ze l1 x6_2).f0)).f0), .int .i64 ((zbf l0 ((ze l1 x6_2).f0)).f1), .int .i64 ((zbf l0 ((ze l1 x6_2).f0)).f2)] 88 (0, 0)) (Zq4 BK321.out) hg (Kd.R_ne HO_5.out BK321.out (by decide))); have n3_ := za.mk ((by rw [hw]; exact zb3 (HB.out) GB60.out : Below w.heap.size w w65)); clear HO_5; clear BK317; clear BK321; clear HB; have HO_5 := n0_; have BK317 := n1_; have BK321 := n2_; have HB := n3_; clear n0_ n1_ n2_ n3_; clear hg hw hp_)); try go_wp2_with (first | ((with_reducible refine zcf (t := 3) (p := 117) rfl ?_); (try (rw [zdv wc]; generalize hq_ : World.drewN wc _ = wc; have n0_ := za.mk (Kd.R_at hq_ HO_5.out); have n1_ := za.mk (blk_at hq_ BK317.out); have n2_ := za.mk (blk_at hq_ BK321.out); have n3_ := za.mk (below_at hq_ HB.out); clear hq_ HO_5 BK317 BK321 HB; have HO_5 := n0_; have BK317 := n1_; have BK321 := n2_; have HB := n3_; clear n0_ n1_ n2_ n3_; (try (have HP64 := Kd.zc1 HO_5.out (((ze l1 x6_2).f0) : Int) (wrap64 (((ze l1 x6_2).f1) + ((zbf l0 ((ze l1 x6_2).f0)).f2))))))); refine zcc (t := 3) (p := 117) (v := ?vo_w65) (w1 := (wc.setCell ⟨go60, (((ze l1 x6_2).f0) : Int).toNat, none⟩ (.int .i64 (wrap64 (((ze l1 x6_2).f1) + ((zbf l0 ((ze l1 x6_2).f0)).f2)))))) ?hg ?ho ?hn ?hr ?_; (case ho => rfl); (case hg => rfl); (case hn => rfl); (case hr => first | (go_simp; done) | (go_simp; rfl)); intro w65 hw; have hg : wc.grownBy w65 (some go60) := (by rw [hw]; exact HP64.2); have hp_ : Kd.R (Kd.int .i64) 3 w65 w.heap.size (fun _ => True) (.slice (some ⟨go60, 0, none⟩) x5_2.length co60) y327 := (by rw [hw, Ny327.out]; exact HP64.1); clear HP64; have n0_ := za.mk (hp_); have n1_ := za.mk (zbr (g := gb317) (o := .cells #[.int .i64 ((ze l1 x6_2).f0), .int .i64 ((ze l1 x6_2).f1), .int .i64 ((ze l1 x6_2).f2), .int .i64 ((ze l1 x6_2).f3)] 34 (0, 0)) (Zq4 BK317.out) hg (Kd.R_ne HO_5.out BK317.out (by decide))); have n2_ := za.mk (zbr (g := gb321) (o := .cells #[.int .i64 ((zbf l0 ((ze l1 x6_2).f0)).f0), .int .i64 ((zbf l0 ((ze l1 x6_2).f0)).f1), .int .i64 ((zbf l0 ((ze l1 x6_2).f0)).f2)] 88 (0, 0)) (Zq4 BK321.out) hg (Kd.R_ne HO_5.out BK321.out (by decide))); have n3_ := za.mk ((by rw [hw]; exact zb3 (HB.out) GB60.out : Below w.heap.size w w65)); clear HO_5; clear BK317; clear BK321; clear HB; have HO_5 := n0_; have BK317 := n1_; have BK321 := n2_; have HB := n3_; clear n0_ n1_ n2_ n3_; clear hg hw hp_)))
                          go_roundg kj25
                          case measure => have := HJ2.out; have := HK2.out; have := HJ14.out; have := HJ25.out; omega
                          case rel => exact ⟨(y327), (wrap64 (x6_2 + 1)), Zrs, H', ⟨by have := HJ2.out; have := HK2.out; have := HJ14.out; have := HJ25.out; omega⟩, ⟨by first | ((with_reducible repeat (first | apply Kd.zbi | apply Kd.zbh | apply Kd.zbj)); exact HO_5.out) | (rw [Ny327.out]; exact (Kd.zc1 (Kd.zbh HO_5.out _) _ _).1) | (rw [Ny327.out]; exact (Kd.zc1 HO_5.out _ _).1)⟩, ⟨by first | exact zb3 (zbm HB.out _) GB60.out | exact zb3 HB.out GB60.out | (repeat (first | (with_reducible first | exact HB.out | apply zbn | apply zbm | apply zb6 | refine zb3 ?_ GE317.out | refine zb3 ?_ GE321.out) | exact HB.out))⟩⟩
                         ·rw [if_neg c59] at H
                          exact absurd H (by simp)
                        ·rw [if_neg c58] at H
                         exact absurd H (by simp)
                      ·rw [if_neg c54] at H
                       have c54b0 : (((ze l1 (ji48)).f1) == ((ze l1 x6_2).f1)) = false := beq_eq_false_iff_ne.mpr c54
                       have c54b1 : (((ze l1 (ji48)).f1) != ((ze l1 x6_2).f1)) = true := bne_iff_ne.mpr c54
                       by_cases c66 : 0 ≤ ((ze l1 x6_2).f0)
                       ·rw [if_pos c66] at H
                        have c66b0 : decide (0 ≤ ((ze l1 x6_2).f0)) = true := decide_eq_true c66
                        clear c66
                        by_cases c67 : ((ze l1 x6_2).f0) < (x5_2.length : Int)
                        ·rw [if_pos c67] at H
                         have c67b0 : decide (((ze l1 x6_2).f0) < (x5_2.length : Int)) = true := decide_eq_true c67
                         clear c67
                         obtain ⟨y328, hy328⟩ : ∃ y_ : List Int, y_ = (x5_2.set (((ze l1 x6_2).f0) : Int).toNat (wrap64 (((ze l1 x6_2).f1) + ((zbf l0 ((ze l1 x6_2).f0)).f2)))) := ⟨_, rfl⟩
                         replace H : (zq.l0 kj25 l0 l1 y328 (wrap64 (x6_2 + 1))) = some r := by first | (rw [hy328]; with_reducible exact H) | (have H2_ := (Option.bind_some _ _).symm.trans H; rw [hy328]; with_reducible exact H2_) | (have H2_ := (Option.bind_some _ _).symm.trans H; with_reducible exact H2_) | with_reducible exact H | (rw [hy328]; exact H) | exact H
                         have Ny328 := za.mk hy328
                         clear hy328
                         have H' := za.mk H
                         clear H
                         have p324 : 0 ≤ ((ji48) : Int) := of_decide_eq_true Zas
                         have q324 : (ji48) < (l1.length : Int) := of_decide_eq_true Zas
                         obtain ⟨ad324, e324, hx324_0, hx324_1, hx324_2, hx324_3⟩ := zc9 HR1.out (ji48) p324 q324
                         obtain rfl : ad316 = ad324 := (by injection e324)
                         replace hx324_0 := (HB.out.cell (World.block_lt_of_cell? w _ hx324_0)).trans hx324_0
                         replace hx324_1 := (HB.out.cell (World.block_lt_of_cell? w _ hx324_1)).trans hx324_1
                         replace hx324_2 := (HB.out.cell (World.block_lt_of_cell? w _ hx324_2)).trans hx324_2
                         replace hx324_3 := (HB.out.cell (World.block_lt_of_cell? w _ hx324_3)).trans hx324_3
                         replace p324 := eq_true p324
                         replace q324 := eq_true q324
                         have hnb69 := NB317_321.out
                         have hnc69 := NB321_317.out
                         have hcz70_0 : wc.cell? ⟨gb317, 0, none⟩ = some (.int .i64 ((ze l1 x6_2).f0)) := (zh BK317.out 0).trans rfl
                         have hcz70_1 : wc.cell? ⟨gb317, 1, none⟩ = some (.int .i64 ((ze l1 x6_2).f1)) := (zh BK317.out 1).trans rfl
                         have hcz70_2 : wc.cell? ⟨gb317, 2, none⟩ = some (.int .i64 ((ze l1 x6_2).f2)) := (zh BK317.out 2).trans rfl
                         have hcz70_3 : wc.cell? ⟨gb317, 3, none⟩ = some (.int .i64 ((ze l1 x6_2).f3)) := (zh BK317.out 3).trans rfl
                         have hfz70_0 := zg BK317.out 0
                         have hfz70_1 := zg BK317.out 1
                         have hfz70_2 := zg BK317.out 2
                         have hfz70_3 := zg BK317.out 3
                         have p325 : 0 ≤ ((ji48) : Int) := of_decide_eq_true Zas
                         have q325 : (ji48) < (l1.length : Int) := of_decide_eq_true Zas
                         obtain ⟨ad325, e325, hx325_0, hx325_1, hx325_2, hx325_3⟩ := zc9 HR1.out (ji48) p325 q325
                         obtain rfl : ad316 = ad325 := (by injection e325)
                         replace hx325_0 := (HB.out.cell (World.block_lt_of_cell? w _ hx325_0)).trans hx325_0
                         replace hx325_1 := (HB.out.cell (World.block_lt_of_cell? w _ hx325_1)).trans hx325_1
                         replace hx325_2 := (HB.out.cell (World.block_lt_of_cell? w _ hx325_2)).trans hx325_2
                         replace hx325_3 := (HB.out.cell (World.block_lt_of_cell? w _ hx325_3)).trans hx325_3
                         replace p325 := eq_true p325
                         replace q325 := eq_true q325
                         have hcz71_0 : wc.cell? ⟨gb321, 0, none⟩ = some (.int .i64 ((zbf l0 ((ze l1 x6_2).f0)).f0)) := (zh BK321.out 0).trans rfl
                         have hcz71_1 : wc.cell? ⟨gb321, 1, none⟩ = some (.int .i64 ((zbf l0 ((ze l1 x6_2).f0)).f1)) := (zh BK321.out 1).trans rfl
                         have hcz71_2 : wc.cell? ⟨gb321, 2, none⟩ = some (.int .i64 ((zbf l0 ((ze l1 x6_2).f0)).f2)) := (zh BK321.out 2).trans rfl
                         have hfz71_0 := zg BK321.out 0
                         have hfz71_1 := zg BK321.out 1
                         have hfz71_2 := zg BK321.out 2
                         have p68 : 0 ≤ (((ze l1 x6_2).f0) : Int) := of_decide_eq_true Zas
                         have q68 : (((ze l1 x6_2).f0) : Int) < ((x5_2.length : Int) : Int) := of_decide_eq_true Zas
                         obtain ⟨go68, co68, eo68, gb68, gl68, cl68, HG68⟩ := Kd.zdo HO_5.out (by omega)
                         (first | cases eo68 | (injection eo68 with ea_ en_ ec_; (first | subst ea_ | (injection ea_ with ea_; subst ea_)); subst ec_; clear en_))
                         have GB68 := za.mk gb68
                         have GG68 := za.mk HG68
                         clear gb68 gl68 HG68
                         obtain ⟨hx68_0, hf68_0⟩ := Kd.zcw 0 HO_5.out (((ze l1 x6_2).f0) : Int) p68 q68
                         replace p68 := eq_true p68
                         replace q68 := eq_true q68
                         have HP72 := Kd.zc1 HO_5.out (((ze l1 x6_2).f0) : Int) (wrap64 (((ze l1 x6_2).f1) + ((zbf l0 ((ze l1 x6_2).f0)).f2)))
                         go_wp2_with (first | ((with_reducible refine zcf (t := 3) (p := 117) rfl ?_); (try (rw [zdv wc]; generalize hq_ : World.drewN wc _ = wc; have n0_ := za.mk (Kd.R_at hq_ HO_5.out); have n1_ := za.mk (blk_at hq_ BK317.out); have n2_ := za.mk (blk_at hq_ BK321.out); have n3_ := za.mk (below_at hq_ HB.out); clear hq_ HO_5 BK317 BK321 HB; have HO_5 := n0_; have BK317 := n1_; have BK321 := n2_; have HB := n3_; clear n0_ n1_ n2_ n3_; (try (have HP72 := Kd.zc1 HO_5.out (((ze l1 x6_2).f0) : Int) (wrap64 (((ze l1 x6_2).f1) + ((zbf l0 ((ze l1 x6_2).f0)).f2))))))); refine zcc (t := 3) (p := 117) (v := ?vo_w73) (w1 := (wc.setCell ⟨go68, (((ze l1 x6_2).f0) : Int).toNat, none⟩ (.int .i64 (wrap64 (((ze l1 x6_2).f1) + ((zbf l0 ((ze l1 x6_2).f0)).f2)))))) ?hg ?ho ?hn ?hr ?_; (case ho => rfl); (case hg => rfl); (case hn => rfl); (case hr => first | (go_simp; done) | (go_simp; rfl)); intro w73 hw; have hg : wc.grownBy w73 (some go68) := (by rw [hw]; exact HP72.2); have hp_ : Kd.R (Kd.int .i64) 3 w73 w.heap.size (fun _ => True) (.slice (some ⟨go68, 0, none⟩) x5_2.length co68) y328 := (by rw [hw, Ny328.out]; exact HP72.1); clear HP72; have n0_ := za.mk (hp_); have n1_ := za.mk (zbr (g := gb317) (o := .cells #[.int .i64 ((ze l1 x6_2).f0), .int .i64 ((ze l1 x6_2).f1), .int .i64 ((ze l1 x6_2).f2), .int .i64 ((ze l1 x6_2).f3)] 34 (0, 0)) (Zq4 BK317.out) hg (Kd.R_ne HO_5.out BK317.out (by decide))); have n2_ := za.mk (zbr (g := gb321) (o := .cells #[.int .i64 ((zbf l0 ((ze l1 x6_2).f0)).f0), .int .i64 ((zbf l0 ((ze l1 x6_2).f0)).f1), .int .i64 ((zbf l0 ((ze l1 x6_2).f0)).f2)] 88 (0, 0)) (Zq4 BK321.out) hg (Kd.R_ne HO_5.out BK321.out (by decide))); have n3_ := za.mk ((by rw [hw]; exact zb3 (HB.out) GB68.out : Below w.heap.size w w73)); clear HO_5; clear BK317; clear BK321; clear HB; have HO_5 := n0_; have BK317 := n1_; have BK321 := n2_; have HB := n3_; clear n0_ n1_ n2_ n3_; clear hg hw hp_))
                         repeat (go_quiet (first | ((with_reducible refine zcf (t := 3) (p := 117) rfl ?_); (try (rw [zdv wc]; generalize hq_ : World.drewN wc _ = wc; have n0_ := za.mk (Kd.R_at hq_ HO_5.out); have n1_ := za.mk (blk_at hq_ BK317.out); have n2_ := za.mk (blk_at hq_ BK321.out); have n3_ := za.mk (below_at hq_ HB.out); clear hq_ HO_5 BK317 BK321 HB; have HO_5 := n0_; have BK317 := n1_; have BK321 := n2_; have HB := n3_; clear n0_ n1_ n2_ n3_; (try (have HP72 := Kd.zc1 HO_5.out (((ze l1 x6_2).f0) : Int) (wrap64 (((ze l1 x6_2).f1) + ((zbf l0 ((ze l1 x6_2).f0)).f2))))))); refine zcc (t := 3) (p := 117) (v := ?vo_w73) (w1 := (wc.setCell ⟨go68, (((ze l1 x6_2).f0) : Int).toNat, none⟩ (.int .i64 (wrap64 (((ze l1 x6_2).f1) + ((zbf l0 ((ze l1 x6_2).f0)).f2)))))) ?hg ?ho ?hn ?hr ?_; (case ho => rfl); (case hg => rfl); (case hn => rfl); (case hr => first | (go_simp; done) | (go_simp; rfl)); intro w73 hw; have hg : wc.grownBy w73 (some go68) := (by rw [hw]; exact HP72.2); have hp_ : Kd.R (Kd.int .i64) 3 w73 w.heap.size (fun _ => True) (.slice (some ⟨go68, 0, none⟩) x5_2.length co68) y328 := (by rw [hw, Ny328.out]; exact HP72.1); clear HP72; have n0_ := za.mk (hp_); have n1_ := za.mk (zbr (g := gb317) (o := .cells #[.int .i64 ((ze l1 x6_2).f0), .int .i64 ((ze l1 x6_2).f1), .int .i64 ((ze l1 x6_2).f2), .int .i64 ((ze l1 x6_2).f3)] 34 (0, 0)) (Zq4 BK317.out) hg (Kd.R_ne HO_5.out BK317.out (by decide))); have n2_ := za.mk (zbr (g := gb321) (o := .cells #[.int .i64 ((zbf l0 ((ze l1 x6_2).f0)).f0), .int .i64 ((zbf l0 ((ze l1 x6_2).f0)).f1), .int .i64 ((zbf l0 ((ze l1 x6_2).f0)).f2)] 88 (0, 0)) (Zq4 BK321.out) hg (Kd.R_ne HO_5.out BK321.out (by decide))); have n3_ := za.mk ((by rw [hw]; exact zb3 (HB.out) GB68.out : Below w.heap.size w w73)); clear HO_5; clear BK317; clear BK321; clear HB; have HO_5 := n0_; have BK317 := n1_; have BK321 := n2_; have HB := n3_; clear n0_ n1_ n2_ n3_; clear hg hw hp_)); try go_wp2_with (first | ((with_reducible refine zcf (t := 3) (p := 117) rfl ?_); (try (rw [zdv wc]; generalize hq_ : World.drewN wc _ = wc; have n0_ := za.mk (Kd.R_at hq_ HO_5.out); have n1_ := za.mk (blk_at hq_ BK317.out); have n2_ := za.mk (blk_at hq_ BK321.out); have n3_ := za.mk (below_at hq_ HB.out); clear hq_ HO_5 BK317 BK321 HB; have HO_5 := n0_; have BK317 := n1_; have BK321 := n2_; have HB := n3_; clear n0_ n1_ n2_ n3_; (try (have HP72 := Kd.zc1 HO_5.out (((ze l1 x6_2).f0) : Int) (wrap64 (((ze l1 x6_2).f1) + ((zbf l0 ((ze l1 x6_2).f0)).f2))))))); refine zcc (t := 3) (p := 117) (v := ?vo_w73) (w1 := (wc.setCell ⟨go68, (((ze l1 x6_2).f0) : Int).toNat, none⟩ (.int .i64 (wrap64 (((ze l1 x6_2).f1) + ((zbf l0 ((ze l1 x6_2).f0)).f2)))))) ?hg ?ho ?hn ?hr ?_; (case ho => rfl); (case hg => rfl); (case hn => rfl); (case hr => first | (go_simp; done) | (go_simp; rfl)); intro w73 hw; have hg : wc.grownBy w73 (some go68) := (by rw [hw]; exact HP72.2); have hp_ : Kd.R (Kd.int .i64) 3 w73 w.heap.size (fun _ => True) (.slice (some ⟨go68, 0, none⟩) x5_2.length co68) y328 := (by rw [hw, Ny328.out]; exact HP72.1); clear HP72; have n0_ := za.mk (hp_); have n1_ := za.mk (zbr (g := gb317) (o := .cells #[.int .i64 ((ze l1 x6_2).f0), .int .i64 ((ze l1 x6_2).f1), .int .i64 ((ze l1 x6_2).f2), .int .i64 ((ze l1 x6_2).f3)] 34 (0, 0)) (Zq4 BK317.out) hg (Kd.R_ne HO_5.out BK317.out (by decide))); have n2_ := za.mk (zbr (g := gb321) (o := .cells #[.int .i64 ((zbf l0 ((ze l1 x6_2).f0)).f0), .int .i64 ((zbf l0 ((ze l1 x6_2).f0)).f1), .int .i64 ((zbf l0 ((ze l1 x6_2).f0)).f2)] 88 (0, 0)) (Zq4 BK321.out) hg (Kd.R_ne HO_5.out BK321.out (by decide))); have n3_ := za.mk ((by rw [hw]; exact zb3 (HB.out) GB68.out : Below w.heap.size w w73)); clear HO_5; clear BK317; clear BK321; clear HB; have HO_5 := n0_; have BK317 := n1_; have BK321 := n2_; have HB := n3_; clear n0_ n1_ n2_ n3_; clear hg hw hp_)))
                         go_roundg kj25
                         case measure => have := HJ2.out; have := HK2.out; have := HJ14.out; have := HJ25.out; omega
                         case rel => exact ⟨(y328), (wrap64 (x6_2 + 1)), Zrs, H', ⟨by have := HJ2.out; have := HK2.out; have := HJ14.out; have := HJ25.out; omega⟩, ⟨by first | ((with_reducible repeat (first | apply Kd.zbi | apply Kd.zbh | apply Kd.zbj)); exact HO_5.out) | (rw [Ny328.out]; exact (Kd.zc1 (Kd.zbh HO_5.out _) _ _).1) | (rw [Ny328.out]; exact (Kd.zc1 HO_5.out _ _).1)⟩, ⟨by first | exact zb3 (zbm HB.out _) GB68.out | exact zb3 HB.out GB68.out | (repeat (first | (with_reducible first | exact HB.out | apply zbn | apply zbm | apply zb6 | refine zb3 ?_ GE317.out | refine zb3 ?_ GE321.out) | exact HB.out))⟩⟩
                        ·rw [if_neg c67] at H
                         exact absurd H (by simp)
                       ·rw [if_neg c66] at H
                        exact absurd H (by simp)
                    ·rw [if_neg c50] at H
                     exact absurd H (by simp)
                   ·rw [if_neg c49] at H
                    exact absurd H (by simp)
                  ·rw [if_neg c47] at H
                   have c47b0 : decide (0 < x6_2) = false := decide_eq_false c47
                   clear c47
                   by_cases c74 : 0 ≤ ((ze l1 x6_2).f0)
                   ·rw [if_pos c74] at H
                    have c74b0 : decide (0 ≤ ((ze l1 x6_2).f0)) = true := decide_eq_true c74
                    clear c74
                    by_cases c75 : ((ze l1 x6_2).f0) < (x5_2.length : Int)
                    ·rw [if_pos c75] at H
                     have c75b0 : decide (((ze l1 x6_2).f0) < (x5_2.length : Int)) = true := decide_eq_true c75
                     clear c75
                     obtain ⟨y329, hy329⟩ : ∃ y_ : List Int, y_ = (x5_2.set (((ze l1 x6_2).f0) : Int).toNat (wrap64 (((ze l1 x6_2).f1) + ((zbf l0 ((ze l1 x6_2).f0)).f2)))) := ⟨_, rfl⟩
                     replace H : (zq.l0 kj25 l0 l1 y329 (wrap64 (x6_2 + 1))) = some r := by first | (rw [hy329]; with_reducible exact H) | (have H2_ := (Option.bind_some _ _).symm.trans H; rw [hy329]; with_reducible exact H2_) | (have H2_ := (Option.bind_some _ _).symm.trans H; with_reducible exact H2_) | with_reducible exact H | (rw [hy329]; exact H) | exact H
                     have Ny329 := za.mk hy329
                     clear hy329
                     have H' := za.mk H
                     clear H
                     have hnb77 := NB317_321.out
                     have hnc77 := NB321_317.out
                     have hcz78_0 : wc.cell? ⟨gb317, 0, none⟩ = some (.int .i64 ((ze l1 x6_2).f0)) := (zh BK317.out 0).trans rfl
                     have hcz78_1 : wc.cell? ⟨gb317, 1, none⟩ = some (.int .i64 ((ze l1 x6_2).f1)) := (zh BK317.out 1).trans rfl
                     have hcz78_2 : wc.cell? ⟨gb317, 2, none⟩ = some (.int .i64 ((ze l1 x6_2).f2)) := (zh BK317.out 2).trans rfl
                     have hcz78_3 : wc.cell? ⟨gb317, 3, none⟩ = some (.int .i64 ((ze l1 x6_2).f3)) := (zh BK317.out 3).trans rfl
                     have hfz78_0 := zg BK317.out 0
                     have hfz78_1 := zg BK317.out 1
                     have hfz78_2 := zg BK317.out 2
                     have hfz78_3 := zg BK317.out 3
                     have hcz79_0 : wc.cell? ⟨gb321, 0, none⟩ = some (.int .i64 ((zbf l0 ((ze l1 x6_2).f0)).f0)) := (zh BK321.out 0).trans rfl
                     have hcz79_1 : wc.cell? ⟨gb321, 1, none⟩ = some (.int .i64 ((zbf l0 ((ze l1 x6_2).f0)).f1)) := (zh BK321.out 1).trans rfl
                     have hcz79_2 : wc.cell? ⟨gb321, 2, none⟩ = some (.int .i64 ((zbf l0 ((ze l1 x6_2).f0)).f2)) := (zh BK321.out 2).trans rfl
                     have hfz79_0 := zg BK321.out 0
                     have hfz79_1 := zg BK321.out 1
                     have hfz79_2 := zg BK321.out 2
                     have p76 : 0 ≤ (((ze l1 x6_2).f0) : Int) := of_decide_eq_true Zas
                     have q76 : (((ze l1 x6_2).f0) : Int) < ((x5_2.length : Int) : Int) := of_decide_eq_true Zas
                     obtain ⟨go76, co76, eo76, gb76, gl76, cl76, HG76⟩ := Kd.zdo HO_5.out (by omega)
                     (first | cases eo76 | (injection eo76 with ea_ en_ ec_; (first | subst ea_ | (injection ea_ with ea_; subst ea_)); subst ec_; clear en_))
                     have GB76 := za.mk gb76
                     have GG76 := za.mk HG76
                     clear gb76 gl76 HG76
                     obtain ⟨hx76_0, hf76_0⟩ := Kd.zcw 0 HO_5.out (((ze l1 x6_2).f0) : Int) p76 q76
                     replace p76 := eq_true p76
                     replace q76 := eq_true q76
                     have HP80 := Kd.zc1 HO_5.out (((ze l1 x6_2).f0) : Int) (wrap64 (((ze l1 x6_2).f1) + ((zbf l0 ((ze l1 x6_2).f0)).f2)))
                     go_wp2_with (first | ((with_reducible refine zcf (t := 3) (p := 117) rfl ?_); (try (rw [zdv wc]; generalize hq_ : World.drewN wc _ = wc; have n0_ := za.mk (Kd.R_at hq_ HO_5.out); have n1_ := za.mk (blk_at hq_ BK317.out); have n2_ := za.mk (blk_at hq_ BK321.out); have n3_ := za.mk (below_at hq_ HB.out); clear hq_ HO_5 BK317 BK321 HB; have HO_5 := n0_; have BK317 := n1_; have BK321 := n2_; have HB := n3_; clear n0_ n1_ n2_ n3_; (try (have HP80 := Kd.zc1 HO_5.out (((ze l1 x6_2).f0) : Int) (wrap64 (((ze l1 x6_2).f1) + ((zbf l0 ((ze l1 x6_2).f0)).f2))))))); refine zcc (t := 3) (p := 117) (v := ?vo_w81) (w1 := (wc.setCell ⟨go76, (((ze l1 x6_2).f0) : Int).toNat, none⟩ (.int .i64 (wrap64 (((ze l1 x6_2).f1) + ((zbf l0 ((ze l1 x6_2).f0)).f2)))))) ?hg ?ho ?hn ?hr ?_; (case ho => rfl); (case hg => rfl); (case hn => rfl); (case hr => first | (go_simp; done) | (go_simp; rfl)); intro w81 hw; have hg : wc.grownBy w81 (some go76) := (by rw [hw]; exact HP80.2); have hp_ : Kd.R (Kd.int .i64) 3 w81 w.heap.size (fun _ => True) (.slice (some ⟨go76, 0, none⟩) x5_2.length co76) y329 := (by rw [hw, Ny329.out]; exact HP80.1); clear HP80; have n0_ := za.mk (hp_); have n1_ := za.mk (zbr (g := gb317) (o := .cells #[.int .i64 ((ze l1 x6_2).f0), .int .i64 ((ze l1 x6_2).f1), .int .i64 ((ze l1 x6_2).f2), .int .i64 ((ze l1 x6_2).f3)] 34 (0, 0)) (Zq4 BK317.out) hg (Kd.R_ne HO_5.out BK317.out (by decide))); have n2_ := za.mk (zbr (g := gb321) (o := .cells #[.int .i64 ((zbf l0 ((ze l1 x6_2).f0)).f0), .int .i64 ((zbf l0 ((ze l1 x6_2).f0)).f1), .int .i64 ((zbf l0 ((ze l1 x6_2).f0)).f2)] 88 (0, 0)) (Zq4 BK321.out) hg (Kd.R_ne HO_5.out BK321.out (by decide))); have n3_ := za.mk ((by rw [hw]; exact zb3 (HB.out) GB76.out : Below w.heap.size w w81)); clear HO_5; clear BK317; clear BK321; clear HB; have HO_5 := n0_; have BK317 := n1_; have BK321 := n2_; have HB := n3_; clear n0_ n1_ n2_ n3_; clear hg hw hp_))
                     repeat (go_quiet (first | ((with_reducible refine zcf (t := 3) (p := 117) rfl ?_); (try (rw [zdv wc]; generalize hq_ : World.drewN wc _ = wc; have n0_ := za.mk (Kd.R_at hq_ HO_5.out); have n1_ := za.mk (blk_at hq_ BK317.out); have n2_ := za.mk (blk_at hq_ BK321.out); have n3_ := za.mk (below_at hq_ HB.out); clear hq_ HO_5 BK317 BK321 HB; have HO_5 := n0_; have BK317 := n1_; have BK321 := n2_; have HB := n3_; clear n0_ n1_ n2_ n3_; (try (have HP80 := Kd.zc1 HO_5.out (((ze l1 x6_2).f0) : Int) (wrap64 (((ze l1 x6_2).f1) + ((zbf l0 ((ze l1 x6_2).f0)).f2))))))); refine zcc (t := 3) (p := 117) (v := ?vo_w81) (w1 := (wc.setCell ⟨go76, (((ze l1 x6_2).f0) : Int).toNat, none⟩ (.int .i64 (wrap64 (((ze l1 x6_2).f1) + ((zbf l0 ((ze l1 x6_2).f0)).f2)))))) ?hg ?ho ?hn ?hr ?_; (case ho => rfl); (case hg => rfl); (case hn => rfl); (case hr => first | (go_simp; done) | (go_simp; rfl)); intro w81 hw; have hg : wc.grownBy w81 (some go76) := (by rw [hw]; exact HP80.2); have hp_ : Kd.R (Kd.int .i64) 3 w81 w.heap.size (fun _ => True) (.slice (some ⟨go76, 0, none⟩) x5_2.length co76) y329 := (by rw [hw, Ny329.out]; exact HP80.1); clear HP80; have n0_ := za.mk (hp_); have n1_ := za.mk (zbr (g := gb317) (o := .cells #[.int .i64 ((ze l1 x6_2).f0), .int .i64 ((ze l1 x6_2).f1), .int .i64 ((ze l1 x6_2).f2), .int .i64 ((ze l1 x6_2).f3)] 34 (0, 0)) (Zq4 BK317.out) hg (Kd.R_ne HO_5.out BK317.out (by decide))); have n2_ := za.mk (zbr (g := gb321) (o := .cells #[.int .i64 ((zbf l0 ((ze l1 x6_2).f0)).f0), .int .i64 ((zbf l0 ((ze l1 x6_2).f0)).f1), .int .i64 ((zbf l0 ((ze l1 x6_2).f0)).f2)] 88 (0, 0)) (Zq4 BK321.out) hg (Kd.R_ne HO_5.out BK321.out (by decide))); have n3_ := za.mk ((by rw [hw]; exact zb3 (HB.out) GB76.out : Below w.heap.size w w81)); clear HO_5; clear BK317; clear BK321; clear HB; have HO_5 := n0_; have BK317 := n1_; have BK321 := n2_; have HB := n3_; clear n0_ n1_ n2_ n3_; clear hg hw hp_)); try go_wp2_with (first | ((with_reducible refine zcf (t := 3) (p := 117) rfl ?_); (try (rw [zdv wc]; generalize hq_ : World.drewN wc _ = wc; have n0_ := za.mk (Kd.R_at hq_ HO_5.out); have n1_ := za.mk (blk_at hq_ BK317.out); have n2_ := za.mk (blk_at hq_ BK321.out); have n3_ := za.mk (below_at hq_ HB.out); clear hq_ HO_5 BK317 BK321 HB; have HO_5 := n0_; have BK317 := n1_; have BK321 := n2_; have HB := n3_; clear n0_ n1_ n2_ n3_; (try (have HP80 := Kd.zc1 HO_5.out (((ze l1 x6_2).f0) : Int) (wrap64 (((ze l1 x6_2).f1) + ((zbf l0 ((ze l1 x6_2).f0)).f2))))))); refine zcc (t := 3) (p := 117) (v := ?vo_w81) (w1 := (wc.setCell ⟨go76, (((ze l1 x6_2).f0) : Int).toNat, none⟩ (.int .i64 (wrap64 (((ze l1 x6_2).f1) + ((zbf l0 ((ze l1 x6_2).f0)).f2)))))) ?hg ?ho ?hn ?hr ?_; (case ho => rfl); (case hg => rfl); (case hn => rfl); (case hr => first | (go_simp; done) | (go_simp; rfl)); intro w81 hw; have hg : wc.grownBy w81 (some go76) := (by rw [hw]; exact HP80.2); have hp_ : Kd.R (Kd.int .i64) 3 w81 w.heap.size (fun _ => True) (.slice (some ⟨go76, 0, none⟩) x5_2.length co76) y329 := (by rw [hw, Ny329.out]; exact HP80.1); clear HP80; have n0_ := za.mk (hp_); have n1_ := za.mk (zbr (g := gb317) (o := .cells #[.int .i64 ((ze l1 x6_2).f0), .int .i64 ((ze l1 x6_2).f1), .int .i64 ((ze l1 x6_2).f2), .int .i64 ((ze l1 x6_2).f3)] 34 (0, 0)) (Zq4 BK317.out) hg (Kd.R_ne HO_5.out BK317.out (by decide))); have n2_ := za.mk (zbr (g := gb321) (o := .cells #[.int .i64 ((zbf l0 ((ze l1 x6_2).f0)).f0), .int .i64 ((zbf l0 ((ze l1 x6_2).f0)).f1), .int .i64 ((zbf l0 ((ze l1 x6_2).f0)).f2)] 88 (0, 0)) (Zq4 BK321.out) hg (Kd.R_ne HO_5.out BK321.out (by decide))); have n3_ := za.mk ((by rw [hw]; exact zb3 (HB.out) GB76.out : Below w.heap.size w w81)); clear HO_5; clear BK317; clear BK321; clear HB; have HO_5 := n0_; have BK317 := n1_; have BK321 := n2_; have HB := n3_; clear n0_ n1_ n2_ n3_; clear hg hw hp_)))
                     go_roundg kj25
                     case measure => have := HJ2.out; have := HK2.out; have := HJ14.out; have := HJ25.out; omega
                     case rel => exact ⟨(y329), (wrap64 (x6_2 + 1)), Zrs, H', ⟨by have := HJ2.out; have := HK2.out; have := HJ14.out; have := HJ25.out; omega⟩, ⟨by first | ((with_reducible repeat (first | apply Kd.zbi | apply Kd.zbh | apply Kd.zbj)); exact HO_5.out) | (rw [Ny329.out]; exact (Kd.zc1 (Kd.zbh HO_5.out _) _ _).1) | (rw [Ny329.out]; exact (Kd.zc1 HO_5.out _ _).1)⟩, ⟨by first | exact zb3 (zbm HB.out _) GB76.out | exact zb3 HB.out GB76.out | (repeat (first | (with_reducible first | exact HB.out | apply zbn | apply zbm | apply zb6 | refine zb3 ?_ GE317.out | refine zb3 ?_ GE321.out) | exact HB.out))⟩⟩
                    ·rw [if_neg c75] at H
                     exact absurd H (by simp)
                   ·rw [if_neg c74] at H
                    exact absurd H (by simp)
              ·rw [if_neg c25] at H
               exact absurd H (by simp)
             ·rw [if_neg c24] at H
              exact absurd H (by simp)
         ·rw [if_neg c14] at H
          exact absurd H (by simp)
        ·rw [if_neg c13] at H
         have c13b0 : decide (x6_2 < (l1.length : Int)) = false := decide_eq_false c13
         clear c13
         obtain rfl := Option.some.inj H
         go_wp2
         repeat (go_quiet (fail); try go_wp2)
         go_ret
         exact ⟨by first | rfl | (simp [zbc, zbd] <;> rfl) | (simp [*, zbc, zbd] <;> rfl), Zq3 HB.out⟩
     ·rw [if_neg c10] at H
      exact absurd H (by simp)
    ·rw [if_neg c9] at H
     exact absurd H (by simp)
def zb0.l0 : Nat → List (S34) → List Int → Int → Option (List Int)
 | 0, _, _, _ => none
 | k + 1, x0, x3, x4 => if x4 < (x0.length : Int) then (if 0 ≤ x4 then (if x3.length < 17592186044416 then (zb0.l0 k x0 (x3 ++ [(ze x0 x4).f2]) (wrap64 (x4 + 1))) else (none)) else (none)) else (some x3)
def zb0.f (k : Nat) (l0 : List (S34)) : Option (List Int) := zb0.l0 k l0 (([] : List Int)) 0
set_option maxHeartbeats 8000000 in
set_option maxRecDepth 100000 in
theorem zb0.calls (k : Nat) (A0 : Option Addr) (c0 : Nat) (l0 : List (S34)) (r : List Int) (w : World) (hr0 : Kd.C k34 w A0 l0.length l0) (hc0 : l0.length ≤ c0) (h : zb0.f k l0 = some r) :
  Calls Try.prog 57 #[.slice A0 l0.length c0] w fun e w' => ∃ v0_ : Value, e = .returned (v0_) ∧ Kd.R (Kd.int .i64) 3 w' w.heap.size (fun _ => True) v0_ r ∧ Below w.heap.size w w' := by
 have HR0 := za.mk hr0
 have HC0 := za.mk hc0
 clear hr0 hc0
 have HB := za.mk (Below.refl w.heap.size w)
 have H : (zb0.l0 k l0 (([] : List Int)) 0) = some r := h
 clear h
 obtain ⟨y330, hy330⟩ : ∃ y_ : List Int, y_ = (([] : List Int)) := ⟨_, rfl⟩
 replace H : (zb0.l0 k l0 y330 0) = some r := by first | (rw [hy330]; with_reducible exact H) | (have H2_ := (Option.bind_some _ _).symm.trans H; rw [hy330]; with_reducible exact H2_) | (have H2_ := (Option.bind_some _ _).symm.trans H; with_reducible exact H2_) | with_reducible exact H | (rw [hy330]; exact H) | exact H
 have Ny330 := za.mk hy330
 clear hy330
 have H' := za.mk H
 clear H
 go_enter Try.func57, Try.ntmps57
 go_wp2_with (first | ((with_reducible refine zbp (N := 5) rfl ?_); refine Kd.R_lit (Kd.int .i64) _ 3 ?hg (N := 5) ?hd (xs := ([] : List Int)) (inner := []) (ok := fun _ => True) (okp := fun _ => True) ?hr ?hp (fun _ hk => hk) trivial (Below.refl _ _) (Nat.le_refl _) (by simp) ?_; (case hd => rfl); (case hg => rfl); (case hr => first | (go_simp; done) | (go_simp; rfl)); (case hp => exact (Reps.none _ _)); intro v331 w2 ho3 hb hg_ hnew_; clear hg_ hnew_; (first | rw [← Ny330.out] at ho3 | (simp only [Int.reduceToNat] at ho3; rw [← Ny330.out] at ho3)); have n0_ := za.mk (Kd.zb2 ho3 (zbb (Zq3 HB.out))); have n1_ := za.mk (zo (Zq3 HB.out) hb); clear HB; have HO332 := n0_; have HB := n1_; clear n0_ n1_; clear hb ho3))
 go_loopg [3, 4] k (fun kq v3 v4 w' => ∃ (x3_1 : List Int) (x4_1 : Int), v4 = .int .i64 x4_1 ∧ za (zb0.l0 kq l0 x3_1 x4_1 = some r) ∧ za (kq ≤ k) ∧ za (Kd.R (Kd.int .i64) 3 w' w.heap.size (fun _ => True) v3 x3_1) ∧ za (Below w.heap.size w w'))
 case atStart => exact ⟨(y330), (0), Zrs, H', ⟨Nat.le_refl _⟩, ⟨Zq12 HO332.out⟩, ⟨Zq3 HB.out⟩⟩
 case round =>
  clear H'
  try clear p2
  obtain ⟨x3_1, x4_1, rfl, HA, HK1, HO_3, HB⟩ := hrel
  cases gk with
  | zero => exact absurd HA.out (by simp [zb0.l0])
  | succ k1 =>
   have H := HA.out
   clear HA
   simp only [zb0.l0] at H
   by_cases c4 : x4_1 < (l0.length : Int)
   ·rw [if_pos c4] at H
    have c4b0 : decide (x4_1 < (l0.length : Int)) = true := decide_eq_true c4
    clear c4
    by_cases c5 : 0 ≤ x4_1
    ·rw [if_pos c5] at H
     have c5b0 : decide (0 ≤ x4_1) = true := decide_eq_true c5
     clear c5
     by_cases c6 : x3_1.length < 17592186044416
     ·rw [if_pos c6] at H
      have LMc6 := za.mk c6
      clear c6
      obtain ⟨y334, hy334⟩ : ∃ y_ : List Int, y_ = (x3_1 ++ [(ze l0 x4_1).f2]) := ⟨_, rfl⟩
      replace H : (zb0.l0 k1 l0 y334 (wrap64 (x4_1 + 1))) = some r := by first | (rw [hy334]; with_reducible exact H) | (have H2_ := (Option.bind_some _ _).symm.trans H; rw [hy334]; with_reducible exact H2_) | (have H2_ := (Option.bind_some _ _).symm.trans H; with_reducible exact H2_) | with_reducible exact H | (rw [hy334]; exact H) | exact H
      have Ny334 := za.mk hy334
      clear hy334
      have H' := za.mk H
      clear H
      have p333 : 0 ≤ (x4_1 : Int) := of_decide_eq_true Zas
      have q333 : x4_1 < (l0.length : Int) := of_decide_eq_true Zas
      obtain ⟨ad333, e333, hx333_0, hx333_1, hx333_2, hx333_3⟩ := zc9 HR0.out x4_1 p333 q333
      cases e333
      replace hx333_0 := (HB.out.cell (World.block_lt_of_cell? w _ hx333_0)).trans hx333_0
      replace hx333_1 := (HB.out.cell (World.block_lt_of_cell? w _ hx333_1)).trans hx333_1
      replace hx333_2 := (HB.out.cell (World.block_lt_of_cell? w _ hx333_2)).trans hx333_2
      replace hx333_3 := (HB.out.cell (World.block_lt_of_cell? w _ hx333_3)).trans hx333_3
      replace p333 := eq_true p333
      replace q333 := eq_true q333
      go_wp2_with (first | ((with_reducible refine zcq (b := .append) (xs := #[.tmp 12, .tmp 18]) rfl ?_); at_builtin; refine Kd.zdg (Kd.int .i64) (w0 := w) w.heap.size rfl (.tmp 12) (.tmp 18) 27 3 (.int .i64 0) 8 rfl Try.underlying27 info3 rfl (by decide) (by omega) u3 x3_1 ((ze l0 x4_1).f2) [.int .i64 ((ze l0 x4_1).f2)] (fun _ => True) (fun _ => False) rfl rfl ?aP (fun _ hk => hk.elim) ?aF ?aO ?aB ?aS ?aL ?_; (case aP => exact rfl); (case aB => exact (Zq3 HB.out)); (case aF => exact (fun _ _ => trivial)); (case aO => exact (Zq12 HO_3.out)); (case aS => exact (zbb (Zq3 HB.out))); (case aL => have := LMc6.out; omega); intro v335 w7 ho hb hg hat; rw [← Ny334.out] at ho; have n0_ := za.mk (hb); have n1_ := za.mk (ho); clear HB; clear HO_3; have HB := n0_; have HO336 := n1_; clear n0_ n1_; clear ho hb hg hat))
      go_roundg k1
      case measure => have := HK1.out; omega
      case rel => exact ⟨(y334), (wrap64 (x4_1 + 1)), Zrs, H', ⟨by have := HK1.out; omega⟩, ⟨Zq12 HO336.out⟩, ⟨Zq3 HB.out⟩⟩
     ·rw [if_neg c6] at H
      exact absurd H (by simp)
    ·rw [if_neg c5] at H
     exact absurd H (by simp)
   ·rw [if_neg c4] at H
    have c4b0 : decide (x4_1 < (l0.length : Int)) = false := decide_eq_false c4
    clear c4
    obtain rfl := Option.some.inj H
    go_wp2
    go_ret
    exact ⟨_, by first | rfl | (simp [zbc, zbd] <;> rfl) | (simp [*, zbc, zbd] <;> rfl), Zq12 HO_3.out, Zq3 HB.out⟩
def zci.l0 : Nat → List (S34) → List Int → List Int → Int → Int → Int → Option (Int)
 | 0, _, _, _, _, _, _ => none
 | k + 1, x0, x1, x2, x3, x9, x10 => if x10 < (x0.length : Int) then (if 0 ≤ x10 then (if ((ze x0 x10).f1) ≤ x3 then (if x10 < (x1.length : Int) then (if (rd x1 x10) > 0 then (if x9 < 0 then (zci.l0 k x0 x1 x2 x3 x10 (wrap64 (x10 + 1))) else (if x10 < (x2.length : Int) then (if 0 ≤ x9 then (if x9 < (x2.length : Int) then (if (rd x2 x10) < (rd x2 x9) then (zci.l0 k x0 x1 x2 x3 x10 (wrap64 (x10 + 1))) else (zci.l0 k x0 x1 x2 x3 x9 (wrap64 (x10 + 1)))) else (none)) else (none)) else (none))) else (zci.l0 k x0 x1 x2 x3 x9 (wrap64 (x10 + 1)))) else (none)) else (zci.l0 k x0 x1 x2 x3 x9 (wrap64 (x10 + 1)))) else (none)) else (some x9)
def zci.f (k : Nat) (l0 : List (S34)) (l1 : List Int) (l2 : List Int) (a3 : Int) : Option (Int) := zci.l0 k l0 l1 l2 a3 (-1) 0
set_option maxHeartbeats 8000000 in
set_option maxRecDepth 100000 in
theorem zci.calls (k : Nat) (A0 : Option Addr) (c0 : Nat) (l0 : List (S34)) (A1 : Option Addr) (c1 : Nat) (l1 : List Int) (A2 : Option Addr) (c2 : Nat) (l2 : List Int) (a3 : Int) (r : Int) (w : World) (hr0 : Kd.C k34 w A0 l0.length l0) (hc0 : l0.length ≤ c0) (hr1 : Kd.C (Kd.int .i64) w A1 l1.length l1) (hc1 : l1.length ≤ c1) (hr2 : Kd.C (Kd.int .i64) w A2 l2.length l2) (hc2 : l2.length ≤ c2) (h : zci.f k l0 l1 l2 a3 = some r) :
  Calls Try.prog 58 #[.slice A0 l0.length c0, .slice A1 l1.length c1, .slice A2 l2.length c2, .int .i64 a3] w fun e w' => e = .returned (.int .i64 r) ∧ zcj w w' := by
 have HR0 := za.mk hr0
 have HC0 := za.mk hc0
 clear hr0 hc0
 have HR1 := za.mk hr1
 have HC1 := za.mk hc1
 clear hr1 hc1
 have HR2 := za.mk hr2
 have HC2 := za.mk hc2
 clear hr2 hc2
 have H : (zci.l0 k l0 l1 l2 a3 (-1) 0) = some r := h
 clear h
 have H' := za.mk H
 clear H
 go_enter Try.func58, Try.ntmps58
 go_wp2
 repeat (go_quiet (fail); try go_wp2)
 go_loopg [9, 10] k (fun kq v9 v10 w' => ∃ (x9_1 : Int) (x10_1 : Int), v9 = .int .i64 x9_1 ∧ v10 = .int .i64 x10_1 ∧ za (zci.l0 kq l0 l1 l2 a3 x9_1 x10_1 = some r) ∧ za (kq ≤ k) ∧ zcj w w')
 case atStart => exact ⟨((-1)), (0), Zrs, Zrs, H', ⟨Nat.le_refl _⟩, by repeat (first | exact zcj.refl _ | apply zcj.step)⟩
 case round =>
  clear H'
  try clear c1
  try clear c2
  try clear p2
  obtain ⟨x9_1, x10_1, rfl, rfl, HA, HK1, ⟨m1, rfl⟩⟩ := hrel
  cases gk with
  | zero => exact absurd HA.out (by simp [zci.l0])
  | succ k1 =>
   have H := HA.out
   clear HA
   simp only [zci.l0] at H
   by_cases c5 : x10_1 < (l0.length : Int)
   ·rw [if_pos c5] at H
    have c5b0 : decide (x10_1 < (l0.length : Int)) = true := decide_eq_true c5
    clear c5
    by_cases c6 : 0 ≤ x10_1
    ·rw [if_pos c6] at H
     have c6b0 : decide (0 ≤ x10_1) = true := decide_eq_true c6
     clear c6
     by_cases c7 : ((ze l0 x10_1).f1) ≤ a3
     ·rw [if_pos c7] at H
      have c7b0 : decide (((ze l0 x10_1).f1) ≤ a3) = true := decide_eq_true c7
      clear c7
      by_cases c8 : x10_1 < (l1.length : Int)
      ·rw [if_pos c8] at H
       have c8b0 : decide (x10_1 < (l1.length : Int)) = true := decide_eq_true c8
       clear c8
       by_cases c9 : (rd l1 x10_1) > 0
       ·rw [if_pos c9] at H
        have c9b0 : decide (0 < (rd l1 x10_1)) = true := decide_eq_true c9
        clear c9
        by_cases c10 : x9_1 < 0
        ·rw [if_pos c10] at H
         have c10b0 : decide (x9_1 < 0) = true := decide_eq_true c10
         clear c10
         have H' := za.mk H
         clear H
         have p337 : 0 ≤ (x10_1 : Int) := of_decide_eq_true Zas
         have q337 : x10_1 < (l0.length : Int) := of_decide_eq_true Zas
         obtain ⟨ad337, e337, hx337_0, hx337_1, hx337_2, hx337_3⟩ := zc9 HR0.out x10_1 p337 q337
         cases e337
         replace p337 := eq_true p337
         replace q337 := eq_true q337
         have p338 : 0 ≤ (x10_1 : Int) := of_decide_eq_true Zas
         have q338 : x10_1 < (l1.length : Int) := of_decide_eq_true Zas
         obtain ⟨ad338, e338, hx338_0⟩ := Kd.zcn HR1.out x10_1 p338 q338
         cases e338
         replace p338 := eq_true p338
         replace q338 := eq_true q338
         go_wp2
         repeat (go_quiet (fail); try go_wp2)
         go_roundg k1
         case measure => have := HK1.out; omega
         case rel => exact ⟨(x10_1), (wrap64 (x10_1 + 1)), Zrs, Zrs, H', ⟨by have := HK1.out; omega⟩, by repeat (first | exact zcj.refl _ | apply zcj.step)⟩
        ·rw [if_neg c10] at H
         have c10b0 : decide (x9_1 < 0) = false := decide_eq_false c10
         clear c10
         by_cases c11 : x10_1 < (l2.length : Int)
         ·rw [if_pos c11] at H
          have c11b0 : decide (x10_1 < (l2.length : Int)) = true := decide_eq_true c11
          clear c11
          by_cases c12 : 0 ≤ x9_1
          ·rw [if_pos c12] at H
           have c12b0 : decide (0 ≤ x9_1) = true := decide_eq_true c12
           clear c12
           by_cases c13 : x9_1 < (l2.length : Int)
           ·rw [if_pos c13] at H
            have c13b0 : decide (x9_1 < (l2.length : Int)) = true := decide_eq_true c13
            clear c13
            by_cases c14 : (rd l2 x10_1) < (rd l2 x9_1)
            ·rw [if_pos c14] at H
             have c14b0 : decide ((rd l2 x10_1) < (rd l2 x9_1)) = true := decide_eq_true c14
             clear c14
             have H' := za.mk H
             clear H
             have p337 : 0 ≤ (x10_1 : Int) := of_decide_eq_true Zas
             have q337 : x10_1 < (l0.length : Int) := of_decide_eq_true Zas
             obtain ⟨ad337, e337, hx337_0, hx337_1, hx337_2, hx337_3⟩ := zc9 HR0.out x10_1 p337 q337
             cases e337
             replace p337 := eq_true p337
             replace q337 := eq_true q337
             have p338 : 0 ≤ (x10_1 : Int) := of_decide_eq_true Zas
             have q338 : x10_1 < (l1.length : Int) := of_decide_eq_true Zas
             obtain ⟨ad338, e338, hx338_0⟩ := Kd.zcn HR1.out x10_1 p338 q338
             cases e338
             replace p338 := eq_true p338
             replace q338 := eq_true q338
             have p339 : 0 ≤ (x10_1 : Int) := of_decide_eq_true Zas
             have q339 : x10_1 < (l2.length : Int) := of_decide_eq_true Zas
             obtain ⟨ad339, e339, hx339_0⟩ := Kd.zcn HR2.out x10_1 p339 q339
             cases e339
             replace p339 := eq_true p339
             replace q339 := eq_true q339
             have p340 : 0 ≤ (x9_1 : Int) := of_decide_eq_true Zas
             have q340 : x9_1 < (l2.length : Int) := of_decide_eq_true Zas
             obtain ⟨ad340, e340, hx340_0⟩ := Kd.zcn HR2.out x9_1 p340 q340
             obtain rfl : ad339 = ad340 := (by injection e340)
             replace p340 := eq_true p340
             replace q340 := eq_true q340
             go_wp2
             repeat (go_quiet (fail); try go_wp2)
             go_roundg k1
             case measure => have := HK1.out; omega
             case rel => exact ⟨(x10_1), (wrap64 (x10_1 + 1)), Zrs, Zrs, H', ⟨by have := HK1.out; omega⟩, by repeat (first | exact zcj.refl _ | apply zcj.step)⟩
            ·rw [if_neg c14] at H
             have c14b0 : decide ((rd l2 x10_1) < (rd l2 x9_1)) = false := decide_eq_false c14
             clear c14
             have H' := za.mk H
             clear H
             have p337 : 0 ≤ (x10_1 : Int) := of_decide_eq_true Zas
             have q337 : x10_1 < (l0.length : Int) := of_decide_eq_true Zas
             obtain ⟨ad337, e337, hx337_0, hx337_1, hx337_2, hx337_3⟩ := zc9 HR0.out x10_1 p337 q337
             cases e337
             replace p337 := eq_true p337
             replace q337 := eq_true q337
             have p338 : 0 ≤ (x10_1 : Int) := of_decide_eq_true Zas
             have q338 : x10_1 < (l1.length : Int) := of_decide_eq_true Zas
             obtain ⟨ad338, e338, hx338_0⟩ := Kd.zcn HR1.out x10_1 p338 q338
             cases e338
             replace p338 := eq_true p338
             replace q338 := eq_true q338
             have p339 : 0 ≤ (x10_1 : Int) := of_decide_eq_true Zas
             have q339 : x10_1 < (l2.length : Int) := of_decide_eq_true Zas
             obtain ⟨ad339, e339, hx339_0⟩ := Kd.zcn HR2.out x10_1 p339 q339
             cases e339
             replace p339 := eq_true p339
             replace q339 := eq_true q339
             have p340 : 0 ≤ (x9_1 : Int) := of_decide_eq_true Zas
             have q340 : x9_1 < (l2.length : Int) := of_decide_eq_true Zas
             obtain ⟨ad340, e340, hx340_0⟩ := Kd.zcn HR2.out x9_1 p340 q340
             obtain rfl : ad339 = ad340 := (by injection e340)
             replace p340 := eq_true p340
             replace q340 := eq_true q340
             go_wp2
             repeat (go_quiet (fail); try go_wp2)
             go_roundg k1
             case measure => have := HK1.out; omega
             case rel => exact ⟨(x9_1), (wrap64 (x10_1 + 1)), Zrs, Zrs, H', ⟨by have := HK1.out; omega⟩, by repeat (first | exact zcj.refl _ | apply zcj.step)⟩
           ·rw [if_neg c13] at H
            exact absurd H (by simp)
          ·rw [if_neg c12] at H
           exact absurd H (by simp)
         ·rw [if_neg c11] at H
          exact absurd H (by simp)
       ·rw [if_neg c9] at H
        have c9b0 : decide (0 < (rd l1 x10_1)) = false := decide_eq_false c9
        clear c9
        have H' := za.mk H
        clear H
        have p337 : 0 ≤ (x10_1 : Int) := of_decide_eq_true Zas
        have q337 : x10_1 < (l0.length : Int) := of_decide_eq_true Zas
        obtain ⟨ad337, e337, hx337_0, hx337_1, hx337_2, hx337_3⟩ := zc9 HR0.out x10_1 p337 q337
        cases e337
        replace p337 := eq_true p337
        replace q337 := eq_true q337
        have p338 : 0 ≤ (x10_1 : Int) := of_decide_eq_true Zas
        have q338 : x10_1 < (l1.length : Int) := of_decide_eq_true Zas
        obtain ⟨ad338, e338, hx338_0⟩ := Kd.zcn HR1.out x10_1 p338 q338
        cases e338
        replace p338 := eq_true p338
        replace q338 := eq_true q338
        go_wp2
        repeat (go_quiet (fail); try go_wp2)
        go_roundg k1
        case measure => have := HK1.out; omega
        case rel => exact ⟨(x9_1), (wrap64 (x10_1 + 1)), Zrs, Zrs, H', ⟨by have := HK1.out; omega⟩, by repeat (first | exact zcj.refl _ | apply zcj.step)⟩
      ·rw [if_neg c8] at H
       exact absurd H (by simp)
     ·rw [if_neg c7] at H
      have c7b0 : decide (((ze l0 x10_1).f1) ≤ a3) = false := decide_eq_false c7
      clear c7
      have H' := za.mk H
      clear H
      have p337 : 0 ≤ (x10_1 : Int) := of_decide_eq_true Zas
      have q337 : x10_1 < (l0.length : Int) := of_decide_eq_true Zas
      obtain ⟨ad337, e337, hx337_0, hx337_1, hx337_2, hx337_3⟩ := zc9 HR0.out x10_1 p337 q337
      cases e337
      replace p337 := eq_true p337
      replace q337 := eq_true q337
      go_wp2
      repeat (go_quiet (fail); try go_wp2)
      go_roundg k1
      case measure => have := HK1.out; omega
      case rel => exact ⟨(x9_1), (wrap64 (x10_1 + 1)), Zrs, Zrs, H', ⟨by have := HK1.out; omega⟩, by repeat (first | exact zcj.refl _ | apply zcj.step)⟩
    ·rw [if_neg c6] at H
     exact absurd H (by simp)
   ·rw [if_neg c5] at H
    have c5b0 : decide (x10_1 < (l0.length : Int)) = false := decide_eq_false c5
    clear c5
    obtain rfl := Option.some.inj H
    go_wp2
    repeat (go_quiet (fail); try go_wp2)
    go_ret
    exact ⟨by first | rfl | (simp; done) | (simp [*]; done), by repeat (first | exact zcj.refl _ | apply zcj.step)⟩
mutual
def zu.j0 : Nat → List Bool → Bool → Int → Int → Option (Bool)
 | 0, _, _, _, _ => none
 | k + 1, x1, x15, x703000, x703001 => if x15 = true then (some false) else (zu.l0 k x1 0 x703000 x703001)
def zu.l0 : Nat → List Bool → Int → Int → Int → Option (Bool)
 | 0, _, _, _, _ => none
 | k + 1, x1, x5, x703000, x703001 => if (wrap64 (x5 + x703001)) ≤ 120 then (zu.l1 k x1 x5 0 0 x703000 x703001) else (some true)
def zu.l1 : Nat → List Bool → Int → Int → Int → Int → Int → Option (Bool)
 | 0, _, _, _, _, _, _ => none
 | k + 1, x1, x5, x6, x7, x703000, x703001 => if x7 < x703001 then (if 0 ≤ (wrap64 (x5 + x7)) then (if (wrap64 (x5 + x7)) < (x1.length : Int) then (if rdOf false x1 (wrap64 (x5 + x7)) = true then (zu.l1 k x1 x5 (wrap64 (x6 + 1)) (wrap64 (x7 + 1)) x703000 x703001) else (zu.l1 k x1 x5 x6 (wrap64 (x7 + 1)) x703000 x703001)) else (none)) else (none)) else (if x6 = x703000 then (zu.l0 k x1 (wrap64 (x5 + x703001)) x703000 x703001) else (some false))
end
def zu.f (k : Nat) (a0_0 : Int) (a0_1 : Int) (l1 : List Bool) : Option (Bool) := (zco.f a0_0 a0_1).bind fun t703 => (if t703 = true then (zu.j0 k l1 ((l1.length : Int) != 120) a0_0 a0_1) else (zu.j0 k l1 true a0_0 a0_1))
set_option maxHeartbeats 8000000 in
set_option maxRecDepth 100000 in
theorem zu.calls (k : Nat) (a0_0 : Int) (a0_1 : Int) (A1 : Option Addr) (c1 : Nat) (l1 : List Bool) (r : Bool) (w : World) (hr1 : Kd.C Kd.bool w A1 l1.length l1) (hc1 : l1.length ≤ c1) (h : zu.f k a0_0 a0_1 l1 = some r) :
  Calls Try.prog 75 #[.agg #[.int .i64 a0_0, .int .i64 a0_1], .slice A1 l1.length c1] w fun e w' => e = .returned (.bool r) ∧ Below w.heap.size w w' := by
 have hu51 := Try.underlying51
 have HR1 := za.mk hr1
 have HC1 := za.mk hc1
 clear hr1 hc1
 have HB := za.mk (Below.refl w.heap.size w)
 have H : ((zco.f a0_0 a0_1).bind fun t703 => (if t703 = true then (zu.j0 k l1 ((l1.length : Int) != 120) a0_0 a0_1) else (zu.j0 k l1 true a0_0 a0_1))) = some r := h
 clear h
 have HC3 := za.mk H
 clear H
 go_enter Try.func75, Try.ntmps75
 go_upto_region 1 with (first | ((with_reducible refine zbp (N := 2) rfl ?_); (try (refine zcg (by rfl) ?_; dsimp only)); refine zb1 ?hg (N := 2) ?hd (cs := #[.int .i64 a0_0, .int .i64 a0_1]) (t := 51) ?hr ?_; (case hd => rfl); (case hg => rfl); (case hr => first | (go_simp; done) | (go_simp; rfl)); intro gb702 hg w4 hbox hb; have n0_ := za.mk (zo (Zq3 HB.out) hb); have n1_ := za.mk (hbox); have n2_ := za.mk ((by rw [hg]; exact (zbb (Zq3 HB.out)) : w.heap.size ≤ gb702)); have n3_ := za.mk ((by rw [hg]; exact (zbb (Zq3 HB.out)) : w.heap.size ≤ gb702)); clear HB; have HB := n0_; have BK702 := n1_; have GW702 := n2_; have GE702 := n3_; clear n0_ n1_ n2_ n3_; clear hb hbox hg))
 (try simp only [Act.put, List.setIfInBounds_toArray, List.set_cons_zero, List.set_cons_succ])
 go_cut [15] (fun v15 wc => ∃ (kq : Nat) (x15_2 : Bool), v15 = .bool x15_2 ∧ za (zu.j0 kq l1 x15_2 a0_0 a0_1 = some r) ∧ za (kq ≤ k) ∧ za (wc.heap[gb702]? = some (.cells #[.int .i64 a0_0, .int .i64 a0_1] 51 (0, 0))) ∧ za (Below w.heap.size w wc))
 case first =>
  have H := HC3.out
  clear HC3
  replace H := Option.bind_eq_some_iff.mp H
  obtain ⟨t703, A50, H⟩ := H
  replace H : (if t703 = true then (zu.j0 k l1 ((l1.length : Int) != 120) a0_0 a0_1) else (zu.j0 k l1 true a0_0 a0_1)) = some r := H
  have A5 := za.mk A50
  clear A50
  by_cases c6 : t703 = true
  ·subst c6
   have H1 : (zu.j0 k l1 ((l1.length : Int) != 120) a0_0 a0_1) = some r := by rw [if_pos rfl] at H; exact H
   clear H
   have H := H1
   clear H1
   have H' := za.mk H
   clear H
   have hcz7_0 : w4.cell? ⟨gb702, 0, none⟩ = some (.int .i64 a0_0) := (zh BK702.out 0).trans rfl
   have hcz7_1 : w4.cell? ⟨gb702, 1, none⟩ = some (.int .i64 a0_1) := (zh BK702.out 1).trans rfl
   have hfz7_0 := zg BK702.out 0
   have hfz7_1 := zg BK702.out 1
   go_wp2_with (first | ((with_reducible refine zba (f := 107) rfl ?_); refine zbv (some 9) rfl rfl Try.func107 (by kernel_rfl) rfl #[.agg #[.int .i64 a0_0, .int .i64 a0_1]] rfl Zmt ?_; (with_reducible refine (zco.calls a0_0 a0_1 true _ A5.out).mono ?_); rintro e w8 ⟨rfl, hb⟩; refine ⟨_, rfl, ?_⟩; have n0_ := za.mk (zbg (g := gb702) (o := .cells #[.int .i64 a0_0, .int .i64 a0_1] 51 (0, 0)) (Zq4 BK702.out) hb); have n1_ := za.mk (zo (Zq5 HB.out GE702.out) hb); clear BK702; clear HB; have BK702 := n0_; have HB := n1_; clear n0_ n1_; (try clear hb); (try clear hb2); (try clear hk); (try clear hi)))
   go_meet
   case rel => exact ⟨_, (((l1.length : Int) != 120)), Zrs, H', ⟨by first | omega | exact Nat.le_refl _⟩, ⟨Zq4 BK702.out⟩, ⟨Zq5 HB.out GE702.out⟩⟩
  ·replace c6 := Bool.eq_false_iff.mpr c6
   subst c6
   have H1 : (zu.j0 k l1 true a0_0 a0_1) = some r := by rw [if_neg (show ¬ (false = true) by decide)] at H; exact H
   clear H
   have H := H1
   clear H1
   have H' := za.mk H
   clear H
   have hcz9_0 : w4.cell? ⟨gb702, 0, none⟩ = some (.int .i64 a0_0) := (zh BK702.out 0).trans rfl
   have hcz9_1 : w4.cell? ⟨gb702, 1, none⟩ = some (.int .i64 a0_1) := (zh BK702.out 1).trans rfl
   have hfz9_0 := zg BK702.out 0
   have hfz9_1 := zg BK702.out 1
   go_wp2_with (first | ((with_reducible refine zba (f := 107) rfl ?_); refine zbv (some 9) rfl rfl Try.func107 (by kernel_rfl) rfl #[.agg #[.int .i64 a0_0, .int .i64 a0_1]] rfl Zmt ?_; (with_reducible refine (zco.calls a0_0 a0_1 false _ A5.out).mono ?_); rintro e w10 ⟨rfl, hb⟩; refine ⟨_, rfl, ?_⟩; have n0_ := za.mk (zbg (g := gb702) (o := .cells #[.int .i64 a0_0, .int .i64 a0_1] 51 (0, 0)) (Zq4 BK702.out) hb); have n1_ := za.mk (zo (Zq5 HB.out GE702.out) hb); clear BK702; clear HB; have BK702 := n0_; have HB := n1_; clear n0_ n1_; (try clear hb); (try clear hb2); (try clear hk); (try clear hi)))
   go_meet
   case rel => exact ⟨_, (true), Zrs, H', ⟨by first | omega | exact Nat.le_refl _⟩, ⟨Zq4 BK702.out⟩, ⟨Zq5 HB.out GE702.out⟩⟩
 case rest =>
  clear HC3
  try clear c1
  try clear p2
  try clear c6
  try clear c7
  try clear c10
  try clear hcz7_0
  try clear hcz7_1
  try clear hcz9_0
  try clear hcz9_1
  try clear hfz7_0
  try clear hfz7_1
  try clear hfz9_0
  try clear hfz9_1
  obtain ⟨kq, x15_2, rfl, HA, HJ2, BK702, HB⟩ := hcut
  cases kq with
  | zero => exact absurd HA.out (by simp [zu.j0])
  | succ kj2 =>
   have H := HA.out
   clear HA
   simp only [zu.j0] at H
   by_cases c11 : x15_2 = true
   ·subst c11
    have H1 : (some false) = some r := by rw [if_pos rfl] at H; exact H
    clear H
    have H := H1
    clear H1
    obtain rfl := Option.some.inj H
    go_wp2
    go_ret
    exact ⟨by first | rfl | (simp [zbc, zbd] <;> rfl) | (simp [*, zbc, zbd] <;> rfl), Zq5 HB.out GE702.out⟩
   ·replace c11 := Bool.eq_false_iff.mpr c11
    subst c11
    have H1 : (zu.l0 kj2 l1 0 a0_0 a0_1) = some r := by rw [if_neg (show ¬ (false = true) by decide)] at H; exact H
    clear H
    have H := H1
    clear H1
    have H' := za.mk H
    clear H
    go_wp2
    go_loopg [5] kj2 (fun kq v5 w' => ∃ (x5_2 : Int), v5 = .int .i64 x5_2 ∧ za (zu.l0 kq l1 x5_2 a0_0 a0_1 = some r) ∧ za (kq ≤ kj2) ∧ za (w'.heap[gb702]? = some (.cells #[.int .i64 a0_0, .int .i64 a0_1] 51 (0, 0))) ∧ za (Below w.heap.size w w'))
    case atStart => exact ⟨(0), Zrs, H', ⟨Nat.le_refl _⟩, ⟨Zq4 BK702.out⟩, ⟨Zq5 HB.out GE702.out⟩⟩
    case round =>
     clear H'
     try clear c1
     try clear p2
     try clear c6
     try clear c7
     try clear c10
     try clear c11
     try clear hcz7_0
     try clear hcz7_1
     try clear hcz9_0
     try clear hcz9_1
     try clear hfz7_0
     try clear hfz7_1
     try clear hfz9_0
     try clear hfz9_1
     try clear p2
     obtain ⟨x5_2, rfl, HA, HK2, BK702, HB⟩ := hrel
     cases gk with
     | zero => exact absurd HA.out (by simp [zu.l0])
     | succ k2 =>
      have H := HA.out
      clear HA
      simp only [zu.l0] at H
      by_cases c12 : (wrap64 (x5_2 + a0_1)) ≤ 120
      ·rw [if_pos c12] at H
       have c12b0 : decide ((wrap64 (x5_2 + a0_1)) ≤ 120) = true := decide_eq_true c12
       clear c12
       have H' := za.mk H
       clear H
       have hcz13_0 : wr.cell? ⟨gb702, 0, none⟩ = some (.int .i64 a0_0) := (zh BK702.out 0).trans rfl
       have hcz13_1 : wr.cell? ⟨gb702, 1, none⟩ = some (.int .i64 a0_1) := (zh BK702.out 1).trans rfl
       have hfz13_0 := zg BK702.out 0
       have hfz13_1 := zg BK702.out 1
       go_wp2
       go_loopg [6, 7] k2 (fun kq v6 v7 w' => ∃ (x6_3 : Int) (x7_3 : Int), v6 = .int .i64 x6_3 ∧ v7 = .int .i64 x7_3 ∧ za (zu.l1 kq l1 x5_2 x6_3 x7_3 a0_0 a0_1 = some r) ∧ za (kq ≤ k2) ∧ za (w'.heap[gb702]? = some (.cells #[.int .i64 a0_0, .int .i64 a0_1] 51 (0, 0))) ∧ za (Below w.heap.size w w'))
       case atStart => exact ⟨(0), (0), Zrs, Zrs, H', ⟨Nat.le_refl _⟩, ⟨Zq4 BK702.out⟩, ⟨Zq5 HB.out GE702.out⟩⟩
       case round =>
        clear H'
        try clear c1
        try clear p2
        try clear c6
        try clear p6
        try clear c7
        try clear c10
        try clear c11
        try clear c12
        try clear c12b0
        try clear hcz13_0
        try clear hcz13_1
        try clear hcz7_0
        try clear hcz7_1
        try clear hcz9_0
        try clear hcz9_1
        try clear hfz13_0
        try clear hfz13_1
        try clear hfz7_0
        try clear hfz7_1
        try clear hfz9_0
        try clear hfz9_1
        try clear p2
        obtain ⟨x6_3, x7_3, rfl, rfl, HA, HK3, BK702, HB⟩ := hrel
        cases gk with
        | zero => exact absurd HA.out (by simp [zu.l1])
        | succ k3 =>
         have H := HA.out
         clear HA
         simp only [zu.l1] at H
         by_cases c14 : x7_3 < a0_1
         ·rw [if_pos c14] at H
          have c14b0 : decide (x7_3 < a0_1) = true := decide_eq_true c14
          clear c14
          obtain ⟨ji15, hji15⟩ : ∃ j_ : Int, (wrap64 (x5_2 + x7_3)) = j_ := ⟨_, rfl⟩
          replace H : (if 0 ≤ (ji15) then (if (ji15) < (l1.length : Int) then (if rdOf false l1 (ji15) = true then (zu.l1 k3 l1 x5_2 (wrap64 (x6_3 + 1)) (wrap64 (x7_3 + 1)) a0_0 a0_1) else (zu.l1 k3 l1 x5_2 x6_3 (wrap64 (x7_3 + 1)) a0_0 a0_1)) else (none)) else (none)) = some r := by first | (rw [hji15] at H; exact H) | (simp only [hji15] at H ⊢; exact H)
          have hji15w : (IntKind.i64.wrap (x5_2 + x7_3)) = ji15 := (zbq _).trans hji15
          by_cases c16 : 0 ≤ (ji15)
          ·rw [if_pos c16] at H
           have c16b0 : decide (0 ≤ (ji15)) = true := decide_eq_true c16
           clear c16
           by_cases c17 : (ji15) < (l1.length : Int)
           ·rw [if_pos c17] at H
            have c17b0 : decide ((ji15) < (l1.length : Int)) = true := decide_eq_true c17
            clear c17
            obtain ⟨bq18, hbq18⟩ : ∃ b_ : Bool, b_ = (rdOf false l1 (ji15)) := ⟨_, rfl⟩
            replace H : (if bq18 = true then (zu.l1 k3 l1 x5_2 (wrap64 (x6_3 + 1)) (wrap64 (x7_3 + 1)) a0_0 a0_1) else (zu.l1 k3 l1 x5_2 x6_3 (wrap64 (x7_3 + 1)) a0_0 a0_1)) = some r := by rw [← hbq18] at H; exact H
            have Nbq18 := za.mk hbq18
            clear hbq18
            by_cases c19 : bq18 = true
            ·subst c19
             have H1 : (zu.l1 k3 l1 x5_2 (wrap64 (x6_3 + 1)) (wrap64 (x7_3 + 1)) a0_0 a0_1) = some r := by rw [if_pos rfl] at H; exact H
             clear H
             have H := H1
             clear H1
             have H' := za.mk H
             clear H
             have hcz20_0 : wr.cell? ⟨gb702, 0, none⟩ = some (.int .i64 a0_0) := (zh BK702.out 0).trans rfl
             have hcz20_1 : wr.cell? ⟨gb702, 1, none⟩ = some (.int .i64 a0_1) := (zh BK702.out 1).trans rfl
             have hfz20_0 := zg BK702.out 0
             have hfz20_1 := zg BK702.out 1
             have p704 : 0 ≤ ((ji15) : Int) := of_decide_eq_true Zas
             have q704 : (ji15) < (l1.length : Int) := of_decide_eq_true Zas
             obtain ⟨ad704, e704, hx704_0⟩ := Kd.at_bool HR1.out (ji15) p704 q704
             (try rw [← Nbq18.out] at hx704_0)
             cases e704
             replace hx704_0 := (HB.out.cell (World.block_lt_of_cell? w _ hx704_0)).trans hx704_0
             replace p704 := eq_true p704
             replace q704 := eq_true q704
             go_wp2
             go_roundg k3
             case measure => have := HJ2.out; have := HK2.out; have := HK3.out; omega
             case rel => exact ⟨(wrap64 (x6_3 + 1)), (wrap64 (x7_3 + 1)), Zrs, Zrs, H', ⟨by have := HJ2.out; have := HK2.out; have := HK3.out; omega⟩, ⟨Zq4 BK702.out⟩, ⟨Zq5 HB.out GE702.out⟩⟩
            ·replace c19 := Bool.eq_false_iff.mpr c19
             subst c19
             have H1 : (zu.l1 k3 l1 x5_2 x6_3 (wrap64 (x7_3 + 1)) a0_0 a0_1) = some r := by rw [if_neg (show ¬ (false = true) by decide)] at H; exact H
             clear H
             have H := H1
             clear H1
             have H' := za.mk H
             clear H
             have hcz21_0 : wr.cell? ⟨gb702, 0, none⟩ = some (.int .i64 a0_0) := (zh BK702.out 0).trans rfl
             have hcz21_1 : wr.cell? ⟨gb702, 1, none⟩ = some (.int .i64 a0_1) := (zh BK702.out 1).trans rfl
             have hfz21_0 := zg BK702.out 0
             have hfz21_1 := zg BK702.out 1
             have p704 : 0 ≤ ((ji15) : Int) := of_decide_eq_true Zas
             have q704 : (ji15) < (l1.length : Int) := of_decide_eq_true Zas
             obtain ⟨ad704, e704, hx704_0⟩ := Kd.at_bool HR1.out (ji15) p704 q704
             (try rw [← Nbq18.out] at hx704_0)
             cases e704
             replace hx704_0 := (HB.out.cell (World.block_lt_of_cell? w _ hx704_0)).trans hx704_0
             replace p704 := eq_true p704
             replace q704 := eq_true q704
             go_wp2
             go_roundg k3
             case measure => have := HJ2.out; have := HK2.out; have := HK3.out; omega
             case rel => exact ⟨(x6_3), (wrap64 (x7_3 + 1)), Zrs, Zrs, H', ⟨by have := HJ2.out; have := HK2.out; have := HK3.out; omega⟩, ⟨Zq4 BK702.out⟩, ⟨Zq5 HB.out GE702.out⟩⟩
           ·rw [if_neg c17] at H
            exact absurd H (by simp)
          ·rw [if_neg c16] at H
           exact absurd H (by simp)
         ·rw [if_neg c14] at H
          have c14b0 : decide (x7_3 < a0_1) = false := decide_eq_false c14
          clear c14
          by_cases c22 : x6_3 = a0_0
          ·rw [if_pos c22] at H
           have c22b0 : (x6_3 == a0_0) = true := beq_iff_eq.mpr c22
           have c22b1 : (x6_3 != a0_0) = false := bne_eq_false_iff_eq.mpr c22
           clear c22
           have H' := za.mk H
           clear H
           have hcz23_0 : wr.cell? ⟨gb702, 0, none⟩ = some (.int .i64 a0_0) := (zh BK702.out 0).trans rfl
           have hcz23_1 : wr.cell? ⟨gb702, 1, none⟩ = some (.int .i64 a0_1) := (zh BK702.out 1).trans rfl
           have hfz23_0 := zg BK702.out 0
           have hfz23_1 := zg BK702.out 1
           go_wp2
           go_roundg k3
           case measure => have := HJ2.out; have := HK2.out; have := HK3.out; omega
           case rel => exact ⟨(wrap64 (x5_2 + a0_1)), Zrs, H', ⟨by have := HJ2.out; have := HK2.out; have := HK3.out; omega⟩, ⟨Zq4 BK702.out⟩, ⟨Zq5 HB.out GE702.out⟩⟩
          ·rw [if_neg c22] at H
           have c22b0 : (x6_3 == a0_0) = false := beq_eq_false_iff_ne.mpr c22
           have c22b1 : (x6_3 != a0_0) = true := bne_iff_ne.mpr c22
           obtain rfl := Option.some.inj H
           have hcz24_0 : wr.cell? ⟨gb702, 0, none⟩ = some (.int .i64 a0_0) := (zh BK702.out 0).trans rfl
           have hcz24_1 : wr.cell? ⟨gb702, 1, none⟩ = some (.int .i64 a0_1) := (zh BK702.out 1).trans rfl
           have hfz24_0 := zg BK702.out 0
           have hfz24_1 := zg BK702.out 1
           go_wp2
           go_ret
           exact ⟨by first | rfl | (simp [zbc, zbd] <;> rfl) | (simp [*, zbc, zbd] <;> rfl), Zq5 HB.out GE702.out⟩
      ·rw [if_neg c12] at H
       have c12b0 : decide ((wrap64 (x5_2 + a0_1)) ≤ 120) = false := decide_eq_false c12
       clear c12
       obtain rfl := Option.some.inj H
       have hcz25_0 : wr.cell? ⟨gb702, 0, none⟩ = some (.int .i64 a0_0) := (zh BK702.out 0).trans rfl
       have hcz25_1 : wr.cell? ⟨gb702, 1, none⟩ = some (.int .i64 a0_1) := (zh BK702.out 1).trans rfl
       have hfz25_0 := zg BK702.out 0
       have hfz25_1 := zg BK702.out 1
       go_wp2
       go_ret
       exact ⟨by first | rfl | (simp [zbc, zbd] <;> rfl) | (simp [*, zbc, zbd] <;> rfl), Zq5 HB.out GE702.out⟩
mutual
def zw.j0 : Nat → List (S34) → List Bool → Bool → Option (List Int × List Int)
 | 0, _, _, _ => none
 | k + 1, x1, x3, x24 => if x24 = true then (some (([] : List Int), ([] : List Int))) else ((zb0.f k x1).bind fun t713 => (zw.l0 k x1 x3 (([] : List Int)) t713 0 ([] : List Int)))
def zw.l0 : Nat → List (S34) → List Bool → List Int → List Int → Int → List Int → Option (List Int × List Int)
 | 0, _, _, _, _, _, _ => none
 | k + 1, x1, x3, x10, x11, x12, x710001 => if x12 < (x1.length : Int) then (if 0 ≤ x12 then (if x10.length < 17592186044416 then (if x710001.length < 17592186044416 then (zw.l0 k x1 x3 (x10 ++ [(ze x1 x12).f3]) x11 (wrap64 (x12 + 1)) (x710001 ++ [(-1)])) else (none)) else (none)) else (none)) else (zw.l1 k x1 x3 x10 x11 0 ([] : List Int) x710001)
def zw.l1 : Nat → List (S34) → List Bool → List Int → List Int → Int → List Int → List Int → Option (List Int × List Int)
 | 0, _, _, _, _, _, _, _ => none
 | k + 1, x1, x3, x10, x11, x13, x710000, x710001 => if x13 < 120 then (if 0 ≤ x13 then (if x13 < (x3.length : Int) then (if rdOf false x3 x13 = true then ((zci.f k x1 x10 x11 x13).bind fun t724 => (zw.j3 k x1 x3 x10 x11 x13 t724 x710000 x710001)) else (zw.j3 k x1 x3 x10 x11 x13 (-1) x710000 x710001)) else (none)) else (none)) else (some (x710000, x710001))
def zw.j3 : Nat → List (S34) → List Bool → List Int → List Int → Int → Int → List Int → List Int → Option (List Int × List Int)
 | 0, _, _, _, _, _, _, _, _ => none
 | k + 1, x1, x3, x10, x11, x13, x14, x710000, x710001 => if x710000.length < 17592186044416 then ((some (x710000 ++ [x14] : List Int)).bind fun y725 => (if x14 ≥ 0 then (if 0 ≤ x14 then (if x14 < (x10.length : Int) then ((some (x10.set (x14 : Int).toNat (wrap64 ((rd x10 x14) - 1)) : List Int)).bind fun y729 => (if (rd y729 x14) = 0 then (if x14 < (x710001.length : Int) then (zw.l1 k x1 x3 y729 x11 (wrap64 (x13 + 1)) y725 (x710001.set (x14 : Int).toNat (wrap64 (x13 + 1)))) else (none)) else (zw.l1 k x1 x3 y729 x11 (wrap64 (x13 + 1)) y725 x710001))) else (none)) else (none)) else (zw.l1 k x1 x3 x10 x11 (wrap64 (x13 + 1)) y725 x710001))) else (none)
end
def zw.f (k : Nat) (l0 : List (S88)) (l1 : List (S34)) (a2_0 : Int) (a2_1 : Int) (l3 : List Bool) : Option (List Int × List Int) := (zq.f k l0 l1).bind fun t707 => (if t707 = true then ((zu.f k a2_0 a2_1 l3).bind fun t708 => (zw.j0 k l1 l3 (!t708))) else (zw.j0 k l1 l3 true))
set_option maxHeartbeats 8000000 in
set_option maxRecDepth 100000 in
theorem zw.calls (k : Nat) (A0 : Option Addr) (c0 : Nat) (l0 : List (S88)) (A1 : Option Addr) (c1 : Nat) (l1 : List (S34)) (a2_0 : Int) (a2_1 : Int) (A3 : Option Addr) (c3 : Nat) (l3 : List Bool) (r1 : List Int) (r2 : List Int) (w : World) (hr0 : Kd.C k88 w A0 l0.length l0) (hc0 : l0.length ≤ c0) (hr1 : Kd.C k34 w A1 l1.length l1) (hc1 : l1.length ≤ c1) (hr3 : Kd.C Kd.bool w A3 l3.length l3) (hc3 : l3.length ≤ c3) (h : zw.f k l0 l1 a2_0 a2_1 l3 = some (r1, r2)) :
  Calls Try.prog 32 #[.slice A0 l0.length c0, .slice A1 l1.length c1, .agg #[.int .i64 a2_0, .int .i64 a2_1], .slice A3 l3.length c3] w fun e w' => ∃ v0_ v1_ : Value, e = .returned (.agg #[v0_, v1_]) ∧ Kd.R (Kd.int .i64) 3 w' w.heap.size (fun k_ => some k_ ≠ (v1_ : Value).ownBlock) v0_ r1 ∧ Kd.R (Kd.int .i64) 3 w' w.heap.size (fun k_ => some k_ ≠ (v0_ : Value).ownBlock) v1_ r2 ∧ Below w.heap.size w w' := by
 have hu51 := Try.underlying51
 have hu29 := Try.underlying29
 have HR0 := za.mk hr0
 have HC0 := za.mk hc0
 clear hr0 hc0
 have HR1 := za.mk hr1
 have HC1 := za.mk hc1
 clear hr1 hc1
 have HR3 := za.mk hr3
 have HC3 := za.mk hc3
 clear hr3 hc3
 have HB := za.mk (Below.refl w.heap.size w)
 have H : ((zq.f k l0 l1).bind fun t707 => (if t707 = true then ((zu.f k a2_0 a2_1 l3).bind fun t708 => (zw.j0 k l1 l3 (!t708))) else (zw.j0 k l1 l3 true))) = some (r1, r2) := h
 clear h
 have HC5 := za.mk H
 clear H
 go_enter Try.func32, Try.ntmps32
 go_upto_region 1 with (first | ((with_reducible refine zbp (N := 6) rfl ?_); refine zb1 ?hg (N := 6) ?hd (cs := #[.int .i64 a2_0, .int .i64 a2_1]) (t := 51) ?hr ?_; (case hd => rfl); (case hg => rfl); (case hr => first | (go_simp; done) | (go_simp; rfl)); intro gb705 hg w6 hbox hb; have n0_ := za.mk (zo (Zq3 HB.out) hb); have n1_ := za.mk (hbox); have n2_ := za.mk ((by rw [hg]; exact (zbb (Zq3 HB.out)) : w.heap.size ≤ gb705)); have n3_ := za.mk ((by rw [hg]; exact (zbb (Zq3 HB.out)) : w.heap.size ≤ gb705)); clear HB; have HB := n0_; have BK705 := n1_; have GW705 := n2_; have GE705 := n3_; clear n0_ n1_ n2_ n3_; clear hb hbox hg) | ((with_reducible refine zbp (N := 8) rfl ?_); refine zb1 ?hg (N := 8) ?hd (cs := #[.slice none 0 0, .slice none 0 0]) (t := 29) ?hr ?_; (case hd => rfl); (case hg => rfl); (case hr => first | (go_simp; done) | (go_simp; rfl)); intro gb706 hg w7 hbox hb; have n0_ := za.mk (zbg (g := gb705) (o := .cells #[.int .i64 a2_0, .int .i64 a2_1] 51 (0, 0)) (Zq4 BK705.out) hb); have n1_ := za.mk (zo (Zq5 HB.out GE705.out) hb); have n2_ := za.mk (hbox); have n3_ := za.mk ((by rw [hg]; exact (zbb (Zq5 HB.out GE705.out)) : w.heap.size ≤ gb706)); have n4_ := za.mk ((by rw [hg]; exact (zbb (Zq5 HB.out GE705.out)) : w.heap.size ≤ gb706)); have n5_ := za.mk ((by rw [hg]; exact Nat.ne_of_lt (zcz (g := gb705) (o := .cells #[.int .i64 a2_0, .int .i64 a2_1] 51 (0, 0)) (Zq4 BK705.out)) : gb705 ≠ gb706)); have n6_ := za.mk ((by rw [hg]; exact Nat.ne_of_gt (zcz (g := gb705) (o := .cells #[.int .i64 a2_0, .int .i64 a2_1] 51 (0, 0)) (Zq4 BK705.out)) : gb706 ≠ gb705)); clear BK705; clear HB; have BK705 := n0_; have HB := n1_; have BK706 := n2_; have GW706 := n3_; have GE706 := n4_; have NB705_706 := n5_; have NB706_705 := n6_; clear n0_ n1_ n2_ n3_ n4_ n5_ n6_; clear hb hbox hg))
 (try simp only [Act.put, List.setIfInBounds_toArray, List.set_cons_zero, List.set_cons_succ])
 go_cut [24] (fun v24 wc => ∃ (kq : Nat) (x24_4 : Bool), v24 = .bool x24_4 ∧ za (zw.j0 kq l1 l3 x24_4 = some (r1, r2)) ∧ za (kq ≤ k) ∧ za (wc.heap[gb705]? = some (.cells #[.int .i64 a2_0, .int .i64 a2_1] 51 (0, 0))) ∧ za (wc.heap[gb706]? = some (.cells #[(.slice none 0 0), (.slice none 0 0)] 29 (0, 0))) ∧ za (Below w.heap.size w wc))
 case first =>
  have H := HC5.out
  clear HC5
  replace H := Option.bind_eq_some_iff.mp H
  obtain ⟨t707, A80, H⟩ := H
  replace H : (if t707 = true then ((zu.f k a2_0 a2_1 l3).bind fun t708 => (zw.j0 k l1 l3 (!t708))) else (zw.j0 k l1 l3 true)) = some (r1, r2) := H
  have A8 := za.mk A80
  clear A80
  by_cases c9 : t707 = true
  ·subst c9
   have H1 : ((zu.f k a2_0 a2_1 l3).bind fun t708 => (zw.j0 k l1 l3 (!t708))) = some (r1, r2) := by rw [if_pos rfl] at H; exact H
   clear H
   have H := H1
   clear H1
   replace H := Option.bind_eq_some_iff.mp H
   obtain ⟨t708, A100, H⟩ := H
   replace H : (zw.j0 k l1 l3 (!t708)) = some (r1, r2) := H
   have A10 := za.mk A100
   clear A100
   have H' := za.mk H
   clear H
   go_wp2_with (first | ((with_reducible refine zba (f := 56) rfl ?_); refine zbv (some 17) rfl rfl Try.func56 (by kernel_rfl) rfl #[.slice A0 l0.length c0, .slice A1 l1.length c1] rfl Zmt ?_; (with_reducible refine (zq.calls k _ _ l0 _ _ l1 true _ ?side1 ?side2 ?side3 ?side4 A8.out).mono ?_); (case side1 => exact Zq6 (Kd.zb8 HR0.out HB.out)); (case side2 => exact HC0.out); (case side3 => exact Zq6 (Kd.zb8 HR1.out HB.out)); (case side4 => exact HC1.out); rintro e w11 ⟨rfl, hb⟩; refine ⟨_, rfl, ?_⟩; have n0_ := za.mk (zbg (g := gb705) (o := .cells #[.int .i64 a2_0, .int .i64 a2_1] 51 (0, 0)) (Zq4 BK705.out) hb); have n1_ := za.mk (zbg (g := gb706) (o := .cells #[.slice none 0 0, .slice none 0 0] 29 (0, 0)) (Zq4 BK706.out) hb); have n2_ := za.mk (zo (Zq7 HB.out GE705.out GE706.out) hb); clear BK705; clear BK706; clear HB; have BK705 := n0_; have BK706 := n1_; have HB := n2_; clear n0_ n1_ n2_; (try clear hb); (try clear hb2); (try clear hk); (try clear hi); have hnb12 := NB705_706.out; have hnc12 := NB706_705.out; have hcz13_0 : w11.cell? ⟨gb705, 0, none⟩ = some (.int .i64 a2_0) := (zh BK705.out 0).trans rfl; have hcz13_1 : w11.cell? ⟨gb705, 1, none⟩ = some (.int .i64 a2_1) := (zh BK705.out 1).trans rfl; have hfz13_0 := zg BK705.out 0; have hfz13_1 := zg BK705.out 1) | (go_at_call 75; (with_reducible refine (zu.calls k a2_0 a2_1 _ _ l3 t708 _ ?side1 ?side2 A10.out).mono ?_); (case side1 => exact Zq6 (Kd.zb8 HR3.out HB.out)); (case side2 => exact HC3.out); rintro e w14 ⟨rfl, hb⟩; have n0_ := za.mk (zbg (g := gb705) (o := .cells #[.int .i64 a2_0, .int .i64 a2_1] 51 (0, 0)) (Zq4 BK705.out) hb); have n1_ := za.mk (zbg (g := gb706) (o := .cells #[.slice none 0 0, .slice none 0 0] 29 (0, 0)) (Zq4 BK706.out) hb); have n2_ := za.mk (zo (Zq7 HB.out GE705.out GE706.out) hb); clear BK705; clear BK706; clear HB; have BK705 := n0_; have BK706 := n1_; have HB := n2_; clear n0_ n1_ n2_; (try clear hb); (try clear hb2); (try clear hk); (try clear hi)))
   go_meet
   case rel => exact ⟨_, (!t708), Zrs, H', ⟨by first | omega | exact Nat.le_refl _⟩, ⟨Zq4 BK705.out⟩, ⟨Zq4 BK706.out⟩, ⟨Zq7 HB.out GE705.out GE706.out⟩⟩
  ·replace c9 := Bool.eq_false_iff.mpr c9
   subst c9
   have H1 : (zw.j0 k l1 l3 true) = some (r1, r2) := by rw [if_neg (show ¬ (false = true) by decide)] at H; exact H
   clear H
   have H := H1
   clear H1
   have H' := za.mk H
   clear H
   go_wp2_with (first | ((with_reducible refine zba (f := 56) rfl ?_); refine zbv (some 17) rfl rfl Try.func56 (by kernel_rfl) rfl #[.slice A0 l0.length c0, .slice A1 l1.length c1] rfl Zmt ?_; (with_reducible refine (zq.calls k _ _ l0 _ _ l1 false _ ?side1 ?side2 ?side3 ?side4 A8.out).mono ?_); (case side1 => exact Zq6 (Kd.zb8 HR0.out HB.out)); (case side2 => exact HC0.out); (case side3 => exact Zq6 (Kd.zb8 HR1.out HB.out)); (case side4 => exact HC1.out); rintro e w15 ⟨rfl, hb⟩; refine ⟨_, rfl, ?_⟩; have n0_ := za.mk (zbg (g := gb705) (o := .cells #[.int .i64 a2_0, .int .i64 a2_1] 51 (0, 0)) (Zq4 BK705.out) hb); have n1_ := za.mk (zbg (g := gb706) (o := .cells #[.slice none 0 0, .slice none 0 0] 29 (0, 0)) (Zq4 BK706.out) hb); have n2_ := za.mk (zo (Zq7 HB.out GE705.out GE706.out) hb); clear BK705; clear BK706; clear HB; have BK705 := n0_; have BK706 := n1_; have HB := n2_; clear n0_ n1_ n2_; (try clear hb); (try clear hb2); (try clear hk); (try clear hi)))
   go_meet
   case rel => exact ⟨_, (true), Zrs, H', ⟨by first | omega | exact Nat.le_refl _⟩, ⟨Zq4 BK705.out⟩, ⟨Zq4 BK706.out⟩, ⟨Zq7 HB.out GE705.out GE706.out⟩⟩
 case rest =>
  clear HC5
  try clear c1
  try clear p2
  try clear c3
  try clear c5
  try clear c9
  try clear c12
  try clear hcz13_0
  try clear hcz13_1
  try clear hfz13_0
  try clear hfz13_1
  obtain ⟨kq, x24_4, rfl, HA, HJ4, BK705, BK706, HB⟩ := hcut
  cases kq with
  | zero => exact absurd HA.out (by simp [zw.j0])
  | succ kj4 =>
   have H := HA.out
   clear HA
   simp only [zw.j0] at H
   by_cases c16 : x24_4 = true
   ·subst c16
    have H1 : (some (([] : List Int), ([] : List Int))) = some (r1, r2) := by rw [if_pos rfl] at H; exact H
    clear H
    have H := H1
    clear H1
    simp only [Option.some.injEq, Prod.mk.injEq] at H
    obtain ⟨rfl, rfl⟩ := H
    have hnb17 := NB706_705.out
    have hnc17 := NB705_706.out
    have hcz18_0 : wc.cell? ⟨gb706, 0, none⟩ = some (.slice none 0 0) := (zh BK706.out 0).trans rfl
    have hcz18_1 : wc.cell? ⟨gb706, 1, none⟩ = some (.slice none 0 0) := (zh BK706.out 1).trans rfl
    have hfz18_0 := zg BK706.out 0
    have hfz18_1 := zg BK706.out 1
    go_wp2
    refine bodyPost_ret (results_cell_row rfl _ _ gb706 29 #[.slice none 0 0, .slice none 0 0] (0, 0) _ rfl (by (with_reducible repeat (first | refine zn ?_ _ | refine zt ?_ | refine zm ?_ _)); refine zbu (cs := #[.slice none 0 0, .slice none 0 0]) ?_ 1 _ rfl; (with_reducible repeat (first | refine zn ?_ _ | refine zt ?_ | refine zm ?_ _)); refine zbu (cs := #[.slice none 0 0, .slice none 0 0]) ?_ 0 _ rfl; (with_reducible repeat (first | refine zn ?_ _ | refine zt ?_ | refine zm ?_ _)); exact BK706.out) Try.underlying29 rfl (by kernel_rfl)) rfl ?_
    exact ⟨_, _, by first | rfl | (simp [zbc, zbd] <;> rfl) | (simp [*, zbc, zbd] <;> rfl), by first | exact Kd.R_nil _ _ _ _ _ | exact Kd.N_nil _ _ _ _ _ | exact Kd.V_nil _ _ _ _ _ | exact Kd.Q_nil _ _ _ _ _ | exact Kd.S_nil _ _ _ _ _, by first | exact Kd.R_nil _ _ _ _ _ | exact Kd.N_nil _ _ _ _ _ | exact Kd.V_nil _ _ _ _ _ | exact Kd.Q_nil _ _ _ _ _ | exact Kd.S_nil _ _ _ _ _, Zq7 HB.out GE705.out GE706.out⟩
   ·replace c16 := Bool.eq_false_iff.mpr c16
    subst c16
    have H1 : ((zb0.f kj4 l1).bind fun t713 => (zw.l0 kj4 l1 l3 (([] : List Int)) t713 0 ([] : List Int))) = some (r1, r2) := by rw [if_neg (show ¬ (false = true) by decide)] at H; exact H
    clear H
    have H := H1
    clear H1
    obtain ⟨y710, hy710⟩ : ∃ y_ : List Int, y_ = (([] : List Int)) := ⟨_, rfl⟩
    replace H : ((zb0.f kj4 l1).bind fun t713 => (zw.l0 kj4 l1 l3 y710 t713 0 ([] : List Int))) = some (r1, r2) := by first | (rw [hy710]; with_reducible exact H) | (have H2_ := (Option.bind_some _ _).symm.trans H; rw [hy710]; with_reducible exact H2_) | (have H2_ := (Option.bind_some _ _).symm.trans H; with_reducible exact H2_) | with_reducible exact H | (rw [hy710]; exact H) | exact H
    have Ny710 := za.mk hy710
    clear hy710
    replace H := Option.bind_eq_some_iff.mp H
    obtain ⟨t713, A190, H⟩ := H
    replace H : (zw.l0 kj4 l1 l3 y710 t713 0 ([] : List Int)) = some (r1, r2) := H
    have A19 := za.mk A190
    clear A190
    have H' := za.mk H
    clear H
    go_wp2_with (first | ((with_reducible refine zbp (N := 9) rfl ?_); refine zb1 ?hg (N := 9) ?hd (cs := #[.slice none 0 0, .slice none 0 0]) (t := 29) ?hr ?_; (case hd => rfl); (case hg => rfl); (case hr => first | (go_simp; done) | (go_simp; rfl)); intro gb709 hg w20 hbox hb; have n0_ := za.mk (zbg (g := gb705) (o := .cells #[.int .i64 a2_0, .int .i64 a2_1] 51 (0, 0)) (Zq4 BK705.out) hb); have n1_ := za.mk (zbg (g := gb706) (o := .cells #[.slice none 0 0, .slice none 0 0] 29 (0, 0)) (Zq4 BK706.out) hb); have n2_ := za.mk (zo (Zq7 HB.out GE705.out GE706.out) hb); have n3_ := za.mk (hbox); have n4_ := za.mk ((by rw [hg]; exact (zbb (Zq7 HB.out GE705.out GE706.out)) : w.heap.size ≤ gb709)); have n5_ := za.mk ((by rw [hg]; exact (zbb (Zq7 HB.out GE705.out GE706.out)) : w.heap.size ≤ gb709)); have n6_ := za.mk ((by rw [hg]; exact Nat.ne_of_lt (zcz (g := gb705) (o := .cells #[.int .i64 a2_0, .int .i64 a2_1] 51 (0, 0)) (Zq4 BK705.out)) : gb705 ≠ gb709)); have n7_ := za.mk ((by rw [hg]; exact Nat.ne_of_gt (zcz (g := gb705) (o := .cells #[.int .i64 a2_0, .int .i64 a2_1] 51 (0, 0)) (Zq4 BK705.out)) : gb709 ≠ gb705)); have n8_ := za.mk ((by rw [hg]; exact Nat.ne_of_lt (zcz (g := gb706) (o := .cells #[.slice none 0 0, .slice none 0 0] 29 (0, 0)) (Zq4 BK706.out)) : gb706 ≠ gb709)); have n9_ := za.mk ((by rw [hg]; exact Nat.ne_of_gt (zcz (g := gb706) (o := .cells #[.slice none 0 0, .slice none 0 0] 29 (0, 0)) (Zq4 BK706.out)) : gb709 ≠ gb706)); clear BK705; clear BK706; clear HB; have BK705 := n0_; have BK706 := n1_; have HB := n2_; have BK709 := n3_; have GW709 := n4_; have GE709 := n5_; have NB705_709 := n6_; have NB709_705 := n7_; have NB706_709 := n8_; have NB709_706 := n9_; clear n0_ n1_ n2_ n3_ n4_ n5_ n6_ n7_ n8_ n9_; clear hb hbox hg; have hnb21 := NB709_705.out; have hnc21 := NB705_709.out; have hnb22 := NB709_706.out; have hnc22 := NB706_709.out; have hcz23_0 : w20.cell? ⟨gb709, 0, none⟩ = some (.slice none 0 0) := (zh BK709.out 0).trans rfl; have hcz23_1 : w20.cell? ⟨gb709, 1, none⟩ = some (.slice none 0 0) := (zh BK709.out 1).trans rfl; have hfz23_0 := zg BK709.out 0; have hfz23_1 := zg BK709.out 1) | ((with_reducible refine zbp (N := 27) rfl ?_); refine Kd.R_lit (Kd.int .i64) _ 3 ?hg (N := 27) ?hd (xs := ([] : List Int)) (inner := []) (ok := fun _ => True) (okp := fun _ => True) ?hr ?hp (fun _ hk => hk) trivial (Below.refl _ _) (Nat.le_refl _) (by simp) ?_; (case hd => rfl); (case hg => rfl); (case hr => first | (go_simp; done) | (go_simp; rfl)); (case hp => exact (Reps.none _ _)); intro v711 w24 ho25 hb hg_ hnew_; clear hg_ hnew_; (first | rw [← Ny710.out] at ho25 | (simp only [Int.reduceToNat] at ho25; rw [← Ny710.out] at ho25)); have n0_ := za.mk (Kd.zb2 ho25 (zbb (Zq15 HB.out GE705.out GE706.out GE709.out))); have n1_ := za.mk (zbg (g := gb705) (o := .cells #[.int .i64 a2_0, .int .i64 a2_1] 51 (0, 0)) (by (with_reducible repeat (first | refine zn ?_ _ | refine zt ?_ | refine zm ?_ _)); refine zcl ?_ NB705_709.out _; (with_reducible repeat (first | refine zn ?_ _ | refine zt ?_ | refine zm ?_ _)); refine zcl ?_ NB705_709.out _; (with_reducible repeat (first | refine zn ?_ _ | refine zt ?_ | refine zm ?_ _)); exact BK705.out) hb); have n2_ := za.mk (zbg (g := gb706) (o := .cells #[.slice none 0 0, .slice none 0 0] 29 (0, 0)) (by (with_reducible repeat (first | refine zn ?_ _ | refine zt ?_ | refine zm ?_ _)); refine zcl ?_ NB706_709.out _; (with_reducible repeat (first | refine zn ?_ _ | refine zt ?_ | refine zm ?_ _)); refine zcl ?_ NB706_709.out _; (with_reducible repeat (first | refine zn ?_ _ | refine zt ?_ | refine zm ?_ _)); exact BK706.out) hb); have n3_ := za.mk (zbg (g := gb709) (o := .cells #[.slice none 0 0, .slice none 0 0] 29 (0, 0)) (by (with_reducible repeat (first | refine zn ?_ _ | refine zt ?_ | refine zm ?_ _)); refine zbu (cs := #[.slice none 0 0, .slice none 0 0]) ?_ 1 _ rfl; (with_reducible repeat (first | refine zn ?_ _ | refine zt ?_ | refine zm ?_ _)); refine zbu (cs := #[.slice none 0 0, .slice none 0 0]) ?_ 0 _ rfl; (with_reducible repeat (first | refine zn ?_ _ | refine zt ?_ | refine zm ?_ _)); exact BK709.out) hb); have n4_ := za.mk (zo (Zq15 HB.out GE705.out GE706.out GE709.out) hb); clear BK705; clear BK706; clear BK709; clear HB; have HO712 := n0_; have BK705 := n1_; have BK706 := n2_; have BK709 := n3_; have HB := n4_; clear n0_ n1_ n2_ n3_ n4_; clear hb ho25) | ((with_reducible refine zba (f := 57) rfl ?_); refine zbv (some 29) rfl rfl Try.func57 (by kernel_rfl) rfl #[.slice A1 l1.length c1] rfl Zmt ?_; (with_reducible refine (zb0.calls kj4 _ _ l1 t713 _ ?side1 ?side2 A19.out).mono ?_); (case side1 => exact Zq6 (Kd.zb8 HR1.out HB.out)); (case side2 => exact HC1.out); rintro e w26 ⟨v714, rfl, ho0, hb⟩; refine ⟨_, rfl, ?_⟩; have n0_ := za.mk (Kd.zcs (Zq12 HO712.out) (Kd.zch ho0) hb); have n1_ := za.mk (Kd.zb2 (Kd.zcm ho0 (Kd.R_lt (Zq12 HO712.out))) (zbb (Zq15 HB.out GE705.out GE706.out GE709.out))); have n2_ := za.mk (zbg (g := gb705) (o := .cells #[.int .i64 a2_0, .int .i64 a2_1] 51 (0, 0)) (Zq4 BK705.out) hb); have n3_ := za.mk (zbg (g := gb706) (o := .cells #[.slice none 0 0, .slice none 0 0] 29 (0, 0)) (Zq4 BK706.out) hb); have n4_ := za.mk (zbg (g := gb709) (o := .cells #[.slice none 0 0, .slice none 0 0] 29 (0, 0)) (Zq4 BK709.out) hb); have n5_ := za.mk (zo (Zq15 HB.out GE705.out GE706.out GE709.out) hb); clear HO712; clear BK705; clear BK706; clear BK709; clear HB; have HO712 := n0_; have HO715 := n1_; have BK705 := n2_; have BK706 := n3_; have BK709 := n4_; have HB := n5_; clear n0_ n1_ n2_ n3_ n4_ n5_; (try clear hb); (try clear hb2); (try clear hk); (try clear hi); (try clear ho0)))
    go_loopg [10, 12] kj4 (fun kq v10 v12 w' => ∃ (x10_2 : List Int) (x12_2 : Int) (x710001_2 : List Int) (u710001 : Value), v12 = .int .i64 x12_2 ∧ za (zw.l0 kq l1 l3 x10_2 t713 x12_2 x710001_2 = some (r1, r2)) ∧ za (kq ≤ kj4) ∧ za (Kd.R (Kd.int .i64) 3 w' w.heap.size (fun k_ => some k_ ≠ (v714 : Value).ownBlock ∧ some k_ ≠ (u710001 : Value).ownBlock) v10 x10_2) ∧ za (Kd.R (Kd.int .i64) 3 w' w.heap.size (fun k_ => some k_ ≠ (v10 : Value).ownBlock ∧ some k_ ≠ (u710001 : Value).ownBlock) v714 t713) ∧ za (Kd.R (Kd.int .i64) 3 w' w.heap.size (fun k_ => some k_ ≠ (v10 : Value).ownBlock ∧ some k_ ≠ (v714 : Value).ownBlock) u710001 x710001_2) ∧ za (w'.heap[gb705]? = some (.cells #[.int .i64 a2_0, .int .i64 a2_1] 51 (0, 0))) ∧ za (w'.heap[gb706]? = some (.cells #[(.slice none 0 0), (.slice none 0 0)] 29 (0, 0))) ∧ za (w'.heap[gb709]? = some (.cells #[(.slice none 0 0), u710001] 29 (0, 0))) ∧ za (Below w.heap.size w w'))
    case atStart => exact ⟨(y710), (0), (([] : List Int)), (.slice none 0 0), Zrs, H', ⟨Nat.le_refl _⟩, ⟨by (with_reducible repeat (first | apply Kd.zbi | apply Kd.zbh | apply Kd.zbj)); exact Kd.zy HO712.out (fun _ hk => ⟨hk.2, (by simp [Value.ownBlock])⟩)⟩, ⟨by (with_reducible repeat (first | apply Kd.zbi | apply Kd.zbh | apply Kd.zbj)); exact Kd.zy HO715.out (fun _ hk => ⟨hk.2, (by simp [Value.ownBlock])⟩)⟩, ⟨by first | exact Kd.R_nil _ _ _ _ _ | exact Kd.N_nil _ _ _ _ _ | exact Kd.V_nil _ _ _ _ _ | exact Kd.Q_nil _ _ _ _ _ | exact Kd.S_nil _ _ _ _ _⟩, ⟨Zq4 BK705.out⟩, ⟨Zq4 BK706.out⟩, ⟨Zq4 BK709.out⟩, ⟨Zq15 HB.out GE705.out GE706.out GE709.out⟩⟩
    case round =>
     clear H'
     try clear c1
     try clear c2
     try clear p2
     try clear c3
     try clear c5
     try clear c9
     try clear c12
     try clear c16
     try clear c17
     try clear c21
     try clear c22
     try clear hcz13_0
     try clear hcz13_1
     try clear hcz18_0
     try clear hcz18_1
     try clear hcz23_0
     try clear hcz23_1
     try clear hfz13_0
     try clear hfz13_1
     try clear hfz18_0
     try clear hfz18_1
     try clear hfz23_0
     try clear hfz23_1
     try clear p2
     obtain ⟨x10_2, x12_2, x710001_2, u710001, rfl, HA, HK2, HO_10, HO_11, HO_710001, BK705, BK706, BK709, HB⟩ := hrel
     cases gk with
     | zero => exact absurd HA.out (by simp [zw.l0])
     | succ k2 =>
      have H := HA.out
      clear HA
      simp only [zw.l0] at H
      by_cases c27 : x12_2 < (l1.length : Int)
      ·rw [if_pos c27] at H
       have c27b0 : decide (x12_2 < (l1.length : Int)) = true := decide_eq_true c27
       clear c27
       by_cases c28 : 0 ≤ x12_2
       ·rw [if_pos c28] at H
        have c28b0 : decide (0 ≤ x12_2) = true := decide_eq_true c28
        clear c28
        by_cases c29 : x10_2.length < 17592186044416
        ·rw [if_pos c29] at H
         have LMc29 := za.mk c29
         clear c29
         obtain ⟨y717, hy717⟩ : ∃ y_ : List Int, y_ = (x10_2 ++ [(ze l1 x12_2).f3]) := ⟨_, rfl⟩
         replace H : (if x710001_2.length < 17592186044416 then (zw.l0 k2 l1 l3 y717 t713 (wrap64 (x12_2 + 1)) (x710001_2 ++ [(-1)])) else (none)) = some (r1, r2) := by first | (rw [hy717]; with_reducible exact H) | (have H2_ := (Option.bind_some _ _).symm.trans H; rw [hy717]; with_reducible exact H2_) | (have H2_ := (Option.bind_some _ _).symm.trans H; with_reducible exact H2_) | with_reducible exact H | (rw [hy717]; exact H) | exact H
         have Ny717 := za.mk hy717
         clear hy717
         by_cases c30 : x710001_2.length < 17592186044416
         ·rw [if_pos c30] at H
          have LMc30 := za.mk c30
          clear c30
          obtain ⟨y720, hy720⟩ : ∃ y_ : List Int, y_ = (x710001_2 ++ [(-1)]) := ⟨_, rfl⟩
          replace H : (zw.l0 k2 l1 l3 y717 t713 (wrap64 (x12_2 + 1)) y720) = some (r1, r2) := by first | (rw [hy720]; with_reducible exact H) | (have H2_ := (Option.bind_some _ _).symm.trans H; rw [hy720]; with_reducible exact H2_) | (have H2_ := (Option.bind_some _ _).symm.trans H; with_reducible exact H2_) | with_reducible exact H | (rw [hy720]; exact H) | exact H
          have Ny720 := za.mk hy720
          clear hy720
          have H' := za.mk H
          clear H
          have p716 : 0 ≤ (x12_2 : Int) := of_decide_eq_true Zas
          have q716 : x12_2 < (l1.length : Int) := of_decide_eq_true Zas
          obtain ⟨ad716, e716, hx716_0, hx716_1, hx716_2, hx716_3⟩ := zc9 HR1.out x12_2 p716 q716
          cases e716
          replace hx716_0 := (HB.out.cell (World.block_lt_of_cell? w _ hx716_0)).trans hx716_0
          replace hx716_1 := (HB.out.cell (World.block_lt_of_cell? w _ hx716_1)).trans hx716_1
          replace hx716_2 := (HB.out.cell (World.block_lt_of_cell? w _ hx716_2)).trans hx716_2
          replace hx716_3 := (HB.out.cell (World.block_lt_of_cell? w _ hx716_3)).trans hx716_3
          replace p716 := eq_true p716
          replace q716 := eq_true q716
          go_wp2_with (first | ((with_reducible refine zcq (b := .append) (xs := #[.tmp 36, .tmp 42]) rfl ?_); at_builtin; refine Kd.zdg (Kd.int .i64) (w0 := w) w.heap.size rfl (.tmp 36) (.tmp 42) 27 3 (.int .i64 0) 8 rfl Try.underlying27 info3 rfl (by decide) (by omega) u10 x10_2 ((ze l1 x12_2).f3) [.int .i64 ((ze l1 x12_2).f3)] (fun k_ => some k_ ≠ (v714 : Value).ownBlock ∧ some k_ ≠ (u710001 : Value).ownBlock) (fun _ => False) rfl rfl ?aP (fun _ hk => hk.elim) ?aF ?aO ?aB ?aS ?aL ?_; (case aP => exact rfl); (case aB => exact (Zq15 HB.out GE705.out GE706.out GE709.out)); (case aF => exact (fun k_ hk => ⟨Kd.fresh' (Kd.R_lt (Zq12 HO_11.out)) k_ hk, Kd.fresh' (Kd.R_lt (Zq12 HO_710001.out)) k_ hk⟩)); (case aO => exact (Zq12 HO_10.out)); (case aS => exact (zbb (Zq15 HB.out GE705.out GE706.out GE709.out))); (case aL => have := LMc29.out; omega); intro v718 w31 ho hb hg hat; rw [← Ny717.out] at ho; have n0_ := za.mk (Kd.zc2 (ok := (fun k_ => some k_ ≠ (u710001 : Value).ownBlock)) (by (with_reducible repeat (first | apply Kd.zbi | apply Kd.zbh | apply Kd.zbj)); exact Kd.zy HO_11.out (fun _ hk => ⟨hk.2, hk.1⟩)) hg hat); have n1_ := za.mk (Kd.zc2 (ok := (fun k_ => some k_ ≠ (v714 : Value).ownBlock)) (by (with_reducible repeat (first | apply Kd.zbi | apply Kd.zbh | apply Kd.zbj)); exact Kd.zy HO_710001.out (fun _ hk => ⟨hk.2, hk.1⟩)) hg hat); have n2_ := za.mk (zbr (g := gb705) (o := .cells #[.int .i64 a2_0, .int .i64 a2_1] 51 (0, 0)) (Zq4 BK705.out) hg (Kd.R_ne HO_10.out BK705.out (by decide))); have n3_ := za.mk (zbr (g := gb706) (o := .cells #[.slice none 0 0, .slice none 0 0] 29 (0, 0)) (Zq4 BK706.out) hg (Kd.R_ne HO_10.out BK706.out (by decide))); have n4_ := za.mk (zbr (g := gb709) (o := .cells #[.slice none 0 0, u710001] 29 (0, 0)) (Zq4 BK709.out) hg (Kd.R_ne HO_10.out BK709.out (by decide))); have n5_ := za.mk (hb); have n6_ := za.mk (ho); clear HO_11; clear HO_710001; clear BK705; clear BK706; clear BK709; clear HB; clear HO_10; have HO_11 := n0_; have HO_710001 := n1_; have BK705 := n2_; have BK706 := n3_; have BK709 := n4_; have HB := n5_; have HO719 := n6_; clear n0_ n1_ n2_ n3_ n4_ n5_ n6_; clear ho hb hg hat; have hnb32 := NB709_705.out; have hnc32 := NB705_709.out; have hnb33 := NB709_706.out; have hnc33 := NB706_709.out; have hcz34_0 : w31.cell? ⟨gb709, 0, none⟩ = some (.slice none 0 0) := (zh BK709.out 0).trans rfl; have hcz34_1 : w31.cell? ⟨gb709, 1, none⟩ = some (u710001) := (zh BK709.out 1).trans rfl; have hfz34_0 := zg BK709.out 0; have hfz34_1 := zg BK709.out 1) | ((with_reducible refine zcq (b := .append) (xs := #[.tmp 45, .tmp 46]) rfl ?_); at_builtin; refine Kd.zdg (Kd.int .i64) (w0 := w) w.heap.size rfl (.tmp 45) (.tmp 46) 27 3 (.int .i64 0) 8 rfl Try.underlying27 info3 rfl (by decide) (by omega) u710001 x710001_2 (-1) [.int .i64 (-1)] (fun k_ => some k_ ≠ (v714 : Value).ownBlock ∧ some k_ ≠ (v718 : Value).ownBlock) (fun _ => False) rfl rfl ?aP (fun _ hk => hk.elim) ?aF ?aO ?aB ?aS ?aL ?_; (case aP => exact rfl); (case aB => exact (Zq15 HB.out GE705.out GE706.out GE709.out)); (case aF => exact (fun k_ hk => ⟨Kd.fresh' (Kd.R_lt (Zq12 HO_11.out)) k_ hk, Kd.fresh' (Kd.R_lt (Zq12 HO719.out)) k_ hk⟩)); (case aO => exact (Zq12 HO_710001.out)); (case aS => exact (zbb (Zq15 HB.out GE705.out GE706.out GE709.out))); (case aL => have := LMc30.out; omega); intro v721 w35 ho hb hg hat; rw [← Ny720.out] at ho; have n0_ := za.mk (Kd.zc2 (ok := (fun k_ => some k_ ≠ (v718 : Value).ownBlock)) (by (with_reducible repeat (first | apply Kd.zbi | apply Kd.zbh | apply Kd.zbj)); exact Kd.zy HO_11.out (fun _ hk => ⟨hk.2, hk.1⟩)) hg hat); have n1_ := za.mk (zbr (g := gb705) (o := .cells #[.int .i64 a2_0, .int .i64 a2_1] 51 (0, 0)) (Zq4 BK705.out) hg (Kd.R_ne HO_710001.out BK705.out (by decide))); have n2_ := za.mk (zbr (g := gb706) (o := .cells #[.slice none 0 0, .slice none 0 0] 29 (0, 0)) (Zq4 BK706.out) hg (Kd.R_ne HO_710001.out BK706.out (by decide))); have n3_ := za.mk (zbr (g := gb709) (o := .cells #[.slice none 0 0, u710001] 29 (0, 0)) (Zq4 BK709.out) hg (Kd.R_ne HO_710001.out BK709.out (by decide))); have n4_ := za.mk (Kd.zc2 (ok := (fun k_ => some k_ ≠ (v714 : Value).ownBlock)) (Zq12 HO719.out) hg hat); have n5_ := za.mk (hb); have n6_ := za.mk (ho); clear HO_11; clear BK705; clear BK706; clear BK709; clear HO719; clear HB; clear HO_710001; have HO_11 := n0_; have BK705 := n1_; have BK706 := n2_; have BK709 := n3_; have HO719 := n4_; have HB := n5_; have HO722 := n6_; clear n0_ n1_ n2_ n3_ n4_ n5_ n6_; clear ho hb hg hat; obtain ⟨Ao36, co36, eo36⟩ := Kd.zbs HO722.out; subst eo36; have hcz37_0 : w35.cell? ⟨gb709, 0, none⟩ = some (.slice none 0 0) := (zh BK709.out 0).trans rfl; have hcz37_1 : w35.cell? ⟨gb709, 1, none⟩ = some (u710001) := (zh BK709.out 1).trans rfl; have hfz37_0 := zg BK709.out 0; have hfz37_1 := zg BK709.out 1))
          go_roundg k2
          case measure => have := HJ4.out; have := HK2.out; omega
          case rel => exact ⟨(y717), (wrap64 (x12_2 + 1)), (y720), (.slice Ao36 y720.length co36), Zrs, H', ⟨by have := HJ4.out; have := HK2.out; omega⟩, ⟨by (with_reducible repeat (first | apply Kd.zbi | apply Kd.zbh | apply Kd.zbj)); exact Kd.zy (Kd.zb9 (p := ⟨gb709, 1, none⟩) (Kd.zb5 HO719.out BK709.out (by decide)) (fun _ hk => hk.2) (.slice Ao36 y720.length co36)) (fun _ hk => ⟨hk.1.1, hk.1.2⟩)⟩, ⟨by (with_reducible repeat (first | apply Kd.zbi | apply Kd.zbh | apply Kd.zbj)); exact Kd.zy (Kd.zb9 (p := ⟨gb709, 1, none⟩) (Kd.zb5 HO_11.out BK709.out (by decide)) (fun _ hk => hk.2) (.slice Ao36 y720.length co36)) (fun _ hk => ⟨hk.1.1, hk.1.2⟩)⟩, ⟨by (with_reducible repeat (first | apply Kd.zbi | apply Kd.zbh | apply Kd.zbj)); exact Kd.zy (Kd.zb9 (p := ⟨gb709, 1, none⟩) (Kd.zb5 HO722.out BK709.out (by decide)) (fun _ hk => hk.2) (.slice Ao36 y720.length co36)) (fun _ hk => ⟨hk.1.2, hk.1.1⟩)⟩, ⟨by (with_reducible repeat (first | refine zn ?_ _ | refine zt ?_ | refine zm ?_ _)); refine zcl ?_ NB705_709.out _; (with_reducible repeat (first | refine zn ?_ _ | refine zt ?_ | refine zm ?_ _)); exact BK705.out⟩, ⟨by (with_reducible repeat (first | refine zn ?_ _ | refine zt ?_ | refine zm ?_ _)); refine zcl ?_ NB706_709.out _; (with_reducible repeat (first | refine zn ?_ _ | refine zt ?_ | refine zm ?_ _)); exact BK706.out⟩, ⟨by (with_reducible repeat (first | refine zn ?_ _ | refine zt ?_ | refine zm ?_ _)); refine zbu (cs := #[.slice none 0 0, u710001]) ?_ 1 _ rfl; (with_reducible repeat (first | refine zn ?_ _ | refine zt ?_ | refine zm ?_ _)); exact BK709.out⟩, ⟨Zq15 HB.out GE705.out GE706.out GE709.out⟩⟩
         ·rw [if_neg c30] at H
          exact absurd H (by simp)
        ·rw [if_neg c29] at H
         exact absurd H (by simp)
       ·rw [if_neg c28] at H
        exact absurd H (by simp)
      ·rw [if_neg c27] at H
       have c27b0 : decide (x12_2 < (l1.length : Int)) = false := decide_eq_false c27
       clear c27
       have H' := za.mk H
       clear H
       go_wp2
       go_loopg [13] k2 (fun kq v13 w' => ∃ (x10_3 : List Int) (x11_3 : List Int) (x13_3 : Int) (x710000_3 : List Int) (x710001_3 : List Int) (u710000 : Value) (u710001 : Value), v13 = .int .i64 x13_3 ∧ za (zw.l1 kq l1 l3 x10_3 x11_3 x13_3 x710000_3 x710001_3 = some (r1, r2)) ∧ za (kq ≤ k2) ∧ za (Kd.R (Kd.int .i64) 3 w' w.heap.size (fun k_ => some k_ ≠ (v714 : Value).ownBlock ∧ some k_ ≠ (u710000 : Value).ownBlock ∧ some k_ ≠ (u710001 : Value).ownBlock) u10 x10_3) ∧ za (Kd.R (Kd.int .i64) 3 w' w.heap.size (fun k_ => some k_ ≠ (u10 : Value).ownBlock ∧ some k_ ≠ (u710000 : Value).ownBlock ∧ some k_ ≠ (u710001 : Value).ownBlock) v714 x11_3) ∧ za (Kd.R (Kd.int .i64) 3 w' w.heap.size (fun k_ => some k_ ≠ (u10 : Value).ownBlock ∧ some k_ ≠ (v714 : Value).ownBlock ∧ some k_ ≠ (u710001 : Value).ownBlock) u710000 x710000_3) ∧ za (Kd.R (Kd.int .i64) 3 w' w.heap.size (fun k_ => some k_ ≠ (u10 : Value).ownBlock ∧ some k_ ≠ (v714 : Value).ownBlock ∧ some k_ ≠ (u710000 : Value).ownBlock) u710001 x710001_3) ∧ za (w'.heap[gb705]? = some (.cells #[.int .i64 a2_0, .int .i64 a2_1] 51 (0, 0))) ∧ za (w'.heap[gb706]? = some (.cells #[(.slice none 0 0), (.slice none 0 0)] 29 (0, 0))) ∧ za (w'.heap[gb709]? = some (.cells #[u710000, u710001] 29 (0, 0))) ∧ za (Below w.heap.size w w'))
       case atStart => exact ⟨(x10_2), (t713), (0), (([] : List Int)), (x710001_2), (.slice none 0 0), (u710001), Zrs, H', ⟨Nat.le_refl _⟩, ⟨by (with_reducible repeat (first | apply Kd.zbi | apply Kd.zbh | apply Kd.zbj)); exact Kd.zy HO_10.out (fun _ hk => ⟨hk.1, ⟨(by simp [Value.ownBlock]), hk.2⟩⟩)⟩, ⟨by (with_reducible repeat (first | apply Kd.zbi | apply Kd.zbh | apply Kd.zbj)); exact Kd.zy HO_11.out (fun _ hk => ⟨hk.1, ⟨(by simp [Value.ownBlock]), hk.2⟩⟩)⟩, ⟨by first | exact Kd.R_nil _ _ _ _ _ | exact Kd.N_nil _ _ _ _ _ | exact Kd.V_nil _ _ _ _ _ | exact Kd.Q_nil _ _ _ _ _ | exact Kd.S_nil _ _ _ _ _⟩, ⟨by (with_reducible repeat (first | apply Kd.zbi | apply Kd.zbh | apply Kd.zbj)); exact Kd.zy HO_710001.out (fun _ hk => ⟨hk.1, ⟨hk.2, (by simp [Value.ownBlock])⟩⟩)⟩, ⟨Zq4 BK705.out⟩, ⟨Zq4 BK706.out⟩, ⟨Zq4 BK709.out⟩, ⟨Zq15 HB.out GE705.out GE706.out GE709.out⟩⟩
       case round =>
        clear H'
        try clear c1
        try clear c2
        try clear p2
        try clear c3
        try clear c5
        try clear p6
        try clear p7
        try clear q7
        try clear hx7
        try clear c9
        try clear c12
        try clear c16
        try clear c17
        try clear c21
        try clear c22
        try clear c27
        try clear c27b0
        try clear c28
        try clear c28b0
        try clear c29
        try clear c30
        try clear c32
        try clear c33
        try clear hcz13_0
        try clear hcz13_1
        try clear hcz18_0
        try clear hcz18_1
        try clear hcz23_0
        try clear hcz23_1
        try clear hcz34_0
        try clear hcz34_1
        try clear hcz37_0
        try clear hcz37_1
        try clear hfz13_0
        try clear hfz13_1
        try clear hfz18_0
        try clear hfz18_1
        try clear hfz23_0
        try clear hfz23_1
        try clear hfz34_0
        try clear hfz34_1
        try clear hfz37_0
        try clear hfz37_1
        try clear hx716_0
        try clear hx716_1
        try clear hx716_2
        try clear hx716_3
        try clear p2
        try clear p716
        try clear q716
        obtain ⟨x10_3, x11_3, x13_3, x710000_3, x710001_3, u710000, u710001, rfl, HA, HK3, HO_10, HO_11, HO_710000, HO_710001, BK705, BK706, BK709, HB⟩ := hrel
        cases gk with
        | zero => exact absurd HA.out (by simp [zw.l1])
        | succ k3 =>
         have H := HA.out
         clear HA
         simp only [zw.l1] at H
         by_cases c38 : x13_3 < 120
         ·rw [if_pos c38] at H
          have c38b0 : decide (x13_3 < 120) = true := decide_eq_true c38
          clear c38
          by_cases c39 : 0 ≤ x13_3
          ·rw [if_pos c39] at H
           have c39b0 : decide (0 ≤ x13_3) = true := decide_eq_true c39
           clear c39
           by_cases c40 : x13_3 < (l3.length : Int)
           ·rw [if_pos c40] at H
            have c40b0 : decide (x13_3 < (l3.length : Int)) = true := decide_eq_true c40
            clear c40
            have HC41 := za.mk H
            clear H
            have p723 : 0 ≤ (x13_3 : Int) := of_decide_eq_true Zas
            have q723 : x13_3 < (l3.length : Int) := of_decide_eq_true Zas
            obtain ⟨ad723, e723, hx723_0⟩ := Kd.at_bool HR3.out x13_3 p723 q723
            cases e723
            replace hx723_0 := (HB.out.cell (World.block_lt_of_cell? w _ hx723_0)).trans hx723_0
            replace p723 := eq_true p723
            replace q723 := eq_true q723
            go_upto_if 56 with (fail)
            go_cut [14] (fun v14 wc => ∃ (kq : Nat) (x14_40 : Int), v14 = .int .i64 x14_40 ∧ za (zw.j3 kq l1 l3 x10_3 x11_3 x13_3 x14_40 x710000_3 x710001_3 = some (r1, r2)) ∧ za (kq ≤ k3) ∧ za (Kd.R (Kd.int .i64) 3 wc w.heap.size (fun k_ => some k_ ≠ (v714 : Value).ownBlock ∧ some k_ ≠ (u710000 : Value).ownBlock ∧ some k_ ≠ (u710001 : Value).ownBlock) u10 x10_3) ∧ za (Kd.R (Kd.int .i64) 3 wc w.heap.size (fun k_ => some k_ ≠ (u10 : Value).ownBlock ∧ some k_ ≠ (u710000 : Value).ownBlock ∧ some k_ ≠ (u710001 : Value).ownBlock) v714 x11_3) ∧ za (Kd.R (Kd.int .i64) 3 wc w.heap.size (fun k_ => some k_ ≠ (u10 : Value).ownBlock ∧ some k_ ≠ (v714 : Value).ownBlock ∧ some k_ ≠ (u710001 : Value).ownBlock) u710000 x710000_3) ∧ za (Kd.R (Kd.int .i64) 3 wc w.heap.size (fun k_ => some k_ ≠ (u10 : Value).ownBlock ∧ some k_ ≠ (v714 : Value).ownBlock ∧ some k_ ≠ (u710000 : Value).ownBlock) u710001 x710001_3) ∧ za (wc.heap[gb705]? = some (.cells #[.int .i64 a2_0, .int .i64 a2_1] 51 (0, 0))) ∧ za (wc.heap[gb706]? = some (.cells #[(.slice none 0 0), (.slice none 0 0)] 29 (0, 0))) ∧ za (wc.heap[gb709]? = some (.cells #[u710000, u710001] 29 (0, 0))) ∧ za (Below w.heap.size w wc))
            case first =>
             have H := HC41.out
             clear HC41
             obtain ⟨bq42, hbq42⟩ : ∃ b_ : Bool, b_ = (rdOf false l3 x13_3) := ⟨_, rfl⟩
             replace H : (if bq42 = true then ((zci.f k3 l1 x10_3 x11_3 x13_3).bind fun t724 => (zw.j3 k3 l1 l3 x10_3 x11_3 x13_3 t724 x710000_3 x710001_3)) else (zw.j3 k3 l1 l3 x10_3 x11_3 x13_3 (-1) x710000_3 x710001_3)) = some (r1, r2) := by rw [← hbq42] at H; exact H
             have Nbq42 := za.mk hbq42
             clear hbq42
             (try rw [← Nbq42.out])
             by_cases c43 : bq42 = true
             ·subst c43
              have H1 : ((zci.f k3 l1 x10_3 x11_3 x13_3).bind fun t724 => (zw.j3 k3 l1 l3 x10_3 x11_3 x13_3 t724 x710000_3 x710001_3)) = some (r1, r2) := by rw [if_pos rfl] at H; exact H
              clear H
              have H := H1
              clear H1
              replace H := Option.bind_eq_some_iff.mp H
              obtain ⟨t724, A440, H⟩ := H
              replace H : (zw.j3 k3 l1 l3 x10_3 x11_3 x13_3 t724 x710000_3 x710001_3) = some (r1, r2) := H
              have A44 := za.mk A440
              clear A440
              have H' := za.mk H
              clear H
              obtain ⟨Ao45, co45, eo45⟩ := Kd.zbs HO_10.out
              subst eo45
              obtain ⟨Ao46, co46, eo46⟩ := Kd.zbs HO_11.out
              subst eo46
              go_wp2_with (first | ((with_reducible refine zba (f := 58) rfl ?_); refine zbv (some 61) rfl rfl Try.func58 (by kernel_rfl) rfl #[.slice A1 l1.length c1, .slice Ao45 x10_3.length co45, .slice Ao46 x11_3.length co46, .int .i64 x13_3] rfl Zmt ?_; (with_reducible refine (zci.calls k3 _ _ l1 _ _ x10_3 _ _ x11_3 x13_3 t724 _ ?side1 ?side2 ?side3 ?side4 ?side5 ?side6 A44.out).mono ?_); (case side1 => exact Zq6 (Kd.zb8 HR1.out HB.out)); (case side2 => exact HC1.out); (case side3 => exact Zq6 ((Kd.zbe HO_10.out).2.2)); (case side4 => exact (Kd.zbe HO_10.out).2.1); (case side5 => exact Zq6 ((Kd.zbe HO_11.out).2.2)); (case side6 => exact (Kd.zbe HO_11.out).2.1); rintro e w' ⟨rfl, ⟨nd, rfl⟩⟩; refine ⟨_, rfl, ?_⟩))
              go_meet
              case rel => exact ⟨_, (t724), Zrs, H', ⟨by have := HJ4.out; have := HK2.out; have := HK3.out; first | omega | exact Nat.le_refl _⟩, ⟨Zq12 HO_10.out⟩, ⟨Zq12 HO_11.out⟩, ⟨Zq12 HO_710000.out⟩, ⟨Zq12 HO_710001.out⟩, ⟨Zq4 BK705.out⟩, ⟨Zq4 BK706.out⟩, ⟨Zq4 BK709.out⟩, ⟨Zq15 HB.out GE705.out GE706.out GE709.out⟩⟩
             ·replace c43 := Bool.eq_false_iff.mpr c43
              subst c43
              have H1 : (zw.j3 k3 l1 l3 x10_3 x11_3 x13_3 (-1) x710000_3 x710001_3) = some (r1, r2) := by rw [if_neg (show ¬ (false = true) by decide)] at H; exact H
              clear H
              have H := H1
              clear H1
              have H' := za.mk H
              clear H
              go_wp2
              go_meet
              case rel => exact ⟨_, ((-1)), Zrs, H', ⟨by have := HJ4.out; have := HK2.out; have := HK3.out; first | omega | exact Nat.le_refl _⟩, ⟨Zq12 HO_10.out⟩, ⟨Zq12 HO_11.out⟩, ⟨Zq12 HO_710000.out⟩, ⟨Zq12 HO_710001.out⟩, ⟨Zq4 BK705.out⟩, ⟨Zq4 BK706.out⟩, ⟨Zq4 BK709.out⟩, ⟨Zq15 HB.out GE705.out GE706.out GE709.out⟩⟩
            case rest =>
             clear HC41
             try clear c1
             try clear c2
             try clear p2
             try clear c3
             try clear c4
             try clear q4
             try clear c5
             try clear p6
             try clear p7
             try clear q7
             try clear hx7
             try clear c9
             try clear c12
             try clear c16
             try clear c17
             try clear c21
             try clear c22
             try clear c27
             try clear c27b0
             try clear c28
             try clear c28b0
             try clear c29
             try clear c30
             try clear c32
             try clear c33
             try clear c38
             try clear c38b0
             try clear c39
             try clear c39b0
             try clear c40
             try clear c40b0
             try clear q42
             try clear c43
             try clear hcz13_0
             try clear hcz13_1
             try clear hcz18_0
             try clear hcz18_1
             try clear hcz23_0
             try clear hcz23_1
             try clear hcz34_0
             try clear hcz34_1
             try clear hcz37_0
             try clear hcz37_1
             try clear hfz13_0
             try clear hfz13_1
             try clear hfz18_0
             try clear hfz18_1
             try clear hfz23_0
             try clear hfz23_1
             try clear hfz34_0
             try clear hfz34_1
             try clear hfz37_0
             try clear hfz37_1
             try clear hx716_0
             try clear hx716_1
             try clear hx716_2
             try clear hx716_3
             try clear hx723_0
             try clear p2
             try clear p6
             try clear p7
             try clear p716
             try clear p723
             try clear q7
             try clear q716
             try clear q723
             obtain ⟨kq, x14_40, rfl, HA, HJ40, HO_10, HO_11, HO_710000, HO_710001, BK705, BK706, BK709, HB⟩ := hcut
             cases kq with
             | zero => exact absurd HA.out (by simp [zw.j3])
             | succ kj40 =>
              have H := HA.out
              clear HA
              simp only [zw.j3] at H
              by_cases c47 : x710000_3.length < 17592186044416
              ·rw [if_pos c47] at H
               have LMc47 := za.mk c47
               clear c47
               obtain ⟨y725, hy725⟩ : ∃ y_ : List Int, y_ = (x710000_3 ++ [x14_40]) := ⟨_, rfl⟩
               replace H : (if x14_40 ≥ 0 then (if 0 ≤ x14_40 then (if x14_40 < (x10_3.length : Int) then ((some (x10_3.set (x14_40 : Int).toNat (wrap64 ((rd x10_3 x14_40) - 1)) : List Int)).bind fun y729 => (if (rd y729 x14_40) = 0 then (if x14_40 < (x710001_3.length : Int) then (zw.l1 kj40 l1 l3 y729 x11_3 (wrap64 (x13_3 + 1)) y725 (x710001_3.set (x14_40 : Int).toNat (wrap64 (x13_3 + 1)))) else (none)) else (zw.l1 kj40 l1 l3 y729 x11_3 (wrap64 (x13_3 + 1)) y725 x710001_3))) else (none)) else (none)) else (zw.l1 kj40 l1 l3 x10_3 x11_3 (wrap64 (x13_3 + 1)) y725 x710001_3)) = some (r1, r2) := by first | (rw [hy725]; with_reducible exact H) | (have H2_ := (Option.bind_some _ _).symm.trans H; rw [hy725]; with_reducible exact H2_) | (have H2_ := (Option.bind_some _ _).symm.trans H; with_reducible exact H2_) | with_reducible exact H | (rw [hy725]; exact H) | exact H
               have Ny725 := za.mk hy725
               clear hy725
               by_cases c48 : x14_40 ≥ 0
               ·rw [if_pos c48] at H
                have c48b0 : decide (0 ≤ x14_40) = true := decide_eq_true c48
                clear c48
                by_cases c49 : 0 ≤ x14_40
                ·rw [if_pos c49] at H
                 have c49b0 : decide (0 ≤ x14_40) = true := decide_eq_true c49
                 clear c49
                 by_cases c50 : x14_40 < (x10_3.length : Int)
                 ·rw [if_pos c50] at H
                  have c50b0 : decide (x14_40 < (x10_3.length : Int)) = true := decide_eq_true c50
                  clear c50
                  obtain ⟨y729, hy729⟩ : ∃ y_ : List Int, y_ = (x10_3.set (x14_40 : Int).toNat (wrap64 ((rd x10_3 x14_40) - 1))) := ⟨_, rfl⟩
                  replace H : (if (rd y729 x14_40) = 0 then (if x14_40 < (x710001_3.length : Int) then (zw.l1 kj40 l1 l3 y729 x11_3 (wrap64 (x13_3 + 1)) y725 (x710001_3.set (x14_40 : Int).toNat (wrap64 (x13_3 + 1)))) else (none)) else (zw.l1 kj40 l1 l3 y729 x11_3 (wrap64 (x13_3 + 1)) y725 x710001_3)) = some (r1, r2) := by first | (rw [hy729]; with_reducible exact H) | (have H2_ := (Option.bind_some _ _).symm.trans H; rw [hy729]; with_reducible exact H2_) | (have H2_ := (Option.bind_some _ _).symm.trans H; with_reducible exact H2_) | with_reducible exact H | (rw [hy729]; exact H) | exact H
                  have Ny729 := za.mk hy729
                  clear hy729
                  by_cases c52 : (rd y729 x14_40) = 0
                  ·rw [if_pos c52] at H
                   have c52b0 : ((rd y729 x14_40) == 0) = true := beq_iff_eq.mpr c52
                   have c52b1 : ((rd y729 x14_40) != 0) = false := bne_eq_false_iff_eq.mpr c52
                   clear c52
                   by_cases c53 : x14_40 < (x710001_3.length : Int)
                   ·rw [if_pos c53] at H
                    have c53b0 : decide (x14_40 < (x710001_3.length : Int)) = true := decide_eq_true c53
                    clear c53
                    obtain ⟨y731, hy731⟩ : ∃ y_ : List Int, y_ = (x710001_3.set (x14_40 : Int).toNat (wrap64 (x13_3 + 1))) := ⟨_, rfl⟩
                    replace H : (zw.l1 kj40 l1 l3 y729 x11_3 (wrap64 (x13_3 + 1)) y725 y731) = some (r1, r2) := by first | (rw [hy731]; with_reducible exact H) | (have H2_ := (Option.bind_some _ _).symm.trans H; rw [hy731]; with_reducible exact H2_) | (have H2_ := (Option.bind_some _ _).symm.trans H; with_reducible exact H2_) | with_reducible exact H | (rw [hy731]; exact H) | exact H
                    have Ny731 := za.mk hy731
                    clear hy731
                    have H' := za.mk H
                    clear H
                    have hnb55 := NB709_705.out
                    have hnc55 := NB705_709.out
                    have hnb56 := NB709_706.out
                    have hnc56 := NB706_709.out
                    have hcz57_0 : wc.cell? ⟨gb709, 0, none⟩ = some (u710000) := (zh BK709.out 0).trans rfl
                    have hcz57_1 : wc.cell? ⟨gb709, 1, none⟩ = some (u710001) := (zh BK709.out 1).trans rfl
                    have hfz57_0 := zg BK709.out 0
                    have hfz57_1 := zg BK709.out 1
                    go_wp2_with (first | ((with_reducible refine zcq (b := .append) (xs := #[.tmp 63, .tmp 65]) rfl ?_); at_builtin; refine Kd.zdg (Kd.int .i64) (w0 := w) w.heap.size rfl (.tmp 63) (.tmp 65) 27 3 (.int .i64 0) 8 rfl Try.underlying27 info3 rfl (by decide) (by omega) u710000 x710000_3 x14_40 [.int .i64 x14_40] (fun k_ => some k_ ≠ (u10 : Value).ownBlock ∧ some k_ ≠ (v714 : Value).ownBlock ∧ some k_ ≠ (u710001 : Value).ownBlock) (fun _ => False) rfl rfl ?aP (fun _ hk => hk.elim) ?aF ?aO ?aB ?aS ?aL ?_; (case aP => exact rfl); (case aB => exact (Zq15 HB.out GE705.out GE706.out GE709.out)); (case aF => exact (fun k_ hk => ⟨Kd.fresh' (Kd.R_lt (Zq12 HO_10.out)) k_ hk, Kd.fresh' (Kd.R_lt (Zq12 HO_11.out)) k_ hk, Kd.fresh' (Kd.R_lt (Zq12 HO_710001.out)) k_ hk⟩)); (case aO => exact (Zq12 HO_710000.out)); (case aS => exact (zbb (Zq15 HB.out GE705.out GE706.out GE709.out))); (case aL => have := LMc47.out; omega); intro v726 w58 ho hb hg hat; rw [← Ny725.out] at ho; have n0_ := za.mk (Kd.zc2 (ok := (fun k_ => some k_ ≠ (v714 : Value).ownBlock ∧ some k_ ≠ (u710001 : Value).ownBlock)) (by (with_reducible repeat (first | apply Kd.zbi | apply Kd.zbh | apply Kd.zbj)); exact Kd.zy HO_10.out (fun _ hk => ⟨⟨hk.1, hk.2.2⟩, hk.2.1⟩)) hg hat); have n1_ := za.mk (Kd.zc2 (ok := (fun k_ => some k_ ≠ (u10 : Value).ownBlock ∧ some k_ ≠ (u710001 : Value).ownBlock)) (by (with_reducible repeat (first | apply Kd.zbi | apply Kd.zbh | apply Kd.zbj)); exact Kd.zy HO_11.out (fun _ hk => ⟨⟨hk.1, hk.2.2⟩, hk.2.1⟩)) hg hat); have n2_ := za.mk (Kd.zc2 (ok := (fun k_ => some k_ ≠ (u10 : Value).ownBlock ∧ some k_ ≠ (v714 : Value).ownBlock)) (by (with_reducible repeat (first | apply Kd.zbi | apply Kd.zbh | apply Kd.zbj)); exact Kd.zy HO_710001.out (fun _ hk => ⟨⟨hk.1, hk.2.1⟩, hk.2.2⟩)) hg hat); have n3_ := za.mk (zbr (g := gb705) (o := .cells #[.int .i64 a2_0, .int .i64 a2_1] 51 (0, 0)) (Zq4 BK705.out) hg (Kd.R_ne HO_710000.out BK705.out (by decide))); have n4_ := za.mk (zbr (g := gb706) (o := .cells #[.slice none 0 0, .slice none 0 0] 29 (0, 0)) (Zq4 BK706.out) hg (Kd.R_ne HO_710000.out BK706.out (by decide))); have n5_ := za.mk (zbr (g := gb709) (o := .cells #[u710000, u710001] 29 (0, 0)) (Zq4 BK709.out) hg (Kd.R_ne HO_710000.out BK709.out (by decide))); have n6_ := za.mk (hb); have n7_ := za.mk (ho); clear HO_10; clear HO_11; clear HO_710001; clear BK705; clear BK706; clear BK709; clear HB; clear HO_710000; have HO_10 := n0_; have HO_11 := n1_; have HO_710001 := n2_; have BK705 := n3_; have BK706 := n4_; have BK709 := n5_; have HB := n6_; have HO727 := n7_; clear n0_ n1_ n2_ n3_ n4_ n5_ n6_ n7_; clear ho hb hg hat; obtain ⟨Ao59, co59, eo59⟩ := Kd.zbs HO727.out; subst eo59; have hcz60_0 : w58.cell? ⟨gb709, 0, none⟩ = some (u710000) := (zh BK709.out 0).trans rfl; have hcz60_1 : w58.cell? ⟨gb709, 1, none⟩ = some (u710001) := (zh BK709.out 1).trans rfl; have hfz60_0 := zg BK709.out 0; have hfz60_1 := zg BK709.out 1) | ((with_reducible refine zcf (t := 27) (p := 67) rfl ?_); refine zcc (t := 27) (p := 67) (v := ?vo_w61) (w1 := (w58.setCell ⟨gb709, 0, none⟩ (.slice Ao59 y725.length co59))) ?hg ?ho ?hn ?hr ?_; (case ho => rfl); (case hg => rfl); (case hn => rfl); (case hr => first | (go_simp; done) | (go_simp; rfl)); intro w61 hw; have n0_ : za (Kd.R (Kd.int .i64) 3 w61 w.heap.size (fun k_ => some k_ ≠ (v714 : Value).ownBlock ∧ some k_ ≠ (u710001 : Value).ownBlock ∧ some k_ ≠ (.slice Ao59 y725.length co59 : Value).ownBlock) u10 x10_3) := ⟨(by rw [hw]; exact (by (with_reducible repeat (first | apply Kd.zbi | apply Kd.zbh | apply Kd.zbj)); exact Kd.zy (Kd.zb9 (p := ⟨gb709, 0, none⟩) (Kd.zb5 HO_10.out BK709.out (by decide)) (fun _ hk => hk.2) (.slice Ao59 y725.length co59)) (fun _ hk => ⟨hk.1.1.1, ⟨hk.1.1.2, hk.1.2⟩⟩)))⟩; have n1_ : za (Kd.R (Kd.int .i64) 3 w61 w.heap.size (fun k_ => some k_ ≠ (u10 : Value).ownBlock ∧ some k_ ≠ (u710001 : Value).ownBlock ∧ some k_ ≠ (.slice Ao59 y725.length co59 : Value).ownBlock) v714 x11_3) := ⟨(by rw [hw]; exact (by (with_reducible repeat (first | apply Kd.zbi | apply Kd.zbh | apply Kd.zbj)); exact Kd.zy (Kd.zb9 (p := ⟨gb709, 0, none⟩) (Kd.zb5 HO_11.out BK709.out (by decide)) (fun _ hk => hk.2) (.slice Ao59 y725.length co59)) (fun _ hk => ⟨hk.1.1.1, ⟨hk.1.1.2, hk.1.2⟩⟩)))⟩; have n2_ : za (Kd.R (Kd.int .i64) 3 w61 w.heap.size (fun k_ => some k_ ≠ (u10 : Value).ownBlock ∧ some k_ ≠ (v714 : Value).ownBlock ∧ some k_ ≠ (.slice Ao59 y725.length co59 : Value).ownBlock) u710001 x710001_3) := ⟨(by rw [hw]; exact (by (with_reducible repeat (first | apply Kd.zbi | apply Kd.zbh | apply Kd.zbj)); exact Kd.zy (Kd.zb9 (p := ⟨gb709, 0, none⟩) (Kd.zb5 HO_710001.out BK709.out (by decide)) (fun _ hk => hk.2) (.slice Ao59 y725.length co59)) (fun _ hk => ⟨hk.1.1.1, ⟨hk.1.1.2, hk.1.2⟩⟩)))⟩; have n3_ : za (Kd.R (Kd.int .i64) 3 w61 w.heap.size (fun k_ => some k_ ≠ (u10 : Value).ownBlock ∧ some k_ ≠ (v714 : Value).ownBlock ∧ some k_ ≠ (u710001 : Value).ownBlock) (.slice Ao59 y725.length co59) y725) := ⟨(by rw [hw]; exact (by (with_reducible repeat (first | apply Kd.zbi | apply Kd.zbh | apply Kd.zbj)); exact Kd.zy (Kd.zb9 (p := ⟨gb709, 0, none⟩) (Kd.zb5 HO727.out BK709.out (by decide)) (fun _ hk => hk.2) (.slice Ao59 y725.length co59)) (fun _ hk => ⟨hk.1.1, ⟨hk.1.2.1, hk.1.2.2⟩⟩)))⟩; have n4_ : za (w61.heap[gb705]? = some (.cells #[.int .i64 a2_0, .int .i64 a2_1] 51 (0, 0))) := ⟨(by rw [hw]; exact (by (with_reducible repeat (first | refine zn ?_ _ | refine zt ?_ | refine zm ?_ _)); refine zcl ?_ NB705_709.out _; (with_reducible repeat (first | refine zn ?_ _ | refine zt ?_ | refine zm ?_ _)); exact BK705.out))⟩; have n5_ : za (w61.heap[gb706]? = some (.cells #[.slice none 0 0, .slice none 0 0] 29 (0, 0))) := ⟨(by rw [hw]; exact (by (with_reducible repeat (first | refine zn ?_ _ | refine zt ?_ | refine zm ?_ _)); refine zcl ?_ NB706_709.out _; (with_reducible repeat (first | refine zn ?_ _ | refine zt ?_ | refine zm ?_ _)); exact BK706.out))⟩; have n6_ : za (w61.heap[gb709]? = some (.cells #[.slice Ao59 y725.length co59, u710001] 29 (0, 0))) := ⟨(by rw [hw]; exact (by (with_reducible repeat (first | refine zn ?_ _ | refine zt ?_ | refine zm ?_ _)); refine zbu (cs := #[u710000, u710001]) ?_ 0 _ rfl; (with_reducible repeat (first | refine zn ?_ _ | refine zt ?_ | refine zm ?_ _)); exact BK709.out))⟩; have n7_ : za (Below w.heap.size w w61) := ⟨(by rw [hw]; exact (Zq15 HB.out GE705.out GE706.out GE709.out))⟩; clear hw; clear HO_10; clear HO_11; clear HO_710001; clear HO727; clear BK705; clear BK706; clear BK709; clear HB; have HO_10 := n0_; have HO_11 := n1_; have HO_710001 := n2_; have HO727 := n3_; have BK705 := n4_; have BK706 := n5_; have BK709 := n6_; have HB := n7_; clear n0_ n1_ n2_ n3_ n4_ n5_ n6_ n7_; obtain ⟨Ao62, co62, eo62⟩ := Kd.zbs HO_10.out; subst eo62; have p728 : 0 ≤ (x14_40 : Int) := of_decide_eq_true Zas; have q728 : x14_40 < (x10_3.length : Int) := of_decide_eq_true Zas; obtain ⟨ad728, e728, hx728_0⟩ := Kd.zcn (Kd.zbe HO_10.out).2.2 x14_40 p728 q728; cases e728; replace p728 := eq_true p728; replace q728 := eq_true q728; have p51 : 0 ≤ (x14_40 : Int) := of_decide_eq_true Zas; have q51 : (x14_40 : Int) < ((x10_3.length : Int) : Int) := of_decide_eq_true Zas; obtain ⟨go51, co51, eo51, gb51, gl51, cl51, HG51⟩ := Kd.zdo HO_10.out (by omega); (first | cases eo51 | (injection eo51 with ea_ en_ ec_; (first | subst ea_ | (injection ea_ with ea_; subst ea_)); subst ec_; clear en_)); have GB51 := za.mk gb51; have GG51 := za.mk HG51; clear gb51 gl51 HG51; (first | simp only [add_plain] at hx728_0 | skip); obtain ⟨hx51_0, hf51_0⟩ := Kd.zcw 0 HO_10.out (x14_40 : Int) p51 q51; replace p51 := eq_true p51; replace q51 := eq_true q51; obtain ⟨hy63_, hz63_⟩ := Kd.zcw 0 HO_10.out (x14_40 : Int) (of_decide_eq_true Zas) (of_decide_eq_true Zas); have HP63 := Kd.zc1 HO_10.out (x14_40 : Int) (wrap64 ((rd x10_3 x14_40) - 1))) | ((with_reducible refine zcf (t := 3) (p := 77) rfl ?_); refine zcc (t := 3) (p := 77) (v := ?vo_w64) (w1 := (w61.setCell ⟨go51, (x14_40 : Int).toNat, none⟩ (.int .i64 (wrap64 ((rd x10_3 x14_40) - 1))))) ?hg ?ho ?hn ?hr ?_; (case ho => rfl); (case hg => rfl); (case hn => rfl); (case hr => first | (go_simp; done) | (go_simp; rfl)); intro w64 hw; have hg : w61.grownBy w64 (some go51) := (by rw [hw]; exact HP63.2); have hp_ : Kd.R (Kd.int .i64) 3 w64 w.heap.size (fun k_ => some k_ ≠ (v714 : Value).ownBlock ∧ some k_ ≠ (u710001 : Value).ownBlock ∧ some k_ ≠ (.slice Ao59 y725.length co59 : Value).ownBlock) (.slice (some ⟨go51, 0, none⟩) x10_3.length co62) y729 := (by rw [hw, Ny729.out]; exact HP63.1); clear HP63; have n0_ := za.mk (hp_); have n1_ := za.mk (Kd.zc2 (v := (.slice (some ⟨go51, 0, none⟩) x10_3.length co62)) (v1 := (.slice (some ⟨go51, 0, none⟩) x10_3.length co62)) (ok := (fun k_ => some k_ ≠ (u710001 : Value).ownBlock ∧ some k_ ≠ (.slice Ao59 y725.length co59 : Value).ownBlock)) (by (with_reducible repeat (first | apply Kd.zbi | apply Kd.zbh | apply Kd.zbj)); exact Kd.zy HO_11.out (fun _ hk => ⟨⟨hk.2.1, hk.2.2⟩, hk.1⟩)) hg (.inl rfl)); have n2_ := za.mk (Kd.zc2 (v := (.slice (some ⟨go51, 0, none⟩) x10_3.length co62)) (v1 := (.slice (some ⟨go51, 0, none⟩) x10_3.length co62)) (ok := (fun k_ => some k_ ≠ (v714 : Value).ownBlock ∧ some k_ ≠ (.slice Ao59 y725.length co59 : Value).ownBlock)) (by (with_reducible repeat (first | apply Kd.zbi | apply Kd.zbh | apply Kd.zbj)); exact Kd.zy HO_710001.out (fun _ hk => ⟨⟨hk.2.1, hk.2.2⟩, hk.1⟩)) hg (.inl rfl)); have n3_ := za.mk (zbr (g := gb705) (o := .cells #[.int .i64 a2_0, .int .i64 a2_1] 51 (0, 0)) (Zq4 BK705.out) hg (Kd.R_ne HO_10.out BK705.out (by decide))); have n4_ := za.mk (zbr (g := gb706) (o := .cells #[.slice none 0 0, .slice none 0 0] 29 (0, 0)) (Zq4 BK706.out) hg (Kd.R_ne HO_10.out BK706.out (by decide))); have n5_ := za.mk (zbr (g := gb709) (o := .cells #[.slice Ao59 y725.length co59, u710001] 29 (0, 0)) (Zq4 BK709.out) hg (Kd.R_ne HO_10.out BK709.out (by decide))); have n6_ := za.mk (Kd.zc2 (v := (.slice (some ⟨go51, 0, none⟩) x10_3.length co62)) (v1 := (.slice (some ⟨go51, 0, none⟩) x10_3.length co62)) (ok := (fun k_ => some k_ ≠ (v714 : Value).ownBlock ∧ some k_ ≠ (u710001 : Value).ownBlock)) (by (with_reducible repeat (first | apply Kd.zbi | apply Kd.zbh | apply Kd.zbj)); exact Kd.zy HO727.out (fun _ hk => ⟨⟨hk.2.1, hk.2.2⟩, hk.1⟩)) hg (.inl rfl)); have n7_ := za.mk ((by rw [hw]; exact zb3 (HB.out) GB51.out : Below w.heap.size w w64)); clear HO_10; clear HO_11; clear HO_710001; clear BK705; clear BK706; clear BK709; clear HO727; clear HB; have HO_10 := n0_; have HO_11 := n1_; have HO_710001 := n2_; have BK705 := n3_; have BK706 := n4_; have BK709 := n5_; have HO727 := n6_; have HB := n7_; clear n0_ n1_ n2_ n3_ n4_ n5_ n6_ n7_; clear hg hw hp_; have p730 : 0 ≤ (x14_40 : Int) := of_decide_eq_true Zas; have q730 : x14_40 < (y729.length : Int) := (by have h_ : (x14_40 : Int) < ((x10_3.length : Int) : Int) := of_decide_eq_true Zas; first | (have e_ := (Kd.zbe HO_10.out).1; omega) | simpa only [Ny729.out, List.length_set] using h_); have ql730 : ((x14_40 : Int) < ((x10_3.length : Int) : Int)) = True := eq_true (of_decide_eq_true Zas); obtain ⟨ad730, e730, hx730_0⟩ := Kd.zcn (Kd.zbe HO_10.out).2.2 x14_40 p730 q730; obtain rfl : (⟨go51, 0, none⟩ : Addr) = ad730 := (by injection e730); (first | simp only [add_plain] at hx730_0 | simp only [add_at] at hx730_0 | simp only [Addr.add, Nat.zero_add] at hx730_0 | skip); replace p730 := eq_true p730; replace q730 := eq_true q730; have hcz65_0 : w64.cell? ⟨gb709, 0, none⟩ = some (.slice Ao59 y725.length co59) := (zh BK709.out 0).trans rfl; have hcz65_1 : w64.cell? ⟨gb709, 1, none⟩ = some (u710001) := (zh BK709.out 1).trans rfl; have hfz65_0 := zg BK709.out 0; have hfz65_1 := zg BK709.out 1; have p54 : 0 ≤ (x14_40 : Int) := of_decide_eq_true Zas; have q54 : (x14_40 : Int) < ((x710001_3.length : Int) : Int) := of_decide_eq_true Zas; obtain ⟨go54, co54, eo54, gb54, gl54, cl54, HG54⟩ := Kd.zdo HO_710001.out (by omega); (first | cases eo54 | (injection eo54 with ea_ en_ ec_; (first | subst ea_ | (injection ea_ with ea_; subst ea_)); subst ec_; clear en_)); have GB54 := za.mk gb54; have GG54 := za.mk HG54; clear gb54 gl54 HG54; obtain ⟨hx54_0, hf54_0⟩ := Kd.zcw 0 HO_710001.out (x14_40 : Int) p54 q54; replace p54 := eq_true p54; replace q54 := eq_true q54; have n_ := za.mk (Kd.zy (ok' := (fun k_ => some k_ ≠ (.slice (some ⟨go51, 0, none⟩) x10_3.length co62 : Value).ownBlock ∧ some k_ ≠ (v714 : Value).ownBlock ∧ some k_ ≠ (.slice Ao59 y725.length co59 : Value).ownBlock)) HO_710001.out (fun k_ hk => ⟨hk.2, ⟨hk.1.1, hk.1.2⟩⟩)); clear HO_710001; have HO_710001 := n_; clear n_; obtain ⟨hy66_, hz66_⟩ := Kd.zcw 0 HO_710001.out (x14_40 : Int) (of_decide_eq_true Zas) (of_decide_eq_true Zas); have HP66 := Kd.zc1 HO_710001.out (x14_40 : Int) (wrap64 (x13_3 + 1))) | ((with_reducible refine zcf (t := 3) (p := 88) rfl ?_); refine zcc (t := 3) (p := 88) (v := ?vo_w67) (w1 := (w64.setCell ⟨go54, (x14_40 : Int).toNat, none⟩ (.int .i64 (wrap64 (x13_3 + 1))))) ?hg ?ho ?hn ?hr ?_; (case ho => rfl); (case hg => rfl); (case hn => rfl); (case hr => first | (go_simp; done) | (go_simp; rfl)); intro w67 hw; have hg : w64.grownBy w67 (some go54) := (by rw [hw]; exact HP66.2); have hp_ : Kd.R (Kd.int .i64) 3 w67 w.heap.size (fun k_ => some k_ ≠ (.slice (some ⟨go51, 0, none⟩) x10_3.length co62 : Value).ownBlock ∧ some k_ ≠ (v714 : Value).ownBlock ∧ some k_ ≠ (.slice Ao59 y725.length co59 : Value).ownBlock) (.slice (some ⟨go54, 0, none⟩) x710001_3.length co54) y731 := (by rw [hw, Ny731.out]; exact HP66.1); clear HP66; have n0_ := za.mk (Kd.zc2 (v := (.slice (some ⟨go54, 0, none⟩) x710001_3.length co54)) (v1 := (.slice (some ⟨go54, 0, none⟩) x710001_3.length co54)) (ok := (fun k_ => some k_ ≠ (v714 : Value).ownBlock ∧ some k_ ≠ (.slice Ao59 y725.length co59 : Value).ownBlock)) (by (with_reducible repeat (first | apply Kd.zbi | apply Kd.zbh | apply Kd.zbj)); exact Kd.zy HO_10.out (fun _ hk => ⟨⟨hk.1, hk.2.2⟩, hk.2.1⟩)) hg (.inl rfl)); have n1_ := za.mk (Kd.zc2 (v := (.slice (some ⟨go54, 0, none⟩) x710001_3.length co54)) (v1 := (.slice (some ⟨go54, 0, none⟩) x710001_3.length co54)) (ok := (fun k_ => some k_ ≠ (.slice (some ⟨go51, 0, none⟩) x10_3.length co62 : Value).ownBlock ∧ some k_ ≠ (.slice Ao59 y725.length co59 : Value).ownBlock)) (by (with_reducible repeat (first | apply Kd.zbi | apply Kd.zbh | apply Kd.zbj)); exact Kd.zy HO_11.out (fun _ hk => ⟨⟨hk.2, hk.1.2⟩, hk.1.1⟩)) hg (.inl rfl)); have n2_ := za.mk (hp_); have n3_ := za.mk (zbr (g := gb705) (o := .cells #[.int .i64 a2_0, .int .i64 a2_1] 51 (0, 0)) (Zq4 BK705.out) hg (Kd.R_ne HO_710001.out BK705.out (by decide))); have n4_ := za.mk (zbr (g := gb706) (o := .cells #[.slice none 0 0, .slice none 0 0] 29 (0, 0)) (Zq4 BK706.out) hg (Kd.R_ne HO_710001.out BK706.out (by decide))); have n5_ := za.mk (zbr (g := gb709) (o := .cells #[.slice Ao59 y725.length co59, .slice (some ⟨go54, 0, none⟩) x710001_3.length co54] 29 (0, 0)) (Zq4 BK709.out) hg (Kd.R_ne HO_710001.out BK709.out (by decide))); have n6_ := za.mk (Kd.zc2 (v := (.slice (some ⟨go54, 0, none⟩) x710001_3.length co54)) (v1 := (.slice (some ⟨go54, 0, none⟩) x710001_3.length co54)) (ok := (fun k_ => some k_ ≠ (.slice (some ⟨go51, 0, none⟩) x10_3.length co62 : Value).ownBlock ∧ some k_ ≠ (v714 : Value).ownBlock)) (by (with_reducible repeat (first | apply Kd.zbi | apply Kd.zbh | apply Kd.zbj)); exact Kd.zy HO727.out (fun _ hk => ⟨⟨hk.2, hk.1.1⟩, hk.1.2⟩)) hg (.inl rfl)); have n7_ := za.mk ((by rw [hw]; exact zb3 (HB.out) GB54.out : Below w.heap.size w w67)); clear HO_10; clear HO_11; clear HO_710001; clear BK705; clear BK706; clear BK709; clear HO727; clear HB; have HO_10 := n0_; have HO_11 := n1_; have HO_710001 := n2_; have BK705 := n3_; have BK706 := n4_; have BK709 := n5_; have HO727 := n6_; have HB := n7_; clear n0_ n1_ n2_ n3_ n4_ n5_ n6_ n7_; clear hg hw hp_))
                    go_roundg kj40
                    case measure => have := HJ4.out; have := HK2.out; have := HK3.out; have := HJ40.out; omega
                    case rel => exact ⟨(y729), (x11_3), (wrap64 (x13_3 + 1)), (y725), (y731), (.slice Ao59 y725.length co59), (.slice (some ⟨go54, 0, none⟩) x710001_3.length co54), Zrs, H', ⟨by have := HJ4.out; have := HK2.out; have := HK3.out; have := HJ40.out; omega⟩, ⟨by (with_reducible repeat (first | apply Kd.zbi | apply Kd.zbh | apply Kd.zbj)); exact Kd.zy HO_10.out (fun _ hk => ⟨hk.1.1, ⟨hk.1.2, hk.2⟩⟩)⟩, ⟨by (with_reducible repeat (first | apply Kd.zbi | apply Kd.zbh | apply Kd.zbj)); exact Kd.zy HO_11.out (fun _ hk => ⟨hk.1.1, ⟨hk.1.2, hk.2⟩⟩)⟩, ⟨by (with_reducible repeat (first | apply Kd.zbi | apply Kd.zbh | apply Kd.zbj)); exact Kd.zy HO727.out (fun _ hk => ⟨hk.1.1, ⟨hk.1.2, hk.2⟩⟩)⟩, ⟨Zq12 HO_710001.out⟩, ⟨Zq4 BK705.out⟩, ⟨Zq4 BK706.out⟩, ⟨Zq4 BK709.out⟩, ⟨Zq15 HB.out GE705.out GE706.out GE709.out⟩⟩
                   ·rw [if_neg c53] at H
                    exact absurd H (by simp)
                  ·rw [if_neg c52] at H
                   have c52b0 : ((rd y729 x14_40) == 0) = false := beq_eq_false_iff_ne.mpr c52
                   have c52b1 : ((rd y729 x14_40) != 0) = true := bne_iff_ne.mpr c52
                   have H' := za.mk H
                   clear H
                   have hnb68 := NB709_705.out
                   have hnc68 := NB705_709.out
                   have hnb69 := NB709_706.out
                   have hnc69 := NB706_709.out
                   have hcz70_0 : wc.cell? ⟨gb709, 0, none⟩ = some (u710000) := (zh BK709.out 0).trans rfl
                   have hcz70_1 : wc.cell? ⟨gb709, 1, none⟩ = some (u710001) := (zh BK709.out 1).trans rfl
                   have hfz70_0 := zg BK709.out 0
                   have hfz70_1 := zg BK709.out 1
                   go_wp2_with (first | ((with_reducible refine zcq (b := .append) (xs := #[.tmp 63, .tmp 65]) rfl ?_); at_builtin; refine Kd.zdg (Kd.int .i64) (w0 := w) w.heap.size rfl (.tmp 63) (.tmp 65) 27 3 (.int .i64 0) 8 rfl Try.underlying27 info3 rfl (by decide) (by omega) u710000 x710000_3 x14_40 [.int .i64 x14_40] (fun k_ => some k_ ≠ (u10 : Value).ownBlock ∧ some k_ ≠ (v714 : Value).ownBlock ∧ some k_ ≠ (u710001 : Value).ownBlock) (fun _ => False) rfl rfl ?aP (fun _ hk => hk.elim) ?aF ?aO ?aB ?aS ?aL ?_; (case aP => exact rfl); (case aB => exact (Zq15 HB.out GE705.out GE706.out GE709.out)); (case aF => exact (fun k_ hk => ⟨Kd.fresh' (Kd.R_lt (Zq12 HO_10.out)) k_ hk, Kd.fresh' (Kd.R_lt (Zq12 HO_11.out)) k_ hk, Kd.fresh' (Kd.R_lt (Zq12 HO_710001.out)) k_ hk⟩)); (case aO => exact (Zq12 HO_710000.out)); (case aS => exact (zbb (Zq15 HB.out GE705.out GE706.out GE709.out))); (case aL => have := LMc47.out; omega); intro v726 w71 ho hb hg hat; rw [← Ny725.out] at ho; have n0_ := za.mk (Kd.zc2 (ok := (fun k_ => some k_ ≠ (v714 : Value).ownBlock ∧ some k_ ≠ (u710001 : Value).ownBlock)) (by (with_reducible repeat (first | apply Kd.zbi | apply Kd.zbh | apply Kd.zbj)); exact Kd.zy HO_10.out (fun _ hk => ⟨⟨hk.1, hk.2.2⟩, hk.2.1⟩)) hg hat); have n1_ := za.mk (Kd.zc2 (ok := (fun k_ => some k_ ≠ (u10 : Value).ownBlock ∧ some k_ ≠ (u710001 : Value).ownBlock)) (by (with_reducible repeat (first | apply Kd.zbi | apply Kd.zbh | apply Kd.zbj)); exact Kd.zy HO_11.out (fun _ hk => ⟨⟨hk.1, hk.2.2⟩, hk.2.1⟩)) hg hat); have n2_ := za.mk (Kd.zc2 (ok := (fun k_ => some k_ ≠ (u10 : Value).ownBlock ∧ some k_ ≠ (v714 : Value).ownBlock)) (by (with_reducible repeat (first | apply Kd.zbi | apply Kd.zbh | apply Kd.zbj)); exact Kd.zy HO_710001.out (fun _ hk => ⟨⟨hk.1, hk.2.1⟩, hk.2.2⟩)) hg hat); have n3_ := za.mk (zbr (g := gb705) (o := .cells #[.int .i64 a2_0, .int .i64 a2_1] 51 (0, 0)) (Zq4 BK705.out) hg (Kd.R_ne HO_710000.out BK705.out (by decide))); have n4_ := za.mk (zbr (g := gb706) (o := .cells #[.slice none 0 0, .slice none 0 0] 29 (0, 0)) (Zq4 BK706.out) hg (Kd.R_ne HO_710000.out BK706.out (by decide))); have n5_ := za.mk (zbr (g := gb709) (o := .cells #[u710000, u710001] 29 (0, 0)) (Zq4 BK709.out) hg (Kd.R_ne HO_710000.out BK709.out (by decide))); have n6_ := za.mk (hb); have n7_ := za.mk (ho); clear HO_10; clear HO_11; clear HO_710001; clear BK705; clear BK706; clear BK709; clear HB; clear HO_710000; have HO_10 := n0_; have HO_11 := n1_; have HO_710001 := n2_; have BK705 := n3_; have BK706 := n4_; have BK709 := n5_; have HB := n6_; have HO727 := n7_; clear n0_ n1_ n2_ n3_ n4_ n5_ n6_ n7_; clear ho hb hg hat; obtain ⟨Ao72, co72, eo72⟩ := Kd.zbs HO727.out; subst eo72; have hcz73_0 : w71.cell? ⟨gb709, 0, none⟩ = some (u710000) := (zh BK709.out 0).trans rfl; have hcz73_1 : w71.cell? ⟨gb709, 1, none⟩ = some (u710001) := (zh BK709.out 1).trans rfl; have hfz73_0 := zg BK709.out 0; have hfz73_1 := zg BK709.out 1) | ((with_reducible refine zcf (t := 27) (p := 67) rfl ?_); refine zcc (t := 27) (p := 67) (v := ?vo_w74) (w1 := (w71.setCell ⟨gb709, 0, none⟩ (.slice Ao72 y725.length co72))) ?hg ?ho ?hn ?hr ?_; (case ho => rfl); (case hg => rfl); (case hn => rfl); (case hr => first | (go_simp; done) | (go_simp; rfl)); intro w74 hw; have n0_ : za (Kd.R (Kd.int .i64) 3 w74 w.heap.size (fun k_ => some k_ ≠ (v714 : Value).ownBlock ∧ some k_ ≠ (u710001 : Value).ownBlock ∧ some k_ ≠ (.slice Ao72 y725.length co72 : Value).ownBlock) u10 x10_3) := ⟨(by rw [hw]; exact (by (with_reducible repeat (first | apply Kd.zbi | apply Kd.zbh | apply Kd.zbj)); exact Kd.zy (Kd.zb9 (p := ⟨gb709, 0, none⟩) (Kd.zb5 HO_10.out BK709.out (by decide)) (fun _ hk => hk.2) (.slice Ao72 y725.length co72)) (fun _ hk => ⟨hk.1.1.1, ⟨hk.1.1.2, hk.1.2⟩⟩)))⟩; have n1_ : za (Kd.R (Kd.int .i64) 3 w74 w.heap.size (fun k_ => some k_ ≠ (u10 : Value).ownBlock ∧ some k_ ≠ (u710001 : Value).ownBlock ∧ some k_ ≠ (.slice Ao72 y725.length co72 : Value).ownBlock) v714 x11_3) := ⟨(by rw [hw]; exact (by (with_reducible repeat (first | apply Kd.zbi | apply Kd.zbh | apply Kd.zbj)); exact Kd.zy (Kd.zb9 (p := ⟨gb709, 0, none⟩) (Kd.zb5 HO_11.out BK709.out (by decide)) (fun _ hk => hk.2) (.slice Ao72 y725.length co72)) (fun _ hk => ⟨hk.1.1.1, ⟨hk.1.1.2, hk.1.2⟩⟩)))⟩; have n2_ : za (Kd.R (Kd.int .i64) 3 w74 w.heap.size (fun k_ => some k_ ≠ (u10 : Value).ownBlock ∧ some k_ ≠ (v714 : Value).ownBlock ∧ some k_ ≠ (.slice Ao72 y725.length co72 : Value).ownBlock) u710001 x710001_3) := ⟨(by rw [hw]; exact (by (with_reducible repeat (first | apply Kd.zbi | apply Kd.zbh | apply Kd.zbj)); exact Kd.zy (Kd.zb9 (p := ⟨gb709, 0, none⟩) (Kd.zb5 HO_710001.out BK709.out (by decide)) (fun _ hk => hk.2) (.slice Ao72 y725.length co72)) (fun _ hk => ⟨hk.1.1.1, ⟨hk.1.1.2, hk.1.2⟩⟩)))⟩; have n3_ : za (Kd.R (Kd.int .i64) 3 w74 w.heap.size (fun k_ => some k_ ≠ (u10 : Value).ownBlock ∧ some k_ ≠ (v714 : Value).ownBlock ∧ some k_ ≠ (u710001 : Value).ownBlock) (.slice Ao72 y725.length co72) y725) := ⟨(by rw [hw]; exact (by (with_reducible repeat (first | apply Kd.zbi | apply Kd.zbh | apply Kd.zbj)); exact Kd.zy (Kd.zb9 (p := ⟨gb709, 0, none⟩) (Kd.zb5 HO727.out BK709.out (by decide)) (fun _ hk => hk.2) (.slice Ao72 y725.length co72)) (fun _ hk => ⟨hk.1.1, ⟨hk.1.2.1, hk.1.2.2⟩⟩)))⟩; have n4_ : za (w74.heap[gb705]? = some (.cells #[.int .i64 a2_0, .int .i64 a2_1] 51 (0, 0))) := ⟨(by rw [hw]; exact (by (with_reducible repeat (first | refine zn ?_ _ | refine zt ?_ | refine zm ?_ _)); refine zcl ?_ NB705_709.out _; (with_reducible repeat (first | refine zn ?_ _ | refine zt ?_ | refine zm ?_ _)); exact BK705.out))⟩; have n5_ : za (w74.heap[gb706]? = some (.cells #[.slice none 0 0, .slice none 0 0] 29 (0, 0))) := ⟨(by rw [hw]; exact (by (with_reducible repeat (first | refine zn ?_ _ | refine zt ?_ | refine zm ?_ _)); refine zcl ?_ NB706_709.out _; (with_reducible repeat (first | refine zn ?_ _ | refine zt ?_ | refine zm ?_ _)); exact BK706.out))⟩; have n6_ : za (w74.heap[gb709]? = some (.cells #[.slice Ao72 y725.length co72, u710001] 29 (0, 0))) := ⟨(by rw [hw]; exact (by (with_reducible repeat (first | refine zn ?_ _ | refine zt ?_ | refine zm ?_ _)); refine zbu (cs := #[u710000, u710001]) ?_ 0 _ rfl; (with_reducible repeat (first | refine zn ?_ _ | refine zt ?_ | refine zm ?_ _)); exact BK709.out))⟩; have n7_ : za (Below w.heap.size w w74) := ⟨(by rw [hw]; exact (Zq15 HB.out GE705.out GE706.out GE709.out))⟩; clear hw; clear HO_10; clear HO_11; clear HO_710001; clear HO727; clear BK705; clear BK706; clear BK709; clear HB; have HO_10 := n0_; have HO_11 := n1_; have HO_710001 := n2_; have HO727 := n3_; have BK705 := n4_; have BK706 := n5_; have BK709 := n6_; have HB := n7_; clear n0_ n1_ n2_ n3_ n4_ n5_ n6_ n7_; obtain ⟨Ao75, co75, eo75⟩ := Kd.zbs HO_10.out; subst eo75; have p728 : 0 ≤ (x14_40 : Int) := of_decide_eq_true Zas; have q728 : x14_40 < (x10_3.length : Int) := of_decide_eq_true Zas; obtain ⟨ad728, e728, hx728_0⟩ := Kd.zcn (Kd.zbe HO_10.out).2.2 x14_40 p728 q728; cases e728; replace p728 := eq_true p728; replace q728 := eq_true q728; have p51 : 0 ≤ (x14_40 : Int) := of_decide_eq_true Zas; have q51 : (x14_40 : Int) < ((x10_3.length : Int) : Int) := of_decide_eq_true Zas; obtain ⟨go51, co51, eo51, gb51, gl51, cl51, HG51⟩ := Kd.zdo HO_10.out (by omega); (first | cases eo51 | (injection eo51 with ea_ en_ ec_; (first | subst ea_ | (injection ea_ with ea_; subst ea_)); subst ec_; clear en_)); have GB51 := za.mk gb51; have GG51 := za.mk HG51; clear gb51 gl51 HG51; (first | simp only [add_plain] at hx728_0 | skip); obtain ⟨hx51_0, hf51_0⟩ := Kd.zcw 0 HO_10.out (x14_40 : Int) p51 q51; replace p51 := eq_true p51; replace q51 := eq_true q51; obtain ⟨hy76_, hz76_⟩ := Kd.zcw 0 HO_10.out (x14_40 : Int) (of_decide_eq_true Zas) (of_decide_eq_true Zas); have HP76 := Kd.zc1 HO_10.out (x14_40 : Int) (wrap64 ((rd x10_3 x14_40) - 1))) | ((with_reducible refine zcf (t := 3) (p := 77) rfl ?_); refine zcc (t := 3) (p := 77) (v := ?vo_w77) (w1 := (w74.setCell ⟨go51, (x14_40 : Int).toNat, none⟩ (.int .i64 (wrap64 ((rd x10_3 x14_40) - 1))))) ?hg ?ho ?hn ?hr ?_; (case ho => rfl); (case hg => rfl); (case hn => rfl); (case hr => first | (go_simp; done) | (go_simp; rfl)); intro w77 hw; have hg : w74.grownBy w77 (some go51) := (by rw [hw]; exact HP76.2); have hp_ : Kd.R (Kd.int .i64) 3 w77 w.heap.size (fun k_ => some k_ ≠ (v714 : Value).ownBlock ∧ some k_ ≠ (u710001 : Value).ownBlock ∧ some k_ ≠ (.slice Ao72 y725.length co72 : Value).ownBlock) (.slice (some ⟨go51, 0, none⟩) x10_3.length co75) y729 := (by rw [hw, Ny729.out]; exact HP76.1); clear HP76; have n0_ := za.mk (hp_); have n1_ := za.mk (Kd.zc2 (v := (.slice (some ⟨go51, 0, none⟩) x10_3.length co75)) (v1 := (.slice (some ⟨go51, 0, none⟩) x10_3.length co75)) (ok := (fun k_ => some k_ ≠ (u710001 : Value).ownBlock ∧ some k_ ≠ (.slice Ao72 y725.length co72 : Value).ownBlock)) (by (with_reducible repeat (first | apply Kd.zbi | apply Kd.zbh | apply Kd.zbj)); exact Kd.zy HO_11.out (fun _ hk => ⟨⟨hk.2.1, hk.2.2⟩, hk.1⟩)) hg (.inl rfl)); have n2_ := za.mk (Kd.zc2 (v := (.slice (some ⟨go51, 0, none⟩) x10_3.length co75)) (v1 := (.slice (some ⟨go51, 0, none⟩) x10_3.length co75)) (ok := (fun k_ => some k_ ≠ (v714 : Value).ownBlock ∧ some k_ ≠ (.slice Ao72 y725.length co72 : Value).ownBlock)) (by (with_reducible repeat (first | apply Kd.zbi | apply Kd.zbh | apply Kd.zbj)); exact Kd.zy HO_710001.out (fun _ hk => ⟨⟨hk.2.1, hk.2.2⟩, hk.1⟩)) hg (.inl rfl)); have n3_ := za.mk (zbr (g := gb705) (o := .cells #[.int .i64 a2_0, .int .i64 a2_1] 51 (0, 0)) (Zq4 BK705.out) hg (Kd.R_ne HO_10.out BK705.out (by decide))); have n4_ := za.mk (zbr (g := gb706) (o := .cells #[.slice none 0 0, .slice none 0 0] 29 (0, 0)) (Zq4 BK706.out) hg (Kd.R_ne HO_10.out BK706.out (by decide))); have n5_ := za.mk (zbr (g := gb709) (o := .cells #[.slice Ao72 y725.length co72, u710001] 29 (0, 0)) (Zq4 BK709.out) hg (Kd.R_ne HO_10.out BK709.out (by decide))); have n6_ := za.mk (Kd.zc2 (v := (.slice (some ⟨go51, 0, none⟩) x10_3.length co75)) (v1 := (.slice (some ⟨go51, 0, none⟩) x10_3.length co75)) (ok := (fun k_ => some k_ ≠ (v714 : Value).ownBlock ∧ some k_ ≠ (u710001 : Value).ownBlock)) (by (with_reducible repeat (first | apply Kd.zbi | apply Kd.zbh | apply Kd.zbj)); exact Kd.zy HO727.out (fun _ hk => ⟨⟨hk.2.1, hk.2.2⟩, hk.1⟩)) hg (.inl rfl)); have n7_ := za.mk ((by rw [hw]; exact zb3 (HB.out) GB51.out : Below w.heap.size w w77)); clear HO_10; clear HO_11; clear HO_710001; clear BK705; clear BK706; clear BK709; clear HO727; clear HB; have HO_10 := n0_; have HO_11 := n1_; have HO_710001 := n2_; have BK705 := n3_; have BK706 := n4_; have BK709 := n5_; have HO727 := n6_; have HB := n7_; clear n0_ n1_ n2_ n3_ n4_ n5_ n6_ n7_; clear hg hw hp_; have p730 : 0 ≤ (x14_40 : Int) := of_decide_eq_true Zas; have q730 : x14_40 < (y729.length : Int) := (by have h_ : (x14_40 : Int) < ((x10_3.length : Int) : Int) := of_decide_eq_true Zas; first | (have e_ := (Kd.zbe HO_10.out).1; omega) | simpa only [Ny729.out, List.length_set] using h_); have ql730 : ((x14_40 : Int) < ((x10_3.length : Int) : Int)) = True := eq_true (of_decide_eq_true Zas); obtain ⟨ad730, e730, hx730_0⟩ := Kd.zcn (Kd.zbe HO_10.out).2.2 x14_40 p730 q730; obtain rfl : (⟨go51, 0, none⟩ : Addr) = ad730 := (by injection e730); (first | simp only [add_plain] at hx730_0 | simp only [add_at] at hx730_0 | simp only [Addr.add, Nat.zero_add] at hx730_0 | skip); replace p730 := eq_true p730; replace q730 := eq_true q730))
                   go_roundg kj40
                   case measure => have := HJ4.out; have := HK2.out; have := HK3.out; have := HJ40.out; omega
                   case rel => exact ⟨(y729), (x11_3), (wrap64 (x13_3 + 1)), (y725), (x710001_3), (.slice Ao72 y725.length co72), (u710001), Zrs, H', ⟨by have := HJ4.out; have := HK2.out; have := HK3.out; have := HJ40.out; omega⟩, ⟨by (with_reducible repeat (first | apply Kd.zbi | apply Kd.zbh | apply Kd.zbj)); exact Kd.zy HO_10.out (fun _ hk => ⟨hk.1, ⟨hk.2.2, hk.2.1⟩⟩)⟩, ⟨by (with_reducible repeat (first | apply Kd.zbi | apply Kd.zbh | apply Kd.zbj)); exact Kd.zy HO_11.out (fun _ hk => ⟨hk.2, ⟨hk.1.2, hk.1.1⟩⟩)⟩, ⟨by (with_reducible repeat (first | apply Kd.zbi | apply Kd.zbh | apply Kd.zbj)); exact Kd.zy HO727.out (fun _ hk => ⟨hk.2, ⟨hk.1.1, hk.1.2⟩⟩)⟩, ⟨by (with_reducible repeat (first | apply Kd.zbi | apply Kd.zbh | apply Kd.zbj)); exact Kd.zy HO_710001.out (fun _ hk => ⟨hk.2, ⟨hk.1.1, hk.1.2⟩⟩)⟩, ⟨Zq4 BK705.out⟩, ⟨Zq4 BK706.out⟩, ⟨Zq4 BK709.out⟩, ⟨Zq15 HB.out GE705.out GE706.out GE709.out⟩⟩
                 ·rw [if_neg c50] at H
                  exact absurd H (by simp)
                ·rw [if_neg c49] at H
                 exact absurd H (by simp)
               ·rw [if_neg c48] at H
                have c48b0 : decide (0 ≤ x14_40) = false := decide_eq_false c48
                clear c48
                have H' := za.mk H
                clear H
                have hnb78 := NB709_705.out
                have hnc78 := NB705_709.out
                have hnb79 := NB709_706.out
                have hnc79 := NB706_709.out
                have hcz80_0 : wc.cell? ⟨gb709, 0, none⟩ = some (u710000) := (zh BK709.out 0).trans rfl
                have hcz80_1 : wc.cell? ⟨gb709, 1, none⟩ = some (u710001) := (zh BK709.out 1).trans rfl
                have hfz80_0 := zg BK709.out 0
                have hfz80_1 := zg BK709.out 1
                go_wp2_with (first | ((with_reducible refine zcq (b := .append) (xs := #[.tmp 63, .tmp 65]) rfl ?_); at_builtin; refine Kd.zdg (Kd.int .i64) (w0 := w) w.heap.size rfl (.tmp 63) (.tmp 65) 27 3 (.int .i64 0) 8 rfl Try.underlying27 info3 rfl (by decide) (by omega) u710000 x710000_3 x14_40 [.int .i64 x14_40] (fun k_ => some k_ ≠ (u10 : Value).ownBlock ∧ some k_ ≠ (v714 : Value).ownBlock ∧ some k_ ≠ (u710001 : Value).ownBlock) (fun _ => False) rfl rfl ?aP (fun _ hk => hk.elim) ?aF ?aO ?aB ?aS ?aL ?_; (case aP => exact rfl); (case aB => exact (Zq15 HB.out GE705.out GE706.out GE709.out)); (case aF => exact (fun k_ hk => ⟨Kd.fresh' (Kd.R_lt (Zq12 HO_10.out)) k_ hk, Kd.fresh' (Kd.R_lt (Zq12 HO_11.out)) k_ hk, Kd.fresh' (Kd.R_lt (Zq12 HO_710001.out)) k_ hk⟩)); (case aO => exact (Zq12 HO_710000.out)); (case aS => exact (zbb (Zq15 HB.out GE705.out GE706.out GE709.out))); (case aL => have := LMc47.out; omega); intro v726 w81 ho hb hg hat; rw [← Ny725.out] at ho; have n0_ := za.mk (Kd.zc2 (ok := (fun k_ => some k_ ≠ (v714 : Value).ownBlock ∧ some k_ ≠ (u710001 : Value).ownBlock)) (by (with_reducible repeat (first | apply Kd.zbi | apply Kd.zbh | apply Kd.zbj)); exact Kd.zy HO_10.out (fun _ hk => ⟨⟨hk.1, hk.2.2⟩, hk.2.1⟩)) hg hat); have n1_ := za.mk (Kd.zc2 (ok := (fun k_ => some k_ ≠ (u10 : Value).ownBlock ∧ some k_ ≠ (u710001 : Value).ownBlock)) (by (with_reducible repeat (first | apply Kd.zbi | apply Kd.zbh | apply Kd.zbj)); exact Kd.zy HO_11.out (fun _ hk => ⟨⟨hk.1, hk.2.2⟩, hk.2.1⟩)) hg hat); have n2_ := za.mk (Kd.zc2 (ok := (fun k_ => some k_ ≠ (u10 : Value).ownBlock ∧ some k_ ≠ (v714 : Value).ownBlock)) (by (with_reducible repeat (first | apply Kd.zbi | apply Kd.zbh | apply Kd.zbj)); exact Kd.zy HO_710001.out (fun _ hk => ⟨⟨hk.1, hk.2.1⟩, hk.2.2⟩)) hg hat); have n3_ := za.mk (zbr (g := gb705) (o := .cells #[.int .i64 a2_0, .int .i64 a2_1] 51 (0, 0)) (Zq4 BK705.out) hg (Kd.R_ne HO_710000.out BK705.out (by decide))); have n4_ := za.mk (zbr (g := gb706) (o := .cells #[.slice none 0 0, .slice none 0 0] 29 (0, 0)) (Zq4 BK706.out) hg (Kd.R_ne HO_710000.out BK706.out (by decide))); have n5_ := za.mk (zbr (g := gb709) (o := .cells #[u710000, u710001] 29 (0, 0)) (Zq4 BK709.out) hg (Kd.R_ne HO_710000.out BK709.out (by decide))); have n6_ := za.mk (hb); have n7_ := za.mk (ho); clear HO_10; clear HO_11; clear HO_710001; clear BK705; clear BK706; clear BK709; clear HB; clear HO_710000; have HO_10 := n0_; have HO_11 := n1_; have HO_710001 := n2_; have BK705 := n3_; have BK706 := n4_; have BK709 := n5_; have HB := n6_; have HO727 := n7_; clear n0_ n1_ n2_ n3_ n4_ n5_ n6_ n7_; clear ho hb hg hat; obtain ⟨Ao82, co82, eo82⟩ := Kd.zbs HO727.out; subst eo82; have hcz83_0 : w81.cell? ⟨gb709, 0, none⟩ = some (u710000) := (zh BK709.out 0).trans rfl; have hcz83_1 : w81.cell? ⟨gb709, 1, none⟩ = some (u710001) := (zh BK709.out 1).trans rfl; have hfz83_0 := zg BK709.out 0; have hfz83_1 := zg BK709.out 1))
                go_roundg kj40
                case measure => have := HJ4.out; have := HK2.out; have := HK3.out; have := HJ40.out; omega
                case rel => exact ⟨(x10_3), (x11_3), (wrap64 (x13_3 + 1)), (y725), (x710001_3), (.slice Ao82 y725.length co82), (u710001), Zrs, H', ⟨by have := HJ4.out; have := HK2.out; have := HK3.out; have := HJ40.out; omega⟩, ⟨by (with_reducible repeat (first | apply Kd.zbi | apply Kd.zbh | apply Kd.zbj)); exact Kd.zy (Kd.zb9 (p := ⟨gb709, 0, none⟩) (Kd.zb5 HO_10.out BK709.out (by decide)) (fun _ hk => hk.2) (.slice Ao82 y725.length co82)) (fun _ hk => ⟨hk.1.1.1, ⟨hk.1.2, hk.1.1.2⟩⟩)⟩, ⟨by (with_reducible repeat (first | apply Kd.zbi | apply Kd.zbh | apply Kd.zbj)); exact Kd.zy (Kd.zb9 (p := ⟨gb709, 0, none⟩) (Kd.zb5 HO_11.out BK709.out (by decide)) (fun _ hk => hk.2) (.slice Ao82 y725.length co82)) (fun _ hk => ⟨hk.1.1.1, ⟨hk.1.2, hk.1.1.2⟩⟩)⟩, ⟨by (with_reducible repeat (first | apply Kd.zbi | apply Kd.zbh | apply Kd.zbj)); exact Kd.zy (Kd.zb9 (p := ⟨gb709, 0, none⟩) (Kd.zb5 HO727.out BK709.out (by decide)) (fun _ hk => hk.2) (.slice Ao82 y725.length co82)) (fun _ hk => ⟨hk.1.1, ⟨hk.1.2.1, hk.1.2.2⟩⟩)⟩, ⟨by (with_reducible repeat (first | apply Kd.zbi | apply Kd.zbh | apply Kd.zbj)); exact Kd.zy (Kd.zb9 (p := ⟨gb709, 0, none⟩) (Kd.zb5 HO_710001.out BK709.out (by decide)) (fun _ hk => hk.2) (.slice Ao82 y725.length co82)) (fun _ hk => ⟨hk.1.1.1, ⟨hk.1.1.2, hk.1.2⟩⟩)⟩, ⟨by (with_reducible repeat (first | refine zn ?_ _ | refine zt ?_ | refine zm ?_ _)); refine zcl ?_ NB705_709.out _; (with_reducible repeat (first | refine zn ?_ _ | refine zt ?_ | refine zm ?_ _)); exact BK705.out⟩, ⟨by (with_reducible repeat (first | refine zn ?_ _ | refine zt ?_ | refine zm ?_ _)); refine zcl ?_ NB706_709.out _; (with_reducible repeat (first | refine zn ?_ _ | refine zt ?_ | refine zm ?_ _)); exact BK706.out⟩, ⟨by (with_reducible repeat (first | refine zn ?_ _ | refine zt ?_ | refine zm ?_ _)); refine zbu (cs := #[u710000, u710001]) ?_ 0 _ rfl; (with_reducible repeat (first | refine zn ?_ _ | refine zt ?_ | refine zm ?_ _)); exact BK709.out⟩, ⟨Zq15 HB.out GE705.out GE706.out GE709.out⟩⟩
              ·rw [if_neg c47] at H
               exact absurd H (by simp)
           ·rw [if_neg c40] at H
            exact absurd H (by simp)
          ·rw [if_neg c39] at H
           exact absurd H (by simp)
         ·rw [if_neg c38] at H
          have c38b0 : decide (x13_3 < 120) = false := decide_eq_false c38
          clear c38
          simp only [Option.some.injEq, Prod.mk.injEq] at H
          obtain ⟨rfl, rfl⟩ := H
          have hnb84 := NB709_705.out
          have hnc84 := NB705_709.out
          have hnb85 := NB709_706.out
          have hnc85 := NB706_709.out
          have hcz86_0 : wr.cell? ⟨gb709, 0, none⟩ = some (u710000) := (zh BK709.out 0).trans rfl
          have hcz86_1 : wr.cell? ⟨gb709, 1, none⟩ = some (u710001) := (zh BK709.out 1).trans rfl
          have hfz86_0 := zg BK709.out 0
          have hfz86_1 := zg BK709.out 1
          obtain ⟨Ao87, co87, eo87⟩ := Kd.zbs HO_710000.out
          subst eo87
          have hnb88 := NB706_705.out
          have hnc88 := NB705_706.out
          have hcz89_0 : wr.cell? ⟨gb706, 0, none⟩ = some (.slice none 0 0) := (zh BK706.out 0).trans rfl
          have hcz89_1 : wr.cell? ⟨gb706, 1, none⟩ = some (.slice none 0 0) := (zh BK706.out 1).trans rfl
          have hfz89_0 := zg BK706.out 0
          have hfz89_1 := zg BK706.out 1
          obtain ⟨Ao90, co90, eo90⟩ := Kd.zbs HO_710001.out
          subst eo90
          go_wp2
          refine bodyPost_ret (results_cell_row rfl _ _ gb706 29 #[.slice Ao87 x710000_3.length co87, .slice Ao90 x710001_3.length co90] (0, 0) _ rfl (by (with_reducible repeat (first | refine zn ?_ _ | refine zt ?_ | refine zm ?_ _)); refine zbu (cs := #[.slice Ao87 x710000_3.length co87, .slice none 0 0]) ?_ 1 _ rfl; (with_reducible repeat (first | refine zn ?_ _ | refine zt ?_ | refine zm ?_ _)); refine zbu (cs := #[.slice none 0 0, .slice none 0 0]) ?_ 0 _ rfl; (with_reducible repeat (first | refine zn ?_ _ | refine zt ?_ | refine zm ?_ _)); exact BK706.out) Try.underlying29 rfl (by kernel_rfl)) rfl ?_
          exact ⟨_, _, by first | rfl | (simp [zbc, zbd] <;> rfl) | (simp [*, zbc, zbd] <;> rfl), by (with_reducible repeat (first | apply Kd.zbi | apply Kd.zbh | apply Kd.zbj)); exact Kd.zy (Kd.zb9 (p := ⟨gb706, 1, none⟩) (Kd.zb9 (p := ⟨gb706, 0, none⟩) (Kd.zb5 HO_710000.out BK706.out (by decide)) (fun _ hk => hk.2) (.slice Ao87 x710000_3.length co87)) (fun _ hk => hk.2) (.slice Ao90 x710001_3.length co90)) (fun _ hk => hk.1.2.2), by (with_reducible repeat (first | apply Kd.zbi | apply Kd.zbh | apply Kd.zbj)); exact Kd.zy (Kd.zb9 (p := ⟨gb706, 1, none⟩) (Kd.zb9 (p := ⟨gb706, 0, none⟩) (Kd.zb5 HO_710001.out BK706.out (by decide)) (fun _ hk => hk.2) (.slice Ao87 x710000_3.length co87)) (fun _ hk => hk.2) (.slice Ao90 x710001_3.length co90)) (fun _ hk => hk.1.2.2), Zq15 HB.out GE705.out GE706.out GE709.out⟩
end Go.Proofs.Ytkdfjomhichkoaa.P
