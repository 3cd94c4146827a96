/- The law FnGraham for every input, part 4 of its proof: what the program's functions answer, and the plain law. No condition. -/
import Derived.Test.YtebgfobjhlcopaaMFnGraham1
import Derived.Test.YtebgfobjhlcopaaMFnGraham2
import Derived.Test.YtebgfobjhlcopaaMFnGraham3
import Derived.Laws.BitsLemmas
import Derived.SizedLaws
import Derived.ChangeSlices
import Derived.ChangeArms
import Derived.WideShapes
import Derived.Deep.Slices
import Derived.OpenShut
import Derived.Test.YtebgfobjhlcopaaRows
import Derived.JoinedOf
import Derived.KernelRfl
import Derived.WalkKit
import Derived.ProofKit
import Derived.ShutString
import Derived.ChangeOld
import Derived.Below
set_option maxRecDepth 100000
namespace Go.Proofs.Ytebgfobjhlcopaa.P
open Go.RowKit Go.Proofs.YtebgfobjhlcopaaW.PrintWords Go.Proofs.YtebgfobjhlcopaaW.PrintLast Go.Proofs.YtebgfobjhlcopaaW.PrintMore
attribute [local go_sem] zfw zfx zhc zhd zfa zfb zfy zfz
set_option linter.unusedVariables false
set_option linter.unusedSimpArgs false
mutual
def zt.l0 : Nat → List (List Int) → List Int → Int → List Int → Int → Int → Option (Int)
 | 0, _, _, _, _, _, _ => none
 | k + 1, x1, x5, x6, x14, x15, x16 => if x16 < x15 then (if 0 ≤ x16 then (if x16 < (x14.length : Int) then (zt.l1 k x1 x5 x6 x16 (rd x14 x16) x14 x15 x16 x1 (x1.length : Int) 0) else (none)) else (none)) else (some x6)
def zt.l1 : Nat → List (List Int) → List Int → Int → Int → Int → List Int → Int → Int → List (List Int) → Int → Int → Option (Int)
 | 0, _, _, _, _, _, _, _, _, _, _, _ => none
 | k + 1, x1, x5, x6, x7, x8, x14, x15, x16, x21, x22, x23 => if x23 < x22 then (if 0 ≤ x23 then (if x23 < (x21.length : Int) then (if 1 < ((zn x21 x23).length : Int) then (if (rd (zn x21 x23) 1) = x7 then (if 0 ≤ x7 then (if x7 < (x5.length : Int) then (if 0 < ((zn x21 x23).length : Int) then (if 0 ≤ (rd (zn x21 x23) 0) then (if (rd (zn x21 x23) 0) < (x5.length : Int) then (zt.l1 k x1 (x5.set (x7 : Int).toNat (mx (rd x5 x7) (rd x5 (rd (zn x21 x23) 0)))) x6 x7 x8 x14 x15 x16 x21 x22 (wrap64 (x23 + 1))) else (none)) else (none)) else (none)) else (none)) else (none)) else (zt.l1 k x1 x5 x6 x7 x8 x14 x15 x16 x21 x22 (wrap64 (x23 + 1)))) else (none)) else (none)) else (none)) else (if 0 ≤ x7 then (if x7 < (x5.length : Int) then ((some (x5.set (x7 : Int).toNat (wrap64 ((rd x5 x7) + x8)) : List Int)).bind fun y295 => (zt.l0 k x1 y295 (mx x6 (rd y295 x7)) x14 x15 (wrap64 (x16 + 1)))) else (none)) else (none))
end
def zt.f (k : Nat) (l0 : List Int) (l1 : List (List Int)) : Option (Int) := if 0 ≤ (l0.length : Int) then (if ((l0.length : Int) : Int).toNat ≤ 35184372088832 then (zt.l0 k l1 (List.replicate ((l0.length : Int) : Int).toNat 0) 0 l0 (l0.length : Int) 0) else (none)) else (none)
def zt.T10 : Bool × List (List Nat × List Nat) := (true, [([], []), ([], []), ([], []), ([], []), ([2, 3], [2, 3]), ([4], [4]), ([], []), ([], []), ([7], [7]), ([8], [8]), ([6, 9], [6, 9]), ([10], [10]), ([5, 11], [5, 11]), ([0, 1, 0, 1, 2, 3, 4, 5, 6, 7, 8, 9, 10, 11, 12], [0, 1]), ([13, 12, 0, 1, 2, 3, 4, 5, 6, 7, 8, 9, 10, 11, 12], [12, 13])])
def zt.B10 : List Nat := [0, 0, 0, 0, 12, 28, 0, 0, 128, 384, 960, 1984, 4092, 8191, 16383]
theorem zt.tab10 : rtab .any (opsOf Try.f46 10) = zt.T10 := by kernel_rfl
theorem zt.bits10 : zea zt.T10.2 zt.B10 = true := by kernel_rfl
set_option maxHeartbeats 8000000 in
theorem zt.calls (k : Nat) (A0 : Option Addr) (c0 : Nat) (l0 : List Int) (A1 : Option Addr) (c1 : Nat) (l1 : List (List Int)) (r : Int) (w : World) (hr0 : Kd.C (Kd.int .i64) w A0 l0.length l0) (hc0 : l0.length ≤ c0) (hr1 : Kd.C (Kd.slice 3 (Kd.int .i64)) w A1 l1.length l1) (hc1 : l1.length ≤ c1) (h : zt.f k l0 l1 = some r) :
  Calls Try.prog 46 #[.slice A0 l0.length c0, .slice A1 l1.length c1] w fun e w' => e = .returned (.int .i64 r) ∧ Below w.heap.size w w' := by
 have HR0 := za.mk hr0
 have HC0 := za.mk hc0
 clear hr0 hc0
 have HR1 := za.mk hr1
 have HC1 := za.mk hc1
 clear hr1 hc1
 have HB := za.mk (Below.refl w.heap.size w)
 have H : (if 0 ≤ (l0.length : Int) then (if ((l0.length : Int) : Int).toNat ≤ 35184372088832 then (zt.l0 k l1 (List.replicate ((l0.length : Int) : Int).toNat 0) 0 l0 (l0.length : Int) 0) else (none)) else (none)) = some r := h
 clear h
 by_cases c3 : 0 ≤ (l0.length : Int)
 ·rw [if_pos c3] at H
  have c3b0 := eq_true c3;have c3b1 : decide (0 ≤ (l0.length : Int)) = true := decide_eq_true c3;clear c3;by_cases c4 : ((l0.length : Int) : Int).toNat ≤ 35184372088832
  ·rw [if_pos c4] at H
   have c4b0 := eq_true c4;have c4b1 : decide (((l0.length : Int) : Int).toNat ≤ 35184372088832) = true := decide_eq_true c4;clear c4;obtain ⟨y284, hy284⟩ : ∃ y_ : List Int, y_ = (List.replicate ((l0.length : Int) : Int).toNat 0) := ⟨_, rfl⟩;replace H : (zt.l0 k l1 y284 0 l0 (l0.length : Int) 0) = some r := by first | (rw [hy284]; with_reducible exact H) | (have H2_ := (Option.bind_some _ _).symm.trans H; rw [hy284]; with_reducible exact H2_) | (have H2_ := (Option.bind_some _ _).symm.trans H; with_reducible exact H2_) | with_reducible exact H | (rw [hy284]; exact H) | exact H
   have Ny284 := za.mk hy284;clear hy284;have H' := za.mk H;clear H;go_enter Try.func46, Try.ntmps46;go_wp2_with (first | ((with_reducible refine zcc (N := 13) rfl ?_); refine Kd.R_make (Kd.int .i64) _ 3 rfl (N := 13) rfl 23 _ _ rfl (l0.length : Int) rfl rfl Try.underlying23 (.int .i64 0) 8 info3 rfl (by decide) (by omega) 0 (ok := fun _ => True) (okp := fun _ => True) rfl (fun _ hk => hk) trivial (of_decide_eq_true Zas) (Nat.le_trans (Nat.mul_le_mul_right _ (of_decide_eq_true Zas : (l0.length : Int).toNat ≤ 35184372088832)) (by omega)) (Below.refl _ _) (Nat.le_refl _) ?_; intro v285 w5 ho6 hb hg_ hnew_; clear hg_ hnew_; (first | rw [← Ny284.out] at ho6 | (simp only [Int.reduceToNat] at ho6; rw [← Ny284.out] at ho6)); have n0_ := za.mk (Kd.zch ho6 (zbu (Zq1 HB))); have n1_ := za.mk (zy (Zq1 HB) hb); clear HB; have HO286 := n0_; have HB := n1_; clear n0_ n1_; clear hb ho6))
   go_loopg [6, 16] k (fun kq v6 v16 w' => ∃ (x5_1 : List Int) (x6_1 : Int) (x16_1 : Int), v6 = .int .i64 x6_1 ∧ v16 = .int .i64 x16_1 ∧ za (zt.l0 kq l1 x5_1 x6_1 l0 (l0.length : Int) x16_1 = some r) ∧ za (kq ≤ k) ∧ za (Kd.R (Kd.int .i64) 3 w' w.heap.size (fun _ => True) v285 x5_1) ∧ za (Below w.heap.size w w'))
   case atStart => exact ⟨(y284), (0), (0), Zrs, Zrs, H', ⟨Nat.le_refl _⟩, ⟨Zq9 HO286⟩, ⟨Zq1 HB⟩⟩
   case round =>
    clear H'
    (try clear c1);(try clear p2);(try clear c3);(try clear c3b0);(try clear c3b1);(try clear c4);(try clear c4b0);(try clear c4b1)
    obtain ⟨x5_1, x6_1, x16_1, rfl, rfl, HA, HK1, HO_5, HB⟩ := hrel
    cases gk with
    | zero => exact absurd HA.out (by simp [zt.l0])
    | succ k1 =>
     have H := HA.out;clear HA;simp only [zt.l0] at H;by_cases c7 : x16_1 < (l0.length : Int)
     ·rw [if_pos c7] at H
      have c7b0 : decide (x16_1 < (l0.length : Int)) = true := decide_eq_true c7;clear c7;by_cases c8 : 0 ≤ x16_1
      ·rw [if_pos c8] at H
       have c8b0 : decide (0 ≤ x16_1) = true := decide_eq_true c8;clear c8;by_cases c9 : x16_1 < (l0.length : Int)
       ·rw [if_pos c9] at H
        have c9b0 : decide (x16_1 < (l0.length : Int)) = true := decide_eq_true c9;clear c9;have H' := za.mk H;clear H;have p287 : 0 ≤ (x16_1 : Int) := of_decide_eq_true Zas;have q287 : x16_1 < (l0.length : Int) := of_decide_eq_true Zas;obtain ⟨ad287, e287, hx287_0⟩ := Kd.zbr HR0.out x16_1 p287 q287
        cases e287
        replace hx287_0 := (HB.out.cell (World.block_lt_of_cell? w _ hx287_0)).trans hx287_0;replace p287 := eq_true p287;replace q287 := eq_true q287;go_wp2
        go_loopg [23] k1 (fun kq v23 w' => ∃ (x5_2 : List Int) (x23_2 : Int), v23 = .int .i64 x23_2 ∧ za (zt.l1 kq l1 x5_2 x6_1 x16_1 (rd l0 x16_1) l0 (l0.length : Int) x16_1 l1 (l1.length : Int) x23_2 = some r) ∧ za (kq ≤ k1) ∧ za (Kd.R (Kd.int .i64) 3 w' w.heap.size (fun _ => True) v285 x5_2) ∧ za (Below w.heap.size w w'))
        case atStart => exact ⟨(x5_1), (0), Zrs, H', ⟨Nat.le_refl _⟩, ⟨Zq9 HO_5⟩, ⟨Zq1 HB⟩⟩
        case round =>
         clear H'
         (try clear c1);(try clear p2);(try clear q2);(try clear hx2);(try clear c3);(try clear c3b0);(try clear c3b1);(try clear c4);(try clear c4b0);(try clear c4b1);(try clear c7);(try clear c7b0);(try clear c8);(try clear c8b0);(try clear c9);(try clear c9b0);(try clear hx287_0);(try clear p2);(try clear p287);(try clear q287)
         obtain ⟨x5_2, x23_2, rfl, HA, HK2, HO_5, HB⟩ := hrel
         cases gk with
         | zero => exact absurd HA.out (by simp [zt.l1])
         | succ k2 =>
          have H := HA.out;clear HA;simp only [zt.l1] at H;by_cases c10 : x23_2 < (l1.length : Int)
          ·rw [if_pos c10] at H
           have c10b0 : decide (x23_2 < (l1.length : Int)) = true := decide_eq_true c10;clear c10;by_cases c11 : 0 ≤ x23_2
           ·rw [if_pos c11] at H
            have c11b0 : decide (0 ≤ x23_2) = true := decide_eq_true c11;clear c11;by_cases c12 : x23_2 < (l1.length : Int)
            ·rw [if_pos c12] at H
             have c12b0 : decide (x23_2 < (l1.length : Int)) = true := decide_eq_true c12;clear c12;by_cases c13 : 1 < ((zn l1 x23_2).length : Int)
             ·rw [if_pos c13] at H
              have c13b0 : decide (1 < ((zn l1 x23_2).length : Int)) = true := decide_eq_true c13;have c13b1 : decide (1 < (zn l1 x23_2).length) = true := decide_eq_true (by omega);clear c13;by_cases c14 : (rd (zn l1 x23_2) 1) = x16_1
              ·rw [if_pos c14] at H
               have c14b0 : ((rd (zn l1 x23_2) 1) == x16_1) = true := beq_iff_eq.mpr c14;have c14b1 : ((rd (zn l1 x23_2) 1) != x16_1) = false := bne_eq_false_iff_eq.mpr c14;clear c14;by_cases c15 : 0 ≤ x16_1
               ·rw [if_pos c15] at H
                have c15b0 : decide (0 ≤ x16_1) = true := decide_eq_true c15;clear c15;by_cases c16 : x16_1 < (x5_2.length : Int)
                ·rw [if_pos c16] at H
                 have c16b0 : decide (x16_1 < (x5_2.length : Int)) = true := decide_eq_true c16;clear c16;by_cases c17 : 0 < ((zn l1 x23_2).length : Int)
                 ·rw [if_pos c17] at H
                  have c17b0 : decide (0 < ((zn l1 x23_2).length : Int)) = true := decide_eq_true c17;have c17b1 : decide (0 < (zn l1 x23_2).length) = true := decide_eq_true (by omega);clear c17;by_cases c18 : 0 ≤ (rd (zn l1 x23_2) 0)
                  ·rw [if_pos c18] at H
                   have c18b0 : decide (0 ≤ (rd (zn l1 x23_2) 0)) = true := decide_eq_true c18;clear c18;by_cases c19 : (rd (zn l1 x23_2) 0) < (x5_2.length : Int)
                   ·rw [if_pos c19] at H
                    have c19b0 : decide ((rd (zn l1 x23_2) 0) < (x5_2.length : Int)) = true := decide_eq_true c19;clear c19;obtain ⟨ji20, hji20⟩ : ∃ j_ : Int, (mx (rd x5_2 x16_1) (rd x5_2 (rd (zn l1 x23_2) 0))) = j_ := ⟨_, rfl⟩;replace H : (zt.l1 k2 l1 (x5_2.set (x16_1 : Int).toNat (ji20)) x6_1 x16_1 (rd l0 x16_1) l0 (l0.length : Int) x16_1 l1 (l1.length : Int) (wrap64 (x23_2 + 1))) = some r := by first | (rw [hji20] at H; exact H) | (simp only [hji20] at H ⊢; exact H)
                    have hji20_ : (if (rd x5_2 x16_1) < (rd x5_2 (rd (zn l1 x23_2) 0)) then (rd x5_2 (rd (zn l1 x23_2) 0)) else (rd x5_2 x16_1)) = ji20 := hji20;obtain ⟨y293, hy293⟩ : ∃ y_ : List Int, y_ = (x5_2.set (x16_1 : Int).toNat (ji20)) := ⟨_, rfl⟩;replace H : (zt.l1 k2 l1 y293 x6_1 x16_1 (rd l0 x16_1) l0 (l0.length : Int) x16_1 l1 (l1.length : Int) (wrap64 (x23_2 + 1))) = some r := by first | (rw [hy293]; with_reducible exact H) | (have H2_ := (Option.bind_some _ _).symm.trans H; rw [hy293]; with_reducible exact H2_) | (have H2_ := (Option.bind_some _ _).symm.trans H; with_reducible exact H2_) | with_reducible exact H | (rw [hy293]; exact H) | exact H
                    have Ny293 := za.mk hy293;clear hy293;have H' := za.mk H;clear H;have p288 : 0 ≤ (x23_2 : Int) := of_decide_eq_true Zas;have q288 : x23_2 < (l1.length : Int) := of_decide_eq_true Zas;obtain ⟨ad288, A288_0, c288_0, e288, hx288_0, hl288_0, hi288_0⟩ := zdf HR1.out x23_2 p288 q288
                    cases e288
                    replace hx288_0 := (HB.out.cell (World.block_lt_of_cell? w _ hx288_0)).trans hx288_0;have HR288_0 := za.mk hi288_0;have HC288_0 := za.mk hl288_0;clear hi288_0 hl288_0;replace p288 := eq_true p288;replace q288 := eq_true q288;have p289 : 0 ≤ (1 : Int) := (by omega);have q289 : 1 < ((zn l1 x23_2).length : Int) := of_decide_eq_true Zas;obtain ⟨ad289, e289, hx289_0⟩ := Kd.zbr HR288_0.out 1 p289 q289
                    cases e289
                    (try simp only [show (1 : Int).toNat = 1 from rfl, Nat.reduceMul, Nat.reduceEqDiff, Go.Addr.add, ↓reduceIte] at hx289_0);have qi289 : (1 < (zn l1 x23_2).length) = True := eq_true (by omega);(try rw [show ((1 : Int)).toNat = 1 from rfl] at hx289_0);replace hx289_0 := (HB.out.cell (World.block_lt_of_cell? w _ hx289_0)).trans hx289_0;replace p289 := eq_true p289;replace q289 := eq_true q289
                    try go_wp2
                    have n0_ := za.mk (Kd.zdy HO_5.out);have n1_ := za.mk (zb3 HB.out);clear HO_5;clear HB;have HO_5 := n0_;have HB := n1_;clear n0_ n1_;obtain ⟨Ao23, co23, eo23⟩ := Kd.zcf HO_5.out;(first | subst eo23 | (injection eo23 with f1_ f2_ f3_; have f4_ := f1_.symm; have f5_ := f3_.symm; clear f1_ f2_ f3_; subst f4_; subst f5_));have p290 : 0 ≤ (x16_1 : Int) := of_decide_eq_true Zas;have q290 : x16_1 < (x5_2.length : Int) := of_decide_eq_true Zas;obtain ⟨ad290, e290, hx290_0⟩ := Kd.zbr (Kd.zce HO_5.out).2.2 x16_1 p290 q290
                    cases e290
                    replace p290 := eq_true p290;replace q290 := eq_true q290;have p291 : 0 ≤ (0 : Int) := (by omega);have q291 : 0 < ((zn l1 x23_2).length : Int) := of_decide_eq_true Zas;obtain ⟨ad291, e291, hx291_0⟩ := Kd.zbr HR288_0.out 0 p291 q291;have hw291_0 := hx291_0;(try rw [show ((0 : Int)).toNat = 0 from rfl] at hw291_0);(try rw [show 0 * 1 = 0 from rfl] at hw291_0);(try rw [Addr.add_zero'] at hw291_0);obtain rfl : ad289 = ad291 := (by injection e291);have qi291 : (0 < (zn l1 x23_2).length) = True := eq_true (by omega);(try rw [show ((0 : Int)).toNat = 0 from rfl] at hx291_0);(try rw [Addr.add_zero'] at hx291_0);replace hx291_0 := (HB.out.cell (World.block_lt_of_cell? w _ hx291_0)).trans hx291_0;replace p291 := eq_true p291;replace q291 := eq_true q291;have p292 : 0 ≤ ((rd (zn l1 x23_2) 0) : Int) := of_decide_eq_true Zas;have q292 : (rd (zn l1 x23_2) 0) < (x5_2.length : Int) := of_decide_eq_true Zas;obtain ⟨ad292, e292, hx292_0⟩ := Kd.zbr (Kd.zce HO_5.out).2.2 (rd (zn l1 x23_2) 0) p292 q292;obtain rfl : ad290 = ad292 := (by injection e292);replace p292 := eq_true p292;replace q292 := eq_true q292;have p21 : 0 ≤ (x16_1 : Int) := of_decide_eq_true Zas;have q21 : (x16_1 : Int) < ((x5_2.length : Int) : Int) := of_decide_eq_true Zas;obtain ⟨go21, co21, eo21, gb21, gl21, cl21, HG21⟩ := Kd.zfn HO_5.out (by omega);(first | cases eo21 | (injection eo21 with ea_ en_ ec_; (first | subst ea_ | (injection ea_ with ea_; subst ea_)); subst ec_; clear en_));have GB21 := za.mk gb21;have GG21 := za.mk HG21;clear gb21 gl21 HG21;(first | simp only [add_plain] at hx290_0 | skip);(first | simp only [add_plain] at hx292_0 | skip);obtain ⟨hx21_0, hf21_0⟩ := Kd.zd9 0 HO_5.out (x16_1 : Int) p21 q21;replace p21 := eq_true p21;replace q21 := eq_true q21;have HP24 := Kd.R_putn HO_5.out (x16_1 : Int) ji20;rw [← Ny293.out] at HP24;have HQ24 := za.mk HP24;clear HP24;refine zd1 (n := 15) (S := fun w' => w'.cell? ⟨go21, (x16_1).toNat, none⟩ = some (.int .i64 (rd x5_2 x16_1)) ∧ w'.cell? ad289 = some (.int .i64 (rd (zn l1 x23_2) 0)) ∧ w'.cell? ⟨go21, ((rd (zn l1 x23_2) 0)).toNat, none⟩ = some (.int .i64 (rd x5_2 (rd (zn l1 x23_2) 0)))) (ds := [14]) #[false, false, false, false, false, false, false, false, false, false, false, false, false, false, false] (by kernel_rfl) rfl rfl ⟨hx290_0, ((HB.out.cell (World.block_lt_of_cell? w _ hw291_0)).trans hw291_0), hx292_0⟩ (fun hHeld => ?_); refine zcn zt.tab10 zt.bits10 (fun HT_ HW_ => ?_);generalize wr.drew = w22 at HO_5 HB GG21 HQ24 hf21_0 hx21_0 hx290_0 hx291_0 hx292_0 hHeld ⊢;refine zi (i := 0) (N := some 32) (v := ?_) (a' := ?_) #[true, false, false, false, false, false, false, false, false, false, false, false, false, false, false] rfl rfl (zb HT_.out (by kernel_rfl)) (fun _ _ _ h => h) (Or.inl ⟨by rfl, ?_⟩) ?_ ?_;rotate_left
                    ·intro w'
                     go_simp;with_reducible rfl
                    rotate_left
                    ·simp only [Act.put, Zs1, Zs2, Zs3, zg, zh]
                     rfl
                    refine zi (i := 1) (N := some 33) (v := ?_) (a' := ?_) #[true, true, false, false, false, false, false, false, false, false, false, false, false, false, false] rfl rfl (zb HT_.out (by kernel_rfl)) (fun _ _ _ h => h) (Or.inl ⟨by rfl, ?_⟩) ?_ ?_;rotate_left
                    ·intro w'
                     go_simp;with_reducible rfl
                    rotate_left
                    ·simp only [Act.put, Zs1, Zs2, Zs3, zg, zh]
                     rfl
                    refine zi (i := 2) (N := some 34) (v := ?_) (a' := ?_) #[true, true, true, false, false, false, false, false, false, false, false, false, false, false, false] rfl rfl (zb HT_.out (by kernel_rfl)) (fun _ _ _ h => h) (Or.inl ⟨by rfl, ?_⟩) ?_ ?_;rotate_left
                    ·intro w'
                     go_simp;with_reducible rfl
                    rotate_left
                    ·simp only [Act.put, Zs1, Zs2, Zs3, zg, zh]
                     rfl
                    refine zi (i := 3) (N := some 35) (v := ?_) (a' := ?_) #[true, true, true, true, false, false, false, false, false, false, false, false, false, false, false] rfl rfl (zb HT_.out (by kernel_rfl)) (fun _ _ _ h => h) (Or.inl ⟨by rfl, ?_⟩) ?_ ?_;rotate_left
                    ·intro w'
                     go_simp;with_reducible rfl
                    rotate_left
                    ·simp only [Act.put, Zs1, Zs2, Zs3, zg, zh]
                     rfl
                    refine zi (i := 4) (N := some 36) (v := ?_) (a' := ?_) #[true, true, true, true, true, false, false, false, false, false, false, false, false, false, false] rfl rfl (zb HT_.out (by kernel_rfl)) (fun _ _ _ h => h) (Or.inl ⟨by rfl, ?_⟩) ?_ ?_;rotate_left
                    ·intro w'
                     go_simp;with_reducible rfl
                    rotate_left
                    ·simp only [Act.put, Zs1, Zs2, Zs3, zg, zh]
                     rfl
                    refine zi (i := 6) (N := some 38) (v := ?_) (a' := ?_) #[true, true, true, true, true, false, true, false, false, false, false, false, false, false, false] rfl rfl (zb HT_.out (by kernel_rfl)) (fun _ _ _ h => h) (Or.inl ⟨by rfl, ?_⟩) ?_ ?_;rotate_left
                    ·intro w'
                     go_simp;with_reducible rfl
                    rotate_left
                    ·simp only [Act.put, Zs1, Zs2, Zs3, zg, zh]
                     rfl
                    refine zi (i := 7) (N := some 39) (v := ?_) (a' := ?_) #[true, true, true, true, true, false, true, true, false, false, false, false, false, false, false] rfl rfl (zb HT_.out (by kernel_rfl)) (fun _ _ _ h => h) (Or.inl ⟨by rfl, ?_⟩) ?_ ?_;rotate_left
                    ·intro w'
                     go_simp;with_reducible rfl
                    rotate_left
                    ·simp only [Act.put, Zs1, Zs2, Zs3, zg, zh]
                     rfl
                    refine zi (i := 8) (N := some 40) (v := ?_) (a' := ?_) #[true, true, true, true, true, false, true, true, true, false, false, false, false, false, false] rfl rfl (zb HT_.out (by kernel_rfl)) (fun _ _ _ h => h) (Or.inl ⟨by rfl, ?_⟩) ?_ ?_;rotate_left
                    ·intro w'
                     go_simp;with_reducible rfl
                    rotate_left
                    ·simp only [Act.put, Zs1, Zs2, Zs3, zg, zh]
                     rfl
                    refine zcj (i := 5) (N := some 37) (v := ?_) (a' := ?_) #[true, true, true, true, true, true, true, true, true, false, false, false, false, false, false] rfl rfl (zbo HT_.out HW_.out (by kernel_rfl)) (fun _ _ _ h => h) (Or.inl ⟨by rfl, ?_⟩) hHeld ?_ ?_;rotate_left
                    ·rintro w' ⟨s0, s1, s2⟩
                     go_simp;with_reducible rfl
                    rotate_left
                    ·simp only [Act.put, Zs1, Zs2, Zs3, zg, zh]
                     rfl
                    refine zcj (i := 9) (N := some 41) (v := ?_) (a' := ?_) #[true, true, true, true, true, true, true, true, true, true, false, false, false, false, false] rfl rfl (zbo HT_.out HW_.out (by kernel_rfl)) (fun _ _ _ h => h) (Or.inl ⟨by rfl, ?_⟩) hHeld ?_ ?_;rotate_left
                    ·rintro w' ⟨s0, s1, s2⟩
                     go_simp;with_reducible rfl
                    rotate_left
                    ·simp only [Act.put, Zs1, Zs2, Zs3, zg, zh]
                     rfl
                    refine zi (i := 10) (N := some 42) (v := ?_) (a' := ?_) #[true, true, true, true, true, true, true, true, true, true, true, false, false, false, false] rfl rfl (zb HT_.out (by kernel_rfl)) (fun _ _ _ h => h) (Or.inl ⟨by rfl, ?_⟩) ?_ ?_;rotate_left
                    ·intro w'
                     go_simp;with_reducible rfl
                    rotate_left
                    ·simp only [Act.put, Zs1, Zs2, Zs3, zg, zh]
                     rfl
                    refine zcj (i := 11) (N := some 43) (v := ?_) (a' := ?_) #[true, true, true, true, true, true, true, true, true, true, true, true, false, false, false] rfl rfl (zbo HT_.out HW_.out (by kernel_rfl)) (fun _ _ _ h => h) (Or.inl ⟨by rfl, ?_⟩) hHeld ?_ ?_;rotate_left
                    ·rintro w' ⟨s0, s1, s2⟩
                     go_simp;with_reducible rfl
                    rotate_left
                    ·simp only [Act.put, Zs1, Zs2, Zs3, zg, zh]
                     rfl
                    refine zi (i := 12) (N := some 44) (v := ?_) (a' := ?_) #[true, true, true, true, true, true, true, true, true, true, true, true, true, false, false] rfl rfl (zb HT_.out (by kernel_rfl)) (fun _ _ _ h => h) (Or.inl ⟨by rfl, ?_⟩) ?_ ?_;rotate_left
                    ·intro w'
                     go_simp;with_reducible rfl
                    rotate_left
                    ·simp only [Act.put, Zs1, Zs2, Zs3, zg, zh]
                     rfl
                    refine zi (i := 13) (N := some 45) (v := ?_) (a' := ?_) #[true, true, true, true, true, true, true, true, true, true, true, true, true, true, false] rfl rfl (zb HT_.out (by kernel_rfl)) (fun _ _ _ h => h) (Or.inl ⟨by rfl, ?_⟩) ?_ ?_;rotate_left
                    ·intro w'
                     go_simp;with_reducible rfl
                    rotate_left
                    ·simp only [Act.put, Zs1, Zs2, Zs3, zg, zh]
                     rfl
                    refine last_ (i := 14) (N := none) #[true, true, true, true, true, true, true, true, true, true, true, true, true, true, true] rfl rfl (zda HT_.out (by kernel_rfl)) (by decide) (fun K hK => ?_);refine skip_ (w1 := ?_) (by rfl) rfl ?_ ?_;rotate_left
                    ·go_simp
                     rfl
                    refine hK.out _ _ ?_;clear hK K;refine ze0 (zdd HT_.out (by kernel_rfl)) ?_
                    try go_wp2
                    go_roundg k2
                    case measure => have := HK1.out; have := HK2.out; omega
                    case rel => exact ⟨(y293), (wrap64 (x23_2 + 1)), Zrs, H', ⟨by have := HK1.out; have := HK2.out; omega⟩, ⟨Zq9 HQ24⟩, ⟨Zq3 HB GB21⟩⟩
                   ·rw [if_neg c19] at H
                    exact absurd H (by simp)
                  ·rw [if_neg c18] at H
                   exact absurd H (by simp)
                 ·rw [if_neg c17] at H
                  exact absurd H (by simp)
                ·rw [if_neg c16] at H
                 exact absurd H (by simp)
               ·rw [if_neg c15] at H
                exact absurd H (by simp)
              ·rw [if_neg c14] at H
               have c14b0 : ((rd (zn l1 x23_2) 1) == x16_1) = false := beq_eq_false_iff_ne.mpr c14;have c14b1 : ((rd (zn l1 x23_2) 1) != x16_1) = true := bne_iff_ne.mpr c14;have H' := za.mk H;clear H;have p288 : 0 ≤ (x23_2 : Int) := of_decide_eq_true Zas;have q288 : x23_2 < (l1.length : Int) := of_decide_eq_true Zas;obtain ⟨ad288, A288_0, c288_0, e288, hx288_0, hl288_0, hi288_0⟩ := zdf HR1.out x23_2 p288 q288
               cases e288
               replace hx288_0 := (HB.out.cell (World.block_lt_of_cell? w _ hx288_0)).trans hx288_0;have HR288_0 := za.mk hi288_0;have HC288_0 := za.mk hl288_0;clear hi288_0 hl288_0;replace p288 := eq_true p288;replace q288 := eq_true q288;have p289 : 0 ≤ (1 : Int) := (by omega);have q289 : 1 < ((zn l1 x23_2).length : Int) := of_decide_eq_true Zas;obtain ⟨ad289, e289, hx289_0⟩ := Kd.zbr HR288_0.out 1 p289 q289
               cases e289
               (try simp only [show (1 : Int).toNat = 1 from rfl, Nat.reduceMul, Nat.reduceEqDiff, Go.Addr.add, ↓reduceIte] at hx289_0);have qi289 : (1 < (zn l1 x23_2).length) = True := eq_true (by omega);(try rw [show ((1 : Int)).toNat = 1 from rfl] at hx289_0);replace hx289_0 := (HB.out.cell (World.block_lt_of_cell? w _ hx289_0)).trans hx289_0;replace p289 := eq_true p289;replace q289 := eq_true q289;go_wp2;go_roundg k2
               case measure => have := HK1.out; have := HK2.out; omega
               case rel => exact ⟨(x5_2), (wrap64 (x23_2 + 1)), Zrs, H', ⟨by have := HK1.out; have := HK2.out; omega⟩, ⟨Zq9 HO_5⟩, ⟨Zq1 HB⟩⟩
             ·rw [if_neg c13] at H
              exact absurd H (by simp)
            ·rw [if_neg c12] at H
             exact absurd H (by simp)
           ·rw [if_neg c11] at H
            exact absurd H (by simp)
          ·rw [if_neg c10] at H
           have c10b0 : decide (x23_2 < (l1.length : Int)) = false := decide_eq_false c10;clear c10;by_cases c25 : 0 ≤ x16_1
           ·rw [if_pos c25] at H
            have c25b0 : decide (0 ≤ x16_1) = true := decide_eq_true c25;clear c25;by_cases c26 : x16_1 < (x5_2.length : Int)
            ·rw [if_pos c26] at H
             have c26b0 : decide (x16_1 < (x5_2.length : Int)) = true := decide_eq_true c26;clear c26;obtain ⟨y295, hy295⟩ : ∃ y_ : List Int, y_ = (x5_2.set (x16_1 : Int).toNat (wrap64 ((rd x5_2 x16_1) + (rd l0 x16_1)))) := ⟨_, rfl⟩;replace H : (zt.l0 k2 l1 y295 (mx x6_1 (rd y295 x16_1)) l0 (l0.length : Int) (wrap64 (x16_1 + 1))) = some r := by first | (rw [hy295]; with_reducible exact H) | (have H2_ := (Option.bind_some _ _).symm.trans H; rw [hy295]; with_reducible exact H2_) | (have H2_ := (Option.bind_some _ _).symm.trans H; with_reducible exact H2_) | with_reducible exact H | (rw [hy295]; exact H) | exact H
             have Ny295 := za.mk hy295;clear hy295;obtain ⟨ji28, hji28⟩ : ∃ j_ : Int, (mx x6_1 (rd y295 x16_1)) = j_ := ⟨_, rfl⟩;replace H : (zt.l0 k2 l1 y295 ji28 l0 (l0.length : Int) (wrap64 (x16_1 + 1))) = some r := by first | (rw [hji28] at H; exact H) | (simp only [hji28] at H ⊢; exact H)
             have hji28_ : (if x6_1 < (rd y295 x16_1) then (rd y295 x16_1) else x6_1) = ji28 := hji28;have H' := za.mk H;clear H;obtain ⟨Ao29, co29, eo29⟩ := Kd.zcf HO_5.out;subst eo29;have p294 : 0 ≤ (x16_1 : Int) := of_decide_eq_true Zas;have q294 : x16_1 < (x5_2.length : Int) := of_decide_eq_true Zas;obtain ⟨ad294, e294, hx294_0⟩ := Kd.zbr (Kd.zce HO_5.out).2.2 x16_1 p294 q294
             cases e294
             replace p294 := eq_true p294;replace q294 := eq_true q294;have p27 : 0 ≤ (x16_1 : Int) := of_decide_eq_true Zas;have q27 : (x16_1 : Int) < ((x5_2.length : Int) : Int) := of_decide_eq_true Zas;obtain ⟨go27, co27, eo27, gb27, gl27, cl27, HG27⟩ := Kd.zfn HO_5.out (by omega);(first | cases eo27 | (injection eo27 with ea_ en_ ec_; (first | subst ea_ | (injection ea_ with ea_; subst ea_)); subst ec_; clear en_));have GB27 := za.mk gb27;have GG27 := za.mk HG27;clear gb27 gl27 HG27;(first | simp only [add_plain] at hx294_0 | skip);obtain ⟨hx27_0, hf27_0⟩ := Kd.zd9 0 HO_5.out (x16_1 : Int) p27 q27;replace p27 := eq_true p27;replace q27 := eq_true q27;have HP30 := Kd.ze5 HO_5.out (x16_1 : Int) (wrap64 ((rd x5_2 x16_1) + (rd l0 x16_1)));go_wp2_with (first | ((with_reducible refine gate_store (t := 3) (p := 53) rfl ?_); refine zim (t := 3) (p := 53) (v := ?vo_w31) (w1 := (wr.setCell ⟨go27, (x16_1 : Int).toNat, none⟩ (.int .i64 (wrap64 ((rd x5_2 x16_1) + (rd l0 x16_1)))))) ?hg ?ho ?hn ?hr ?_; (case ho => rfl); (case hg => rfl); (case hn => rfl); (case hr => first | (go_simp; done) | (go_simp; rfl)); intro w31 hw; have hg : wr.grownBy w31 (some go27) := (by rw [hw]; exact HP30.2); have hp_ : Kd.R (Kd.int .i64) 3 w31 w.heap.size (fun _ => True) (.slice (some ⟨go27, 0, none⟩) x5_2.length co29) y295 := (by rw [hw, Ny295.out]; exact HP30.1); clear HP30; have n0_ := za.mk (hp_); have n1_ := za.mk ((by rw [hw]; exact zen (HB.out) GB27.out : Below w.heap.size w w31)); clear HO_5; clear HB; have HO_5 := n0_; have HB := n1_; clear n0_ n1_; clear hg hw hp_; have p296 : 0 ≤ (x16_1 : Int) := of_decide_eq_true Zas; have q296 : x16_1 < (y295.length : Int) := (by have h_ : (x16_1 : Int) < ((x5_2.length : Int) : Int) := of_decide_eq_true Zas; first | (have e_ := (Kd.zce HO_5.out).1; omega) | simpa only [Ny295.out, List.length_set] using h_); have ql296 : ((x16_1 : Int) < ((x5_2.length : Int) : Int)) = True := eq_true (of_decide_eq_true Zas); obtain ⟨ad296, e296, hx296_0⟩ := Kd.zbr (Kd.zce HO_5.out).2.2 x16_1 p296 q296; obtain rfl : (⟨go27, 0, none⟩ : Addr) = ad296 := (by injection e296); (first | simp only [add_plain] at hx296_0 | simp only [add_at] at hx296_0 | simp only [Addr.add, Nat.zero_add] at hx296_0 | skip); replace p296 := eq_true p296; replace q296 := eq_true q296));go_roundg k2
             case measure => have := HK1.out; have := HK2.out; omega
             case rel => exact ⟨(y295), (ji28), (wrap64 (x16_1 + 1)), (by first | rfl | (simp; done) | (simp only [← hji28] <;> (first | rfl | simp)) | (simp [*]; done)), Zrs, H', ⟨by have := HK1.out; have := HK2.out; omega⟩, ⟨Zq9 HO_5⟩, ⟨Zq1 HB⟩⟩
            ·rw [if_neg c26] at H
             exact absurd H (by simp)
           ·rw [if_neg c25] at H
            exact absurd H (by simp)
       ·rw [if_neg c9] at H
        exact absurd H (by simp)
      ·rw [if_neg c8] at H
       exact absurd H (by simp)
     ·rw [if_neg c7] at H
      have c7b0 : decide (x16_1 < (l0.length : Int)) = false := decide_eq_false c7;clear c7;obtain rfl := Option.some.inj H;go_wp2;go_ret;exact ⟨by first | rfl | (simp [zl, zm] <;> rfl) | (simp [*, zl, zm] <;> rfl), Zq1 HB⟩
  ·rw [if_neg c4] at H
   exact absurd H (by simp)
 ·rw [if_neg c3] at H
  exact absurd H (by simp)
def zba.j0 : Nat → List Int → List (List Int) → Int → Bool → Option (Int)
 | 0, _, _, _, _ => none
 | k + 1, x0, x1, x2, x16 => if x16 = true then (some (-1)) else ((zt.f k x0 x1).bind fun t299 => ((zbv.f k x0).bind fun t300 => (if x2 = 0 then (none) else (some (wrap64 (t299 + (wrap64 (Int.tdiv (wrap64 (t300 - t299)) x2))))))))
def zba.f (k : Nat) (l0 : List Int) (l1 : List (List Int)) (a2 : Int) : Option (Int) := (zk.f k l0 l1).bind fun t297 => (if t297 = true then ((zca.f a2).bind fun t298 => (zba.j0 k l0 l1 a2 (!t298))) else (zba.j0 k l0 l1 a2 true))
set_option maxHeartbeats 8000000 in
theorem zba.calls (k : Nat) (A0 : Option Addr) (c0 : Nat) (l0 : List Int) (A1 : Option Addr) (c1 : Nat) (l1 : List (List Int)) (a2 : Int) (r : Int) (w : World) (hr0 : Kd.C (Kd.int .i64) w A0 l0.length l0) (hc0 : l0.length ≤ c0) (hr1 : Kd.C (Kd.slice 3 (Kd.int .i64)) w A1 l1.length l1) (hc1 : l1.length ≤ c1) (h : zba.f k l0 l1 a2 = some r) :
  Calls Try.prog 17 #[.slice A0 l0.length c0, .slice A1 l1.length c1, .int .i64 a2] w fun e w' => e = .returned (.int .i64 r) ∧ Below w.heap.size w w' := by
 have HR0 := za.mk hr0
 have HC0 := za.mk hc0
 clear hr0 hc0
 have HR1 := za.mk hr1
 have HC1 := za.mk hc1
 clear hr1 hc1
 have HB := za.mk (Below.refl w.heap.size w)
 have H : ((zk.f k l0 l1).bind fun t297 => (if t297 = true then ((zca.f a2).bind fun t298 => (zba.j0 k l0 l1 a2 (!t298))) else (zba.j0 k l0 l1 a2 true))) = some r := h
 clear h
 have HC4 := za.mk H
 clear H
 go_enter Try.func17, Try.ntmps17
 go_upto_region 1 with (fail)
 go_cut [16] (fun v16 wc => ∃ (kq : Nat) (x16_3 : Bool), v16 = .bool x16_3 ∧ za (zba.j0 kq l0 l1 a2 x16_3 = some r) ∧ za (kq ≤ k) ∧ za (Below w.heap.size w wc))
 case first =>
  have H := HC4.out;clear HC4;replace H := Option.bind_eq_some_iff.mp H;obtain ⟨t297, A50, H⟩ := H;replace H : (if t297 = true then ((zca.f a2).bind fun t298 => (zba.j0 k l0 l1 a2 (!t298))) else (zba.j0 k l0 l1 a2 true)) = some r := H;have A5 := za.mk A50;clear A50;by_cases c6 : t297 = true
  ·subst c6
   have H1 : ((zca.f a2).bind fun t298 => (zba.j0 k l0 l1 a2 (!t298))) = some r := by rw [if_pos rfl] at H; exact H
   clear H;have H := H1;clear H1;replace H := Option.bind_eq_some_iff.mp H;obtain ⟨t298, A70, H⟩ := H;replace H : (zba.j0 k l0 l1 a2 (!t298)) = some r := H;have A7 := za.mk A70;clear A70;have H' := za.mk H;clear H;go_wp2_with (first | ((with_reducible refine zu (f := 30) rfl ?_); refine zbx (some 10) rfl rfl Try.func30 (by kernel_rfl) rfl #[.slice A0 l0.length c0, .slice A1 l1.length c1] rfl Zmt ?_; (with_reducible refine (zk.calls k _ _ l0 _ _ l1 true _ ?side1 ?side2 ?side3 ?side4 A5.out).mono ?_); (case side1 => exact Zq12 (Kd.zb2 HR0.out HB.out)); (case side2 => exact HC0.out); (case side3 => exact Zq12 (Kd.zb2 HR1.out HB.out)); (case side4 => exact HC1.out); rintro e w8 ⟨rfl, hb⟩; refine ⟨_, rfl, ?_⟩; have n0_ := za.mk (zy (Zq1 HB) hb); clear HB; have HB := n0_; clear n0_; (try clear hb); (try clear hb2); (try clear hk); (try clear hi)) | (go_at_call 31; (with_reducible refine (zca.calls a2 t298 _ A7.out).mono ?_); rintro e w' ⟨rfl, ⟨nd, rfl⟩⟩));go_meet
   case rel => exact ⟨_, (!t298), Zrs, H', ⟨by first | omega | exact Nat.le_refl _⟩, ⟨Zq1 HB⟩⟩
  ·replace c6 := Bool.eq_false_iff.mpr c6
   subst c6;have H1 : (zba.j0 k l0 l1 a2 true) = some r := by rw [if_neg (show ¬ (false = true) by decide)] at H; exact H
   clear H;have H := H1;clear H1;have H' := za.mk H;clear H;go_wp2_with (first | ((with_reducible refine zu (f := 30) rfl ?_); refine zbx (some 10) rfl rfl Try.func30 (by kernel_rfl) rfl #[.slice A0 l0.length c0, .slice A1 l1.length c1] rfl Zmt ?_; (with_reducible refine (zk.calls k _ _ l0 _ _ l1 false _ ?side1 ?side2 ?side3 ?side4 A5.out).mono ?_); (case side1 => exact Zq12 (Kd.zb2 HR0.out HB.out)); (case side2 => exact HC0.out); (case side3 => exact Zq12 (Kd.zb2 HR1.out HB.out)); (case side4 => exact HC1.out); rintro e w9 ⟨rfl, hb⟩; refine ⟨_, rfl, ?_⟩; have n0_ := za.mk (zy (Zq1 HB) hb); clear HB; have HB := n0_; clear n0_; (try clear hb); (try clear hb2); (try clear hk); (try clear hi)));go_meet
   case rel => exact ⟨_, (true), Zrs, H', ⟨by first | omega | exact Nat.le_refl _⟩, ⟨Zq1 HB⟩⟩
 case rest =>
  clear HC4
  (try clear c1);(try clear p2);(try clear c3);(try clear c6)
  obtain ⟨kq, x16_3, rfl, HA, HJ3, HB⟩ := hcut
  cases kq with
  | zero => exact absurd HA.out (by simp [zba.j0])
  | succ kj3 =>
   have H := HA.out;clear HA;simp only [zba.j0] at H;by_cases c10 : x16_3 = true
   ·subst c10
    have H1 : (some (-1)) = some r := by rw [if_pos rfl] at H; exact H
    clear H;have H := H1;clear H1;obtain rfl := Option.some.inj H;go_wp2;go_ret;exact ⟨by first | rfl | (simp [zl, zm] <;> rfl) | (simp [*, zl, zm] <;> rfl), Zq1 HB⟩
   ·replace c10 := Bool.eq_false_iff.mpr c10
    subst c10;have H1 : ((zt.f kj3 l0 l1).bind fun t299 => ((zbv.f kj3 l0).bind fun t300 => (if a2 = 0 then (none) else (some (wrap64 (t299 + (wrap64 (Int.tdiv (wrap64 (t300 - t299)) a2)))))))) = some r := by rw [if_neg (show ¬ (false = true) by decide)] at H; exact H
    clear H;have H := H1;clear H1;replace H := Option.bind_eq_some_iff.mp H;obtain ⟨t299, A110, H⟩ := H;replace H : ((zbv.f kj3 l0).bind fun t300 => (if a2 = 0 then (none) else (some (wrap64 (t299 + (wrap64 (Int.tdiv (wrap64 (t300 - t299)) a2))))))) = some r := H;have A11 := za.mk A110;clear A110;replace H := Option.bind_eq_some_iff.mp H;obtain ⟨t300, A120, H⟩ := H;replace H : (if a2 = 0 then (none) else (some (wrap64 (t299 + (wrap64 (Int.tdiv (wrap64 (t300 - t299)) a2)))))) = some r := H;have A12 := za.mk A120;clear A120;by_cases c13 : a2 = 0
    ·rw [if_pos c13] at H
     exact absurd H (by simp)
    ·rw [if_neg c13] at H
     have c13b0 : (a2 == 0) = false := beq_eq_false_iff_ne.mpr c13;have c13b1 : (a2 != 0) = true := bne_iff_ne.mpr c13;obtain rfl := Option.some.inj H;go_wp2_with (first | ((with_reducible refine zu (f := 46) rfl ?_); refine zbx (some 19) rfl rfl Try.func46 (by kernel_rfl) rfl #[.slice A0 l0.length c0, .slice A1 l1.length c1] rfl Zmt ?_; (with_reducible refine (zt.calls kj3 _ _ l0 _ _ l1 t299 _ ?side1 ?side2 ?side3 ?side4 A11.out).mono ?_); (case side1 => exact Zq12 (Kd.zb2 HR0.out HB.out)); (case side2 => exact HC0.out); (case side3 => exact Zq12 (Kd.zb2 HR1.out HB.out)); (case side4 => exact HC1.out); rintro e w14 ⟨rfl, hb⟩; refine ⟨_, rfl, ?_⟩; have n0_ := za.mk (zy (Zq1 HB) hb); clear HB; have HB := n0_; clear n0_; (try clear hb); (try clear hb2); (try clear hk); (try clear hi)) | ((with_reducible refine zu (f := 42) rfl ?_); refine zbx (some 22) rfl rfl Try.func42 (by kernel_rfl) rfl #[.slice A0 l0.length c0] rfl Zmt ?_; (with_reducible refine (zbv.calls kj3 _ _ l0 t300 _ ?side1 ?side2 A12.out).mono ?_); (case side1 => exact Zq12 (Kd.zb2 HR0.out HB.out)); (case side2 => exact HC0.out); rintro e w' ⟨rfl, ⟨nd, rfl⟩⟩; refine ⟨_, rfl, ?_⟩));go_ret;exact ⟨by first | rfl | (simp [zl, zm] <;> rfl) | (simp [*, zl, zm] <;> rfl), Zq1 HB⟩
mutual
def zbj.l0 : Nat → List Int → List (List Int) → List Int → Int → Option (List Int)
 | 0, _, _, _, _ => none
 | k + 1, x0, x1, x5, x6 => if x6 < (x0.length : Int) then (zbj.l1 k x0 x1 x5 x6 0 0) else (some x5)
def zbj.l1 : Nat → List Int → List (List Int) → List Int → Int → Int → Int → Option (List Int)
 | 0, _, _, _, _, _, _ => none
 | k + 1, x0, x1, x5, x6, x7, x8 => if x8 < (x1.length : Int) then (if 0 ≤ x8 then (if 1 < ((zn x1 x8).length : Int) then (if (rd (zn x1 x8) 1) = x6 then (if 0 < ((zn x1 x8).length : Int) then (if 0 ≤ (rd (zn x1 x8) 0) then (if (rd (zn x1 x8) 0) < (x5.length : Int) then (zbj.l1 k x0 x1 x5 x6 (mx x7 (rd x5 (rd (zn x1 x8) 0))) (wrap64 (x8 + 1))) else (none)) else (none)) else (none)) else (zbj.l1 k x0 x1 x5 x6 x7 (wrap64 (x8 + 1)))) else (none)) else (none)) else (if 0 ≤ x6 then (if x6 < (x0.length : Int) then (if x5.length < 17592186044416 then (zbj.l0 k x0 x1 (x5 ++ [wrap64 (x7 + (rd x0 x6))]) (wrap64 (x6 + 1))) else (none)) else (none)) else (none))
end
def zbj.f (k : Nat) (l0 : List Int) (l1 : List (List Int)) : Option (List Int) := zbj.l0 k l0 l1 (([] : List Int)) 0
set_option maxHeartbeats 8000000 in
theorem zbj.calls (k : Nat) (A0 : Option Addr) (c0 : Nat) (l0 : List Int) (A1 : Option Addr) (c1 : Nat) (l1 : List (List Int)) (r : List Int) (w : World) (hr0 : Kd.C (Kd.int .i64) w A0 l0.length l0) (hc0 : l0.length ≤ c0) (hr1 : Kd.C (Kd.slice 3 (Kd.int .i64)) w A1 l1.length l1) (hc1 : l1.length ≤ c1) (h : zbj.f k l0 l1 = some r) :
  Calls Try.prog 61 #[.slice A0 l0.length c0, .slice A1 l1.length c1] w fun e w' => ∃ v0_ : Value, e = .returned (v0_) ∧ Kd.R (Kd.int .i64) 3 w' w.heap.size (fun _ => True) v0_ r ∧ Below w.heap.size w w' := by
 have HR0 := za.mk hr0
 have HC0 := za.mk hc0
 clear hr0 hc0
 have HR1 := za.mk hr1
 have HC1 := za.mk hc1
 clear hr1 hc1
 have HB := za.mk (Below.refl w.heap.size w)
 have H : (zbj.l0 k l0 l1 (([] : List Int)) 0) = some r := h
 clear h
 obtain ⟨y301, hy301⟩ : ∃ y_ : List Int, y_ = (([] : List Int)) := ⟨_, rfl⟩
 replace H : (zbj.l0 k l0 l1 y301 0) = some r := by first | (rw [hy301]; with_reducible exact H) | (have H2_ := (Option.bind_some _ _).symm.trans H; rw [hy301]; with_reducible exact H2_) | (have H2_ := (Option.bind_some _ _).symm.trans H; with_reducible exact H2_) | with_reducible exact H | (rw [hy301]; exact H) | exact H
 have Ny301 := za.mk hy301
 clear hy301
 have H' := za.mk H
 clear H
 go_enter Try.func61, Try.ntmps61
 go_wp2_with (first | ((with_reducible refine zcc (N := 9) rfl ?_); refine Kd.zfh (Kd.int .i64) _ 3 ?hg (N := 9) ?hd (xs := ([] : List Int)) (inner := []) (ok := fun _ => True) (okp := fun _ => True) ?hr ?hp (fun _ hk => hk) trivial (Below.refl _ _) (Nat.le_refl _) (by simp) ?_; (case hd => rfl); (case hg => rfl); (case hr => first | (go_simp; done) | (go_simp; rfl)); (case hp => exact (Reps.none _ _)); intro v302 w3 ho4 hb hg_ hnew_; clear hg_ hnew_; (first | rw [← Ny301.out] at ho4 | (simp only [Int.reduceToNat] at ho4; rw [← Ny301.out] at ho4)); have n0_ := za.mk (Kd.zch ho4 (zbu (Zq1 HB))); have n1_ := za.mk (zy (Zq1 HB) hb); clear HB; have HO303 := n0_; have HB := n1_; clear n0_ n1_; clear hb ho4))
 go_loopg [5, 6] k (fun kq v5 v6 w' => ∃ (x5_1 : List Int) (x6_1 : Int), v6 = .int .i64 x6_1 ∧ za (zbj.l0 kq l0 l1 x5_1 x6_1 = some r) ∧ za (kq ≤ k) ∧ za (Kd.R (Kd.int .i64) 3 w' w.heap.size (fun _ => True) v5 x5_1) ∧ za (Below w.heap.size w w'))
 case atStart => exact ⟨(y301), (0), Zrs, H', ⟨Nat.le_refl _⟩, ⟨Zq9 HO303⟩, ⟨Zq1 HB⟩⟩
 case round =>
  clear H'
  (try clear c1);(try clear p2)
  obtain ⟨x5_1, x6_1, rfl, HA, HK1, HO_5, HB⟩ := hrel
  cases gk with
  | zero => exact absurd HA.out (by simp [zbj.l0])
  | succ k1 =>
   have H := HA.out;clear HA;simp only [zbj.l0] at H;by_cases c5 : x6_1 < (l0.length : Int)
   ·rw [if_pos c5] at H
    have c5b0 : decide (x6_1 < (l0.length : Int)) = true := decide_eq_true c5;clear c5;have H' := za.mk H;clear H;go_wp2
    go_loopg [7, 8] k1 (fun kq v7 v8 w' => ∃ (x7_2 : Int) (x8_2 : Int), v7 = .int .i64 x7_2 ∧ v8 = .int .i64 x8_2 ∧ za (zbj.l1 kq l0 l1 x5_1 x6_1 x7_2 x8_2 = some r) ∧ za (kq ≤ k1) ∧ za (Kd.R (Kd.int .i64) 3 w' w.heap.size (fun _ => True) u5 x5_1) ∧ za (Below w.heap.size w w'))
    case atStart => exact ⟨(0), (0), Zrs, Zrs, H', ⟨Nat.le_refl _⟩, ⟨Zq9 HO_5⟩, ⟨Zq1 HB⟩⟩
    case round =>
     clear H'
     (try clear c1);(try clear p2);(try clear c5);(try clear c5b0);(try clear p2)
     obtain ⟨x7_2, x8_2, rfl, rfl, HA, HK2, HO_5, HB⟩ := hrel
     cases gk with
     | zero => exact absurd HA.out (by simp [zbj.l1])
     | succ k2 =>
      have H := HA.out;clear HA;simp only [zbj.l1] at H;by_cases c6 : x8_2 < (l1.length : Int)
      ·rw [if_pos c6] at H
       have c6b0 : decide (x8_2 < (l1.length : Int)) = true := decide_eq_true c6;clear c6;by_cases c7 : 0 ≤ x8_2
       ·rw [if_pos c7] at H
        have c7b0 : decide (0 ≤ x8_2) = true := decide_eq_true c7;clear c7;by_cases c8 : 1 < ((zn l1 x8_2).length : Int)
        ·rw [if_pos c8] at H
         have c8b0 : decide (1 < ((zn l1 x8_2).length : Int)) = true := decide_eq_true c8;have c8b1 : decide (1 < (zn l1 x8_2).length) = true := decide_eq_true (by omega);clear c8;by_cases c9 : (rd (zn l1 x8_2) 1) = x6_1
         ·rw [if_pos c9] at H
          have c9b0 : ((rd (zn l1 x8_2) 1) == x6_1) = true := beq_iff_eq.mpr c9;have c9b1 : ((rd (zn l1 x8_2) 1) != x6_1) = false := bne_eq_false_iff_eq.mpr c9;clear c9;by_cases c10 : 0 < ((zn l1 x8_2).length : Int)
          ·rw [if_pos c10] at H
           have c10b0 : decide (0 < ((zn l1 x8_2).length : Int)) = true := decide_eq_true c10;have c10b1 : decide (0 < (zn l1 x8_2).length) = true := decide_eq_true (by omega);clear c10;by_cases c11 : 0 ≤ (rd (zn l1 x8_2) 0)
           ·rw [if_pos c11] at H
            have c11b0 : decide (0 ≤ (rd (zn l1 x8_2) 0)) = true := decide_eq_true c11;clear c11;by_cases c12 : (rd (zn l1 x8_2) 0) < (x5_1.length : Int)
            ·rw [if_pos c12] at H
             have c12b0 : decide ((rd (zn l1 x8_2) 0) < (x5_1.length : Int)) = true := decide_eq_true c12;clear c12;obtain ⟨ji13, hji13⟩ : ∃ j_ : Int, (mx x7_2 (rd x5_1 (rd (zn l1 x8_2) 0))) = j_ := ⟨_, rfl⟩;replace H : (zbj.l1 k2 l0 l1 x5_1 x6_1 ji13 (wrap64 (x8_2 + 1))) = some r := by first | (rw [hji13] at H; exact H) | (simp only [hji13] at H ⊢; exact H)
             have hji13_ : (if x7_2 < (rd x5_1 (rd (zn l1 x8_2) 0)) then (rd x5_1 (rd (zn l1 x8_2) 0)) else x7_2) = ji13 := hji13;have H' := za.mk H;clear H;have p304 : 0 ≤ (x8_2 : Int) := of_decide_eq_true Zas;have q304 : x8_2 < (l1.length : Int) := of_decide_eq_true Zas;obtain ⟨ad304, A304_0, c304_0, e304, hx304_0, hl304_0, hi304_0⟩ := zdf HR1.out x8_2 p304 q304
             cases e304
             replace hx304_0 := (HB.out.cell (World.block_lt_of_cell? w _ hx304_0)).trans hx304_0;have HR304_0 := za.mk hi304_0;have HC304_0 := za.mk hl304_0;clear hi304_0 hl304_0;replace p304 := eq_true p304;replace q304 := eq_true q304;have p305 : 0 ≤ (1 : Int) := (by omega);have q305 : 1 < ((zn l1 x8_2).length : Int) := of_decide_eq_true Zas;obtain ⟨ad305, e305, hx305_0⟩ := Kd.zbr HR304_0.out 1 p305 q305
             cases e305
             (try simp only [show (1 : Int).toNat = 1 from rfl, Nat.reduceMul, Nat.reduceEqDiff, Go.Addr.add, ↓reduceIte] at hx305_0);have qi305 : (1 < (zn l1 x8_2).length) = True := eq_true (by omega);(try rw [show ((1 : Int)).toNat = 1 from rfl] at hx305_0);replace hx305_0 := (HB.out.cell (World.block_lt_of_cell? w _ hx305_0)).trans hx305_0;replace p305 := eq_true p305;replace q305 := eq_true q305;have p306 : 0 ≤ (x8_2 : Int) := of_decide_eq_true Zas;have q306 : x8_2 < (l1.length : Int) := of_decide_eq_true Zas;obtain ⟨ad306, A306_0, c306_0, e306, hx306_0, hl306_0, hi306_0⟩ := zdf HR1.out x8_2 p306 q306;obtain rfl : ad304 = ad306 := (by injection e306);replace hx306_0 := (HB.out.cell (World.block_lt_of_cell? w _ hx306_0)).trans hx306_0;have HR306_0 := za.mk hi306_0;have HC306_0 := za.mk hl306_0;clear hi306_0 hl306_0;replace p306 := eq_true p306;replace q306 := eq_true q306;have ea_ := Option.some.inj (hx304_0.symm.trans hx306_0);injection ea_ with ea_ en_ ec_;subst ea_;subst ec_;clear en_;have p307 : 0 ≤ (0 : Int) := (by omega);have q307 : 0 < ((zn l1 x8_2).length : Int) := of_decide_eq_true Zas;obtain ⟨ad307, e307, hx307_0⟩ := Kd.zbr HR306_0.out 0 p307 q307
             cases e307
             have qi307 : (0 < (zn l1 x8_2).length) = True := eq_true (by omega);(try rw [show ((0 : Int)).toNat = 0 from rfl] at hx307_0);(try rw [Addr.add_zero'] at hx307_0);replace hx307_0 := (HB.out.cell (World.block_lt_of_cell? w _ hx307_0)).trans hx307_0;replace p307 := eq_true p307;replace q307 := eq_true q307;obtain ⟨Ao14, co14, eo14⟩ := Kd.zcf HO_5.out;subst eo14;have p308 : 0 ≤ ((rd (zn l1 x8_2) 0) : Int) := of_decide_eq_true Zas;have q308 : (rd (zn l1 x8_2) 0) < (x5_1.length : Int) := of_decide_eq_true Zas;obtain ⟨ad308, e308, hx308_0⟩ := Kd.zbr (Kd.zce HO_5.out).2.2 (rd (zn l1 x8_2) 0) p308 q308
             cases e308
             replace p308 := eq_true p308;replace q308 := eq_true q308;go_wp2;go_roundg k2
             case measure => have := HK1.out; have := HK2.out; omega
             case rel => exact ⟨(ji13), (wrap64 (x8_2 + 1)), (by first | rfl | (simp; done) | (simp only [← hji13] <;> (first | rfl | simp)) | (simp [*]; done)), Zrs, H', ⟨by have := HK1.out; have := HK2.out; omega⟩, ⟨Zq9 HO_5⟩, ⟨Zq1 HB⟩⟩
            ·rw [if_neg c12] at H
             exact absurd H (by simp)
           ·rw [if_neg c11] at H
            exact absurd H (by simp)
          ·rw [if_neg c10] at H
           exact absurd H (by simp)
         ·rw [if_neg c9] at H
          have c9b0 : ((rd (zn l1 x8_2) 1) == x6_1) = false := beq_eq_false_iff_ne.mpr c9;have c9b1 : ((rd (zn l1 x8_2) 1) != x6_1) = true := bne_iff_ne.mpr c9;have H' := za.mk H;clear H;have p304 : 0 ≤ (x8_2 : Int) := of_decide_eq_true Zas;have q304 : x8_2 < (l1.length : Int) := of_decide_eq_true Zas;obtain ⟨ad304, A304_0, c304_0, e304, hx304_0, hl304_0, hi304_0⟩ := zdf HR1.out x8_2 p304 q304
          cases e304
          replace hx304_0 := (HB.out.cell (World.block_lt_of_cell? w _ hx304_0)).trans hx304_0;have HR304_0 := za.mk hi304_0;have HC304_0 := za.mk hl304_0;clear hi304_0 hl304_0;replace p304 := eq_true p304;replace q304 := eq_true q304;have p305 : 0 ≤ (1 : Int) := (by omega);have q305 : 1 < ((zn l1 x8_2).length : Int) := of_decide_eq_true Zas;obtain ⟨ad305, e305, hx305_0⟩ := Kd.zbr HR304_0.out 1 p305 q305
          cases e305
          (try simp only [show (1 : Int).toNat = 1 from rfl, Nat.reduceMul, Nat.reduceEqDiff, Go.Addr.add, ↓reduceIte] at hx305_0);have qi305 : (1 < (zn l1 x8_2).length) = True := eq_true (by omega);(try rw [show ((1 : Int)).toNat = 1 from rfl] at hx305_0);replace hx305_0 := (HB.out.cell (World.block_lt_of_cell? w _ hx305_0)).trans hx305_0;replace p305 := eq_true p305;replace q305 := eq_true q305;go_wp2;go_roundg k2
          case measure => have := HK1.out; have := HK2.out; omega
          case rel => exact ⟨(x7_2), (wrap64 (x8_2 + 1)), Zrs, Zrs, H', ⟨by have := HK1.out; have := HK2.out; omega⟩, ⟨Zq9 HO_5⟩, ⟨Zq1 HB⟩⟩
        ·rw [if_neg c8] at H
         exact absurd H (by simp)
       ·rw [if_neg c7] at H
        exact absurd H (by simp)
      ·rw [if_neg c6] at H
       have c6b0 : decide (x8_2 < (l1.length : Int)) = false := decide_eq_false c6;clear c6;by_cases c15 : 0 ≤ x6_1
       ·rw [if_pos c15] at H
        have c15b0 : decide (0 ≤ x6_1) = true := decide_eq_true c15;clear c15;by_cases c16 : x6_1 < (l0.length : Int)
        ·rw [if_pos c16] at H
         have c16b0 : decide (x6_1 < (l0.length : Int)) = true := decide_eq_true c16;clear c16;by_cases c17 : x5_1.length < 17592186044416
         ·rw [if_pos c17] at H
          have LMc17 := za.mk c17;clear c17;obtain ⟨y310, hy310⟩ : ∃ y_ : List Int, y_ = (x5_1 ++ [wrap64 (x7_2 + (rd l0 x6_1))]) := ⟨_, rfl⟩;replace H : (zbj.l0 k2 l0 l1 y310 (wrap64 (x6_1 + 1))) = some r := by first | (rw [hy310]; with_reducible exact H) | (have H2_ := (Option.bind_some _ _).symm.trans H; rw [hy310]; with_reducible exact H2_) | (have H2_ := (Option.bind_some _ _).symm.trans H; with_reducible exact H2_) | with_reducible exact H | (rw [hy310]; exact H) | exact H
          have Ny310 := za.mk hy310;clear hy310;have H' := za.mk H;clear H;have p309 : 0 ≤ (x6_1 : Int) := of_decide_eq_true Zas;have q309 : x6_1 < (l0.length : Int) := of_decide_eq_true Zas;obtain ⟨ad309, e309, hx309_0⟩ := Kd.zbr HR0.out x6_1 p309 q309
          cases e309
          replace hx309_0 := (HB.out.cell (World.block_lt_of_cell? w _ hx309_0)).trans hx309_0;replace p309 := eq_true p309;replace q309 := eq_true q309;go_wp2_with (first | ((with_reducible refine zb7 (b := .append) (xs := #[.tmp 41, .tmp 48]) rfl ?_); at_builtin; refine Kd.zdg (Kd.int .i64) (w0 := w) w.heap.size rfl (.tmp 41) (.tmp 48) 23 3 (.int .i64 0) 8 rfl Try.underlying23 info3 rfl (by decide) (by omega) u5 x5_1 (wrap64 (x7_2 + (rd l0 x6_1))) [.int .i64 (wrap64 (x7_2 + (rd l0 x6_1)))] (fun _ => True) (fun _ => False) rfl rfl ?aP (fun _ hk => hk.elim) ?aF ?aO ?aB ?aS ?aL ?_; (case aP => exact rfl); (case aB => exact (Zq1 HB)); (case aF => exact (fun _ _ => trivial)); (case aO => exact (Zq9 HO_5)); (case aS => exact (zbu (Zq1 HB))); (case aL => have := LMc17.out; omega); intro v311 w18 ho hb hg hat; rw [← Ny310.out] at ho; have n0_ := za.mk (hb); have n1_ := za.mk (ho); clear HB; clear HO_5; have HB := n0_; have HO312 := n1_; clear n0_ n1_; clear ho hb hg hat));go_roundg k2
          case measure => have := HK1.out; have := HK2.out; omega
          case rel => exact ⟨(y310), (wrap64 (x6_1 + 1)), Zrs, H', ⟨by have := HK1.out; have := HK2.out; omega⟩, ⟨Zq9 HO312⟩, ⟨Zq1 HB⟩⟩
         ·rw [if_neg c17] at H
          exact absurd H (by simp)
        ·rw [if_neg c16] at H
         exact absurd H (by simp)
       ·rw [if_neg c15] at H
        exact absurd H (by simp)
   ·rw [if_neg c5] at H
    have c5b0 : decide (x6_1 < (l0.length : Int)) = false := decide_eq_false c5;clear c5;obtain rfl := Option.some.inj H;go_wp2;go_ret;exact ⟨_, by first | rfl | (simp [zl, zm] <;> rfl) | (simp [*, zl, zm] <;> rfl), Zq9 HO_5, Zq1 HB⟩
def zbf.l0 : Nat → Int → List Int → Int → Option (Int)
 | 0, _, _, _ => none
 | k + 1, x5, x6, x7 => if x7 < (x6.length : Int) then (if 0 ≤ x7 then (zbf.l0 k (mx x5 (rd x6 x7)) x6 (wrap64 (x7 + 1))) else (none)) else (some x5)
def zbf.f (k : Nat) (l0 : List Int) (l1 : List (List Int)) : Option (Int) := (ze.f k l0 l1).bind fun t313 => (if t313 = true then ((zbj.f k l0 l1).bind fun t314 => (zbf.l0 k 0 t314 0)) else (some (-1)))
set_option maxHeartbeats 8000000 in
theorem zbf.calls (k : Nat) (A0 : Option Addr) (c0 : Nat) (l0 : List Int) (A1 : Option Addr) (c1 : Nat) (l1 : List (List Int)) (r : Int) (w : World) (hr0 : Kd.C (Kd.int .i64) w A0 l0.length l0) (hc0 : l0.length ≤ c0) (hr1 : Kd.C (Kd.slice 3 (Kd.int .i64)) w A1 l1.length l1) (hc1 : l1.length ≤ c1) (h : zbf.f k l0 l1 = some r) :
  Calls Try.prog 47 #[.slice A0 l0.length c0, .slice A1 l1.length c1] w fun e w' => e = .returned (.int .i64 r) ∧ Below w.heap.size w w' := by
 have HR0 := za.mk hr0
 have HC0 := za.mk hc0
 clear hr0 hc0
 have HR1 := za.mk hr1
 have HC1 := za.mk hc1
 clear hr1 hc1
 have HB := za.mk (Below.refl w.heap.size w)
 have H : ((ze.f k l0 l1).bind fun t313 => (if t313 = true then ((zbj.f k l0 l1).bind fun t314 => (zbf.l0 k 0 t314 0)) else (some (-1)))) = some r := h
 clear h
 replace H := Option.bind_eq_some_iff.mp H
 obtain ⟨t313, A30, H⟩ := H
 replace H : (if t313 = true then ((zbj.f k l0 l1).bind fun t314 => (zbf.l0 k 0 t314 0)) else (some (-1))) = some r := H
 have A3 := za.mk A30
 clear A30
 by_cases c4 : t313 = true
 ·subst c4
  have H1 : ((zbj.f k l0 l1).bind fun t314 => (zbf.l0 k 0 t314 0)) = some r := by rw [if_pos rfl] at H; exact H
  clear H;have H := H1;clear H1;replace H := Option.bind_eq_some_iff.mp H;obtain ⟨t314, A50, H⟩ := H;replace H : (zbf.l0 k 0 t314 0) = some r := H;have A5 := za.mk A50;clear A50;have H' := za.mk H;clear H;go_enter Try.func47, Try.ntmps47;go_wp2_with (first | ((with_reducible refine zu (f := 13) rfl ?_); refine zbx (some 10) rfl rfl Try.func13 (by kernel_rfl) rfl #[.slice A0 l0.length c0, .slice A1 l1.length c1] rfl Zmt ?_; (with_reducible refine (ze.calls k _ _ l0 _ _ l1 true _ ?side1 ?side2 ?side3 ?side4 A3.out).mono ?_); (case side1 => exact Zq11 HR0); (case side2 => exact HC0.out); (case side3 => exact Zq11 HR1); (case side4 => exact HC1.out); rintro e w6 ⟨rfl, hb⟩; refine ⟨_, rfl, ?_⟩; have n0_ := za.mk (zy (Zq1 HB) hb); clear HB; have HB := n0_; clear n0_; (try clear hb); (try clear hb2); (try clear hk); (try clear hi)) | ((with_reducible refine zu (f := 61) rfl ?_); refine zbx (some 14) rfl rfl Try.func61 (by kernel_rfl) rfl #[.slice A0 l0.length c0, .slice A1 l1.length c1] rfl Zmt ?_; (with_reducible refine (zbj.calls k _ _ l0 _ _ l1 t314 _ ?side1 ?side2 ?side3 ?side4 A5.out).mono ?_); (case side1 => exact Zq12 (Kd.zb2 HR0.out HB.out)); (case side2 => exact HC0.out); (case side3 => exact Zq12 (Kd.zb2 HR1.out HB.out)); (case side4 => exact HC1.out); rintro e w7 ⟨v315, rfl, ho0, hb⟩; refine ⟨_, rfl, ?_⟩; have n0_ := za.mk (Kd.zch ho0 (zbu (Zq1 HB))); have n1_ := za.mk (zy (Zq1 HB) hb); clear HB; have HO316 := n0_; have HB := n1_; clear n0_ n1_; (try clear hb); (try clear hb2); (try clear hk); (try clear hi); (try clear ho0)))
  go_loopg [5, 7] k (fun kq v5 v7 w' => ∃ (x5_1 : Int) (x7_1 : Int), v5 = .int .i64 x5_1 ∧ v7 = .int .i64 x7_1 ∧ za (zbf.l0 kq x5_1 t314 x7_1 = some r) ∧ za (kq ≤ k) ∧ za (Kd.R (Kd.int .i64) 3 w' w.heap.size (fun _ => True) v315 t314) ∧ za (Below w.heap.size w w'))
  case atStart => exact ⟨(0), (0), Zrs, Zrs, H', ⟨Nat.le_refl _⟩, ⟨Zq9 HO316⟩, ⟨Zq1 HB⟩⟩
  case round =>
   clear H'
   (try clear c1);(try clear p2);(try clear c4);(try clear c6)
   obtain ⟨x5_1, x7_1, rfl, rfl, HA, HK1, HO_6, HB⟩ := hrel
   cases gk with
   | zero => exact absurd HA.out (by simp [zbf.l0])
   | succ k1 =>
    have H := HA.out;clear HA;simp only [zbf.l0] at H;by_cases c8 : x7_1 < (t314.length : Int)
    ·rw [if_pos c8] at H
     have c8b0 : decide (x7_1 < (t314.length : Int)) = true := decide_eq_true c8;clear c8;by_cases c9 : 0 ≤ x7_1
     ·rw [if_pos c9] at H
      have c9b0 : decide (0 ≤ x7_1) = true := decide_eq_true c9;clear c9;obtain ⟨ji10, hji10⟩ : ∃ j_ : Int, (mx x5_1 (rd t314 x7_1)) = j_ := ⟨_, rfl⟩;replace H : (zbf.l0 k1 ji10 t314 (wrap64 (x7_1 + 1))) = some r := by first | (rw [hji10] at H; exact H) | (simp only [hji10] at H ⊢; exact H)
      have hji10_ : (if x5_1 < (rd t314 x7_1) then (rd t314 x7_1) else x5_1) = ji10 := hji10;have H' := za.mk H;clear H;obtain ⟨Ao11, co11, eo11⟩ := Kd.zcf HO_6.out;subst eo11;have p317 : 0 ≤ (x7_1 : Int) := of_decide_eq_true Zas;have q317 : x7_1 < (t314.length : Int) := of_decide_eq_true Zas;obtain ⟨ad317, e317, hx317_0⟩ := Kd.zbr (Kd.zce HO_6.out).2.2 x7_1 p317 q317
      cases e317
      replace p317 := eq_true p317;replace q317 := eq_true q317;go_wp2;go_roundg k1
      case measure => have := HK1.out; omega
      case rel => exact ⟨(ji10), (wrap64 (x7_1 + 1)), (by first | rfl | (simp; done) | (simp only [← hji10] <;> (first | rfl | simp)) | (simp [*]; done)), Zrs, H', ⟨by have := HK1.out; omega⟩, ⟨Zq9 HO_6⟩, ⟨Zq1 HB⟩⟩
     ·rw [if_neg c9] at H
      exact absurd H (by simp)
    ·rw [if_neg c8] at H
     have c8b0 : decide (x7_1 < (t314.length : Int)) = false := decide_eq_false c8;clear c8;obtain rfl := Option.some.inj H;obtain ⟨Ao12, co12, eo12⟩ := Kd.zcf HO_6.out;subst eo12;go_wp2;go_ret;exact ⟨by first | rfl | (simp [zl, zm] <;> rfl) | (simp [*, zl, zm] <;> rfl), Zq1 HB⟩
 ·replace c4 := Bool.eq_false_iff.mpr c4
  subst c4;have H1 : (some (-1)) = some r := by rw [if_neg (show ¬ (false = true) by decide)] at H; exact H
  clear H;have H := H1;clear H1;obtain rfl := Option.some.inj H;go_enter Try.func47, Try.ntmps47;go_wp2_with (first | ((with_reducible refine zu (f := 13) rfl ?_); refine zbx (some 10) rfl rfl Try.func13 (by kernel_rfl) rfl #[.slice A0 l0.length c0, .slice A1 l1.length c1] rfl Zmt ?_; (with_reducible refine (ze.calls k _ _ l0 _ _ l1 false _ ?side1 ?side2 ?side3 ?side4 A3.out).mono ?_); (case side1 => exact Zq11 HR0); (case side2 => exact HC0.out); (case side3 => exact Zq11 HR1); (case side4 => exact HC1.out); rintro e w13 ⟨rfl, hb⟩; refine ⟨_, rfl, ?_⟩; have n0_ := za.mk (zy (Zq1 HB) hb); clear HB; have HB := n0_; clear n0_; (try clear hb); (try clear hb2); (try clear hk); (try clear hi)));go_ret;exact ⟨by first | rfl | (simp [zl, zm] <;> rfl) | (simp [*, zl, zm] <;> rfl), Zq1 HB⟩
def zb0.l0 : Nat → List Int → Int → Int → Option (Int)
 | 0, _, _, _ => none
 | k + 1, x0, x5, x6 => if x6 < (x0.length : Int) then (if 0 ≤ x6 then (zb0.l0 k x0 (wrap64 (x5 + (rd x0 x6))) (wrap64 (x6 + 1))) else (none)) else (some x5)
def zb0.f (k : Nat) (l0 : List Int) (l1 : List (List Int)) : Option (Int) := (ze.f k l0 l1).bind fun t318 => (if t318 = true then (zb0.l0 k l0 0 0) else (some (-1)))
set_option maxHeartbeats 8000000 in
theorem zb0.calls (k : Nat) (A0 : Option Addr) (c0 : Nat) (l0 : List Int) (A1 : Option Addr) (c1 : Nat) (l1 : List (List Int)) (r : Int) (w : World) (hr0 : Kd.C (Kd.int .i64) w A0 l0.length l0) (hc0 : l0.length ≤ c0) (hr1 : Kd.C (Kd.slice 3 (Kd.int .i64)) w A1 l1.length l1) (hc1 : l1.length ≤ c1) (h : zb0.f k l0 l1 = some r) :
  Calls Try.prog 48 #[.slice A0 l0.length c0, .slice A1 l1.length c1] w fun e w' => e = .returned (.int .i64 r) ∧ Below w.heap.size w w' := by
 have HR0 := za.mk hr0
 have HC0 := za.mk hc0
 clear hr0 hc0
 have HR1 := za.mk hr1
 have HC1 := za.mk hc1
 clear hr1 hc1
 have HB := za.mk (Below.refl w.heap.size w)
 have H : ((ze.f k l0 l1).bind fun t318 => (if t318 = true then (zb0.l0 k l0 0 0) else (some (-1)))) = some r := h
 clear h
 replace H := Option.bind_eq_some_iff.mp H
 obtain ⟨t318, A30, H⟩ := H
 replace H : (if t318 = true then (zb0.l0 k l0 0 0) else (some (-1))) = some r := H
 have A3 := za.mk A30
 clear A30
 by_cases c4 : t318 = true
 ·subst c4
  have H1 : (zb0.l0 k l0 0 0) = some r := by rw [if_pos rfl] at H; exact H
  clear H;have H := H1;clear H1;have H' := za.mk H;clear H;go_enter Try.func48, Try.ntmps48;go_wp2_with (first | ((with_reducible refine zu (f := 13) rfl ?_); refine zbx (some 9) rfl rfl Try.func13 (by kernel_rfl) rfl #[.slice A0 l0.length c0, .slice A1 l1.length c1] rfl Zmt ?_; (with_reducible refine (ze.calls k _ _ l0 _ _ l1 true _ ?side1 ?side2 ?side3 ?side4 A3.out).mono ?_); (case side1 => exact Zq11 HR0); (case side2 => exact HC0.out); (case side3 => exact Zq11 HR1); (case side4 => exact HC1.out); rintro e w5 ⟨rfl, hb⟩; refine ⟨_, rfl, ?_⟩; have n0_ := za.mk (zy (Zq1 HB) hb); clear HB; have HB := n0_; clear n0_; (try clear hb); (try clear hb2); (try clear hk); (try clear hi)))
  go_loopg [5, 6] k (fun kq v5 v6 w' => ∃ (x5_1 : Int) (x6_1 : Int), v5 = .int .i64 x5_1 ∧ v6 = .int .i64 x6_1 ∧ za (zb0.l0 kq l0 x5_1 x6_1 = some r) ∧ za (kq ≤ k) ∧ za (Below w.heap.size w w'))
  case atStart => exact ⟨(0), (0), Zrs, Zrs, H', ⟨Nat.le_refl _⟩, ⟨Zq1 HB⟩⟩
  case round =>
   clear H'
   (try clear c1);(try clear p2);(try clear c4)
   obtain ⟨x5_1, x6_1, rfl, rfl, HA, HK1, HB⟩ := hrel
   cases gk with
   | zero => exact absurd HA.out (by simp [zb0.l0])
   | succ k1 =>
    have H := HA.out;clear HA;simp only [zb0.l0] at H;by_cases c6 : x6_1 < (l0.length : Int)
    ·rw [if_pos c6] at H
     have c6b0 : decide (x6_1 < (l0.length : Int)) = true := decide_eq_true c6;clear c6;by_cases c7 : 0 ≤ x6_1
     ·rw [if_pos c7] at H
      have c7b0 : decide (0 ≤ x6_1) = true := decide_eq_true c7;clear c7;have H' := za.mk H;clear H;have p319 : 0 ≤ (x6_1 : Int) := of_decide_eq_true Zas;have q319 : x6_1 < (l0.length : Int) := of_decide_eq_true Zas;obtain ⟨ad319, e319, hx319_0⟩ := Kd.zbr HR0.out x6_1 p319 q319
      cases e319
      replace hx319_0 := (HB.out.cell (World.block_lt_of_cell? w _ hx319_0)).trans hx319_0;replace p319 := eq_true p319;replace q319 := eq_true q319;go_wp2;go_roundg k1
      case measure => have := HK1.out; omega
      case rel => exact ⟨(wrap64 (x5_1 + (rd l0 x6_1))), (wrap64 (x6_1 + 1)), Zrs, Zrs, H', ⟨by have := HK1.out; omega⟩, ⟨Zq1 HB⟩⟩
     ·rw [if_neg c7] at H
      exact absurd H (by simp)
    ·rw [if_neg c6] at H
     have c6b0 : decide (x6_1 < (l0.length : Int)) = false := decide_eq_false c6;clear c6;obtain rfl := Option.some.inj H;go_wp2;go_ret;exact ⟨by first | rfl | (simp [zl, zm] <;> rfl) | (simp [*, zl, zm] <;> rfl), Zq1 HB⟩
 ·replace c4 := Bool.eq_false_iff.mpr c4
  subst c4;have H1 : (some (-1)) = some r := by rw [if_neg (show ¬ (false = true) by decide)] at H; exact H
  clear H;have H := H1;clear H1;obtain rfl := Option.some.inj H;go_enter Try.func48, Try.ntmps48;go_wp2_with (first | ((with_reducible refine zu (f := 13) rfl ?_); refine zbx (some 9) rfl rfl Try.func13 (by kernel_rfl) rfl #[.slice A0 l0.length c0, .slice A1 l1.length c1] rfl Zmt ?_; (with_reducible refine (ze.calls k _ _ l0 _ _ l1 false _ ?side1 ?side2 ?side3 ?side4 A3.out).mono ?_); (case side1 => exact Zq11 HR0); (case side2 => exact HC0.out); (case side3 => exact Zq11 HR1); (case side4 => exact HC1.out); rintro e w8 ⟨rfl, hb⟩; refine ⟨_, rfl, ?_⟩; have n0_ := za.mk (zy (Zq1 HB) hb); clear HB; have HB := n0_; clear n0_; (try clear hb); (try clear hb2); (try clear hk); (try clear hi)));go_ret;exact ⟨by first | rfl | (simp [zl, zm] <;> rfl) | (simp [*, zl, zm] <;> rfl), Zq1 HB⟩
def zx.j0 : Nat → List Int → List (List Int) → Int → Bool → Option (Int)
 | 0, _, _, _, _ => none
 | k + 1, x0, x1, x2, x16 => if x16 = true then (some (-1)) else ((zbf.f k x0 x1).bind fun t322 => ((zb0.f k x0 x1).bind fun t323 => (if x2 = 0 then (none) else (some (wrap64 (t322 + (wrap64 (Int.tdiv (wrap64 (t323 - t322)) x2))))))))
def zx.f (k : Nat) (l0 : List Int) (l1 : List (List Int)) (a2 : Int) : Option (Int) := (ze.f k l0 l1).bind fun t320 => (if t320 = true then ((zb6.f a2 1 5).bind fun t321 => (zx.j0 k l0 l1 a2 (!t321))) else (zx.j0 k l0 l1 a2 true))
set_option maxHeartbeats 8000000 in
theorem zx.calls (k : Nat) (A0 : Option Addr) (c0 : Nat) (l0 : List Int) (A1 : Option Addr) (c1 : Nat) (l1 : List (List Int)) (a2 : Int) (r : Int) (w : World) (hr0 : Kd.C (Kd.int .i64) w A0 l0.length l0) (hc0 : l0.length ≤ c0) (hr1 : Kd.C (Kd.slice 3 (Kd.int .i64)) w A1 l1.length l1) (hc1 : l1.length ≤ c1) (h : zx.f k l0 l1 a2 = some r) :
  Calls Try.prog 18 #[.slice A0 l0.length c0, .slice A1 l1.length c1, .int .i64 a2] w fun e w' => e = .returned (.int .i64 r) ∧ Below w.heap.size w w' := by
 have HR0 := za.mk hr0
 have HC0 := za.mk hc0
 clear hr0 hc0
 have HR1 := za.mk hr1
 have HC1 := za.mk hc1
 clear hr1 hc1
 have HB := za.mk (Below.refl w.heap.size w)
 have H : ((ze.f k l0 l1).bind fun t320 => (if t320 = true then ((zb6.f a2 1 5).bind fun t321 => (zx.j0 k l0 l1 a2 (!t321))) else (zx.j0 k l0 l1 a2 true))) = some r := h
 clear h
 have HC4 := za.mk H
 clear H
 go_enter Try.func18, Try.ntmps18
 go_upto_region 1 with (fail)
 go_cut [16] (fun v16 wc => ∃ (kq : Nat) (x16_3 : Bool), v16 = .bool x16_3 ∧ za (zx.j0 kq l0 l1 a2 x16_3 = some r) ∧ za (kq ≤ k) ∧ za (Below w.heap.size w wc))
 case first =>
  have H := HC4.out;clear HC4;replace H := Option.bind_eq_some_iff.mp H;obtain ⟨t320, A50, H⟩ := H;replace H : (if t320 = true then ((zb6.f a2 1 5).bind fun t321 => (zx.j0 k l0 l1 a2 (!t321))) else (zx.j0 k l0 l1 a2 true)) = some r := H;have A5 := za.mk A50;clear A50;by_cases c6 : t320 = true
  ·subst c6
   have H1 : ((zb6.f a2 1 5).bind fun t321 => (zx.j0 k l0 l1 a2 (!t321))) = some r := by rw [if_pos rfl] at H; exact H
   clear H;have H := H1;clear H1;replace H := Option.bind_eq_some_iff.mp H;obtain ⟨t321, A70, H⟩ := H;replace H : (zx.j0 k l0 l1 a2 (!t321)) = some r := H;have A7 := za.mk A70;clear A70;have H' := za.mk H;clear H;go_wp2_with (first | ((with_reducible refine zu (f := 13) rfl ?_); refine zbx (some 10) rfl rfl Try.func13 (by kernel_rfl) rfl #[.slice A0 l0.length c0, .slice A1 l1.length c1] rfl Zmt ?_; (with_reducible refine (ze.calls k _ _ l0 _ _ l1 true _ ?side1 ?side2 ?side3 ?side4 A5.out).mono ?_); (case side1 => exact Zq12 (Kd.zb2 HR0.out HB.out)); (case side2 => exact HC0.out); (case side3 => exact Zq12 (Kd.zb2 HR1.out HB.out)); (case side4 => exact HC1.out); rintro e w8 ⟨rfl, hb⟩; refine ⟨_, rfl, ?_⟩; have n0_ := za.mk (zy (Zq1 HB) hb); clear HB; have HB := n0_; clear n0_; (try clear hb); (try clear hb2); (try clear hk); (try clear hi)) | (go_at_call 39; (with_reducible refine (zb6.calls a2 1 5 t321 _ A7.out).mono ?_); rintro e w' ⟨rfl, ⟨nd, rfl⟩⟩));go_meet
   case rel => exact ⟨_, (!t321), Zrs, H', ⟨by first | omega | exact Nat.le_refl _⟩, ⟨Zq1 HB⟩⟩
  ·replace c6 := Bool.eq_false_iff.mpr c6
   subst c6;have H1 : (zx.j0 k l0 l1 a2 true) = some r := by rw [if_neg (show ¬ (false = true) by decide)] at H; exact H
   clear H;have H := H1;clear H1;have H' := za.mk H;clear H;go_wp2_with (first | ((with_reducible refine zu (f := 13) rfl ?_); refine zbx (some 10) rfl rfl Try.func13 (by kernel_rfl) rfl #[.slice A0 l0.length c0, .slice A1 l1.length c1] rfl Zmt ?_; (with_reducible refine (ze.calls k _ _ l0 _ _ l1 false _ ?side1 ?side2 ?side3 ?side4 A5.out).mono ?_); (case side1 => exact Zq12 (Kd.zb2 HR0.out HB.out)); (case side2 => exact HC0.out); (case side3 => exact Zq12 (Kd.zb2 HR1.out HB.out)); (case side4 => exact HC1.out); rintro e w9 ⟨rfl, hb⟩; refine ⟨_, rfl, ?_⟩; have n0_ := za.mk (zy (Zq1 HB) hb); clear HB; have HB := n0_; clear n0_; (try clear hb); (try clear hb2); (try clear hk); (try clear hi)));go_meet
   case rel => exact ⟨_, (true), Zrs, H', ⟨by first | omega | exact Nat.le_refl _⟩, ⟨Zq1 HB⟩⟩
 case rest =>
  clear HC4
  (try clear c1);(try clear p2);(try clear c6)
  obtain ⟨kq, x16_3, rfl, HA, HJ3, HB⟩ := hcut
  cases kq with
  | zero => exact absurd HA.out (by simp [zx.j0])
  | succ kj3 =>
   have H := HA.out;clear HA;simp only [zx.j0] at H;by_cases c10 : x16_3 = true
   ·subst c10
    have H1 : (some (-1)) = some r := by rw [if_pos rfl] at H; exact H
    clear H;have H := H1;clear H1;obtain rfl := Option.some.inj H;go_wp2;go_ret;exact ⟨by first | rfl | (simp [zl, zm] <;> rfl) | (simp [*, zl, zm] <;> rfl), Zq1 HB⟩
   ·replace c10 := Bool.eq_false_iff.mpr c10
    subst c10;have H1 : ((zbf.f kj3 l0 l1).bind fun t322 => ((zb0.f kj3 l0 l1).bind fun t323 => (if a2 = 0 then (none) else (some (wrap64 (t322 + (wrap64 (Int.tdiv (wrap64 (t323 - t322)) a2)))))))) = some r := by rw [if_neg (show ¬ (false = true) by decide)] at H; exact H
    clear H;have H := H1;clear H1;replace H := Option.bind_eq_some_iff.mp H;obtain ⟨t322, A110, H⟩ := H;replace H : ((zb0.f kj3 l0 l1).bind fun t323 => (if a2 = 0 then (none) else (some (wrap64 (t322 + (wrap64 (Int.tdiv (wrap64 (t323 - t322)) a2))))))) = some r := H;have A11 := za.mk A110;clear A110;replace H := Option.bind_eq_some_iff.mp H;obtain ⟨t323, A120, H⟩ := H;replace H : (if a2 = 0 then (none) else (some (wrap64 (t322 + (wrap64 (Int.tdiv (wrap64 (t323 - t322)) a2)))))) = some r := H;have A12 := za.mk A120;clear A120;by_cases c13 : a2 = 0
    ·rw [if_pos c13] at H
     exact absurd H (by simp)
    ·rw [if_neg c13] at H
     have c13b0 : (a2 == 0) = false := beq_eq_false_iff_ne.mpr c13;have c13b1 : (a2 != 0) = true := bne_iff_ne.mpr c13;obtain rfl := Option.some.inj H;go_wp2_with (first | ((with_reducible refine zu (f := 47) rfl ?_); refine zbx (some 19) rfl rfl Try.func47 (by kernel_rfl) rfl #[.slice A0 l0.length c0, .slice A1 l1.length c1] rfl Zmt ?_; (with_reducible refine (zbf.calls kj3 _ _ l0 _ _ l1 t322 _ ?side1 ?side2 ?side3 ?side4 A11.out).mono ?_); (case side1 => exact Zq12 (Kd.zb2 HR0.out HB.out)); (case side2 => exact HC0.out); (case side3 => exact Zq12 (Kd.zb2 HR1.out HB.out)); (case side4 => exact HC1.out); rintro e w14 ⟨rfl, hb⟩; refine ⟨_, rfl, ?_⟩; have n0_ := za.mk (zy (Zq1 HB) hb); clear HB; have HB := n0_; clear n0_; (try clear hb); (try clear hb2); (try clear hk); (try clear hi)) | ((with_reducible refine zu (f := 48) rfl ?_); refine zbx (some 23) rfl rfl Try.func48 (by kernel_rfl) rfl #[.slice A0 l0.length c0, .slice A1 l1.length c1] rfl Zmt ?_; (with_reducible refine (zb0.calls kj3 _ _ l0 _ _ l1 t323 _ ?side1 ?side2 ?side3 ?side4 A12.out).mono ?_); (case side1 => exact Zq12 (Kd.zb2 HR0.out HB.out)); (case side2 => exact HC0.out); (case side3 => exact Zq12 (Kd.zb2 HR1.out HB.out)); (case side4 => exact HC1.out); rintro e w15 ⟨rfl, hb⟩; refine ⟨_, rfl, ?_⟩; have n0_ := za.mk (zy (Zq1 HB) hb); clear HB; have HB := n0_; clear n0_; (try clear hb); (try clear hb2); (try clear hk); (try clear hi)));go_ret;exact ⟨by first | rfl | (simp [zl, zm] <;> rfl) | (simp [*, zl, zm] <;> rfl), Zq1 HB⟩
def zcd.f (k : Nat) (l0 : List Int) (l1 : List (List Int)) : Option (Int) := (zk.f k l0 l1).bind fun t324 => (if t324 = true then ((zt.f k l0 l1).bind fun t325 => (some t325)) else (some (-1)))
set_option maxHeartbeats 8000000 in
theorem zcd.calls (k : Nat) (A0 : Option Addr) (c0 : Nat) (l0 : List Int) (A1 : Option Addr) (c1 : Nat) (l1 : List (List Int)) (r : Int) (w : World) (hr0 : Kd.C (Kd.int .i64) w A0 l0.length l0) (hc0 : l0.length ≤ c0) (hr1 : Kd.C (Kd.slice 3 (Kd.int .i64)) w A1 l1.length l1) (hc1 : l1.length ≤ c1) (h : zcd.f k l0 l1 = some r) :
  Calls Try.prog 19 #[.slice A0 l0.length c0, .slice A1 l1.length c1] w fun e w' => e = .returned (.int .i64 r) ∧ Below w.heap.size w w' := by
 have HR0 := za.mk hr0
 have HC0 := za.mk hc0
 clear hr0 hc0
 have HR1 := za.mk hr1
 have HC1 := za.mk hc1
 clear hr1 hc1
 have HB := za.mk (Below.refl w.heap.size w)
 have H : ((zk.f k l0 l1).bind fun t324 => (if t324 = true then ((zt.f k l0 l1).bind fun t325 => (some t325)) else (some (-1)))) = some r := h
 clear h
 replace H := Option.bind_eq_some_iff.mp H
 obtain ⟨t324, A30, H⟩ := H
 replace H : (if t324 = true then ((zt.f k l0 l1).bind fun t325 => (some t325)) else (some (-1))) = some r := H
 have A3 := za.mk A30
 clear A30
 by_cases c4 : t324 = true
 ·subst c4
  have H1 : ((zt.f k l0 l1).bind fun t325 => (some t325)) = some r := by rw [if_pos rfl] at H; exact H
  clear H;have H := H1;clear H1;replace H := Option.bind_eq_some_iff.mp H;obtain ⟨t325, A50, H⟩ := H;replace H : (some t325) = some r := H;have A5 := za.mk A50;clear A50;obtain rfl := Option.some.inj H;go_enter Try.func19, Try.ntmps19;go_wp2_with (first | ((with_reducible refine zu (f := 30) rfl ?_); refine zbx (some 7) rfl rfl Try.func30 (by kernel_rfl) rfl #[.slice A0 l0.length c0, .slice A1 l1.length c1] rfl Zmt ?_; (with_reducible refine (zk.calls k _ _ l0 _ _ l1 true _ ?side1 ?side2 ?side3 ?side4 A3.out).mono ?_); (case side1 => exact Zq11 HR0); (case side2 => exact HC0.out); (case side3 => exact Zq11 HR1); (case side4 => exact HC1.out); rintro e w6 ⟨rfl, hb⟩; refine ⟨_, rfl, ?_⟩; have n0_ := za.mk (zy (Zq1 HB) hb); clear HB; have HB := n0_; clear n0_; (try clear hb); (try clear hb2); (try clear hk); (try clear hi)) | ((with_reducible refine zu (f := 46) rfl ?_); refine zbx (some 11) rfl rfl Try.func46 (by kernel_rfl) rfl #[.slice A0 l0.length c0, .slice A1 l1.length c1] rfl Zmt ?_; (with_reducible refine (zt.calls k _ _ l0 _ _ l1 t325 _ ?side1 ?side2 ?side3 ?side4 A5.out).mono ?_); (case side1 => exact Zq12 (Kd.zb2 HR0.out HB.out)); (case side2 => exact HC0.out); (case side3 => exact Zq12 (Kd.zb2 HR1.out HB.out)); (case side4 => exact HC1.out); rintro e w7 ⟨rfl, hb⟩; refine ⟨_, rfl, ?_⟩; have n0_ := za.mk (zy (Zq1 HB) hb); clear HB; have HB := n0_; clear n0_; (try clear hb); (try clear hb2); (try clear hk); (try clear hi)));go_ret;exact ⟨by first | rfl | (simp [zl, zm] <;> rfl) | (simp [*, zl, zm] <;> rfl), Zq1 HB⟩
 ·replace c4 := Bool.eq_false_iff.mpr c4
  subst c4;have H1 : (some (-1)) = some r := by rw [if_neg (show ¬ (false = true) by decide)] at H; exact H
  clear H;have H := H1;clear H1;obtain rfl := Option.some.inj H;go_enter Try.func19, Try.ntmps19;go_wp2_with (first | ((with_reducible refine zu (f := 30) rfl ?_); refine zbx (some 7) rfl rfl Try.func30 (by kernel_rfl) rfl #[.slice A0 l0.length c0, .slice A1 l1.length c1] rfl Zmt ?_; (with_reducible refine (zk.calls k _ _ l0 _ _ l1 false _ ?side1 ?side2 ?side3 ?side4 A3.out).mono ?_); (case side1 => exact Zq11 HR0); (case side2 => exact HC0.out); (case side3 => exact Zq11 HR1); (case side4 => exact HC1.out); rintro e w8 ⟨rfl, hb⟩; refine ⟨_, rfl, ?_⟩; have n0_ := za.mk (zy (Zq1 HB) hb); clear HB; have HB := n0_; clear n0_; (try clear hb); (try clear hb2); (try clear hk); (try clear hi)));go_ret;exact ⟨by first | rfl | (simp [zl, zm] <;> rfl) | (simp [*, zl, zm] <;> rfl), Zq1 HB⟩
theorem Zq14 {X0 P : Prop} (x0 : za X0) (h : X0 → P := by intro x0; (with_reducible repeat (first | apply Kd.zbt | apply Kd.zbs | apply Kd.zb4)); exact x0) : P := h x0.out
theorem Zq15 {X0 X1 X2 P : Prop} (x0 : za X0) (x1 : za X1) (x2 : za X2) (h : X0 → X1 → X2 → P := by intro x0 x1 x2; repeat (first | (with_reducible first | exact x0 | apply zbq | apply zbl | apply zb3 | refine zen ?_ x1 | refine zen ?_ x2) | exact x0)) : P := h x0.out x1.out x2.out
def laws_FnGraham.j0 : Nat → List Int → List (List Int) → Int → Int → Bool → List (List Int) → List Int → Option (Bool)
 | 0, _, _, _, _, _, _, _ => none
 | k + 1, x3, x4, x5, x8, x52, x439000, x439001 => if x52 = true then (some false) else (if x8 < 0 then (if (wrap64 ((x439000.length : Int) + (x439001.length : Int))) = 0 then ((zdn.f).bind fun t450 => (some t450)) else (some false)) else (if (x439000.length : Int) ≤ x8 then ((zcd.f k x3 x4).bind fun t451 => (if (x439000.length : Int) ≥ t451 then ((zc6.f k x3 x4).bind fun t452 => (some (decide ((wrap64 ((x439000.length : Int) * x5)) ≥ t452)))) else (some false))) else (some false)))
def laws_FnGraham.f (k : Nat) (l0 : List Int) : Option (Bool) := if (l0.length : Int) > 1048576 then (some true) else ((zcg.f k l0).bind fun bt425 => ((zbi.f k bt425.1 bt425.2.1 bt425.2.2).bind fun bt432 => ((zo.f k bt425.1 bt425.2.1 bt425.2.2).bind fun bt439 => ((zba.f k bt425.1 bt425.2.1 bt425.2.2).bind fun t446 => ((zbm.f k bt432.1 bt439.1).bind fun t447 => (if t447 = true then ((zbe.f k bt432.2 bt439.2).bind fun t448 => (if t448 = true then ((zx.f k bt425.1 bt425.2.1 bt425.2.2).bind fun t449 => (laws_FnGraham.j0 k bt425.1 bt425.2.1 bt425.2.2 t446 (t446 != t449) bt432.1 bt432.2)) else (laws_FnGraham.j0 k bt425.1 bt425.2.1 bt425.2.2 t446 true bt432.1 bt432.2))) else (laws_FnGraham.j0 k bt425.1 bt425.2.1 bt425.2.2 t446 true bt432.1 bt432.2)))))))
set_option maxHeartbeats 8000000 in
theorem laws_FnGraham.calls (k : Nat) (A0 : Option Addr) (c0 : Nat) (l0 : List Int) (r : Bool) (w : World) (hr0 : Kd.C (Kd.int .u8) w A0 l0.length l0) (hc0 : l0.length ≤ c0) (h : laws_FnGraham.f k l0 = some r) :
  Calls Try.prog 6 #[.slice A0 l0.length c0] w fun e w' => e = .returned (.bool r) ∧ Below w.heap.size w w' := by
 have hu28 := Try.underlying28
 have HR0 := za.mk hr0
 have HC0 := za.mk hc0
 clear hr0 hc0
 have HB := za.mk (Below.refl w.heap.size w)
 have H : (if (l0.length : Int) > 1048576 then (some true) else ((zcg.f k l0).bind fun bt425 => ((zbi.f k bt425.1 bt425.2.1 bt425.2.2).bind fun bt432 => ((zo.f k bt425.1 bt425.2.1 bt425.2.2).bind fun bt439 => ((zba.f k bt425.1 bt425.2.1 bt425.2.2).bind fun t446 => ((zbm.f k bt432.1 bt439.1).bind fun t447 => (if t447 = true then ((zbe.f k bt432.2 bt439.2).bind fun t448 => (if t448 = true then ((zx.f k bt425.1 bt425.2.1 bt425.2.2).bind fun t449 => (laws_FnGraham.j0 k bt425.1 bt425.2.1 bt425.2.2 t446 (t446 != t449) bt432.1 bt432.2)) else (laws_FnGraham.j0 k bt425.1 bt425.2.1 bt425.2.2 t446 true bt432.1 bt432.2))) else (laws_FnGraham.j0 k bt425.1 bt425.2.1 bt425.2.2 t446 true bt432.1 bt432.2)))))))) = some r := h
 clear h
 by_cases c2 : (l0.length : Int) > 1048576
 ·rw [if_pos c2] at H
  have c2b0 : decide (1048576 < (l0.length : Int)) = true := decide_eq_true c2;have c2b1 : decide (1048576 < l0.length) = true := decide_eq_true (by omega);clear c2;obtain rfl := Option.some.inj H;go_enter Try.func6, Try.ntmps6;go_wp2;go_ret;exact ⟨by first | rfl | (simp [zl, zm] <;> rfl) | (simp [*, zl, zm] <;> rfl), Zq1 HB⟩
 ·rw [if_neg c2] at H
  have c2b0 : decide (1048576 < (l0.length : Int)) = false := decide_eq_false c2;have c2b1 : decide (1048576 < l0.length) = false := decide_eq_false (by omega);clear c2;replace H := Option.bind_eq_some_iff.mp H;obtain ⟨⟨t425, t426, t427⟩, A30, H⟩ := H;replace H : ((zbi.f k t425 t426 t427).bind fun bt432 => ((zo.f k t425 t426 t427).bind fun bt439 => ((zba.f k t425 t426 t427).bind fun t446 => ((zbm.f k bt432.1 bt439.1).bind fun t447 => (if t447 = true then ((zbe.f k bt432.2 bt439.2).bind fun t448 => (if t448 = true then ((zx.f k t425 t426 t427).bind fun t449 => (laws_FnGraham.j0 k t425 t426 t427 t446 (t446 != t449) bt432.1 bt432.2)) else (laws_FnGraham.j0 k t425 t426 t427 t446 true bt432.1 bt432.2))) else (laws_FnGraham.j0 k t425 t426 t427 t446 true bt432.1 bt432.2)))))) = some r := H;have A3 := za.mk A30;clear A30;replace H := Option.bind_eq_some_iff.mp H;obtain ⟨⟨t432, t435⟩, A40, H⟩ := H;replace H : ((zo.f k t425 t426 t427).bind fun bt439 => ((zba.f k t425 t426 t427).bind fun t446 => ((zbm.f k t432 bt439.1).bind fun t447 => (if t447 = true then ((zbe.f k t435 bt439.2).bind fun t448 => (if t448 = true then ((zx.f k t425 t426 t427).bind fun t449 => (laws_FnGraham.j0 k t425 t426 t427 t446 (t446 != t449) t432 t435)) else (laws_FnGraham.j0 k t425 t426 t427 t446 true t432 t435))) else (laws_FnGraham.j0 k t425 t426 t427 t446 true t432 t435))))) = some r := H;have A4 := za.mk A40;clear A40;replace H := Option.bind_eq_some_iff.mp H;obtain ⟨⟨t439, t442⟩, A50, H⟩ := H;replace H : ((zba.f k t425 t426 t427).bind fun t446 => ((zbm.f k t432 t439).bind fun t447 => (if t447 = true then ((zbe.f k t435 t442).bind fun t448 => (if t448 = true then ((zx.f k t425 t426 t427).bind fun t449 => (laws_FnGraham.j0 k t425 t426 t427 t446 (t446 != t449) t432 t435)) else (laws_FnGraham.j0 k t425 t426 t427 t446 true t432 t435))) else (laws_FnGraham.j0 k t425 t426 t427 t446 true t432 t435)))) = some r := H;have A5 := za.mk A50;clear A50;replace H := Option.bind_eq_some_iff.mp H;obtain ⟨t446, A60, H⟩ := H;replace H : ((zbm.f k t432 t439).bind fun t447 => (if t447 = true then ((zbe.f k t435 t442).bind fun t448 => (if t448 = true then ((zx.f k t425 t426 t427).bind fun t449 => (laws_FnGraham.j0 k t425 t426 t427 t446 (t446 != t449) t432 t435)) else (laws_FnGraham.j0 k t425 t426 t427 t446 true t432 t435))) else (laws_FnGraham.j0 k t425 t426 t427 t446 true t432 t435))) = some r := H;have A6 := za.mk A60;clear A60;have HC7 := za.mk H;clear H;go_enter Try.func6, Try.ntmps6
  go_upto_region 7 with (first | ((with_reducible refine zu (f := 8) rfl ?_); refine zbx (some 15) rfl rfl Try.func8 (by kernel_rfl) rfl #[.slice A0 l0.length c0] rfl Zmt ?_; (with_reducible refine (zcg.calls k _ _ l0 t425 t426 t427 _ ?side1 ?side2 A3.out).mono ?_); (case side1 => exact Zq11 HR0); (case side2 => exact HC0.out); rintro e w8 ⟨v428, v430, rfl, ho0, ho1, hb⟩; replace ho0 := Kd.zgr ho0; replace ho1 := Kd.Qc_of_S ho1; refine ⟨_, rfl, ?_⟩; have n0_ := za.mk (Kd.zdp ho0 (zbu (Zq1 HB))); have n1_ := za.mk (Kd.zdp ho1 (zbu (Zq1 HB))); have n2_ := za.mk (zy (Zq1 HB) hb); clear HB; have HO429 := n0_; have HO431 := n1_; have HB := n2_; clear n0_ n1_ n2_; (try clear hb); (try clear hb2); (try clear hk); (try clear hi); (try clear ho0); (try clear ho1); obtain ⟨Ao9, co9, eo9⟩ := Kd.zek HO429.out; subst eo9; obtain ⟨Ao10, co10, eo10⟩ := Kd.zek HO431.out; subst eo10) | ((with_reducible refine zu (f := 9) rfl ?_); refine zbx (some 22) rfl rfl Try.func9 (by kernel_rfl) rfl #[.slice Ao9 t425.length co9, .slice Ao10 t426.length co10, .int .i64 t427] rfl Zmt ?_; (with_reducible refine (zbi.calls k _ _ t425 _ _ t426 t427 t432 t435 _ ?side1 ?side2 ?side3 ?side4 A4.out).mono ?_); (case side1 => exact Zq12 ((Kd.zbh HO429.out).2.2)); (case side2 => exact (Kd.zbh HO429.out).2.1); (case side3 => exact Zq12 ((Kd.zbh HO431.out).2.2)); (case side4 => exact (Kd.zbh HO431.out).2.1); rintro e w11 ⟨v433, v436, rfl, ho0, ho1, hb⟩; refine ⟨_, rfl, ?_⟩; have n0_ := za.mk (Kd.zgc (Zq14 HO429) (Kd.zd2 ho1) hb); have n1_ := za.mk (Kd.zbz (Kd.zfk (Kd.zfk (Kd.Qc_old (Zq14 HO431) hb) (Kd.zd2 ho0)) (Kd.zd2 ho1)) (fun _ h_ => h_.1)); have n2_ := za.mk (Kd.zdp (Kd.zej (Kd.zej ho0 (Kd.zgd (Zq14 HO429))) (Kd.zgd (Zq14 HO431))) (zbu (Zq1 HB))); have n3_ := za.mk (Kd.zdp (Kd.zej ho1 (Kd.zgd (Zq14 HO429))) (zbu (Zq1 HB))); have n4_ := za.mk (zy (Zq1 HB) hb); clear HO429; clear HO431; clear HB; have HO429 := n0_; have HO431 := n1_; have HO434 := n2_; have HO437 := n3_; have HB := n4_; clear n0_ n1_ n2_ n3_ n4_; (try clear hb); (try clear hb2); (try clear hk); (try clear hi); (try clear ho0); (try clear ho1)) | ((with_reducible refine zcc (N := 6) rfl ?_); refine zd0 ?hg (N := 6) ?hd (cs := #[.slice none 0 0, .slice none 0 0]) (t := 28) ?hr ?_; (case hd => rfl); (case hg => rfl); (case hr => first | (go_simp; done) | (go_simp; rfl)); intro gb438 hg w12 hbox hb; have n0_ := za.mk (Kd.zbn (Zq14 HO429) hb); have n1_ := za.mk (Kd.zbn (Zq14 HO431) hb); have n2_ := za.mk (Kd.zbn (Zq14 HO434) hb); have n3_ := za.mk (Kd.zbn (Zq14 HO437) hb); have n4_ := za.mk (zy (Zq1 HB) hb); have n5_ := za.mk (hbox); have n6_ := za.mk ((by rw [hg]; exact (zbu (Zq1 HB)) : w.heap.size ≤ gb438)); have n7_ := za.mk ((by rw [hg]; exact (zbu (Zq1 HB)) : w.heap.size ≤ gb438)); clear HO429; clear HO431; clear HO434; clear HO437; clear HB; have HO429 := n0_; have HO431 := n1_; have HO434 := n2_; have HO437 := n3_; have HB := n4_; have BK438 := n5_; have GW438 := n6_; have GE438 := n7_; clear n0_ n1_ n2_ n3_ n4_ n5_ n6_ n7_; clear hb hbox hg; obtain ⟨Ao13, co13, eo13⟩ := Kd.zek HO434.out; subst eo13; have hcz14_0 : w12.cell? ⟨gb438, 0, none⟩ = some (.slice none 0 0) := (zbd BK438.out 0).trans rfl; have hcz14_1 : w12.cell? ⟨gb438, 1, none⟩ = some (.slice none 0 0) := (zbd BK438.out 1).trans rfl; have hfz14_0 := zbb BK438.out 0; have hfz14_1 := zbb BK438.out 1; obtain ⟨Ao15, co15, eo15⟩ := Kd.zek HO437.out; subst eo15) | ((with_reducible refine zu (f := 10) rfl ?_); refine zbx (some 26) rfl rfl Try.func10 (by kernel_rfl) rfl #[.slice Ao9 t425.length co9, .slice Ao10 t426.length co10, .int .i64 t427] rfl Zmt ?_; (with_reducible refine (zo.calls k _ _ t425 _ _ t426 t427 t439 t442 _ ?side1 ?side2 ?side3 ?side4 A5.out).mono ?_); (case side1 => refine (Kd.zbh (e := 3) (base := w.heap.size) (ok := fun k_ => (True ∧ some k_ ≠ (.slice Ao15 t435.length co15 : Value).ownBlock)) (n := t425.length) (c := co9) ?_).2.2; exact (by (with_reducible repeat (first | apply Kd.zbt | apply Kd.zbs | apply Kd.zb4)); exact (Kd.zbz (Kd.zb8 (p := ⟨gb438, 1, none⟩) (Kd.zb8 (p := ⟨gb438, 0, none⟩) (Kd.zci HO429.out BK438.out (by decide)) (fun _ hk => hk.2) (.slice Ao13 t432.length co13)) (fun _ hk => hk.2) (.slice Ao15 t435.length co15)) (fun _ h_ => h_.1)))); (case side2 => exact (Kd.zbh HO429.out).2.1); (case side3 => refine Kd.cut_C (Kd.zbh (e := 23) (base := w.heap.size) (ok := fun k_ => ((some k_ ≠ (.slice Ao9 t425.length co9 : Value).ownBlock ∧ some k_ ≠ (.slice Ao13 t432.length co13 : Value).ownBlock) ∧ some k_ ≠ (.slice Ao15 t435.length co15 : Value).ownBlock)) (n := t426.length) (c := co10) ?_).2.2; exact (by (with_reducible repeat (first | apply Kd.zbt | apply Kd.zbs | apply Kd.zb4)); exact (Kd.zbz (Kd.zb8 (p := ⟨gb438, 1, none⟩) (Kd.zb8 (p := ⟨gb438, 0, none⟩) (Kd.zci HO431.out BK438.out (by decide)) (fun _ hk => hk.2) (.slice Ao13 t432.length co13)) (fun _ hk => hk.2) (.slice Ao15 t435.length co15)) (fun _ h_ => h_.1)))); (case side4 => exact (Kd.zbh HO431.out).2.1); rintro e w16 ⟨v440, v443, rfl, ho0, ho1, hb⟩; refine ⟨_, rfl, ?_⟩; have n0_ := za.mk (Kd.zgc (by (with_reducible repeat (first | apply Kd.zbt | apply Kd.zbs | apply Kd.zb4)); exact (Kd.zbz (Kd.zb8 (p := ⟨gb438, 1, none⟩) (Kd.zb8 (p := ⟨gb438, 0, none⟩) (Kd.zci HO429.out BK438.out (by decide)) (fun _ hk => hk.2) (.slice Ao13 t432.length co13)) (fun _ hk => hk.2) (.slice Ao15 t435.length co15)) (fun _ h_ => h_.1))) (Kd.zd2 ho1) hb); have n1_ := za.mk (Kd.zbz (Kd.zfk (Kd.zfk (Kd.Qc_old (by (with_reducible repeat (first | apply Kd.zbt | apply Kd.zbs | apply Kd.zb4)); exact (Kd.zbz (Kd.zb8 (p := ⟨gb438, 1, none⟩) (Kd.zb8 (p := ⟨gb438, 0, none⟩) (Kd.zci HO431.out BK438.out (by decide)) (fun _ hk => hk.2) (.slice Ao13 t432.length co13)) (fun _ hk => hk.2) (.slice Ao15 t435.length co15)) (fun _ h_ => h_.1))) hb) (Kd.zd2 ho0)) (Kd.zd2 ho1)) (fun _ h_ => h_.1)); have n2_ := za.mk (Kd.zbz (Kd.zfk (Kd.zfk (Kd.Qc_old (by (with_reducible repeat (first | apply Kd.zbt | apply Kd.zbs | apply Kd.zb4)); exact (Kd.zbz (Kd.zb8 (p := ⟨gb438, 1, none⟩) (Kd.zb8 (p := ⟨gb438, 0, none⟩) (Kd.zci HO434.out BK438.out (by decide)) (fun _ hk => hk.2) (.slice Ao13 t432.length co13)) (fun _ hk => hk.2) (.slice Ao15 t435.length co15)) (fun _ h_ => h_.1))) hb) (Kd.zd2 ho0)) (Kd.zd2 ho1)) (fun _ h_ => h_.1)); have n3_ := za.mk (Kd.zgc (by (with_reducible repeat (first | apply Kd.zbt | apply Kd.zbs | apply Kd.zb4)); exact (Kd.zbz (Kd.zb8 (p := ⟨gb438, 1, none⟩) (Kd.zb8 (p := ⟨gb438, 0, none⟩) (Kd.zci HO437.out BK438.out (by decide)) (fun _ hk => hk.2) (.slice Ao13 t432.length co13)) (fun _ hk => hk.2) (.slice Ao15 t435.length co15)) (fun _ h_ => h_.1))) (Kd.zd2 ho1) hb); have n4_ := za.mk (Kd.zdp (Kd.zej (Kd.zej (Kd.zej (Kd.zej ho0 (Kd.zgd (by (with_reducible repeat (first | apply Kd.zbt | apply Kd.zbs | apply Kd.zb4)); exact (Kd.zbz (Kd.zb8 (p := ⟨gb438, 1, none⟩) (Kd.zb8 (p := ⟨gb438, 0, none⟩) (Kd.zci HO429.out BK438.out (by decide)) (fun _ hk => hk.2) (.slice Ao13 t432.length co13)) (fun _ hk => hk.2) (.slice Ao15 t435.length co15)) (fun _ h_ => h_.1))))) (Kd.zgd (by (with_reducible repeat (first | apply Kd.zbt | apply Kd.zbs | apply Kd.zb4)); exact (Kd.zbz (Kd.zb8 (p := ⟨gb438, 1, none⟩) (Kd.zb8 (p := ⟨gb438, 0, none⟩) (Kd.zci HO431.out BK438.out (by decide)) (fun _ hk => hk.2) (.slice Ao13 t432.length co13)) (fun _ hk => hk.2) (.slice Ao15 t435.length co15)) (fun _ h_ => h_.1))))) (Kd.zgd (by (with_reducible repeat (first | apply Kd.zbt | apply Kd.zbs | apply Kd.zb4)); exact (Kd.zbz (Kd.zb8 (p := ⟨gb438, 1, none⟩) (Kd.zb8 (p := ⟨gb438, 0, none⟩) (Kd.zci HO434.out BK438.out (by decide)) (fun _ hk => hk.2) (.slice Ao13 t432.length co13)) (fun _ hk => hk.2) (.slice Ao15 t435.length co15)) (fun _ h_ => h_.1))))) (Kd.zgd (by (with_reducible repeat (first | apply Kd.zbt | apply Kd.zbs | apply Kd.zb4)); exact (Kd.zbz (Kd.zb8 (p := ⟨gb438, 1, none⟩) (Kd.zb8 (p := ⟨gb438, 0, none⟩) (Kd.zci HO437.out BK438.out (by decide)) (fun _ hk => hk.2) (.slice Ao13 t432.length co13)) (fun _ hk => hk.2) (.slice Ao15 t435.length co15)) (fun _ h_ => h_.1))))) (zbu (Zq3 HB GE438))); have n5_ := za.mk (Kd.zdp (Kd.zej (Kd.zej ho1 (Kd.zgd (by (with_reducible repeat (first | apply Kd.zbt | apply Kd.zbs | apply Kd.zb4)); exact (Kd.zbz (Kd.zb8 (p := ⟨gb438, 1, none⟩) (Kd.zb8 (p := ⟨gb438, 0, none⟩) (Kd.zci HO429.out BK438.out (by decide)) (fun _ hk => hk.2) (.slice Ao13 t432.length co13)) (fun _ hk => hk.2) (.slice Ao15 t435.length co15)) (fun _ h_ => h_.1))))) (Kd.zgd (by (with_reducible repeat (first | apply Kd.zbt | apply Kd.zbs | apply Kd.zb4)); exact (Kd.zbz (Kd.zb8 (p := ⟨gb438, 1, none⟩) (Kd.zb8 (p := ⟨gb438, 0, none⟩) (Kd.zci HO437.out BK438.out (by decide)) (fun _ hk => hk.2) (.slice Ao13 t432.length co13)) (fun _ hk => hk.2) (.slice Ao15 t435.length co15)) (fun _ h_ => h_.1))))) (zbu (Zq3 HB GE438))); have n6_ := za.mk (zb5 (g := gb438) (o := .cells #[.slice Ao13 t432.length co13, .slice Ao15 t435.length co15] 28 (0, 0)) (by (with_reducible repeat (first | refine zcm ?_ _ | refine zdo ?_ | refine zcz ?_ _)); refine zc9 (cs := #[.slice Ao13 t432.length co13, .slice none 0 0]) ?_ 1 _ rfl; (with_reducible repeat (first | refine zcm ?_ _ | refine zdo ?_ | refine zcz ?_ _)); refine zc9 (cs := #[.slice none 0 0, .slice none 0 0]) ?_ 0 _ rfl; (with_reducible repeat (first | refine zcm ?_ _ | refine zdo ?_ | refine zcz ?_ _)); exact BK438.out) hb); have n7_ := za.mk (zy (Zq3 HB GE438) hb); clear HO429; clear HO431; clear HO434; clear HO437; clear BK438; clear HB; have HO429 := n0_; have HO431 := n1_; have HO434 := n2_; have HO437 := n3_; have HO441 := n4_; have HO444 := n5_; have BK438 := n6_; have HB := n7_; clear n0_ n1_ n2_ n3_ n4_ n5_ n6_ n7_; (try clear hb); (try clear hb2); (try clear hk); (try clear hi); (try clear ho0); (try clear ho1)) | ((with_reducible refine zcc (N := 7) rfl ?_); refine zd0 ?hg (N := 7) ?hd (cs := #[.slice none 0 0, .slice none 0 0]) (t := 28) ?hr ?_; (case hd => rfl); (case hg => rfl); (case hr => first | (go_simp; done) | (go_simp; rfl)); intro gb445 hg w17 hbox hb; have n0_ := za.mk (Kd.zbn (Zq14 HO429) hb); have n1_ := za.mk (Kd.zbn (Zq14 HO431) hb); have n2_ := za.mk (Kd.zbn (Zq14 HO434) hb); have n3_ := za.mk (Kd.zbn (Zq14 HO437) hb); have n4_ := za.mk (Kd.zbn (Zq14 HO441) hb); have n5_ := za.mk (Kd.zbn (Zq14 HO444) hb); have n6_ := za.mk (zb5 (g := gb438) (o := .cells #[.slice Ao13 t432.length co13, .slice Ao15 t435.length co15] 28 (0, 0)) (Zq2 BK438) hb); have n7_ := za.mk (zy (Zq3 HB GE438) hb); have n8_ := za.mk (hbox); have n9_ := za.mk ((by rw [hg]; exact (zbu (Zq3 HB GE438)) : w.heap.size ≤ gb445)); have n10_ := za.mk ((by rw [hg]; exact (zbu (Zq3 HB GE438)) : w.heap.size ≤ gb445)); have n11_ := za.mk ((by rw [hg]; exact Nat.ne_of_lt (zf3 (g := gb438) (o := .cells #[.slice Ao13 t432.length co13, .slice Ao15 t435.length co15] 28 (0, 0)) (Zq2 BK438)) : gb438 ≠ gb445)); have n12_ := za.mk ((by rw [hg]; exact Nat.ne_of_gt (zf3 (g := gb438) (o := .cells #[.slice Ao13 t432.length co13, .slice Ao15 t435.length co15] 28 (0, 0)) (Zq2 BK438)) : gb445 ≠ gb438)); clear HO429; clear HO431; clear HO434; clear HO437; clear HO441; clear HO444; clear BK438; clear HB; have HO429 := n0_; have HO431 := n1_; have HO434 := n2_; have HO437 := n3_; have HO441 := n4_; have HO444 := n5_; have BK438 := n6_; have HB := n7_; have BK445 := n8_; have GW445 := n9_; have GE445 := n10_; have NB438_445 := n11_; have NB445_438 := n12_; clear n0_ n1_ n2_ n3_ n4_ n5_ n6_ n7_ n8_ n9_ n10_ n11_ n12_; clear hb hbox hg; obtain ⟨Ao18, co18, eo18⟩ := Kd.zek HO441.out; subst eo18; have hnb19 := NB445_438.out; have hnc19 := NB438_445.out; have hcz20_0 : w17.cell? ⟨gb445, 0, none⟩ = some (.slice none 0 0) := (zbd BK445.out 0).trans rfl; have hcz20_1 : w17.cell? ⟨gb445, 1, none⟩ = some (.slice none 0 0) := (zbd BK445.out 1).trans rfl; have hfz20_0 := zbb BK445.out 0; have hfz20_1 := zbb BK445.out 1; obtain ⟨Ao21, co21, eo21⟩ := Kd.zek HO444.out; subst eo21) | ((with_reducible refine zu (f := 17) rfl ?_); refine zbx (some 30) rfl rfl Try.func17 (by kernel_rfl) rfl #[.slice Ao9 t425.length co9, .slice Ao10 t426.length co10, .int .i64 t427] rfl Zmt ?_; (with_reducible refine (zba.calls k _ _ t425 _ _ t426 t427 t446 _ ?side1 ?side2 ?side3 ?side4 A6.out).mono ?_); (case side1 => refine (Kd.zbh (e := 3) (base := w.heap.size) (ok := fun k_ => ((True ∧ some k_ ≠ (.slice Ao15 t435.length co15 : Value).ownBlock) ∧ some k_ ≠ (.slice Ao21 t442.length co21 : Value).ownBlock)) (n := t425.length) (c := co9) ?_).2.2; exact (by (with_reducible repeat (first | apply Kd.zbt | apply Kd.zbs | apply Kd.zb4)); exact (Kd.zbz (Kd.zb8 (p := ⟨gb445, 1, none⟩) (Kd.zb8 (p := ⟨gb445, 0, none⟩) (Kd.zci HO429.out BK445.out (by decide)) (fun _ hk => hk.2) (.slice Ao18 t439.length co18)) (fun _ hk => hk.2) (.slice Ao21 t442.length co21)) (fun _ h_ => h_.1)))); (case side2 => exact (Kd.zbh HO429.out).2.1); (case side3 => refine Kd.cut_C (Kd.zbh (e := 23) (base := w.heap.size) (ok := fun k_ => ((((some k_ ≠ (.slice Ao9 t425.length co9 : Value).ownBlock ∧ some k_ ≠ (.slice Ao13 t432.length co13 : Value).ownBlock) ∧ some k_ ≠ (.slice Ao15 t435.length co15 : Value).ownBlock) ∧ some k_ ≠ (.slice Ao18 t439.length co18 : Value).ownBlock) ∧ some k_ ≠ (.slice Ao21 t442.length co21 : Value).ownBlock)) (n := t426.length) (c := co10) ?_).2.2; exact (by (with_reducible repeat (first | apply Kd.zbt | apply Kd.zbs | apply Kd.zb4)); exact (Kd.zbz (Kd.zb8 (p := ⟨gb445, 1, none⟩) (Kd.zb8 (p := ⟨gb445, 0, none⟩) (Kd.zci HO431.out BK445.out (by decide)) (fun _ hk => hk.2) (.slice Ao18 t439.length co18)) (fun _ hk => hk.2) (.slice Ao21 t442.length co21)) (fun _ h_ => h_.1)))); (case side4 => exact (Kd.zbh HO431.out).2.1); rintro e w22 ⟨rfl, hb⟩; refine ⟨_, rfl, ?_⟩; have n0_ := za.mk (Kd.zbn (by (with_reducible repeat (first | apply Kd.zbt | apply Kd.zbs | apply Kd.zb4)); exact (Kd.zbz (Kd.zb8 (p := ⟨gb445, 1, none⟩) (Kd.zb8 (p := ⟨gb445, 0, none⟩) (Kd.zci HO429.out BK445.out (by decide)) (fun _ hk => hk.2) (.slice Ao18 t439.length co18)) (fun _ hk => hk.2) (.slice Ao21 t442.length co21)) (fun _ h_ => h_.1))) hb); have n1_ := za.mk (Kd.zbn (by (with_reducible repeat (first | apply Kd.zbt | apply Kd.zbs | apply Kd.zb4)); exact (Kd.zbz (Kd.zb8 (p := ⟨gb445, 1, none⟩) (Kd.zb8 (p := ⟨gb445, 0, none⟩) (Kd.zci HO431.out BK445.out (by decide)) (fun _ hk => hk.2) (.slice Ao18 t439.length co18)) (fun _ hk => hk.2) (.slice Ao21 t442.length co21)) (fun _ h_ => h_.1))) hb); have n2_ := za.mk (Kd.zbn (by (with_reducible repeat (first | apply Kd.zbt | apply Kd.zbs | apply Kd.zb4)); exact (Kd.zbz (Kd.zb8 (p := ⟨gb445, 1, none⟩) (Kd.zb8 (p := ⟨gb445, 0, none⟩) (Kd.zci HO434.out BK445.out (by decide)) (fun _ hk => hk.2) (.slice Ao18 t439.length co18)) (fun _ hk => hk.2) (.slice Ao21 t442.length co21)) (fun _ h_ => h_.1))) hb); have n3_ := za.mk (Kd.zbn (by (with_reducible repeat (first | apply Kd.zbt | apply Kd.zbs | apply Kd.zb4)); exact (Kd.zbz (Kd.zb8 (p := ⟨gb445, 1, none⟩) (Kd.zb8 (p := ⟨gb445, 0, none⟩) (Kd.zci HO437.out BK445.out (by decide)) (fun _ hk => hk.2) (.slice Ao18 t439.length co18)) (fun _ hk => hk.2) (.slice Ao21 t442.length co21)) (fun _ h_ => h_.1))) hb); have n4_ := za.mk (Kd.zbn (by (with_reducible repeat (first | apply Kd.zbt | apply Kd.zbs | apply Kd.zb4)); exact (Kd.zbz (Kd.zb8 (p := ⟨gb445, 1, none⟩) (Kd.zb8 (p := ⟨gb445, 0, none⟩) (Kd.zci HO441.out BK445.out (by decide)) (fun _ hk => hk.2) (.slice Ao18 t439.length co18)) (fun _ hk => hk.2) (.slice Ao21 t442.length co21)) (fun _ h_ => h_.1))) hb); have n5_ := za.mk (Kd.zbn (by (with_reducible repeat (first | apply Kd.zbt | apply Kd.zbs | apply Kd.zb4)); exact (Kd.zbz (Kd.zb8 (p := ⟨gb445, 1, none⟩) (Kd.zb8 (p := ⟨gb445, 0, none⟩) (Kd.zci HO444.out BK445.out (by decide)) (fun _ hk => hk.2) (.slice Ao18 t439.length co18)) (fun _ hk => hk.2) (.slice Ao21 t442.length co21)) (fun _ h_ => h_.1))) hb); have n6_ := za.mk (zb5 (g := gb438) (o := .cells #[.slice Ao13 t432.length co13, .slice Ao15 t435.length co15] 28 (0, 0)) (by (with_reducible repeat (first | refine zcm ?_ _ | refine zdo ?_ | refine zcz ?_ _)); refine zie ?_ NB438_445.out _; (with_reducible repeat (first | refine zcm ?_ _ | refine zdo ?_ | refine zcz ?_ _)); refine zie ?_ NB438_445.out _; (with_reducible repeat (first | refine zcm ?_ _ | refine zdo ?_ | refine zcz ?_ _)); exact BK438.out) hb); have n7_ := za.mk (zb5 (g := gb445) (o := .cells #[.slice Ao18 t439.length co18, .slice Ao21 t442.length co21] 28 (0, 0)) (by (with_reducible repeat (first | refine zcm ?_ _ | refine zdo ?_ | refine zcz ?_ _)); refine zc9 (cs := #[.slice Ao18 t439.length co18, .slice none 0 0]) ?_ 1 _ rfl; (with_reducible repeat (first | refine zcm ?_ _ | refine zdo ?_ | refine zcz ?_ _)); refine zc9 (cs := #[.slice none 0 0, .slice none 0 0]) ?_ 0 _ rfl; (with_reducible repeat (first | refine zcm ?_ _ | refine zdo ?_ | refine zcz ?_ _)); exact BK445.out) hb); have n8_ := za.mk (zy (Zq15 HB GE438 GE445) hb); clear HO429; clear HO431; clear HO434; clear HO437; clear HO441; clear HO444; clear BK438; clear BK445; clear HB; have HO429 := n0_; have HO431 := n1_; have HO434 := n2_; have HO437 := n3_; have HO441 := n4_; have HO444 := n5_; have BK438 := n6_; have BK445 := n7_; have HB := n8_; clear n0_ n1_ n2_ n3_ n4_ n5_ n6_ n7_ n8_; (try clear hb); (try clear hb2); (try clear hk); (try clear hi)))
  (try simp only [Act.put, Zs1, Zs2, Zs3])
  go_cut [52] (fun v52 wc => ∃ (kq : Nat) (x52_6 : Bool), v52 = .bool x52_6 ∧ za (laws_FnGraham.j0 kq t425 t426 t427 t446 x52_6 t432 t435 = some r) ∧ za (kq ≤ k) ∧ za (Kd.Qc (Kd.int .i64) 3 wc w.heap.size (fun k_ => some k_ ≠ ((.slice Ao15 t435.length co15) : Value).ownBlock ∧ some k_ ≠ ((.slice Ao21 t442.length co21) : Value).ownBlock) (.slice Ao9 t425.length co9) t425) ∧ za (Kd.Qc (Kd.cut 3 (Kd.int .i64)) 23 wc w.heap.size (fun k_ => some k_ ≠ ((.slice Ao9 t425.length co9) : Value).ownBlock ∧ some k_ ≠ ((.slice Ao13 t432.length co13) : Value).ownBlock ∧ some k_ ≠ ((.slice Ao15 t435.length co15) : Value).ownBlock ∧ some k_ ≠ ((.slice Ao18 t439.length co18) : Value).ownBlock ∧ some k_ ≠ ((.slice Ao21 t442.length co21) : Value).ownBlock) (.slice Ao10 t426.length co10) t426) ∧ za (Kd.Qc (Kd.cut 3 (Kd.int .i64)) 23 wc w.heap.size (fun k_ => some k_ ≠ ((.slice Ao9 t425.length co9) : Value).ownBlock ∧ some k_ ≠ ((.slice Ao10 t426.length co10) : Value).ownBlock ∧ some k_ ≠ ((.slice Ao15 t435.length co15) : Value).ownBlock ∧ some k_ ≠ ((.slice Ao18 t439.length co18) : Value).ownBlock ∧ some k_ ≠ ((.slice Ao21 t442.length co21) : Value).ownBlock) (.slice Ao13 t432.length co13) t432) ∧ za (Kd.Qc (Kd.int .i64) 3 wc w.heap.size (fun k_ => some k_ ≠ ((.slice Ao9 t425.length co9) : Value).ownBlock ∧ some k_ ≠ ((.slice Ao21 t442.length co21) : Value).ownBlock) (.slice Ao15 t435.length co15) t435) ∧ za (Kd.Qc (Kd.cut 3 (Kd.int .i64)) 23 wc w.heap.size (fun k_ => some k_ ≠ ((.slice Ao9 t425.length co9) : Value).ownBlock ∧ some k_ ≠ ((.slice Ao10 t426.length co10) : Value).ownBlock ∧ some k_ ≠ ((.slice Ao13 t432.length co13) : Value).ownBlock ∧ some k_ ≠ ((.slice Ao15 t435.length co15) : Value).ownBlock ∧ some k_ ≠ ((.slice Ao21 t442.length co21) : Value).ownBlock) (.slice Ao18 t439.length co18) t439) ∧ za (Kd.Qc (Kd.int .i64) 3 wc w.heap.size (fun k_ => some k_ ≠ ((.slice Ao9 t425.length co9) : Value).ownBlock ∧ some k_ ≠ ((.slice Ao15 t435.length co15) : Value).ownBlock) (.slice Ao21 t442.length co21) t442) ∧ za (wc.heap[gb438]? = some (.cells #[(.slice Ao13 t432.length co13), (.slice Ao15 t435.length co15)] 28 (0, 0))) ∧ za (wc.heap[gb445]? = some (.cells #[(.slice Ao18 t439.length co18), (.slice Ao21 t442.length co21)] 28 (0, 0))) ∧ za (Below w.heap.size w wc))
  case first =>
   have H := HC7.out;clear HC7;replace H := Option.bind_eq_some_iff.mp H;obtain ⟨t447, A230, H⟩ := H;replace H : (if t447 = true then ((zbe.f k t435 t442).bind fun t448 => (if t448 = true then ((zx.f k t425 t426 t427).bind fun t449 => (laws_FnGraham.j0 k t425 t426 t427 t446 (t446 != t449) t432 t435)) else (laws_FnGraham.j0 k t425 t426 t427 t446 true t432 t435))) else (laws_FnGraham.j0 k t425 t426 t427 t446 true t432 t435)) = some r := H;have A23 := za.mk A230;clear A230;by_cases c24 : t447 = true
   ·subst c24
    have H1 : ((zbe.f k t435 t442).bind fun t448 => (if t448 = true then ((zx.f k t425 t426 t427).bind fun t449 => (laws_FnGraham.j0 k t425 t426 t427 t446 (t446 != t449) t432 t435)) else (laws_FnGraham.j0 k t425 t426 t427 t446 true t432 t435))) = some r := by rw [if_pos rfl] at H; exact H
    clear H;have H := H1;clear H1;replace H := Option.bind_eq_some_iff.mp H;obtain ⟨t448, A250, H⟩ := H;replace H : (if t448 = true then ((zx.f k t425 t426 t427).bind fun t449 => (laws_FnGraham.j0 k t425 t426 t427 t446 (t446 != t449) t432 t435)) else (laws_FnGraham.j0 k t425 t426 t427 t446 true t432 t435)) = some r := H;have A25 := za.mk A250;clear A250;by_cases c26 : t448 = true
    ·subst c26
     have H1 : ((zx.f k t425 t426 t427).bind fun t449 => (laws_FnGraham.j0 k t425 t426 t427 t446 (t446 != t449) t432 t435)) = some r := by rw [if_pos rfl] at H; exact H
     clear H;have H := H1;clear H1;replace H := Option.bind_eq_some_iff.mp H;obtain ⟨t449, A270, H⟩ := H;replace H : (laws_FnGraham.j0 k t425 t426 t427 t446 (t446 != t449) t432 t435) = some r := H;have A27 := za.mk A270;clear A270;have H' := za.mk H;clear H;have hnb28 := NB438_445.out;have hnc28 := NB445_438.out;have hcz29_0 : w22.cell? ⟨gb438, 0, none⟩ = some (.slice Ao13 t432.length co13) := (zbd BK438.out 0).trans rfl;have hcz29_1 : w22.cell? ⟨gb438, 1, none⟩ = some (.slice Ao15 t435.length co15) := (zbd BK438.out 1).trans rfl;have hfz29_0 := zbb BK438.out 0;have hfz29_1 := zbb BK438.out 1;have hcz30_0 : w22.cell? ⟨gb445, 0, none⟩ = some (.slice Ao18 t439.length co18) := (zbd BK445.out 0).trans rfl;have hcz30_1 : w22.cell? ⟨gb445, 1, none⟩ = some (.slice Ao21 t442.length co21) := (zbd BK445.out 1).trans rfl;have hfz30_0 := zbb BK445.out 0;have hfz30_1 := zbb BK445.out 1;go_wp2_with (first | ((with_reducible refine zu (f := 11) rfl ?_); refine zbx (some 35) rfl rfl Try.func11 (by kernel_rfl) rfl #[.slice Ao13 t432.length co13, .slice Ao18 t439.length co18] rfl Zmt ?_; (with_reducible refine (zbm.calls k _ _ t432 _ _ t439 true _ ?side1 ?side2 ?side3 ?side4 A23.out).mono ?_); (case side1 => exact Zq12 ((Kd.zbh HO434.out).2.2)); (case side2 => exact (Kd.zbh HO434.out).2.1); (case side3 => exact Zq12 ((Kd.zbh HO441.out).2.2)); (case side4 => exact (Kd.zbh HO441.out).2.1); rintro e w' ⟨rfl, ⟨nd, rfl⟩⟩; refine ⟨_, rfl, ?_⟩) | (go_at_call 12; (with_reducible refine (zbe.calls k _ _ t435 _ _ t442 true _ ?side1 ?side2 ?side3 ?side4 A25.out).mono ?_); (case side1 => exact Zq12 ((Kd.zbh HO437.out).2.2)); (case side2 => exact (Kd.zbh HO437.out).2.1); (case side3 => exact Zq12 ((Kd.zbh HO444.out).2.2)); (case side4 => exact (Kd.zbh HO444.out).2.1); rintro e w' ⟨rfl, ⟨nd, rfl⟩⟩) | (go_at_call 18; (with_reducible refine (zx.calls k _ _ t425 _ _ t426 t427 t449 _ ?side1 ?side2 ?side3 ?side4 A27.out).mono ?_); (case side1 => exact Zq12 ((Kd.zbh HO429.out).2.2)); (case side2 => exact (Kd.zbh HO429.out).2.1); (case side3 => exact Zq12 ((Kd.zbh HO431.out).2.2)); (case side4 => exact (Kd.zbh HO431.out).2.1); rintro e w31 ⟨rfl, hb⟩; have n0_ := za.mk (Kd.zbn (Zq14 HO429) hb); have n1_ := za.mk (Kd.zbn (Zq14 HO431) hb); have n2_ := za.mk (Kd.zbn (Zq14 HO434) hb); have n3_ := za.mk (Kd.zbn (Zq14 HO437) hb); have n4_ := za.mk (Kd.zbn (Zq14 HO441) hb); have n5_ := za.mk (Kd.zbn (Zq14 HO444) hb); have n6_ := za.mk (zb5 (g := gb438) (o := .cells #[.slice Ao13 t432.length co13, .slice Ao15 t435.length co15] 28 (0, 0)) (Zq2 BK438) hb); have n7_ := za.mk (zb5 (g := gb445) (o := .cells #[.slice Ao18 t439.length co18, .slice Ao21 t442.length co21] 28 (0, 0)) (Zq2 BK445) hb); have n8_ := za.mk (zy (Zq15 HB GE438 GE445) hb); clear HO429; clear HO431; clear HO434; clear HO437; clear HO441; clear HO444; clear BK438; clear BK445; clear HB; have HO429 := n0_; have HO431 := n1_; have HO434 := n2_; have HO437 := n3_; have HO441 := n4_; have HO444 := n5_; have BK438 := n6_; have BK445 := n7_; have HB := n8_; clear n0_ n1_ n2_ n3_ n4_ n5_ n6_ n7_ n8_; (try clear hb); (try clear hb2); (try clear hk); (try clear hi)));go_meet
     case rel => exact ⟨_, ((t446 != t449)), Zrs, H', ⟨by first | omega | exact Nat.le_refl _⟩, ⟨by (with_reducible repeat (first | apply Kd.zbt | apply Kd.zbs | apply Kd.zb4)); exact Kd.zbz HO429.out (fun _ hk => ⟨hk.1.2, hk.2⟩)⟩, ⟨by (with_reducible repeat (first | apply Kd.zbt | apply Kd.zbs | apply Kd.zb4)); exact Kd.zbz HO431.out (fun _ hk => ⟨hk.1.1.1.1, ⟨hk.1.1.1.2, ⟨hk.1.1.2, ⟨hk.1.2, hk.2⟩⟩⟩⟩)⟩, ⟨by (with_reducible repeat (first | apply Kd.zbt | apply Kd.zbs | apply Kd.zb4)); exact Kd.zbz HO434.out (fun _ hk => ⟨hk.1.1.1.2, ⟨hk.1.1.2, ⟨hk.1.1.1.1, ⟨hk.1.2, hk.2⟩⟩⟩⟩)⟩, ⟨by (with_reducible repeat (first | apply Kd.zbt | apply Kd.zbs | apply Kd.zb4)); exact Kd.zbz HO437.out (fun _ hk => ⟨hk.1.2, hk.2⟩)⟩, ⟨by (with_reducible repeat (first | apply Kd.zbt | apply Kd.zbs | apply Kd.zb4)); exact Kd.zbz HO441.out (fun _ hk => ⟨hk.1.1.1.2, ⟨hk.1.1.2, ⟨hk.1.2, ⟨hk.2, hk.1.1.1.1⟩⟩⟩⟩)⟩, ⟨by (with_reducible repeat (first | apply Kd.zbt | apply Kd.zbs | apply Kd.zb4)); exact Kd.zbz HO444.out (fun _ hk => ⟨hk.1.2, hk.2⟩)⟩, ⟨Zq2 BK438⟩, ⟨Zq2 BK445⟩, ⟨Zq15 HB GE438 GE445⟩⟩
    ·replace c26 := Bool.eq_false_iff.mpr c26
     subst c26;have H1 : (laws_FnGraham.j0 k t425 t426 t427 t446 true t432 t435) = some r := by rw [if_neg (show ¬ (false = true) by decide)] at H; exact H
     clear H;have H := H1;clear H1;have H' := za.mk H;clear H;have hnb32 := NB438_445.out;have hnc32 := NB445_438.out;have hcz33_0 : w22.cell? ⟨gb438, 0, none⟩ = some (.slice Ao13 t432.length co13) := (zbd BK438.out 0).trans rfl;have hcz33_1 : w22.cell? ⟨gb438, 1, none⟩ = some (.slice Ao15 t435.length co15) := (zbd BK438.out 1).trans rfl;have hfz33_0 := zbb BK438.out 0;have hfz33_1 := zbb BK438.out 1;have hcz34_0 : w22.cell? ⟨gb445, 0, none⟩ = some (.slice Ao18 t439.length co18) := (zbd BK445.out 0).trans rfl;have hcz34_1 : w22.cell? ⟨gb445, 1, none⟩ = some (.slice Ao21 t442.length co21) := (zbd BK445.out 1).trans rfl;have hfz34_0 := zbb BK445.out 0;have hfz34_1 := zbb BK445.out 1;go_wp2_with (first | ((with_reducible refine zu (f := 11) rfl ?_); refine zbx (some 35) rfl rfl Try.func11 (by kernel_rfl) rfl #[.slice Ao13 t432.length co13, .slice Ao18 t439.length co18] rfl Zmt ?_; (with_reducible refine (zbm.calls k _ _ t432 _ _ t439 true _ ?side1 ?side2 ?side3 ?side4 A23.out).mono ?_); (case side1 => exact Zq12 ((Kd.zbh HO434.out).2.2)); (case side2 => exact (Kd.zbh HO434.out).2.1); (case side3 => exact Zq12 ((Kd.zbh HO441.out).2.2)); (case side4 => exact (Kd.zbh HO441.out).2.1); rintro e w' ⟨rfl, ⟨nd, rfl⟩⟩; refine ⟨_, rfl, ?_⟩) | (go_at_call 12; (with_reducible refine (zbe.calls k _ _ t435 _ _ t442 false _ ?side1 ?side2 ?side3 ?side4 A25.out).mono ?_); (case side1 => exact Zq12 ((Kd.zbh HO437.out).2.2)); (case side2 => exact (Kd.zbh HO437.out).2.1); (case side3 => exact Zq12 ((Kd.zbh HO444.out).2.2)); (case side4 => exact (Kd.zbh HO444.out).2.1); rintro e w' ⟨rfl, ⟨nd, rfl⟩⟩));go_meet
     case rel => exact ⟨_, (true), Zrs, H', ⟨by first | omega | exact Nat.le_refl _⟩, ⟨by (with_reducible repeat (first | apply Kd.zbt | apply Kd.zbs | apply Kd.zb4)); exact Kd.zbz HO429.out (fun _ hk => ⟨hk.1.2, hk.2⟩)⟩, ⟨by (with_reducible repeat (first | apply Kd.zbt | apply Kd.zbs | apply Kd.zb4)); exact Kd.zbz HO431.out (fun _ hk => ⟨hk.1.1.1.1, ⟨hk.1.1.1.2, ⟨hk.1.1.2, ⟨hk.1.2, hk.2⟩⟩⟩⟩)⟩, ⟨by (with_reducible repeat (first | apply Kd.zbt | apply Kd.zbs | apply Kd.zb4)); exact Kd.zbz HO434.out (fun _ hk => ⟨hk.1.1.1.2, ⟨hk.1.1.2, ⟨hk.1.1.1.1, ⟨hk.1.2, hk.2⟩⟩⟩⟩)⟩, ⟨by (with_reducible repeat (first | apply Kd.zbt | apply Kd.zbs | apply Kd.zb4)); exact Kd.zbz HO437.out (fun _ hk => ⟨hk.1.2, hk.2⟩)⟩, ⟨by (with_reducible repeat (first | apply Kd.zbt | apply Kd.zbs | apply Kd.zb4)); exact Kd.zbz HO441.out (fun _ hk => ⟨hk.1.1.1.2, ⟨hk.1.1.2, ⟨hk.1.2, ⟨hk.2, hk.1.1.1.1⟩⟩⟩⟩)⟩, ⟨by (with_reducible repeat (first | apply Kd.zbt | apply Kd.zbs | apply Kd.zb4)); exact Kd.zbz HO444.out (fun _ hk => ⟨hk.1.2, hk.2⟩)⟩, ⟨Zq2 BK438⟩, ⟨Zq2 BK445⟩, ⟨Zq15 HB GE438 GE445⟩⟩
   ·replace c24 := Bool.eq_false_iff.mpr c24
    subst c24;have H1 : (laws_FnGraham.j0 k t425 t426 t427 t446 true t432 t435) = some r := by rw [if_neg (show ¬ (false = true) by decide)] at H; exact H
    clear H;have H := H1;clear H1;have H' := za.mk H;clear H;have hnb35 := NB438_445.out;have hnc35 := NB445_438.out;have hcz36_0 : w22.cell? ⟨gb438, 0, none⟩ = some (.slice Ao13 t432.length co13) := (zbd BK438.out 0).trans rfl;have hcz36_1 : w22.cell? ⟨gb438, 1, none⟩ = some (.slice Ao15 t435.length co15) := (zbd BK438.out 1).trans rfl;have hfz36_0 := zbb BK438.out 0;have hfz36_1 := zbb BK438.out 1;have hcz37_0 : w22.cell? ⟨gb445, 0, none⟩ = some (.slice Ao18 t439.length co18) := (zbd BK445.out 0).trans rfl;have hcz37_1 : w22.cell? ⟨gb445, 1, none⟩ = some (.slice Ao21 t442.length co21) := (zbd BK445.out 1).trans rfl;have hfz37_0 := zbb BK445.out 0;have hfz37_1 := zbb BK445.out 1;go_wp2_with (first | ((with_reducible refine zu (f := 11) rfl ?_); refine zbx (some 35) rfl rfl Try.func11 (by kernel_rfl) rfl #[.slice Ao13 t432.length co13, .slice Ao18 t439.length co18] rfl Zmt ?_; (with_reducible refine (zbm.calls k _ _ t432 _ _ t439 false _ ?side1 ?side2 ?side3 ?side4 A23.out).mono ?_); (case side1 => exact Zq12 ((Kd.zbh HO434.out).2.2)); (case side2 => exact (Kd.zbh HO434.out).2.1); (case side3 => exact Zq12 ((Kd.zbh HO441.out).2.2)); (case side4 => exact (Kd.zbh HO441.out).2.1); rintro e w' ⟨rfl, ⟨nd, rfl⟩⟩; refine ⟨_, rfl, ?_⟩));go_meet
    case rel => exact ⟨_, (true), Zrs, H', ⟨by first | omega | exact Nat.le_refl _⟩, ⟨by (with_reducible repeat (first | apply Kd.zbt | apply Kd.zbs | apply Kd.zb4)); exact Kd.zbz HO429.out (fun _ hk => ⟨hk.1.2, hk.2⟩)⟩, ⟨by (with_reducible repeat (first | apply Kd.zbt | apply Kd.zbs | apply Kd.zb4)); exact Kd.zbz HO431.out (fun _ hk => ⟨hk.1.1.1.1, ⟨hk.1.1.1.2, ⟨hk.1.1.2, ⟨hk.1.2, hk.2⟩⟩⟩⟩)⟩, ⟨by (with_reducible repeat (first | apply Kd.zbt | apply Kd.zbs | apply Kd.zb4)); exact Kd.zbz HO434.out (fun _ hk => ⟨hk.1.1.1.2, ⟨hk.1.1.2, ⟨hk.1.1.1.1, ⟨hk.1.2, hk.2⟩⟩⟩⟩)⟩, ⟨by (with_reducible repeat (first | apply Kd.zbt | apply Kd.zbs | apply Kd.zb4)); exact Kd.zbz HO437.out (fun _ hk => ⟨hk.1.2, hk.2⟩)⟩, ⟨by (with_reducible repeat (first | apply Kd.zbt | apply Kd.zbs | apply Kd.zb4)); exact Kd.zbz HO441.out (fun _ hk => ⟨hk.1.1.1.2, ⟨hk.1.1.2, ⟨hk.1.2, ⟨hk.2, hk.1.1.1.1⟩⟩⟩⟩)⟩, ⟨by (with_reducible repeat (first | apply Kd.zbt | apply Kd.zbs | apply Kd.zb4)); exact Kd.zbz HO444.out (fun _ hk => ⟨hk.1.2, hk.2⟩)⟩, ⟨Zq2 BK438⟩, ⟨Zq2 BK445⟩, ⟨Zq15 HB GE438 GE445⟩⟩
  case rest =>
   clear HC7
   (try clear c1);(try clear c2);(try clear c2b0);(try clear c2b1);(try clear p2);(try clear c3);(try clear c6);(try clear c8);(try clear c9);(try clear c10);(try clear c11);(try clear c17);(try clear c19);(try clear c24);(try clear c26);(try clear c28);(try clear c32);(try clear c35);(try clear hcz14_0);(try clear hcz14_1);(try clear hcz20_0);(try clear hcz20_1);(try clear hcz29_0);(try clear hcz29_1);(try clear hcz30_0);(try clear hcz30_1);(try clear hcz33_0);(try clear hcz33_1);(try clear hcz34_0);(try clear hcz34_1);(try clear hcz36_0);(try clear hcz36_1);(try clear hcz37_0);(try clear hcz37_1);(try clear hfz14_0);(try clear hfz14_1);(try clear hfz20_0);(try clear hfz20_1);(try clear hfz29_0);(try clear hfz29_1);(try clear hfz30_0);(try clear hfz30_1);(try clear hfz33_0);(try clear hfz33_1);(try clear hfz34_0);(try clear hfz34_1);(try clear hfz36_0);(try clear hfz36_1);(try clear hfz37_0);(try clear hfz37_1)
   obtain ⟨kq, x52_6, rfl, HA, HJ6, HO_3, HO_4, HO_439000, HO_439001, HO_446000, HO_446001, BK438, BK445, HB⟩ := hcut
   cases kq with
   | zero => exact absurd HA.out (by simp [laws_FnGraham.j0])
   | succ kj6 =>
    have H := HA.out;clear HA;simp only [laws_FnGraham.j0] at H;by_cases c38 : x52_6 = true
    ·subst c38
     have H1 : (some false) = some r := by rw [if_pos rfl] at H; exact H
     clear H;have H := H1;clear H1;obtain rfl := Option.some.inj H;go_wp2;go_ret;exact ⟨by first | rfl | (simp [zl, zm] <;> rfl) | (simp [*, zl, zm] <;> rfl), Zq15 HB GE438 GE445⟩
    ·replace c38 := Bool.eq_false_iff.mpr c38
     subst c38;have H1 : (if t446 < 0 then (if (wrap64 ((t432.length : Int) + (t435.length : Int))) = 0 then ((zdn.f).bind fun t450 => (some t450)) else (some false)) else (if (t432.length : Int) ≤ t446 then ((zcd.f kj6 t425 t426).bind fun t451 => (if (t432.length : Int) ≥ t451 then ((zc6.f kj6 t425 t426).bind fun t452 => (some (decide ((wrap64 ((t432.length : Int) * t427)) ≥ t452)))) else (some false))) else (some false))) = some r := by rw [if_neg (show ¬ (false = true) by decide)] at H; exact H
     clear H;have H := H1;clear H1;by_cases c39 : t446 < 0
     ·rw [if_pos c39] at H
      have c39b0 : decide (t446 < 0) = true := decide_eq_true c39;clear c39;by_cases c40 : (wrap64 ((t432.length : Int) + (t435.length : Int))) = 0
      ·rw [if_pos c40] at H
       have c40b0 : ((wrap64 ((t432.length : Int) + (t435.length : Int))) == 0) = true := beq_iff_eq.mpr c40;have c40b1 : ((wrap64 ((t432.length : Int) + (t435.length : Int))) != 0) = false := bne_eq_false_iff_eq.mpr c40;clear c40;replace H := Option.bind_eq_some_iff.mp H;obtain ⟨t450, A410, H⟩ := H;replace H : (some t450) = some r := H;have A41 := za.mk A410;clear A410;obtain rfl := Option.some.inj H;have hnb42 := NB438_445.out;have hnc42 := NB445_438.out;have hcz43_0 : wc.cell? ⟨gb438, 0, none⟩ = some (.slice Ao13 t432.length co13) := (zbd BK438.out 0).trans rfl;have hcz43_1 : wc.cell? ⟨gb438, 1, none⟩ = some (.slice Ao15 t435.length co15) := (zbd BK438.out 1).trans rfl;have hfz43_0 := zbb BK438.out 0;have hfz43_1 := zbb BK438.out 1;go_wp2_with (first | (go_at_call 14; (with_reducible refine (zdn.calls  t450 _ A41.out).mono ?_); rintro e w44 ⟨rfl, hb⟩; have n0_ := za.mk (Kd.zbn (Zq14 HO_3) hb); have n1_ := za.mk (Kd.zbn (Zq14 HO_4) hb); have n2_ := za.mk (Kd.zbn (Zq14 HO_439000) hb); have n3_ := za.mk (Kd.zbn (Zq14 HO_439001) hb); have n4_ := za.mk (Kd.zbn (Zq14 HO_446000) hb); have n5_ := za.mk (Kd.zbn (Zq14 HO_446001) hb); have n6_ := za.mk (zb5 (g := gb438) (o := .cells #[.slice Ao13 t432.length co13, .slice Ao15 t435.length co15] 28 (0, 0)) (Zq2 BK438) hb); have n7_ := za.mk (zb5 (g := gb445) (o := .cells #[.slice Ao18 t439.length co18, .slice Ao21 t442.length co21] 28 (0, 0)) (Zq2 BK445) hb); have n8_ := za.mk (zy (Zq15 HB GE438 GE445) hb); clear HO_3; clear HO_4; clear HO_439000; clear HO_439001; clear HO_446000; clear HO_446001; clear BK438; clear BK445; clear HB; have HO_3 := n0_; have HO_4 := n1_; have HO_439000 := n2_; have HO_439001 := n3_; have HO_446000 := n4_; have HO_446001 := n5_; have BK438 := n6_; have BK445 := n7_; have HB := n8_; clear n0_ n1_ n2_ n3_ n4_ n5_ n6_ n7_ n8_; (try clear hb); (try clear hb2); (try clear hk); (try clear hi)));go_ret;exact ⟨by first | rfl | (simp [zl, zm] <;> rfl) | (simp [*, zl, zm] <;> rfl), Zq15 HB GE438 GE445⟩
      ·rw [if_neg c40] at H
       have c40b0 : ((wrap64 ((t432.length : Int) + (t435.length : Int))) == 0) = false := beq_eq_false_iff_ne.mpr c40;have c40b1 : ((wrap64 ((t432.length : Int) + (t435.length : Int))) != 0) = true := bne_iff_ne.mpr c40;obtain rfl := Option.some.inj H;have hnb45 := NB438_445.out;have hnc45 := NB445_438.out;have hcz46_0 : wc.cell? ⟨gb438, 0, none⟩ = some (.slice Ao13 t432.length co13) := (zbd BK438.out 0).trans rfl;have hcz46_1 : wc.cell? ⟨gb438, 1, none⟩ = some (.slice Ao15 t435.length co15) := (zbd BK438.out 1).trans rfl;have hfz46_0 := zbb BK438.out 0;have hfz46_1 := zbb BK438.out 1;go_wp2;go_ret;exact ⟨by first | rfl | (simp [zl, zm] <;> rfl) | (simp [*, zl, zm] <;> rfl), Zq15 HB GE438 GE445⟩
     ·rw [if_neg c39] at H
      have c39b0 : decide (t446 < 0) = false := decide_eq_false c39;clear c39;by_cases c47 : (t432.length : Int) ≤ t446
      ·rw [if_pos c47] at H
       have c47b0 : decide ((t432.length : Int) ≤ t446) = true := decide_eq_true c47;clear c47;replace H := Option.bind_eq_some_iff.mp H;obtain ⟨t451, A480, H⟩ := H;replace H : (if (t432.length : Int) ≥ t451 then ((zc6.f kj6 t425 t426).bind fun t452 => (some (decide ((wrap64 ((t432.length : Int) * t427)) ≥ t452)))) else (some false)) = some r := H;have A48 := za.mk A480;clear A480;by_cases c49 : (t432.length : Int) ≥ t451
       ·rw [if_pos c49] at H
        have c49b0 : decide (t451 ≤ (t432.length : Int)) = true := decide_eq_true c49;clear c49;replace H := Option.bind_eq_some_iff.mp H;obtain ⟨t452, A500, H⟩ := H;replace H : (some (decide ((wrap64 ((t432.length : Int) * t427)) ≥ t452))) = some r := H;have A50 := za.mk A500;clear A500;obtain rfl := Option.some.inj H;have hnb51 := NB438_445.out;have hnc51 := NB445_438.out;have hcz52_0 : wc.cell? ⟨gb438, 0, none⟩ = some (.slice Ao13 t432.length co13) := (zbd BK438.out 0).trans rfl;have hcz52_1 : wc.cell? ⟨gb438, 1, none⟩ = some (.slice Ao15 t435.length co15) := (zbd BK438.out 1).trans rfl;have hfz52_0 := zbb BK438.out 0;have hfz52_1 := zbb BK438.out 1;go_wp2_with (first | (go_at_call 19; (with_reducible refine (zcd.calls kj6 _ _ t425 _ _ t426 t451 _ ?side1 ?side2 ?side3 ?side4 A48.out).mono ?_); (case side1 => exact Zq12 ((Kd.zbh HO_3.out).2.2)); (case side2 => exact (Kd.zbh HO_3.out).2.1); (case side3 => exact Zq12 ((Kd.zbh HO_4.out).2.2)); (case side4 => exact (Kd.zbh HO_4.out).2.1); rintro e w53 ⟨rfl, hb⟩; have n0_ := za.mk (Kd.zbn (Zq14 HO_3) hb); have n1_ := za.mk (Kd.zbn (Zq14 HO_4) hb); have n2_ := za.mk (Kd.zbn (Zq14 HO_439000) hb); have n3_ := za.mk (Kd.zbn (Zq14 HO_439001) hb); have n4_ := za.mk (Kd.zbn (Zq14 HO_446000) hb); have n5_ := za.mk (Kd.zbn (Zq14 HO_446001) hb); have n6_ := za.mk (zb5 (g := gb438) (o := .cells #[.slice Ao13 t432.length co13, .slice Ao15 t435.length co15] 28 (0, 0)) (Zq2 BK438) hb); have n7_ := za.mk (zb5 (g := gb445) (o := .cells #[.slice Ao18 t439.length co18, .slice Ao21 t442.length co21] 28 (0, 0)) (Zq2 BK445) hb); have n8_ := za.mk (zy (Zq15 HB GE438 GE445) hb); clear HO_3; clear HO_4; clear HO_439000; clear HO_439001; clear HO_446000; clear HO_446001; clear BK438; clear BK445; clear HB; have HO_3 := n0_; have HO_4 := n1_; have HO_439000 := n2_; have HO_439001 := n3_; have HO_446000 := n4_; have HO_446001 := n5_; have BK438 := n6_; have BK445 := n7_; have HB := n8_; clear n0_ n1_ n2_ n3_ n4_ n5_ n6_ n7_ n8_; (try clear hb); (try clear hb2); (try clear hk); (try clear hi)) | (go_at_call 15; (with_reducible refine (zc6.calls kj6 _ _ t425 _ _ t426 t452 _ ?side1 ?side2 ?side3 ?side4 A50.out).mono ?_); (case side1 => exact Zq12 ((Kd.zbh HO_3.out).2.2)); (case side2 => exact (Kd.zbh HO_3.out).2.1); (case side3 => exact Zq12 ((Kd.zbh HO_4.out).2.2)); (case side4 => exact (Kd.zbh HO_4.out).2.1); rintro e w54 ⟨rfl, hb⟩; have n0_ := za.mk (Kd.zbn (Zq14 HO_3) hb); have n1_ := za.mk (Kd.zbn (Zq14 HO_4) hb); have n2_ := za.mk (Kd.zbn (Zq14 HO_439000) hb); have n3_ := za.mk (Kd.zbn (Zq14 HO_439001) hb); have n4_ := za.mk (Kd.zbn (Zq14 HO_446000) hb); have n5_ := za.mk (Kd.zbn (Zq14 HO_446001) hb); have n6_ := za.mk (zb5 (g := gb438) (o := .cells #[.slice Ao13 t432.length co13, .slice Ao15 t435.length co15] 28 (0, 0)) (Zq2 BK438) hb); have n7_ := za.mk (zb5 (g := gb445) (o := .cells #[.slice Ao18 t439.length co18, .slice Ao21 t442.length co21] 28 (0, 0)) (Zq2 BK445) hb); have n8_ := za.mk (zy (Zq15 HB GE438 GE445) hb); clear HO_3; clear HO_4; clear HO_439000; clear HO_439001; clear HO_446000; clear HO_446001; clear BK438; clear BK445; clear HB; have HO_3 := n0_; have HO_4 := n1_; have HO_439000 := n2_; have HO_439001 := n3_; have HO_446000 := n4_; have HO_446001 := n5_; have BK438 := n6_; have BK445 := n7_; have HB := n8_; clear n0_ n1_ n2_ n3_ n4_ n5_ n6_ n7_ n8_; (try clear hb); (try clear hb2); (try clear hk); (try clear hi)));go_ret;exact ⟨by first | rfl | (simp [zl, zm] <;> rfl) | (simp [*, zl, zm] <;> rfl), Zq15 HB GE438 GE445⟩
       ·rw [if_neg c49] at H
        have c49b0 : decide (t451 ≤ (t432.length : Int)) = false := decide_eq_false c49;clear c49;obtain rfl := Option.some.inj H;have hnb55 := NB438_445.out;have hnc55 := NB445_438.out;have hcz56_0 : wc.cell? ⟨gb438, 0, none⟩ = some (.slice Ao13 t432.length co13) := (zbd BK438.out 0).trans rfl;have hcz56_1 : wc.cell? ⟨gb438, 1, none⟩ = some (.slice Ao15 t435.length co15) := (zbd BK438.out 1).trans rfl;have hfz56_0 := zbb BK438.out 0;have hfz56_1 := zbb BK438.out 1;go_wp2_with (first | (go_at_call 19; (with_reducible refine (zcd.calls kj6 _ _ t425 _ _ t426 t451 _ ?side1 ?side2 ?side3 ?side4 A48.out).mono ?_); (case side1 => exact Zq12 ((Kd.zbh HO_3.out).2.2)); (case side2 => exact (Kd.zbh HO_3.out).2.1); (case side3 => exact Zq12 ((Kd.zbh HO_4.out).2.2)); (case side4 => exact (Kd.zbh HO_4.out).2.1); rintro e w57 ⟨rfl, hb⟩; have n0_ := za.mk (Kd.zbn (Zq14 HO_3) hb); have n1_ := za.mk (Kd.zbn (Zq14 HO_4) hb); have n2_ := za.mk (Kd.zbn (Zq14 HO_439000) hb); have n3_ := za.mk (Kd.zbn (Zq14 HO_439001) hb); have n4_ := za.mk (Kd.zbn (Zq14 HO_446000) hb); have n5_ := za.mk (Kd.zbn (Zq14 HO_446001) hb); have n6_ := za.mk (zb5 (g := gb438) (o := .cells #[.slice Ao13 t432.length co13, .slice Ao15 t435.length co15] 28 (0, 0)) (Zq2 BK438) hb); have n7_ := za.mk (zb5 (g := gb445) (o := .cells #[.slice Ao18 t439.length co18, .slice Ao21 t442.length co21] 28 (0, 0)) (Zq2 BK445) hb); have n8_ := za.mk (zy (Zq15 HB GE438 GE445) hb); clear HO_3; clear HO_4; clear HO_439000; clear HO_439001; clear HO_446000; clear HO_446001; clear BK438; clear BK445; clear HB; have HO_3 := n0_; have HO_4 := n1_; have HO_439000 := n2_; have HO_439001 := n3_; have HO_446000 := n4_; have HO_446001 := n5_; have BK438 := n6_; have BK445 := n7_; have HB := n8_; clear n0_ n1_ n2_ n3_ n4_ n5_ n6_ n7_ n8_; (try clear hb); (try clear hb2); (try clear hk); (try clear hi)));go_ret;exact ⟨by first | rfl | (simp [zl, zm] <;> rfl) | (simp [*, zl, zm] <;> rfl), Zq15 HB GE438 GE445⟩
      ·rw [if_neg c47] at H
       have c47b0 : decide ((t432.length : Int) ≤ t446) = false := decide_eq_false c47;clear c47;obtain rfl := Option.some.inj H;have hnb58 := NB438_445.out;have hnc58 := NB445_438.out;have hcz59_0 : wc.cell? ⟨gb438, 0, none⟩ = some (.slice Ao13 t432.length co13) := (zbd BK438.out 0).trans rfl;have hcz59_1 : wc.cell? ⟨gb438, 1, none⟩ = some (.slice Ao15 t435.length co15) := (zbd BK438.out 1).trans rfl;have hfz59_0 := zbb BK438.out 0;have hfz59_1 := zbb BK438.out 1;go_wp2;go_ret;exact ⟨by first | rfl | (simp [zl, zm] <;> rfl) | (simp [*, zl, zm] <;> rfl), Zq15 HB GE438 GE445⟩
def laws_FnGraham.Pure : Prop := ∀ (l0 : List Int), l0.length * 1 ≤ 140737488351232 → (l0.length ≤ maxLen ∧ ∀ y0 ∈ l0, (Lit.int .u8 y0).wf = true) → ∃ k, laws_FnGraham.f k l0 = some true
end Go.Proofs.Ytebgfobjhlcopaa.P
namespace Go.Proofs.Ytebgfobjhlcopaa.Base
open Go.RowKit Go.Proofs.Ytebgfobjhlcopaa.P Go.Proofs.YtebgfobjhlcopaaW.PrintWords Go.Proofs.YtebgfobjhlcopaaW.PrintLast Go.Proofs.YtebgfobjhlcopaaW.PrintMore
theorem w64 {x : Int} (h0 : -9223372036854775808 ≤ x) (h1 : x < 9223372036854775808) : wrap64 x = x := by unfold wrap64; omega
theorem in_f (a b c : Int) : zb9.f a b c = some (decide (b ≤ a ∧ a ≤ c)) := by
  unfold zb9.f
  by_cases h : a ≥ b
  · rw [if_pos h]; simp [show b ≤ a from h]
  · rw [if_neg h]; simp [show ¬ b ≤ a from h]
theorem zfr (a b c : Int) : zb6.f a b c = some (decide (b ≤ a ∧ a ≤ c)) := by
  unfold zb6.f
  by_cases h : a ≥ b
  · rw [if_pos h]; simp [show b ≤ a from h]
  · rw [if_neg h]; simp [show ¬ b ≤ a from h]
theorem zdb {α : Type} (p : Prop) [Decidable p] (x y : Option α) : (some (decide p)).bind (fun t => if t = true then x else y) = if p then x else y := by
  by_cases hp : p <;> simp [hp]
theorem mx_max (a b : Int) : mx a b = max a b := by unfold mx; omega
theorem tdiv_pos {a b : Int} (h : 0 ≤ a) : Int.tdiv a b = a / b := Int.tdiv_eq_ediv_of_nonneg h
end Go.Proofs.Ytebgfobjhlcopaa.Base
namespace Go.Proofs.Ytebgfobjhlcopaa.Gen
open Go.RowKit Go.Proofs.YtebgfobjhlcopaaW.PrintWords Go.Proofs.YtebgfobjhlcopaaW.PrintLast
def Tot {α : Type} (g : Nat → Option α) (P : α → Prop) : Prop := ∃ r, Ev g r ∧ P r
theorem Tot.ret {α : Type} {P : α → Prop} (a : α) (h : P a) : Tot (fun _ => some a) P := ⟨a, Ev.now a, h⟩
theorem Tot.mono {α : Type} {P Q : α → Prop} {g : Nat → Option α} (h : Tot g P) (hpq : ∀ a, P a → Q a) : Tot g Q := by
  obtain ⟨r, h1, h2⟩ := h
  exact ⟨r, h1, hpq r h2⟩
theorem Tot.congr {α : Type} {P : α → Prop} {g f : Nat → Option α} (e : ∀ k, g k = f k) (h : Tot f P) : Tot g P := by
  have : g = f := funext e
  rw [this]; exact h
theorem Tot.step {α : Type} {P : α → Prop} {g f : Nat → Option α} (e : ∀ k, g (k + 1) = f k) (h : Tot f P) : Tot g P := by
  obtain ⟨r, h1, h2⟩ := h
  exact ⟨r, Ev.step e h1, h2⟩
theorem Tot.bind {α β : Type} {P : α → Prop} {Q : β → Prop} {g : Nat → Option α} {f : Nat → α → Option β} (h : Tot g P) (hf : ∀ a, P a → Tot (fun k => f k a) Q) : Tot (fun k => (g k).bind (f k)) Q := by
  obtain ⟨r, h1, h2⟩ := h
  obtain ⟨q, h3, h4⟩ := hf r h2
  exact ⟨q, Ev.bind h1 h3, h4⟩
theorem Tot.bind0 {α β : Type} {Q : β → Prop} {g : Option α} {f : Nat → α → Option β} {a : α} (h : g = some a) (hf : Tot (fun k => f k a) Q) : Tot (fun k => g.bind (f k)) Q := by
  subst h; exact hf
theorem Tot.yes {α : Type} {P : α → Prop} {c : Prop} [Decidable c] {g f : Nat → Option α} (hc : c) (h : Tot g P) : Tot (fun k => if c then g k else f k) P := by
  simp only [if_pos hc]; exact h
theorem Tot.no {α : Type} {P : α → Prop} {c : Prop} [Decidable c] {g f : Nat → Option α} (hc : ¬ c) (h : Tot f P) : Tot (fun k => if c then g k else f k) P := by
  simp only [if_neg hc]; exact h
theorem Tot.ite {α : Type} {P : α → Prop} {c : Prop} [Decidable c] {g f : Nat → Option α} (h1 : c → Tot g P) (h2 : ¬ c → Tot f P) : Tot (fun k => if c then g k else f k) P := by
  by_cases hc : c
  · exact Tot.yes hc (h1 hc)
  · exact Tot.no hc (h2 hc)
theorem Tot.rounds {g : Nat → Option Bool} (h : Tot g (fun r => r = true)) : ∃ k, g k = some true := by
  obtain ⟨r, h1, rfl⟩ := h
  exact h1.rounds
theorem Tot.val {α : Type} {g : Nat → Option α} {a : α} (h : Ev g a) : Tot g (fun r => r = a) := ⟨a, h, rfl⟩
theorem Tot.ev {α : Type} {g : Nat → Option α} {a : α} (h : Tot g (fun r => r = a)) : Ev g a := by
  obtain ⟨r, h1, rfl⟩ := h
  exact h1
theorem Tot.loop {σ ρ : Type} {P : ρ → Prop} (F : Nat → Nat → σ → Option ρ) (n : Nat) (Inv : Nat → σ → Prop)
    (hstep : ∀ i s, i < n → Inv i s → (∀ s', Inv (i + 1) s' → Tot (fun k => F k (i + 1) s') P) → Tot (fun k => F k i s) P)
    (hend : ∀ s, Inv n s → Tot (fun k => F k n s) P) : ∀ i s, i ≤ n → Inv i s → Tot (fun k => F k i s) P := by
  have key : ∀ d i s, i + d = n → Inv i s → Tot (fun k => F k i s) P := by
    intro d
    induction d with
    | zero => intro i s hi h; obtain rfl : i = n := by omega
              exact hend s h
    | succ d ih => intro i s hi h; exact hstep i s (by omega) h (fun s' hs' => ih (i + 1) s' (by omega) hs')
  intro i s hi h
  exact key (n - i) i s (by omega) h
theorem zd3 (xs : List Int) (i : Nat) (h : i < xs.length) : rd xs (i : Int) = xs[i] := by
  unfold rd
  rw [List.getD_eq_getElem?_getD, Int.toNat_natCast, List.getElem?_eq_getElem h]
  rfl
theorem fill_step {β : Type} (acc tgt : List β) (i : Nat) (hl : acc.length = tgt.length) (h : acc.take i = tgt.take i) (hi : i < tgt.length) : (acc.set i tgt[i]).take (i + 1) = tgt.take (i + 1) := by
  rw [List.take_succ_eq_append_getElem (by simpa [hl] using hi), List.take_succ_eq_append_getElem hi]
  rw [List.take_set_of_le (Nat.le_refl i), h]
  simp
theorem Tot.copy {β : Type} (F : Nat → List β → Int → Option (List β)) (tgt : List β) (z : β)
    (hstep : ∀ k acc (i : Nat) (h : i < tgt.length), acc.length = tgt.length → F (k + 1) acc (i : Int) = F k (acc.set i tgt[i]) ((i : Int) + 1))
    (hend : ∀ k acc, acc.length = tgt.length → F (k + 1) acc (tgt.length : Int) = some acc) : Tot (fun k => F k (List.replicate tgt.length z) 0) (fun r => r = tgt) := by
  have key : ∀ d (i : Nat) acc, i + d = tgt.length → acc.length = tgt.length → acc.take i = tgt.take i → Tot (fun k => F k acc (i : Int)) (fun r => r = tgt) := by
    intro d
    induction d with
    | zero =>
      intro i acc hi hl ht
      obtain rfl : i = tgt.length := by omega
      refine Tot.step (f := fun _ => some acc) (fun k => hend k acc hl) (Tot.ret _ ?_)
      rw [List.take_length, ← hl, List.take_length] at ht
      exact ht
    | succ d ih =>
      intro i acc hi hl ht
      have hlt : i < tgt.length := by omega
      refine Tot.step (fun k => hstep k acc i hlt hl) ?_
      have := ih (i + 1) (acc.set i tgt[i]) (by omega) (by simpa using hl) (fill_step acc tgt i hl ht hlt)
      simpa using this
  simpa using key tgt.length 0 (List.replicate tgt.length z) (by omega) (by simp) (by simp)
theorem Tot.look {ρ : Type} {r : ρ} (F : Nat → Int → Option ρ) (n : Nat) (hstep : ∀ k (i : Nat), i < n → F (k + 1) (i : Int) = F k ((i : Int) + 1)) (hend : ∀ k, F (k + 1) (n : Int) = some r) : Tot (fun k => F k 0) (fun q => q = r) := by
  have key : ∀ d (i : Nat), i + d = n → Tot (fun k => F k (i : Int)) (fun q => q = r) := by
    intro d
    induction d with
    | zero => intro i hi; obtain rfl : i = n := by omega
              exact Tot.step (f := fun _ => some r) (fun k => hend k) (Tot.ret _ rfl)
    | succ d ih => intro i hi; exact Tot.step (fun k => hstep k i (by omega)) (by simpa using ih (i + 1) (by omega))
  simpa using key n 0 (by omega)
end Go.Proofs.Ytebgfobjhlcopaa.Gen
namespace Go.Proofs.Ytebgfobjhlcopaa.Graph
open Go.RowKit Go.Proofs.Ytebgfobjhlcopaa.P Go.Proofs.Ytebgfobjhlcopaa.Base Go.Proofs.Ytebgfobjhlcopaa.Gen Go.Proofs.YtebgfobjhlcopaaW.PrintWords Go.Proofs.YtebgfobjhlcopaaW.PrintLast
def zd4 (m : Int) (e : List Int) : Prop := e.length = 2 ∧ 0 ≤ rd e 0 ∧ rd e 0 < rd e 1 ∧ rd e 1 < m
instance (m : Int) (e : List Int) : Decidable (zd4 m e) := by unfold zd4; infer_instance
def ze2 (c : List Int) : Prop := ∀ x ∈ c, 1 ≤ x ∧ x ≤ 8
instance (c : List Int) : Decidable (ze2 c) := by unfold ze2; infer_instance
def GV (c : List Int) (es : List (List Int)) : Prop := c.length ≤ 8 ∧ es.length ≤ 64 ∧ ze2 c ∧ ∀ e ∈ es, zd4 c.length e
instance (c : List Int) (es : List (List Int)) : Decidable (GV c es) := by unfold GV; infer_instance
theorem zfs (xs : List (List Int)) (i : Nat) (h : i < xs.length) : zn xs (i : Int) = xs[i] := by
  unfold zn
  rw [List.getD_eq_getElem?_getD, Int.toNat_natCast, List.getElem?_eq_getElem h]
  rfl
theorem costs_f (c : List Int) : zcp.f c = some (decide (¬ ze2 c)) := by
  unfold zcp.f
  congr 1
  rw [Bool.eq_iff_iff, List.any_eq_true]
  unfold ze2
  simp only [zcp.bad, decide_eq_true_eq]
  constructor
  · rintro ⟨x, hx, h⟩ hh
    have := hh x hx
    simp at h
    omega
  · intro hh
    refine Classical.byContradiction fun hc => hh fun x hx => ?_
    refine Classical.byContradiction fun h2 => hc ⟨x, hx, ?_⟩
    simp; omega
theorem all_of {α : Type} {P : α → Prop} {l : List α} (h : ∀ i (h : i < l.length), P l[i]) : ∀ x ∈ l, P x := by
  intro x hx
  obtain ⟨i, hi, rfl⟩ := List.mem_iff_getElem.1 hx
  exact h i hi
theorem upto {α : Type} {P : α → Prop} {l : List α} {j : Nat} (hj : j < l.length) (hm : ∀ i (h : i < l.length), i < j → P l[i]) (h : P l[j]) : ∀ i (h : i < l.length), i < j + 1 → P l[i] := by
  intro i hi hij
  rcases Nat.lt_or_ge i j with h' | h'
  · exact hm i hi h'
  · obtain rfl : i = j := by omega
    exact h
theorem zhj (c : List Int) (es : List (List Int)) (hc : c.length ≤ 2097152) (he : es.length ≤ 2097152) : Ev (fun k => zk.f k c es) (decide (GV c es)) := by
  have loop : ∀ d j, j + d = es.length → (∀ i (h : i < es.length), i < j → zd4 c.length es[i]) → Ev (fun k => zk.l0 k c es es (es.length : Int) (j : Int)) (decide (GV c es)) := by
    intro d
    induction d with
    | zero =>
      intro j hj hm
      have ha : ∀ e ∈ es, zd4 c.length e := all_of (fun i hi => hm i hi (by omega))
      refine Ev.step (f := fun _ => some (decide (GV c es))) (fun k => ?_) (Ev.now _)
      simp only [zk.l0]
      rw [if_neg (by omega)]
      by_cases h1 : c.length ≤ 8
      · rw [if_pos (by omega)]
        by_cases h2 : es.length ≤ 64
        · rw [if_pos (by omega), costs_f]
          simp only [Option.bind_some]
          congr 1
          rw [Bool.eq_iff_iff]
          unfold GV
          simp [h1, h2]
          exact fun _ => ha
        · rw [if_neg (by omega), decide_eq_false (fun h => h2 h.2.1)]
      · rw [if_neg (by omega), decide_eq_false (fun h => h1 h.1)]
    | succ d ih =>
      intro j hj hm
      have hjl : j < es.length := by omega
      by_cases hok : zd4 c.length es[j]
      · refine Ev.step (fun k => ?_) (ih (j + 1) (by omega) (upto hjl hm hok))
        unfold zd4 at hok
        simp only [zk.l0]
        rw [if_pos (by omega), if_pos (by omega), if_pos (by omega), zfs es j hjl, if_pos (by omega), if_pos (by omega), in_f, zdb, w64 (x := (c.length : Int) - 1) (by omega) (by omega), if_pos (by omega), if_pos (by omega), in_f, zdb, if_pos (by omega), if_neg (by omega), w64 (by omega) (by omega)]
        rfl
      · rw [decide_eq_false (fun h => hok (h.2.2.2 _ (List.getElem_mem hjl)))]
        refine Ev.step (f := fun _ => some false) (fun k => ?_) (Ev.now _)
        unfold zd4 at hok
        simp only [zk.l0]
        rw [if_pos (by omega), if_pos (by omega), if_pos (by omega), zfs es j hjl]
        by_cases h1 : es[j].length = 2
        · rw [if_pos (by omega), if_pos (by omega), in_f, zdb, w64 (x := (c.length : Int) - 1) (by omega) (by omega)]
          by_cases h2 : 0 ≤ rd es[j] 0 ∧ rd es[j] 0 ≤ (c.length : Int) - 1
          · rw [if_pos h2, if_pos (by omega), in_f, zdb]
            by_cases h3 : rd es[j] 0 ≤ rd es[j] 1 ∧ rd es[j] 1 ≤ (c.length : Int) - 1
            · rw [if_pos h3, if_pos (by omega)]
            · rw [if_neg h3]
          · rw [if_neg h2]
        · rw [if_neg (by omega)]
  have h := loop es.length 0 (by omega) (fun i _ h => by omega)
  refine Ev.congr (fun k => ?_) h
  unfold zk.f
  rfl
theorem zhk (c : List Int) (es : List (List Int)) : Ev (fun k => ze.f k c es) (decide (GV c es)) := by
  have no : ¬ GV c es → Ev (fun k => ze.j0 k c es true) (decide (GV c es)) := by
    intro h
    rw [decide_eq_false h]
    exact Ev.step (f := fun _ => some false) (fun k => by simp [ze.j0]) (Ev.now _)
  by_cases h1 : c.length ≤ 8
  · by_cases h2 : es.length ≤ 64
    · have edges : ze2 c → ∀ d j, j + d = es.length → (∀ i (h : i < es.length), i < j → zd4 c.length es[i]) → Ev (fun k => ze.l1 k c es (j : Int)) (decide (GV c es)) := by
        intro hco d
        induction d with
        | zero =>
          intro j hj hm
          have ha : ∀ e ∈ es, zd4 c.length e := all_of (fun i hi => hm i hi (by omega))
          rw [decide_eq_true (show GV c es from ⟨h1, h2, hco, ha⟩)]
          refine Ev.step (f := fun _ => some true) (fun k => ?_) (Ev.now _)
          simp only [ze.l1]
          rw [if_neg (by omega)]
        | succ d ih =>
          intro j hj hm
          have hjl : j < es.length := by omega
          by_cases hok : zd4 c.length es[j]
          · refine Ev.step (fun k => ?_) (ih (j + 1) (by omega) (upto hjl hm hok))
            unfold zd4 at hok
            simp only [ze.l1]
            rw [if_pos (by omega), if_pos (by omega), zfs es j hjl, if_pos (by omega), if_pos (by omega), zfr, zdb, w64 (x := (c.length : Int) - 1) (by omega) (by omega), if_pos (by omega), if_pos (by omega), zfr, zdb, w64 (x := rd es[j] 1 - 1) (by omega) (by omega), if_pos (by omega), w64 (by omega) (by omega)]
            rfl
          · rw [decide_eq_false (fun h => hok (h.2.2.2 _ (List.getElem_mem hjl)))]
            refine Ev.step (f := fun _ => some false) (fun k => ?_) (Ev.now _)
            unfold zd4 at hok
            simp only [ze.l1]
            rw [if_pos (by omega), if_pos (by omega), zfs es j hjl]
            by_cases h3 : es[j].length = 2
            · rw [if_pos (by omega), if_pos (by omega), zfr, zdb, w64 (x := (c.length : Int) - 1) (by omega) (by omega)]
              by_cases h4 : 0 ≤ rd es[j] 1 ∧ rd es[j] 1 ≤ (c.length : Int) - 1
              · rw [if_pos h4, if_pos (by omega), zfr, zdb, w64 (x := rd es[j] 1 - 1) (by omega) (by omega), if_neg (by omega)]
              · rw [if_neg h4]
            · rw [if_neg (by omega)]
      have costs : ∀ d j, j + d = c.length → (∀ i (h : i < c.length), i < j → 1 ≤ c[i] ∧ c[i] ≤ 8) → Ev (fun k => ze.l0 k c es (j : Int)) (decide (GV c es)) := by
        intro d
        induction d with
        | zero =>
          intro j hj hm
          have ha : ze2 c := all_of (fun i hi => hm i hi (by omega))
          refine Ev.step (fun k => ?_) (edges ha es.length 0 (by omega) (fun i _ h => by omega))
          simp only [ze.l0]
          rw [if_neg (by omega)]
          rfl
        | succ d ih =>
          intro j hj hm
          have hjl : j < c.length := by omega
          by_cases hok : 1 ≤ c[j] ∧ c[j] ≤ 8
          · refine Ev.step (fun k => ?_) (ih (j + 1) (by omega) (upto (P := fun x => 1 ≤ x ∧ x ≤ 8) hjl hm hok))
            simp only [ze.l0]
            rw [if_pos (by omega), if_pos (by omega), zd3 c j hjl, zfr, zdb, if_pos hok, w64 (by omega) (by omega)]
            rfl
          · rw [decide_eq_false (fun h => hok (h.2.2.1 _ (List.getElem_mem hjl)))]
            refine Ev.step (f := fun _ => some false) (fun k => ?_) (Ev.now _)
            simp only [ze.l0]
            rw [if_pos (by omega), if_pos (by omega), zd3 c j hjl, zfr, zdb, if_neg hok]
      have hs : Ev (fun k => ze.j0 k c es (decide ((es.length : Int) > 64))) (decide (GV c es)) := by
        refine Ev.step (fun k => ?_) (costs c.length 0 (by omega) (fun i _ h => by omega))
        simp only [ze.j0]
        rw [if_neg (by simp; omega)]
        rfl
      refine Ev.congr (fun k => ?_) hs
      unfold ze.f
      rw [if_neg (by omega)]
    · refine Ev.congr (fun k => ?_) (no (fun h => h2 h.2.1))
      unfold ze.f
      rw [if_neg (by omega), decide_eq_true (by omega)]
  · refine Ev.congr (fun k => ?_) (no (fun h => h1 h.1))
    unfold ze.f
    rw [if_pos (by omega)]
end Go.Proofs.Ytebgfobjhlcopaa.Graph
namespace Go.Proofs.Ytebgfobjhlcopaa.Crit
open Go.RowKit Go.Proofs.Ytebgfobjhlcopaa.P Go.Proofs.Ytebgfobjhlcopaa.Base Go.Proofs.Ytebgfobjhlcopaa.Gen Go.Proofs.Ytebgfobjhlcopaa.Graph Go.Proofs.YtebgfobjhlcopaaW.PrintWords Go.Proofs.YtebgfobjhlcopaaW.PrintLast
def stp (out : List Int) (b : Int) (t : Int) (e : List Int) : Int := if rd e 1 = b then max t (rd out (rd e 0)) else t
def bst (out : List Int) (b : Int) (es : List (List Int)) (t : Int) : Int := es.foldl (stp out b) t
def ends (c : List Int) (es : List (List Int)) : Nat → List Int
  | 0 => []
  | n + 1 => ends c es n ++ [bst (ends c es n) (n : Int) es 0 + rd c (n : Int)]
def EV (c : List Int) (es : List (List Int)) (i : Nat) : Int := rd (ends c es (i + 1)) (i : Int)
def mxl (l : List Int) (t : Int) : Int := l.foldl max t
def lng (c : List Int) (es : List (List Int)) : Int := mxl (ends c es c.length) 0
def vl (c : List Int) : Int := c.foldl (· + ·) 0
def zct (c : List Int) : Nat → Int
  | 0 => 0
  | n + 1 => zct c n + rd c (n : Int)
theorem zd8 (c : List Int) (es : List (List Int)) (n : Nat) : (ends c es n).length = n := by
  induction n with
  | zero => rfl
  | succ n ih => simp [ends, ih]
theorem rd_app_lt (a b : List Int) (i : Nat) (h : i < a.length) : rd (a ++ b) (i : Int) = rd a (i : Int) := by
  rw [zd3 _ i (by simp; omega), zd3 _ i h, List.getElem_append_left h]
theorem rd_app_eq (a : List Int) (x : Int) (n : Nat) (h : a.length = n) : rd (a ++ [x]) (n : Int) = x := by
  subst h
  rw [zd3 _ _ (by simp)]
  simp
theorem zde (c : List Int) (es : List (List Int)) (n i : Nat) (h : i < n) : rd (ends c es n) (i : Int) = EV c es i := by
  induction n with
  | zero => omega
  | succ n ih =>
    rcases Nat.lt_or_ge i n with h' | h'
    · rw [ends, rd_app_lt _ _ _ (by rw [zd8]; exact h'), ih h']
    · obtain rfl : i = n := by omega
      rfl
theorem zgt (c : List Int) (es : List (List Int)) (n : Nat) : EV c es n = bst (ends c es n) (n : Int) es 0 + rd c (n : Int) := by
  unfold EV
  rw [ends]
  exact rd_app_eq _ _ _ (zd8 c es n)
theorem zeu (out : List Int) (b : Int) (es : List (List Int)) : ∀ t, t ≤ bst out b es t := by
  induction es with
  | nil => intro t; exact Int.le_refl _
  | cons e es ih =>
    intro t
    refine Int.le_trans ?_ (ih _)
    unfold stp; split <;> omega
theorem bst_ge (out : List Int) (b : Int) (es : List (List Int)) : ∀ t, ∀ e ∈ es, rd e 1 = b → rd out (rd e 0) ≤ bst out b es t := by
  induction es with
  | nil => intro t e he; simp at he
  | cons e es ih =>
    intro t x hx hb
    rcases List.mem_cons.1 hx with rfl | hx
    · refine Int.le_trans ?_ (zeu out b es _)
      unfold stp; rw [if_pos hb]; omega
    · exact ih _ x hx hb
theorem zgh (out : List Int) (b M : Int) (es : List (List Int)) : ∀ t, t ≤ M → (∀ e ∈ es, rd e 1 = b → rd out (rd e 0) ≤ M) → bst out b es t ≤ M := by
  induction es with
  | nil => intro t h _; exact h
  | cons e es ih =>
    intro t h hh
    refine ih _ ?_ (fun x hx => hh x (List.mem_cons_of_mem _ hx))
    unfold stp
    split
    · rename_i hb
      have := hh e (List.mem_cons_self ..) hb
      omega
    · exact h
theorem mxl_init (l : List Int) : ∀ t, t ≤ mxl l t := by
  induction l with
  | nil => intro t; exact Int.le_refl _
  | cons a l ih => intro t; exact Int.le_trans (by omega) (ih _)
theorem mxl_ge (l : List Int) : ∀ t, ∀ x ∈ l, x ≤ mxl l t := by
  induction l with
  | nil => intro t x hx; simp at hx
  | cons a l ih =>
    intro t x hx
    rcases List.mem_cons.1 hx with rfl | hx
    · exact Int.le_trans (by omega) (mxl_init l _)
    · exact ih _ x hx
theorem mxl_le (l : List Int) (M : Int) : ∀ t, t ≤ M → (∀ x ∈ l, x ≤ M) → mxl l t ≤ M := by
  induction l with
  | nil => intro t h _; exact h
  | cons a l ih =>
    intro t h hh
    refine ih _ ?_ (fun x hx => hh x (List.mem_cons_of_mem _ hx))
    have := hh a (List.mem_cons_self ..)
    omega
theorem mxl_take (l : List Int) (i : Nat) (h : i < l.length) (t : Int) : mxl (l.take (i + 1)) t = max (mxl (l.take i) t) l[i] := by
  unfold mxl
  rw [List.take_succ_eq_append_getElem h, List.foldl_append]
  rfl
theorem vl_take (l : List Int) (i : Nat) (h : i < l.length) : vl (l.take (i + 1)) = vl (l.take i) + l[i] := by
  unfold vl
  rw [List.take_succ_eq_append_getElem h, List.foldl_append]
  rfl
theorem vl_sum (c : List Int) (n : Nat) (h : n ≤ c.length) : vl (c.take n) = zct c n := by
  induction n with
  | zero => rfl
  | succ n ih => rw [vl_take _ _ (by omega), ih (by omega), zct, zd3]
theorem vl_eq (c : List Int) : vl c = zct c c.length := by
  have := vl_sum c c.length (Nat.le_refl _)
  rwa [List.take_length] at this
def Up (m : Int) (es : List (List Int)) : Prop := ∀ e ∈ es, 0 ≤ rd e 0 ∧ rd e 0 < rd e 1 ∧ rd e 1 < m
def Pos (c : List Int) : Prop := ∀ i : Nat, i < c.length → 1 ≤ rd c (i : Int)
theorem gv_up {c : List Int} {es : List (List Int)} (h : GV c es) : Up c.length es := fun e he => (h.2.2.2 e he).2
theorem zgi {c : List Int} {es : List (List Int)} (h : GV c es) : Pos c := fun i hi => by
  rw [zd3 c i hi]
  exact (h.2.2.1 _ (List.getElem_mem hi)).1
theorem zet {c : List Int} {es : List (List Int)} (h : GV c es) (i : Nat) (hi : i < c.length) : 1 ≤ rd c (i : Int) ∧ rd c (i : Int) ≤ 8 := by
  rw [zd3 c i hi]
  exact h.2.2.1 _ (List.getElem_mem hi)
theorem zdw {m : Int} {es : List (List Int)} (h : Up m es) {e : List Int} (he : e ∈ es) : ∃ a b : Nat, rd e 0 = (a : Int) ∧ rd e 1 = (b : Int) ∧ a < b ∧ (b : Int) < m := by
  have := h e he
  exact ⟨(rd e 0).toNat, (rd e 1).toNat, by omega, by omega, by omega, by omega⟩
theorem EV_ge (c : List Int) (es : List (List Int)) (n : Nat) : rd c (n : Int) ≤ EV c es n := by
  rw [zgt]
  have := zeu (ends c es n) (n : Int) es 0
  omega
theorem lng_ge (c : List Int) (es : List (List Int)) (i : Nat) (h : i < c.length) : EV c es i ≤ lng c es := by
  rw [← zde c es c.length i h, zd3 _ i (by rw [zd8]; exact h)]
  exact mxl_ge _ _ _ (List.getElem_mem _)
theorem zh7 (c : List Int) (es : List (List Int)) (M : Int) (h0 : 0 ≤ M) (h : ∀ i, i < c.length → EV c es i ≤ M) : lng c es ≤ M := by
  refine mxl_le _ _ _ h0 (fun x hx => ?_)
  obtain ⟨i, hi, rfl⟩ := List.mem_iff_getElem.1 hx
  have hl := zd8 c es c.length
  have := h i (by omega)
  rwa [← zde c es c.length i (by omega), zd3 _ i hi] at this
theorem zev (c : List Int) (es : List (List Int)) : 0 ≤ lng c es := mxl_init _ _
theorem zf0 {c : List Int} (hp : Pos c) : ∀ n m, n ≤ m → m ≤ c.length → zct c n ≤ zct c m := by
  intro n m
  induction m with
  | zero => intro h _; obtain rfl : n = 0 := by omega
            exact Int.le_refl _
  | succ m ih =>
    intro h hm
    rcases Nat.lt_or_ge n (m + 1) with h' | h'
    · have := ih (by omega) (by omega)
      have := hp m (by omega)
      rw [zct]; omega
    · obtain rfl : n = m + 1 := by omega
      exact Int.le_refl _
theorem zh8 {c : List Int} {es : List (List Int)} (hu : Up c.length es) (hp : Pos c) : ∀ n, n < c.length → EV c es n ≤ zct c (n + 1) := by
  intro n
  induction n using Nat.strongRecOn with
  | ind n ih =>
    intro hn
    rw [zgt, zct]
    have : bst (ends c es n) (n : Int) es 0 ≤ zct c n := by
      refine zgh _ _ _ _ _ ?_ (fun e he hb => ?_)
      · exact zf0 hp 0 n (by omega) (by omega)
      · obtain ⟨a, b, ha, hb', hab, _⟩ := zdw hu he
        obtain rfl : b = n := by omega
        rw [ha, zde c es b a hab]
        exact Int.le_trans (ih a hab (by omega)) (zf0 hp _ _ (by omega) (by omega))
    omega
theorem lng_le_vl {c : List Int} {es : List (List Int)} (hu : Up c.length es) (hp : Pos c) : lng c es ≤ vl c := by
  rw [vl_eq]
  refine zh7 _ _ _ ?_ (fun i hi => ?_)
  · exact zf0 hp 0 _ (by omega) (by omega)
  · exact Int.le_trans (zh8 hu hp i hi) (zf0 hp _ _ (by omega) (by omega))
end Go.Proofs.Ytebgfobjhlcopaa.Crit
namespace Go.Proofs.Ytebgfobjhlcopaa.Gra
open Go.RowKit Go.Proofs.Ytebgfobjhlcopaa.P Go.Proofs.Ytebgfobjhlcopaa.Base Go.Proofs.Ytebgfobjhlcopaa.Gen Go.Proofs.Ytebgfobjhlcopaa.Graph Go.Proofs.Ytebgfobjhlcopaa.Crit Go.Proofs.YtebgfobjhlcopaaW.PrintWords Go.Proofs.YtebgfobjhlcopaaW.PrintLast
def blk (es : List (List Int)) (left : List Int) (i : Int) : Bool := es.any (fun e => decide (rd e 1 = i) && decide (0 < rd left (rd e 0)))
def rdy (es : List (List Int)) (left : List Int) (i : Int) : Bool := decide (0 < rd left i) && !(blk es left i)
def pck (es : List (List Int)) (left : List Int) (m : Int) : Nat → List Int
  | 0 => []
  | i + 1 => if rdy es left (i : Int) = true ∧ ((pck es left m i).length : Int) < m then pck es left m i ++ [(i : Int)] else pck es left m i
def tick (now : Int) (p : List Int × List Int) (i : Int) : List Int × List Int :=
  (p.1.set i.toNat (rd p.1 i - 1), if rd p.1 i - 1 = 0 then p.2.set i.toNat (now + 1) else p.2)
theorem zgj {es : List (List Int)} {left : List Int} {i : Int} : blk es left i = false ↔ ∀ e ∈ es, rd e 1 = i → rd left (rd e 0) ≤ 0 := by
  unfold blk
  rw [List.any_eq_false]
  constructor
  · intro h e he h1
    have := h e he
    rw [Bool.and_eq_true, decide_eq_true_eq, decide_eq_true_eq] at this
    omega
  · intro h e he
    rw [Bool.and_eq_true, decide_eq_true_eq, decide_eq_true_eq]
    intro hh
    have := h e he hh.1
    omega
theorem zdq {es : List (List Int)} {left : List Int} {i : Int} : rdy es left i = true ↔ 0 < rd left i ∧ ∀ e ∈ es, rd e 1 = i → rd left (rd e 0) ≤ 0 := by
  unfold rdy
  rw [Bool.and_eq_true, decide_eq_true_eq, Bool.not_eq_true', zgj]
section
variable {es : List (List Int)} {left : List Int} {m : Int}
theorem zfl : ∀ n (x : Int), x ∈ pck es left m n → ∃ i : Nat, i < n ∧ x = (i : Int) ∧ rdy es left (i : Int) = true := by
  intro n
  induction n with
  | zero => intro x h; simp [pck] at h
  | succ n ih =>
    intro x h
    rw [pck] at h
    split at h
    · rename_i hc
      rw [List.mem_append, List.mem_singleton] at h
      rcases h with h | h
      · obtain ⟨i, hi, h⟩ := ih x h; exact ⟨i, by omega, h⟩
      · exact ⟨n, by omega, h, hc.1⟩
    · obtain ⟨i, hi, h⟩ := ih x h; exact ⟨i, by omega, h⟩
theorem zh9 : ∀ n, (pck es left m n).Nodup := by
  intro n
  induction n with
  | zero => simp [pck]
  | succ n ih =>
    rw [pck]
    split
    · rw [List.nodup_append]
      refine ⟨ih, by simp, fun a ha b hb => ?_⟩
      rw [List.mem_singleton] at hb
      obtain ⟨i, hi, h, _⟩ := zfl n a ha
      omega
    · exact ih
theorem pck_len (hm : 0 ≤ m) : ∀ n, ((pck es left m n).length : Int) ≤ m := by
  intro n
  induction n with
  | zero => simpa [pck] using hm
  | succ n ih =>
    rw [pck]
    split
    · rename_i hc
      rw [List.length_append, List.length_singleton]; omega
    · exact ih
theorem pck_le : ∀ n, (pck es left m n).length ≤ n := by
  intro n
  induction n with
  | zero => simp [pck]
  | succ n ih =>
    rw [pck]
    split
    · rw [List.length_append, List.length_singleton]; omega
    · omega
theorem pck_full (hm : 0 ≤ m) : ∀ n (i : Nat), i < n → rdy es left (i : Int) = true → (i : Int) ∉ pck es left m n → ((pck es left m n).length : Int) = m := by
  intro n
  induction n with
  | zero => intro i h; omega
  | succ n ih =>
    intro i hi hr hn
    rw [pck] at hn ⊢
    split at hn
    · rename_i hc
      rw [List.mem_append, List.mem_singleton] at hn
      have h1 : (i : Int) ∉ pck es left m n := fun h => hn (Or.inl h)
      have h2 : i ≠ n := fun h => hn (Or.inr (by rw [h]))
      have := ih i (by omega) hr h1
      omega
    · rename_i hc
      rw [if_neg hc]
      by_cases e : i = n
      · subst e
        have := pck_len (es := es) (left := left) hm i
        have : ¬ ((pck es left m i).length : Int) < m := fun h => hc ⟨hr, h⟩
        omega
      · exact ih i (by omega) hr hn
end
theorem zfm (l : List Int) (i : Nat) (x : Int) (h : i < l.length) : rd (l.set i x) (i : Int) = x := by
  rw [zd3 _ i (by simpa using h)]
  simp
theorem zew (l : List Int) (i a : Nat) (x : Int) (h : a ≠ i) : rd (l.set i x) (a : Int) = rd l (a : Int) := by
  unfold rd
  rw [List.getD_eq_getElem?_getD, List.getD_eq_getElem?_getD, Int.toNat_natCast, List.getElem?_set_ne (by omega)]
theorem ticks_len (now : Int) : ∀ (l : List Int) (p : List Int × List Int), (l.foldl (tick now) p).1.length = p.1.length ∧ (l.foldl (tick now) p).2.length = p.2.length := by
  intro l
  induction l with
  | nil => intro p; exact ⟨rfl, rfl⟩
  | cons a l ih =>
    intro p
    have := ih (tick now p a)
    rw [List.foldl_cons, this.1, this.2]
    unfold tick
    constructor
    · simp
    · simp only; split <;> simp
theorem ticks_rd (now : Int) : ∀ (l : List Int) (p : List Int × List Int), l.Nodup → (∀ x ∈ l, ∃ i : Nat, i < p.1.length ∧ x = (i : Int)) → p.2.length = p.1.length → ∀ a : Nat, a < p.1.length →
    rd (l.foldl (tick now) p).1 (a : Int) = rd p.1 (a : Int) - (if (a : Int) ∈ l then 1 else 0) ∧
    rd (l.foldl (tick now) p).2 (a : Int) = if (a : Int) ∈ l ∧ rd p.1 (a : Int) - 1 = 0 then now + 1 else rd p.2 (a : Int) := by
  intro l
  induction l with
  | nil => intro p _ _ _ a _; simp
  | cons x l ih =>
    intro p hn hm hl a ha
    rw [List.nodup_cons] at hn
    obtain ⟨i, hi, rfl⟩ := hm x (List.mem_cons_self ..)
    have hl1 : (tick now p (i : Int)).1.length = p.1.length := by unfold tick; simp
    have hl2 : (tick now p (i : Int)).2.length = p.2.length := by unfold tick; simp only; split <;> simp
    have := ih (tick now p (i : Int)) hn.2 (fun y hy => by rw [hl1]; exact hm y (List.mem_cons_of_mem _ hy)) (by omega) a (by omega)
    rw [List.foldl_cons, this.1, this.2]
    by_cases e : a = i
    · subst e
      have h1 : rd (tick now p (a : Int)).1 (a : Int) = rd p.1 (a : Int) - 1 := by
        unfold tick; rw [Int.toNat_natCast]; exact zfm _ _ _ hi
      rw [h1, if_neg hn.1, if_neg (show ¬ ((a : Int) ∈ l ∧ rd p.1 (a : Int) - 1 - 1 = 0) from fun h => hn.1 h.1), if_pos (List.mem_cons_self ..)]
      refine ⟨by omega, ?_⟩
      unfold tick
      simp only [List.mem_cons_self, true_and, Int.toNat_natCast]
      split
      · exact zfm _ _ _ (by omega)
      · rfl
    · have h1 : rd (tick now p (i : Int)).1 (a : Int) = rd p.1 (a : Int) := by
        unfold tick; rw [Int.toNat_natCast]; exact zew _ _ _ _ e
      have h2 : rd (tick now p (i : Int)).2 (a : Int) = rd p.2 (a : Int) := by
        unfold tick
        simp only [Int.toNat_natCast]
        split
        · exact zew _ _ _ _ e
        · rfl
      have h3 : ((a : Int) ∈ (i : Int) :: l) ↔ (a : Int) ∈ l := by
        rw [List.mem_cons]
        constructor
        · rintro (h | h)
          · omega
          · exact h
        · exact Or.inr
      rw [h1, h2]
      simp only [h3]
      exact ⟨trivial, trivial⟩
structure Inv (es : List (List Int)) (left : List Int) : Prop where
  nn : ∀ i : Nat, i < left.length → 0 ≤ rd left (i : Int)
  up : Up left.length es
  bk : ∀ e ∈ es, 0 < rd left (rd e 0) → 1 ≤ rd left (rd e 1)
theorem zhl {es : List (List Int)} {left : List Int} (h : Inv es left) : ∀ n : Nat, n < left.length → rd left (n : Int) = 0 → EV left es n = 0 := by
  intro n
  induction n using Nat.strongRecOn with
  | ind n ih =>
    intro hn hz
    rw [zgt, hz, Int.add_zero]
    apply Int.le_antisymm
    · refine zgh _ _ _ _ _ (Int.le_refl _) (fun e he hb => ?_)
      obtain ⟨a, b, ha, hb', hab, _⟩ := zdw h.up he
      obtain rfl : b = n := by omega
      rw [ha, zde left es b a hab]
      have h1 := h.bk e he
      rw [ha, hb', hz] at h1
      have h2 := h.nn a (by omega)
      rw [ih a hab (by omega) (by omega)]
      exact Int.le_refl _
    · exact zeu _ _ _ _
structure Step (es : List (List Int)) (left new : List Int) (T : Nat → Prop) : Prop where
  len : new.length = left.length
  run : ∀ i : Nat, i < left.length → T i → rd new (i : Int) = rd left (i : Int) - 1 ∧ rdy es left (i : Int) = true
  sit : ∀ i : Nat, i < left.length → ¬ T i → rd new (i : Int) = rd left (i : Int)
section
variable {es : List (List Int)} {left new : List Int} {T : Nat → Prop}
theorem Step.inv (h : Inv es left) (s : Step es left new T) : Inv es new := by
  refine ⟨fun i hi => ?_, by rw [s.len]; exact h.up, fun e he h0 => ?_⟩
  · rw [s.len] at hi
    have := h.nn i hi
    by_cases t : T i
    · have h1 := s.run i hi t
      have := (zdq.1 h1.2).1
      omega
    · rw [s.sit i hi t]; exact this
  · obtain ⟨a, b, ha, hb, hab, hbl⟩ := zdw h.up he
    rw [ha] at h0
    rw [hb]
    have hal : 0 < rd left (a : Int) := by
      by_cases t : T a
      · have := (s.run a (by omega) t).1; omega
      · rw [s.sit a (by omega) t] at h0; exact h0
    have hk := h.bk e he
    rw [ha, hb] at hk
    have t : ¬ T b := fun t => by
      have := (zdq.1 (s.run b (by omega) t).2).2 e he hb
      rw [ha] at this; omega
    rw [s.sit b (by omega) t]
    exact hk hal
theorem Step.falls (h : Inv es left) (s : Step es left new T) (ha : ∀ i : Nat, i < left.length → rdy es left (i : Int) = true → T i) : ∀ n : Nat, n < left.length → EV new es n ≤ max 0 (EV left es n - 1) := by
  have hnew := s.inv h
  intro n
  induction n using Nat.strongRecOn with
  | ind n ih =>
    intro hn
    have hnn := h.nn n hn
    by_cases hz : rd left (n : Int) = 0
    · have t : ¬ T n := fun t => by have := (zdq.1 (s.run n hn t).2).1; omega
      rw [zhl hnew n (by rw [s.len]; exact hn) (by rw [s.sit n hn t]; exact hz)]
      omega
    · by_cases hr : rdy es left (n : Int) = true
      · have hrd := (s.run n hn (ha n hn hr)).1
        have hge := EV_ge left es n
        have : bst (ends new es n) (n : Int) es 0 ≤ 0 := by
          refine zgh _ _ _ _ _ (Int.le_refl _) (fun e he hb => ?_)
          obtain ⟨a, b, ha', hb', hab, _⟩ := zdw h.up he
          obtain rfl : b = n := by omega
          have h1 := (zdq.1 hr).2 e he hb
          rw [ha'] at h1
          have h2 := h.nn a (by omega)
          have t : ¬ T a := fun t => by have := (zdq.1 (s.run a (by omega) t).2).1; omega
          rw [ha', zde new es b a hab, zhl hnew a (by rw [s.len]; omega) (by rw [s.sit a (by omega) t]; omega)]
          exact Int.le_refl _
        rw [zgt]; omega
      · have t : ¬ T n := fun t => hr (s.run n hn t).2
        obtain ⟨e, he, hb, hp⟩ : ∃ e ∈ es, rd e 1 = (n : Int) ∧ 0 < rd left (rd e 0) := by
          refine Classical.byContradiction fun hc => hr (zdq.2 ⟨by omega, fun e he hb => ?_⟩)
          exact Classical.byContradiction fun h2 => hc ⟨e, he, hb, by omega⟩
        obtain ⟨a, b, ha', hb', hab, _⟩ := zdw h.up he
        obtain rfl : b = n := by omega
        rw [ha'] at hp
        have h1 := EV_ge left es a
        have h2 : rd (ends left es b) (a : Int) ≤ bst (ends left es b) (b : Int) es 0 := by
          have := bst_ge (ends left es b) (b : Int) es 0 e he hb
          rwa [ha'] at this
        rw [zde left es b a hab] at h2
        have : bst (ends new es b) (b : Int) es 0 ≤ bst (ends left es b) (b : Int) es 0 - 1 := by
          refine zgh _ _ _ _ _ (by omega) (fun f hf hfb => ?_)
          obtain ⟨c, d, hc, hd, hcd, _⟩ := zdw h.up hf
          obtain rfl : d = b := by omega
          rw [hc, zde new es d c hcd]
          have h3 := ih c hcd (by omega)
          have h4 := bst_ge (ends left es d) (d : Int) es 0 f hf hfb
          rw [hc, zde left es d c hcd] at h4
          omega
        rw [zgt new, zgt left, s.sit b hn t]
        omega
theorem Step.slow (h : Inv es left) (s : Step es left new T) : ∀ n : Nat, n < left.length → EV left es n ≤ EV new es n + 1 ∧ EV new es n ≤ EV left es n := by
  intro n
  induction n using Nat.strongRecOn with
  | ind n ih =>
    intro hn
    have pre : ∀ e ∈ es, rd e 1 = (n : Int) → ∃ a : Nat, rd e 0 = (a : Int) ∧ a < n := fun e he hb => by
      obtain ⟨a, b, ha', hb', hab, _⟩ := zdw h.up he
      exact ⟨a, ha', by omega⟩
    have dn : bst (ends new es n) (n : Int) es 0 ≤ bst (ends left es n) (n : Int) es 0 := by
      refine zgh _ _ _ _ _ (zeu ..) (fun e he hb => ?_)
      obtain ⟨a, ha, han⟩ := pre e he hb
      have h1 := bst_ge (ends left es n) (n : Int) es 0 e he hb
      rw [ha, zde left es n a han] at h1
      rw [ha, zde new es n a han]
      have := (ih a han (by omega)).2
      omega
    rw [zgt left, zgt new]
    by_cases t : T n
    · have hr := s.run n hn t
      have : bst (ends left es n) (n : Int) es 0 ≤ 0 := by
        refine zgh _ _ _ _ _ (Int.le_refl _) (fun e he hb => ?_)
        obtain ⟨a, ha, han⟩ := pre e he hb
        have h1 := (zdq.1 hr.2).2 e he hb
        rw [ha] at h1
        have h2 := h.nn a (by omega)
        rw [ha, zde left es n a han, zhl h a (by omega) (by omega)]
        exact Int.le_refl _
      have := zeu (ends new es n) (n : Int) es 0
      omega
    · rw [s.sit n hn t]
      have : bst (ends left es n) (n : Int) es 0 ≤ bst (ends new es n) (n : Int) es 0 + 1 := by
        refine zgh _ _ _ _ _ (by have := zeu (ends new es n) (n : Int) es 0; omega) (fun e he hb => ?_)
        obtain ⟨a, ha, han⟩ := pre e he hb
        have h1 := bst_ge (ends new es n) (n : Int) es 0 e he hb
        rw [ha, zde new es n a han] at h1
        rw [ha, zde left es n a han]
        have := (ih a han (by omega)).1
        omega
      omega
end
theorem pck_sum {left new : List Int} {g : Int → Prop} [DecidablePred g] : ∀ n : Nat,
    (∀ i : Nat, i < n → rd new (i : Int) = rd left (i : Int) - (if g (i : Int) then 1 else 0)) → zct new n = zct left n - ((((List.range n).filter (fun i => decide (g ((i : Nat) : Int)))).length : Nat) : Int) := by
  intro n
  induction n with
  | zero => intro _; simp [zct]
  | succ n ih =>
    intro h
    rw [zct, zct, ih (fun i hi => h i (by omega)), h n (by omega), List.range_succ, List.filter_append, List.length_append]
    by_cases hg : g (n : Int)
    · simp [hg]; omega
    · simp [hg]; omega
theorem pck_count {es : List (List Int)} {left : List Int} {m : Int} : ∀ n, ((List.range n).filter (fun i => decide (((i : Nat) : Int) ∈ pck es left m n))).length = (pck es left m n).length := by
  intro n
  induction n with
  | zero => simp [pck]
  | succ n ih =>
    rw [List.range_succ, List.filter_append, List.length_append]
    have hnot : (n : Int) ∉ pck es left m n := fun h => by
      obtain ⟨i, hi, h, _⟩ := zfl n _ h
      omega
    have e : (List.range n).filter (fun i => decide (((i : Nat) : Int) ∈ pck es left m (n + 1))) = (List.range n).filter (fun i => decide (((i : Nat) : Int) ∈ pck es left m n)) := by
      apply List.filter_congr
      intro i hi
      rw [List.mem_range] at hi
      rw [decide_eq_decide, pck]
      split
      · rw [List.mem_append, List.mem_singleton]
        constructor
        · rintro (h | h)
          · exact h
          · omega
        · exact Or.inl
      · exact Iff.rfl
    rw [e, ih]
    rw [pck]
    split
    · simp
    · simp [hnot]
section
variable (es : List (List Int)) (m : Int) (c z : List Int)
def st : Nat → List Int × List Int
  | 0 => (c, z)
  | t + 1 => (pck es (st t).1 m c.length).foldl (tick (t : Int)) (st t)
def run (t : Nat) : List Int := pck es (st es m c z t).1 m c.length
def Done (t : Nat) : Prop := ∀ i : Nat, i < c.length → rd (st es m c z t).1 (i : Int) = 0
end
section
variable {es : List (List Int)} {m : Int} {c z : List Int}
theorem zdi (hz : z.length = c.length) : ∀ t, (st es m c z t).1.length = c.length ∧ (st es m c z t).2.length = c.length := by
  intro t
  induction t with
  | zero => exact ⟨rfl, hz⟩
  | succ t ih =>
    rw [st]
    have := ticks_len (t : Int) (pck es (st es m c z t).1 m c.length) (st es m c z t)
    omega
theorem zhm (hz : z.length = c.length) (t a : Nat) (ha : a < c.length) :
    rd (st es m c z (t + 1)).1 (a : Int) = rd (st es m c z t).1 (a : Int) - (if (a : Int) ∈ run es m c z t then 1 else 0) ∧
    rd (st es m c z (t + 1)).2 (a : Int) = if (a : Int) ∈ run es m c z t ∧ rd (st es m c z t).1 (a : Int) - 1 = 0 then (t : Int) + 1 else rd (st es m c z t).2 (a : Int) := by
  have hl := zdi (es := es) (m := m) hz t
  rw [st]
  refine ticks_rd (t : Int) _ _ (zh9 _) (fun x hx => ?_) (by omega) a (by omega)
  obtain ⟨i, hi, h, _⟩ := zfl _ _ hx
  exact ⟨i, by omega, h⟩
theorem zhn (hz : z.length = c.length) (t : Nat) : Step es (st es m c z t).1 (st es m c z (t + 1)).1 (fun i => (i : Int) ∈ run es m c z t) := by
  have hl := zdi (es := es) (m := m) hz t
  have hl2 := zdi (es := es) (m := m) hz (t + 1)
  refine ⟨by omega, fun i hi ht => ⟨?_, ?_⟩, fun i hi ht => ?_⟩
  · rw [(zhm hz t i (by omega)).1, if_pos ht]
  · obtain ⟨j, hj, h, hr⟩ := zfl _ _ ht
    obtain rfl : i = j := by omega
    exact hr
  · rw [(zhm hz t i (by omega)).1, if_neg ht]; omega
theorem zft (hz : z.length = c.length) (hu : Up c.length es) (hp : Pos c) : ∀ t, Inv es (st es m c z t).1 := by
  intro t
  induction t with
  | zero =>
    refine ⟨fun i hi => ?_, hu, fun e he _ => ?_⟩
    · have := hp i hi; show 0 ≤ rd c (i : Int); omega
    · obtain ⟨a, b, _, hb, _, hbl⟩ := zdw hu he
      rw [hb]
      exact hp b (by omega)
  | succ t ih => exact Step.inv ih (zhn hz t)
theorem sum_zero {l : List Int} (n : Nat) (hnn : ∀ i : Nat, i < n → 0 ≤ rd l (i : Int)) : 0 ≤ zct l n ∧ (zct l n = 0 ↔ ∀ i : Nat, i < n → rd l (i : Int) = 0) := by
  induction n with
  | zero => exact ⟨Int.le_refl _, fun _ i hi => by omega, fun _ => rfl⟩
  | succ n ih =>
    have h1 := ih (fun i hi => hnn i (by omega))
    have h2 := hnn n (by omega)
    rw [zct]
    refine ⟨by omega, fun h i hi => ?_, fun h => ?_⟩
    · by_cases e : i = n
      · subst e; omega
      · exact h1.2.1 (by omega) i (by omega)
    · have := h1.2.2 (fun i hi => h i (by omega))
      have := h n (by omega)
      omega
theorem st_sum (hz : z.length = c.length) (t : Nat) : zct (st es m c z (t + 1)).1 c.length = zct (st es m c z t).1 c.length - ((run es m c z t).length : Int) := by
  rw [pck_sum (g := fun x => x ∈ run es m c z t) (left := (st es m c z t).1) (new := (st es m c z (t + 1)).1) c.length (fun i hi => (zhm hz t i hi).1)]
  congr 2
  exact pck_count c.length
theorem runs (hz : z.length = c.length) (hu : Up c.length es) (hp : Pos c) (hm : 1 ≤ m) (t : Nat) (h : ¬ Done es m c z t) : 1 ≤ (run es m c z t).length := by
  have hi := zft (m := m) hz hu hp t
  have hl := zdi (es := es) (m := m) hz t
  have key : ∀ n : Nat, n ≤ c.length → (∀ i : Nat, i < n → rd (st es m c z t).1 (i : Int) = 0) ∨ ∃ i : Nat, i < n ∧ rdy es (st es m c z t).1 (i : Int) = true := by
    intro n
    induction n with
    | zero => intro _; exact Or.inl fun i hi => by omega
    | succ n ih =>
      intro hn
      rcases ih (by omega) with h1 | ⟨i, h1, h2⟩
      · by_cases e : rd (st es m c z t).1 (n : Int) = 0
        · left
          intro i hi
          by_cases e2 : i = n
          · subst e2; exact e
          · exact h1 i (by omega)
        · right
          refine ⟨n, by omega, zdq.2 ⟨by have := hi.nn n (by omega); omega, fun f hf hb => ?_⟩⟩
          obtain ⟨a, b, ha, hb', hab, _⟩ := zdw hu hf
          rw [ha, h1 a (by omega)]
          exact Int.le_refl _
      · exact Or.inr ⟨i, by omega, h2⟩
  rcases key c.length (Nat.le_refl _) with h1 | ⟨i, h1, h2⟩
  · exact absurd h1 h
  · by_cases hin : (i : Int) ∈ run es m c z t
    · exact List.length_pos_of_mem hin
    · have := pck_full (by omega) c.length i h1 h2 hin
      unfold run
      omega
theorem zf1 (hz : z.length = c.length) (hu : Up c.length es) (hp : Pos c) (t : Nat) : 0 ≤ zct (st es m c z t).1 c.length ∧ (zct (st es m c z t).1 c.length = 0 ↔ Done es m c z t) := by
  have hi := zft (m := m) hz hu hp t
  have hl := zdi (es := es) (m := m) hz t
  exact sum_zero c.length (fun i h => hi.nn i (by omega))
theorem lng_zero (hz : z.length = c.length) (hu : Up c.length es) (hp : Pos c) (t : Nat) (h : Done es m c z t) : lng (st es m c z t).1 es = 0 := by
  have hi := zft (m := m) hz hu hp t
  have hl := zdi (es := es) (m := m) hz t
  apply Int.le_antisymm
  · refine zh7 _ _ _ (Int.le_refl _) (fun i hil => ?_)
    rw [zhl hi i hil (h i (by omega))]
    exact Int.le_refl _
  · exact zev _ _
theorem lng_slow (hz : z.length = c.length) (hu : Up c.length es) (hp : Pos c) (t : Nat) : lng (st es m c z t).1 es ≤ lng (st es m c z (t + 1)).1 es + 1 ∧ lng (st es m c z (t + 1)).1 es ≤ lng (st es m c z t).1 es := by
  have hi := zft (m := m) hz hu hp t
  have hs := zhn (es := es) (m := m) hz t
  have h0 := zev (st es m c z (t + 1)).1 es
  constructor
  · refine zh7 _ _ _ (by omega) (fun i hil => ?_)
    have h1 := (hs.slow hi i hil).1
    have h2 := lng_ge (st es m c z (t + 1)).1 es i (by rw [hs.len]; exact hil)
    omega
  · refine zh7 _ _ _ (zev _ _) (fun i hil => ?_)
    rw [hs.len] at hil
    have h1 := (hs.slow hi i hil).2
    have h2 := lng_ge (st es m c z t).1 es i hil
    omega
theorem lng_falls (hz : z.length = c.length) (hu : Up c.length es) (hp : Pos c) (t : Nat) (h : ∀ i : Nat, i < c.length → rdy es (st es m c z t).1 (i : Int) = true → (i : Int) ∈ run es m c z t) : lng (st es m c z (t + 1)).1 es ≤ max 0 (lng (st es m c z t).1 es - 1) := by
  have hi := zft (m := m) hz hu hp t
  have hl := zdi (es := es) (m := m) hz t
  have hs := zhn (es := es) (m := m) hz t
  refine zh7 _ _ _ (by omega) (fun i hil => ?_)
  rw [hs.len] at hil
  have h1 := hs.falls hi (fun i hi hr => h i (by omega) hr) i hil
  have h2 := lng_ge (st es m c z t).1 es i hil
  omega
theorem graham (hz : z.length = c.length) (hu : Up c.length es) (hp : Pos c) (hm : 1 ≤ m) : ∀ t : Nat, (∀ s, s < t → ¬ Done es m c z s) →
    m * t + zct (st es m c z t).1 c.length + (m - 1) * lng (st es m c z t).1 es ≤ zct c c.length + (m - 1) * lng c es ∧
    lng c es ≤ lng (st es m c z t).1 es + t ∧ zct c c.length ≤ zct (st es m c z t).1 c.length + m * t ∧ zct (st es m c z t).1 c.length + t ≤ zct c c.length := by
  intro t
  induction t with
  | zero =>
    intro _
    refine ⟨?_, ?_, ?_, ?_⟩ <;> simp [st]
  | succ t ih =>
    intro h
    obtain ⟨h1, h2, h3, h4⟩ := ih (fun s hs => h s (by omega))
    have hr := runs hz hu hp hm t (h t (by omega))
    have hs := st_sum (es := es) (m := m) hz t
    have hlen : ((run es m c z t).length : Int) ≤ m := pck_len (by omega) _
    have hsl := lng_slow (m := m) hz hu hp t
    have hdn := zf1 (m := m) hz hu hp t
    have hpos : 1 ≤ lng (st es m c z t).1 es := by
      have h5 : ¬ zct (st es m c z t).1 c.length = 0 := fun e => h t (by omega) (hdn.2.1 e)
      refine Classical.byContradiction fun hc => h t (by omega) (fun i hi => ?_)
      have hl := zdi (es := es) (m := m) hz t
      have h6 := EV_ge (st es m c z t).1 es i
      have h7 := lng_ge (st es m c z t).1 es i (by omega)
      have h8 := (zft (m := m) hz hu hp t).nn i (by omega)
      omega
    have e1 : m * ((t + 1 : Nat) : Int) = m * (t : Int) + m := by
      rw [Int.natCast_add, Int.mul_add, Int.natCast_one, Int.mul_one]
    refine ⟨?_, by omega, by omega, by omega⟩
    by_cases hf : ((run es m c z t).length : Int) = m
    · have : (m - 1) * lng (st es m c z (t + 1)).1 es ≤ (m - 1) * lng (st es m c z t).1 es := Int.mul_le_mul_of_nonneg_left hsl.2 (by omega)
      omega
    · have hall := lng_falls (m := m) hz hu hp t (fun i hi hr => Classical.byContradiction fun hn => hf (pck_full (by omega) _ i hi hr hn))
      have : (m - 1) * lng (st es m c z (t + 1)).1 es ≤ (m - 1) * (lng (st es m c z t).1 es - 1) := Int.mul_le_mul_of_nonneg_left (by omega) (by omega)
      rw [Int.mul_sub, Int.mul_one] at this
      omega
theorem ends_by (hz : z.length = c.length) (hu : Up c.length es) (hp : Pos c) (hm : 1 ≤ m) : ∃ T : Nat, (T : Int) ≤ zct c c.length ∧ Done es m c z T ∧ ∀ s, s < T → ¬ Done es m c z s := by
  have key : ∀ n : Nat, (∀ s, s < n → ¬ Done es m c z s) ∨ ∃ T : Nat, T < n ∧ Done es m c z T ∧ ∀ s, s < T → ¬ Done es m c z s := by
    intro n
    induction n with
    | zero => exact Or.inl fun s hs => by omega
    | succ n ih =>
      rcases ih with h | ⟨T, h1, h2, h3⟩
      · by_cases hd : Done es m c z n
        · exact Or.inr ⟨n, by omega, hd, h⟩
        · left
          intro s hs
          by_cases e : s = n
          · subst e; exact hd
          · exact h s (by omega)
      · exact Or.inr ⟨T, by omega, h2, h3⟩
  have h0 := zf1 (m := m) hz hu hp 0
  have h0' : 0 ≤ zct c c.length := h0.1
  rcases key ((zct c c.length).toNat + 1) with h | ⟨T, h1, h2, h3⟩
  · have h1 := (graham hz hu hp hm _ h).2.2.2
    have h2 := (zf1 (m := m) hz hu hp ((zct c c.length).toNat + 1)).1
    omega
  · exact ⟨T, by omega, h2, h3⟩
end
end Go.Proofs.Ytebgfobjhlcopaa.Gra
namespace Go.Proofs.Ytebgfobjhlcopaa.Crit
open Go.RowKit Go.Proofs.Ytebgfobjhlcopaa.P Go.Proofs.Ytebgfobjhlcopaa.Base Go.Proofs.Ytebgfobjhlcopaa.Gen Go.Proofs.Ytebgfobjhlcopaa.Graph Go.Proofs.YtebgfobjhlcopaaW.PrintWords Go.Proofs.YtebgfobjhlcopaaW.PrintLast
def VL (c : List Int) (es : List (List Int)) : Int := if GV c es then vl c else -1
def CP (c : List Int) (es : List (List Int)) : Int := if GV c es then lng c es else -1
def MB (c : List Int) (es : List (List Int)) (m : Int) : Int := if GV c es ∧ 1 ≤ m ∧ m ≤ 5 then lng c es + (vl c - lng c es) / m else -1
theorem zgk {c : List Int} {es : List (List Int)} (h : GV c es) (n : Nat) (hn : n ≤ c.length) : 0 ≤ zct c n ∧ zct c n ≤ 8 * n := by
  induction n with
  | zero => simp [zct]
  | succ n ih =>
    have h1 := ih (by omega)
    have h2 := zet h n (by omega)
    rw [zct]; omega
theorem vl_bd {c : List Int} {es : List (List Int)} (h : GV c es) : 0 ≤ vl c ∧ vl c ≤ 64 := by
  rw [vl_eq]
  have := zgk h c.length (Nat.le_refl _)
  have := h.1
  omega
theorem EV_bd {c : List Int} {es : List (List Int)} (h : GV c es) (i : Nat) (hi : i < c.length) : 1 ≤ EV c es i ∧ EV c es i ≤ 64 := by
  have h1 := EV_ge c es i
  have h2 := zet h i hi
  have h3 := zh8 (gv_up h) (zgi h) i hi
  have h4 := zgk h (i + 1) (by omega)
  have := h.1
  omega
theorem lng_bd {c : List Int} {es : List (List Int)} (h : GV c es) : 0 ≤ lng c es ∧ lng c es ≤ vl c := ⟨zev _ _, lng_le_vl (gv_up h) (zgi h)⟩
theorem zho {c : List Int} {es : List (List Int)} (h : GV c es) : ∀ d i, i + d = c.length → Ev (fun k => zb0.l0 k c (zct c i) (i : Int)) (vl c) := by
  intro d
  induction d with
  | zero =>
    intro i hi
    refine Ev.step (f := fun _ => some (vl c)) (fun k => ?_) (Ev.now _)
    simp only [zb0.l0]
    rw [if_neg (by omega), vl_eq]
    congr 2
  | succ d ih =>
    intro i hi
    have hc := h.1
    have h1 := zgk h i (by omega)
    have h2 := zet h i (by omega)
    refine Ev.step (fun k => ?_) (ih (i + 1) (by omega))
    simp only [zb0.l0]
    rw [if_pos (by omega), if_pos (by omega), w64 (x := zct c i + rd c i) (by omega) (by omega), w64 (by omega) (by omega)]
    rfl
theorem spec_vol (c : List Int) (es : List (List Int)) : Ev (fun k => zb0.f k c es) (VL c es) := by
  unfold zb0.f
  refine Ev.bind (zhk c es) ?_
  by_cases h : GV c es
  · simp only [decide_eq_true h, if_true]
    unfold VL; rw [if_pos h]
    exact zho h c.length 0 (by omega)
  · simp only [decide_eq_false h]
    unfold VL; rw [if_neg h]
    exact Ev.now _
theorem zgy {c : List Int} {es : List (List Int)} (h : GV c es) : Ev (fun k => zbv.f k c) (vl c) := by
  have loop : ∀ d i, i + d = c.length → Ev (fun k => zbv.l0 k (zct c i) c (c.length : Int) (i : Int)) (vl c) := by
    intro d
    induction d with
    | zero =>
      intro i hi
      refine Ev.step (f := fun _ => some (vl c)) (fun k => ?_) (Ev.now _)
      simp only [zbv.l0]
      rw [if_neg (by omega), vl_eq]
      congr 2
    | succ d ih =>
      intro i hi
      have hc := h.1
      have h1 := zgk h i (by omega)
      have h2 := zet h i (by omega)
      refine Ev.step (fun k => ?_) (ih (i + 1) (by omega))
      simp only [zbv.l0]
      rw [if_pos (by omega), if_pos (by omega), if_pos (by omega), w64 (x := zct c i + rd c i) (by omega) (by omega), w64 (by omega) (by omega)]
      rfl
  exact loop c.length 0 (by omega)
theorem impl_vol (c : List Int) (es : List (List Int)) (hc : c.length ≤ 2097152) (he : es.length ≤ 2097152) : Ev (fun k => zc6.f k c es) (VL c es) := by
  unfold zc6.f
  refine Ev.bind (zhj c es hc he) ?_
  by_cases h : GV c es
  · simp only [decide_eq_true h, if_true]
    unfold VL; rw [if_pos h]
    exact Ev.bind (zgy h) (Ev.now _)
  · simp only [decide_eq_false h]
    unfold VL; rw [if_neg h]
    exact Ev.now _
theorem bst_drop (out : List Int) (b : Int) (es : List (List Int)) (j : Nat) (h : j < es.length) (t : Int) : bst out b (es.drop j) t = bst out b (es.drop (j + 1)) (stp out b t es[j]) := by
  rw [List.drop_eq_getElem_cons h]
  rfl
theorem spec_ends {c : List Int} {es : List (List Int)} (h : GV c es) : Ev (fun k => zbj.f k c es) (ends c es c.length) := by
  have hc := h.1
  have he := h.2.1
  have inner : ∀ (i : Nat), i < c.length → ∀ R, Ev (fun k => zbj.l0 k c es (ends c es (i + 1)) ((i : Int) + 1)) R → ∀ d j t, j + d = es.length → bst (ends c es i) (i : Int) (es.drop j) t = bst (ends c es i) (i : Int) es 0 → Ev (fun k => zbj.l1 k c es (ends c es i) (i : Int) t (j : Int)) R := by
    intro i hi R hR d
    have hb := EV_bd h i hi
    have hco := zet h i hi
    have heq := zgt c es i
    induction d with
    | zero =>
      intro j t hj ht
      refine Ev.step (fun k => ?_) hR
      rw [List.drop_eq_nil_of_le (by omega)] at ht
      have ht : t = bst (ends c es i) (i : Int) es 0 := ht
      simp only [zbj.l1]
      rw [if_neg (by omega), if_pos (by omega), if_pos (by omega), if_pos (by rw [zd8]; omega), w64 (x := t + rd c i) (by omega) (by omega), w64 (by omega) (by omega), ht]
      rfl
    | succ d ih =>
      intro j t hj ht
      have hjl : j < es.length := by omega
      have hok := h.2.2.2 es[j] (List.getElem_mem hjl)
      unfold zd4 at hok
      rw [bst_drop _ _ _ _ hjl] at ht
      refine Ev.step (fun k => ?_) (ih (j + 1) _ (by omega) ht)
      simp only [zbj.l1]
      rw [if_pos (by omega), if_pos (by omega), zfs es j hjl, if_pos (by omega), w64 (x := (j : Int) + 1) (by omega) (by omega)]
      unfold stp
      by_cases hb : rd es[j] 1 = (i : Int)
      · rw [if_pos hb, if_pos hb, if_pos (by omega), if_pos (by omega), if_pos (by rw [zd8]; omega), mx_max]
        rfl
      · rw [if_neg hb, if_neg hb]
        rfl
  have outer : ∀ d i, i + d = c.length → Ev (fun k => zbj.l0 k c es (ends c es i) (i : Int)) (ends c es c.length) := by
    intro d
    induction d with
    | zero =>
      intro i hi
      obtain rfl : i = c.length := by omega
      refine Ev.step (f := fun _ => some (ends c es c.length)) (fun k => ?_) (Ev.now _)
      simp only [zbj.l0]
      rw [if_neg (by omega)]
    | succ d ih =>
      intro i hi
      refine Ev.step (fun k => ?_) (inner i (by omega) _ (ih (i + 1) (by omega)) es.length 0 0 (by omega) rfl)
      simp only [zbj.l0]
      rw [if_pos (by omega)]
      rfl
  exact outer c.length 0 (by omega)
theorem spec_cp (c : List Int) (es : List (List Int)) : Ev (fun k => zbf.f k c es) (CP c es) := by
  unfold zbf.f
  refine Ev.bind (zhk c es) ?_
  by_cases h : GV c es
  · simp only [decide_eq_true h, if_true]
    unfold CP; rw [if_pos h]
    refine Ev.bind (spec_ends h) ?_
    have hl := zd8 c es c.length
    have hc := h.1
    have loop : ∀ d i, i + d = c.length → Ev (fun k => zbf.l0 k (mxl ((ends c es c.length).take i) 0) (ends c es c.length) (i : Int)) (lng c es) := by
      intro d
      induction d with
      | zero =>
        intro i hi
        refine Ev.step (f := fun _ => some (lng c es)) (fun k => ?_) (Ev.now _)
        simp only [zbf.l0]
        rw [if_neg (by omega), List.take_of_length_le (by omega)]
        rfl
      | succ d ih =>
        intro i hi
        refine Ev.step (fun k => ?_) (ih (i + 1) (by omega))
        simp only [zbf.l0]
        rw [if_pos (by omega), if_pos (by omega), w64 (by omega) (by omega), mx_max, mxl_take _ _ (by omega), zd3 _ i (by omega)]
        rfl
    exact loop c.length 0 (by omega)
  · simp only [decide_eq_false h]
    unfold CP; rw [if_neg h]
    exact Ev.now _
theorem rd_set_eq (l : List Int) (i : Nat) (x : Int) (h : i < l.length) : rd (l.set i x) (i : Int) = x := by
  rw [zd3 _ i (by simpa using h)]
  simp
theorem zia (l : List Int) (i a : Nat) (x : Int) (h : a ≠ i) : rd (l.set i x) (a : Int) = rd l (a : Int) := by
  unfold rd
  rw [List.getD_eq_getElem?_getD, List.getD_eq_getElem?_getD, Int.toNat_natCast, List.getElem?_set_ne (by omega)]
def Row (c : List Int) (es : List (List Int)) (i : Nat) (t : Int) (x : List Int) : Prop :=
  x.length = c.length ∧ (∀ a : Nat, a < i → rd x (a : Int) = EV c es a) ∧ rd x (i : Int) = t ∧ ∀ a : Nat, i < a → rd x (a : Int) = 0
theorem row_read {c : List Int} {es : List (List Int)} {i : Nat} {t : Int} {x : List Int} (h : Row c es i t x) {a : Nat} (ha : a < i) : rd x (a : Int) = rd (ends c es i) (a : Int) := by
  rw [h.2.1 a ha, zde c es i a ha]
theorem row_set {c : List Int} {es : List (List Int)} {i : Nat} {t : Int} {x : List Int} (h : Row c es i t x) (hi : i < c.length) (u : Int) : Row c es i u (x.set i u) := by
  refine ⟨by simpa using h.1, fun a ha => ?_, rd_set_eq _ _ _ (by rw [h.1]; exact hi), fun a ha => ?_⟩
  · rw [zia _ _ _ _ (by omega)]; exact h.2.1 a ha
  · rw [zia _ _ _ _ (by omega)]; exact h.2.2.2 a ha
theorem row_next {c : List Int} {es : List (List Int)} {i : Nat} {x : List Int} (h : Row c es i (EV c es i) x) : Row c es (i + 1) 0 x := by
  refine ⟨h.1, fun a ha => ?_, h.2.2.2 (i + 1) (by omega), fun a ha => h.2.2.2 a (by omega)⟩
  by_cases e : a = i
  · subst e; exact h.2.2.1
  · exact h.2.1 a (by omega)
theorem row_zero (c : List Int) (es : List (List Int)) : Row c es 0 0 (List.replicate c.length 0) := by
  have hz : ∀ a : Nat, rd (List.replicate c.length 0) (a : Int) = 0 := by
    intro a
    unfold rd
    rw [List.getD_eq_getElem?_getD, Int.toNat_natCast, List.getElem?_replicate]
    split <;> rfl
  exact ⟨by simp, fun a ha => by omega, hz 0, fun a _ => hz a⟩
theorem zgl {c : List Int} {es : List (List Int)} (h : GV c es) : Ev (fun k => zt.f k c es) (lng c es) := by
  have hc := h.1
  have he := h.2.1
  have hel := zd8 c es c.length
  have inner : ∀ (i : Nat), i < c.length → ∀ R g, (∀ x, Row c es (i + 1) 0 x → Ev (fun k => zt.l0 k es x (max g (EV c es i)) c (c.length : Int) ((i : Int) + 1)) R) → ∀ d j t x, j + d = es.length → Row c es i t x → bst (ends c es i) (i : Int) (es.drop j) t = bst (ends c es i) (i : Int) es 0 → Ev (fun k => zt.l1 k es x g (i : Int) (rd c (i : Int)) c (c.length : Int) (i : Int) es (es.length : Int) (j : Int)) R := by
    intro i hi R g hR d
    have hb := EV_bd h i hi
    have hco := zet h i hi
    have heq := zgt c es i
    induction d with
    | zero =>
      intro j t x hj hx ht
      rw [List.drop_eq_nil_of_le (by omega)] at ht
      have ht : t = bst (ends c es i) (i : Int) es 0 := ht
      have hx1 := hx.1
      have hx2 := hx.2.2.1
      have hn : Row c es i (EV c es i) (x.set i (EV c es i)) := row_set hx hi _
      refine Ev.step (fun k => ?_) (hR _ (row_next hn))
      simp only [zt.l1]
      rw [if_neg (by omega), if_pos (by omega), if_pos (by omega), Option.bind_some, hx2, w64 (x := t + rd c i) (by omega) (by omega), w64 (by omega) (by omega), show t + rd c (i : Int) = EV c es i by omega, Int.toNat_natCast, hn.2.2.1, mx_max]
    | succ d ih =>
      intro j t x hj hx ht
      have hjl : j < es.length := by omega
      have hok := h.2.2.2 es[j] (List.getElem_mem hjl)
      unfold zd4 at hok
      rw [bst_drop _ _ _ _ hjl] at ht
      have hx1 := hx.1
      by_cases hb : rd es[j] 1 = (i : Int)
      · have hx2 := hx.2.2.1
        obtain ⟨a, ha⟩ : ∃ a : Nat, rd es[j] 0 = (a : Int) := ⟨(rd es[j] 0).toNat, by omega⟩
        have e1 : stp (ends c es i) (i : Int) t es[j] = max t (rd x (a : Int)) := by
          unfold stp; rw [if_pos hb, ha, row_read hx (by omega)]
        rw [e1] at ht
        refine Ev.step (fun k => ?_) (ih (j + 1) _ _ (by omega) (row_set hx hi _) ht)
        simp only [zt.l1]
        rw [if_pos (by omega), if_pos (by omega), if_pos (by omega), zfs es j hjl, if_pos (by omega), w64 (x := (j : Int) + 1) (by omega) (by omega), if_pos hb, if_pos (by omega), if_pos (by omega), if_pos (by omega), if_pos (by omega), if_pos (by omega), hx2, mx_max, ha, Int.toNat_natCast]
        rfl
      · have e1 : stp (ends c es i) (i : Int) t es[j] = t := by
          unfold stp; rw [if_neg hb]
        rw [e1] at ht
        refine Ev.step (fun k => ?_) (ih (j + 1) _ _ (by omega) hx ht)
        simp only [zt.l1]
        rw [if_pos (by omega), if_pos (by omega), if_pos (by omega), zfs es j hjl, if_pos (by omega), w64 (x := (j : Int) + 1) (by omega) (by omega), if_neg hb]
        rfl
  have outer : ∀ d i x, i + d = c.length → Row c es i 0 x → Ev (fun k => zt.l0 k es x (mxl ((ends c es c.length).take i) 0) c (c.length : Int) (i : Int)) (lng c es) := by
    intro d
    induction d with
    | zero =>
      intro i x hi hx
      refine Ev.step (f := fun _ => some (lng c es)) (fun k => ?_) (Ev.now _)
      simp only [zt.l0]
      rw [if_neg (by omega), List.take_of_length_le (by omega)]
      rfl
    | succ d ih =>
      intro i x hi hx
      have hil : i < c.length := by omega
      refine Ev.step (fun k => ?_) (inner i hil _ (mxl ((ends c es c.length).take i) 0) (fun y hy => ?_) es.length 0 0 x (by omega) hx rfl)
      · simp only [zt.l0]
        rw [if_pos (by omega), if_pos (by omega), if_pos (by omega)]
        rfl
      · have := ih (i + 1) y (by omega) hy
        rw [mxl_take _ _ (by omega), ← zd3 _ i (by omega), zde c es c.length i hil] at this
        exact this
  have := outer c.length 0 _ (by omega) (row_zero c es)
  refine Ev.congr (fun k => ?_) this
  unfold zt.f
  rw [if_pos (by omega), Int.toNat_natCast, if_pos (by omega)]
  rfl
theorem impl_cp (c : List Int) (es : List (List Int)) (hc : c.length ≤ 2097152) (he : es.length ≤ 2097152) : Ev (fun k => zcd.f k c es) (CP c es) := by
  unfold zcd.f
  refine Ev.bind (zhj c es hc he) ?_
  by_cases h : GV c es
  · simp only [decide_eq_true h, if_true]
    unfold CP; rw [if_pos h]
    exact Ev.bind (zgl h) (Ev.now _)
  · simp only [decide_eq_false h]
    unfold CP; rw [if_neg h]
    exact Ev.now _
theorem mb_val {c : List Int} {es : List (List Int)} (h : GV c es) (m : Int) (hm : 1 ≤ m) : wrap64 (lng c es + wrap64 (Int.tdiv (wrap64 (vl c - lng c es)) m)) = lng c es + (vl c - lng c es) / m := by
  have h1 := lng_bd h
  have h2 := vl_bd h
  rw [w64 (x := vl c - lng c es) (by omega) (by omega), tdiv_pos (by omega)]
  have h3 := Int.ediv_nonneg (show 0 ≤ vl c - lng c es by omega) (show 0 ≤ m by omega)
  have h4 := Int.ediv_le_self m (show 0 ≤ vl c - lng c es by omega)
  rw [w64 (x := (vl c - lng c es) / m) (by omega) (by omega), w64 (by omega) (by omega)]
theorem spec_mb (c : List Int) (es : List (List Int)) (m : Int) : Ev (fun k => zx.f k c es m) (MB c es m) := by
  unfold zx.f
  refine Ev.bind (zhk c es) ?_
  have bad : ¬ (GV c es ∧ 1 ≤ m ∧ m ≤ 5) → Ev (fun k => zx.j0 k c es m true) (MB c es m) := by
    intro h
    unfold MB; rw [if_neg h]
    exact Ev.step (f := fun _ => some (-1)) (fun k => by simp [zx.j0]) (Ev.now _)
  by_cases h : GV c es
  · simp only [decide_eq_true h, if_true, zfr, Option.bind_some]
    by_cases hm : 1 ≤ m ∧ m ≤ 5
    · rw [decide_eq_true hm]
      refine Ev.step (f := fun k => (zbf.f k c es).bind fun t889 => (zb0.f k c es).bind fun t890 => if m = 0 then none else some (wrap64 (t889 + wrap64 (Int.tdiv (wrap64 (t890 - t889)) m)))) (fun k => by simp [zx.j0]) ?_
      refine Ev.bind (spec_cp c es) (Ev.bind (spec_vol c es) ?_)
      have e1 : CP c es = lng c es := if_pos h
      have e2 : VL c es = vl c := if_pos h
      have e3 : MB c es m = lng c es + (vl c - lng c es) / m := if_pos ⟨h, hm⟩
      rw [e1, e2, e3, ← mb_val h m hm.1, if_neg (by omega)]
      exact Ev.now _
    · rw [decide_eq_false hm]
      exact bad (fun h' => hm h'.2)
  · simp only [decide_eq_false h]
    exact bad (fun h' => h h'.1)
theorem impl_mb (c : List Int) (es : List (List Int)) (m : Int) (hc : c.length ≤ 2097152) (he : es.length ≤ 2097152) : Ev (fun k => zba.f k c es m) (MB c es m) := by
  unfold zba.f
  refine Ev.bind (zhj c es hc he) ?_
  have bad : ¬ (GV c es ∧ 1 ≤ m ∧ m ≤ 5) → Ev (fun k => zba.j0 k c es m true) (MB c es m) := by
    intro h
    unfold MB; rw [if_neg h]
    exact Ev.step (f := fun _ => some (-1)) (fun k => by simp [zba.j0]) (Ev.now _)
  by_cases h : GV c es
  · simp only [decide_eq_true h, if_true, zca.f, in_f, Option.bind_some]
    by_cases hm : 1 ≤ m ∧ m ≤ 5
    · rw [decide_eq_true hm]
      refine Ev.step (f := fun k => (zt.f k c es).bind fun t889 => (zbv.f k c).bind fun t890 => if m = 0 then none else some (wrap64 (t889 + wrap64 (Int.tdiv (wrap64 (t890 - t889)) m)))) (fun k => by simp [zba.j0]) ?_
      refine Ev.bind (zgl h) (Ev.bind (zgy h) ?_)
      have e3 : MB c es m = lng c es + (vl c - lng c es) / m := if_pos ⟨h, hm⟩
      rw [e3, ← mb_val h m hm.1, if_neg (by omega)]
      exact Ev.now _
    · rw [decide_eq_false hm]
      exact bad (fun h' => hm h'.2)
  · simp only [decide_eq_false h]
    exact bad (fun h' => h h'.1)
end Go.Proofs.Ytebgfobjhlcopaa.Crit
namespace Go.Proofs.Ytebgfobjhlcopaa.Rg
open Go.RowKit Go.Proofs.Ytebgfobjhlcopaa.P Go.Proofs.Ytebgfobjhlcopaa.Base Go.Proofs.Ytebgfobjhlcopaa.Gen Go.Proofs.Ytebgfobjhlcopaa.Graph Go.Proofs.Ytebgfobjhlcopaa.Crit Go.Proofs.Ytebgfobjhlcopaa.Gra Go.Proofs.YtebgfobjhlcopaaW.PrintWords Go.Proofs.YtebgfobjhlcopaaW.PrintLast
theorem blk_eq (es : List (List Int)) (left : List Int) (i : Nat) : es.any (blkE left i) = blk es left (i : Int) := by
  unfold blk
  congr 1
  funext e
  unfold blkE
  by_cases h : rd e 1 = (i : Int)
  · rw [if_pos h, decide_eq_true h, Bool.true_and]
  · rw [if_neg h, decide_eq_false h, Bool.false_and]
theorem gpick_pck (es : List (List Int)) (left : List Int) (m : Int) : ∀ n, zcq es left m n = pck es left m n := by
  intro n
  induction n with
  | zero => rfl
  | succ n ih =>
    rw [zcq, pck, ih, blk_eq]
    by_cases h1 : rd left (n : Int) > 0
    · rw [if_pos h1]
      cases hb : blk es left (n : Int) with
      | true =>
        rw [if_pos rfl, if_neg (fun hh => by have := hh.1; unfold rdy at this; rw [hb] at this; simp at this)]
      | false =>
        rw [if_neg (by simp)]
        have hr : rdy es left (n : Int) = true := by unfold rdy; rw [hb, decide_eq_true h1]; rfl
        by_cases h2 : ((pck es left m n).length : Int) < m
        · rw [if_pos h2, if_pos ⟨hr, h2⟩]
        · rw [if_neg h2, if_neg (fun hh => h2 hh.2)]
    · rw [if_neg h1, if_neg (fun hh => by have := hh.1; unfold rdy at this; rw [decide_eq_false h1] at this; simp at this)]
theorem rd_set_or (l : List Int) (i : Nat) (x a : Int) : rd (l.set i x) a = x ∨ rd (l.set i x) a = rd l a := by
  unfold rd
  rw [List.getD_eq_getElem?_getD, List.getD_eq_getElem?_getD, List.getElem?_set]
  split
  · split
    · exact Or.inl rfl
    · rename_i h1 h2
      right
      rw [← h1, List.getElem?_eq_none (by omega)]
  · exact Or.inr rfl
theorem fold_tick {now : Int} (hnow : wrap64 (now + 1) = now + 1) : ∀ (l : List Int) (p : List Int × List Int) (B : Int), (∀ a : Int, -B ≤ rd p.1 a ∧ rd p.1 a ≤ B) → B + l.length ≤ 1000 → l.foldl (zem now) p = l.foldl (tick now) p := by
  intro l
  induction l with
  | nil => intro p B _ _; rw [List.foldl_nil, List.foldl_nil]
  | cons x l ih =>
    intro p B hB hl
    rw [List.length_cons] at hl
    have hx := hB x
    have e : zem now p x = tick now p x := by
      unfold zem tick
      rw [hnow, w64 (x := rd p.1 x - 1) (by omega) (by omega)]
    rw [List.foldl_cons, List.foldl_cons, e]
    refine ih _ (B + 1) (fun a => ?_) (by omega)
    unfold tick
    simp only
    have ha := hB a
    have hor := rd_set_or p.1 x.toNat (rd p.1 x - 1) a
    generalize rd (p.1.set x.toNat (rd p.1 x - 1)) a = y at hor ⊢
    generalize rd p.1 x = u at hx hor
    generalize rd p.1 a = v at ha hor
    omega
theorem zgm (l : List Int) (x : Int) (hl : l.length ≤ 1000000) : Ev (fun k => zbk.f k l x) (decide (x ∈ l)) := by
  have idx : ∀ d i : Nat, i + d = l.length → (∀ y ∈ l.take i, x ≠ y) → ∃ r : Int, Ev (fun k => zq.l0 k l x (l.length : Int) (i : Int)) r ∧ (r ≥ 0 ↔ x ∈ l) := by
    intro d
    induction d with
    | zero =>
      intro i hi hn
      obtain rfl : i = l.length := by omega
      rw [List.take_length] at hn
      refine ⟨-1, Ev.step (f := fun _ => some (-1)) (fun k => ?_) (Ev.now _), ⟨fun h => by omega, fun h => absurd rfl (hn x h)⟩⟩
      simp only [zq.l0]
      rw [if_neg (by omega)]
    | succ d ih =>
      intro i hi hn
      have hil : i < l.length := by omega
      by_cases e : x = l[i]
      · refine ⟨(i : Int), Ev.step (f := fun _ => some (i : Int)) (fun k => ?_) (Ev.now _), ⟨fun _ => e ▸ List.getElem_mem hil, fun _ => by omega⟩⟩
        simp only [zq.l0]
        rw [if_pos (by omega), if_pos (by omega), if_pos (by omega), zd3 _ _ hil, if_pos e]
      · obtain ⟨r, h1, h2⟩ := ih (i + 1) (by omega) (fun y hy => by
          rw [List.take_succ_eq_append_getElem hil] at hy
          rcases List.mem_append.1 hy with h | h
          · exact hn y h
          · rw [List.mem_singleton.1 h]; exact e)
        refine ⟨r, Ev.step (fun k => ?_) h1, h2⟩
        simp only [zq.l0]
        rw [if_pos (by omega), if_pos (by omega), if_pos (by omega), zd3 _ _ hil, if_neg e, w64 (by omega) (by omega)]
        rfl
  obtain ⟨r, h1, h2⟩ := idx l.length 0 (by omega) (fun y hy => by simp at hy)
  unfold zbk.f zq.f
  have h3 : decide (x ∈ l) = decide (r ≥ 0) := decide_eq_decide.2 h2.symm
  rw [h3]
  exact Ev.bind h1 (Ev.now _)
section
variable {es : List (List Int)} {m : Int} {c : List Int}
def zz (c : List Int) : List Int := List.replicate c.length (-1)
theorem zdj (c : List Int) : (zz c).length = c.length := by unfold zz; rw [List.length_replicate]
theorem le_c (t i : Nat) (hi : i < c.length) : rd (st es m c (zz c) t).1 (i : Int) ≤ rd c (i : Int) := by
  induction t with
  | zero => exact Int.le_refl _
  | succ t ih =>
    rw [(zhm (es := es) (m := m) (zdj c) t i hi).1]
    split <;> omega
theorem fin_rel (hp : Pos c) (t i : Nat) (hi : i < c.length) : (0 < rd (st es m c (zz c) t).1 (i : Int) ∧ rd (st es m c (zz c) t).2 (i : Int) = -1) ∨ (rd (st es m c (zz c) t).1 (i : Int) = 0 ∧ 0 ≤ rd (st es m c (zz c) t).2 (i : Int)) := by
  induction t with
  | zero =>
    left
    refine ⟨by have := hp i hi; show 0 < rd c (i : Int); omega, ?_⟩
    show rd (zz c) (i : Int) = -1
    rw [zd3 _ i (by rw [zdj]; exact hi)]
    unfold zz
    rw [List.getElem_replicate]
  | succ t ih =>
    have h := zhm (es := es) (m := m) (zdj c) t i hi
    have hs := (zhn (es := es) (m := m) (zdj c) t).run i (by rw [(zdi (es := es) (m := m) (zdj c) t).1]; exact hi)
    rw [h.1, h.2]
    by_cases hm : (i : Int) ∈ run es m c (zz c) t
    · have hl := (zdq.1 (hs hm).2).1
      rw [if_pos hm]
      by_cases hz : rd (st es m c (zz c) t).1 (i : Int) - 1 = 0
      · rw [if_pos ⟨hm, hz⟩]
        right; omega
      · rw [if_neg (fun hh => hz hh.2)]
        left
        rcases ih with ⟨_, h2⟩ | ⟨h1, _⟩
        · exact ⟨by omega, h2⟩
        · omega
    · rw [if_neg hm, if_neg (fun hh => hm hh.1), Int.sub_zero]
      exact ih
theorem has_none (hp : Pos c) (t : Nat) : (-1 ∈ (st es m c (zz c) t).2) ↔ ¬ Done es m c (zz c) t := by
  have hl := (zdi (es := es) (m := m) (zdj c) t).2
  constructor
  · intro h hd
    obtain ⟨i, hi, e⟩ := List.getElem_of_mem h
    have h1 := hd i (by omega)
    have h2 := fin_rel (es := es) (m := m) hp t i (by omega)
    rw [zd3 _ i hi, e] at h2
    omega
  · intro h
    refine Classical.byContradiction fun hn => h (fun i hi => ?_)
    rcases fin_rel (es := es) (m := m) hp t i hi with ⟨_, h2⟩ | ⟨h1, _⟩
    · exact absurd (by rw [← h2, zd3 _ i (by omega)]; exact List.getElem_mem _) hn
    · exact h1
theorem all_bd {l : List Int} {B : Int} (hB : 0 ≤ B) (h : ∀ i : Nat, i < l.length → 0 ≤ rd l (i : Int) ∧ rd l (i : Int) ≤ B) (a : Int) : -B ≤ rd l a ∧ rd l a ≤ B := by
  have e : rd l a = rd l ((a.toNat : Nat) : Int) := by unfold rd; rw [Int.toNat_natCast]
  rw [e]
  rcases Nat.lt_or_ge a.toNat l.length with h1 | h1
  · have := h _ h1; omega
  · have : rd l ((a.toNat : Nat) : Int) = 0 := by
      unfold rd
      rw [List.getD_eq_getElem?_getD, Int.toNat_natCast, List.getElem?_eq_none h1]
      rfl
    omega
theorem rg_l0 (h : GV c es) {T : Nat} (hT : T ≤ 64) (hd : Done es m c (zz c) T) (hn : ∀ s, s < T → ¬ Done es m c (zz c) s) : ∀ d t : Nat, t + d = T →
    Ev (fun k => zbi.l0 c es m k (t : Int) (st es m c (zz c) t).1 (st es m c (zz c) t).2 ((List.range t).map (run es m c (zz c)))) ((List.range T).map (run es m c (zz c)), (st es m c (zz c) T).2) := by
  have hu := gv_up h
  have hp := zgi h
  have h8 := h.1
  intro d
  induction d with
  | zero =>
    intro t ht
    obtain rfl : t = T := by omega
    have hl := (zdi (es := es) (m := m) (zdj c) t).2
    have hc := zgm (st es m c (zz c) t).2 (-1) (by omega)
    rw [decide_eq_false (fun hh => (has_none (es := es) (m := m) hp t).1 hh hd)] at hc
    refine Ev.step (f := fun k => (zbk.f k (st es m c (zz c) t).2 (-1)).bind fun b => (if b = true then (if ((List.range t).map (run es m c (zz c))).length < 1000000 then (zbi.l0 c es m k (wrap64 ((t : Int) + 1)) ((zcq es (st es m c (zz c) t).1 m c.length).foldl (zem (t : Int)) ((st es m c (zz c) t).1, (st es m c (zz c) t).2)).1 ((zcq es (st es m c (zz c) t).1 m c.length).foldl (zem (t : Int)) ((st es m c (zz c) t).1, (st es m c (zz c) t).2)).2 ((List.range t).map (run es m c (zz c)) ++ [zcq es (st es m c (zz c) t).1 m c.length])) else (none)) else (some ((List.range t).map (run es m c (zz c)), (st es m c (zz c) t).2)))) (fun k => by rw [zbi.l0]) ?_
    exact Ev.bind hc (Ev.step (fun k => by rw [if_neg (by simp)]) (Ev.now _))
  | succ d ih =>
    intro t ht
    have hl := (zdi (es := es) (m := m) (zdj c) t).2
    have hl1 := (zdi (es := es) (m := m) (zdj c) t).1
    have hc := zgm (st es m c (zz c) t).2 (-1) (by omega)
    rw [decide_eq_true ((has_none (es := es) (m := m) hp t).2 (hn t (by omega)))] at hc
    have hw : wrap64 ((t : Int) + 1) = (t : Int) + 1 := w64 (by omega) (by omega)
    have hpl := pck_le (es := es) (left := (st es m c (zz c) t).1) (m := m) c.length
    have hft := fold_tick hw (pck es (st es m c (zz c) t).1 m c.length) (st es m c (zz c) t) 8 (all_bd (by omega) (fun i hi => by
      have h1 := (zft (m := m) (zdj c) hu hp t).nn i hi
      have h2 := le_c (es := es) (m := m) (c := c) t i (by omega)
      have h3 := (zet h i (by omega)).2
      exact ⟨h1, Int.le_trans h2 h3⟩)) (by omega)
    have e : (pck es (st es m c (zz c) t).1 m c.length).foldl (zem (t : Int)) ((st es m c (zz c) t).1, (st es m c (zz c) t).2) = st es m c (zz c) (t + 1) := hft
    have IH := ih (t + 1) (by omega)
    have hr : (List.range (t + 1)).map (run es m c (zz c)) = (List.range t).map (run es m c (zz c)) ++ [pck es (st es m c (zz c) t).1 m c.length] := by rw [List.range_succ, List.map_append]; rfl
    rw [hr] at IH
    refine Ev.step (f := fun k => (zbk.f k (st es m c (zz c) t).2 (-1)).bind fun b => (if b = true then (if ((List.range t).map (run es m c (zz c))).length < 1000000 then (zbi.l0 c es m k (((t + 1 : Nat) : Int)) (st es m c (zz c) (t + 1)).1 (st es m c (zz c) (t + 1)).2 ((List.range t).map (run es m c (zz c)) ++ [pck es (st es m c (zz c) t).1 m c.length])) else (none)) else (some ((List.range t).map (run es m c (zz c)), (st es m c (zz c) t).2)))) (fun k => by rw [zbi.l0, gpick_pck, e, hw]; rfl) ?_
    refine Ev.bind hc ?_
    exact Ev.congr (fun k => by rw [if_pos rfl, if_pos (by rw [List.length_map, List.length_range]; omega)]) IH
open Classical in
noncomputable def TT (es : List (List Int)) (m : Int) (c : List Int) : Nat := if h : ∃ T : Nat, Done es m c (zz c) T ∧ ∀ s, s < T → ¬ Done es m c (zz c) s then h.choose else 0
theorem TT_is (h : GV c es) (hm : 1 ≤ m) : (TT es m c : Int) ≤ zct c c.length ∧ Done es m c (zz c) (TT es m c) ∧ ∀ s, s < TT es m c → ¬ Done es m c (zz c) s := by
  obtain ⟨T, h1, h2, h3⟩ := ends_by (m := m) (zdj c) (gv_up h) (zgi h) hm
  have hx : ∃ T : Nat, Done es m c (zz c) T ∧ ∀ s, s < T → ¬ Done es m c (zz c) s := ⟨T, h2, h3⟩
  have e : TT es m c = hx.choose := by unfold TT; rw [dif_pos hx]
  have hs := hx.choose_spec
  rw [← e] at hs
  have eT : TT es m c = T := by
    rcases Nat.lt_trichotomy (TT es m c) T with h4 | h4 | h4
    · exact absurd hs.1 (h3 _ h4)
    · exact h4
    · exact absurd h2 (hs.2 _ h4)
  exact ⟨by rw [eT]; exact h1, hs⟩
noncomputable def RG (c : List Int) (es : List (List Int)) (m : Int) : List (List Int) × List Int := if GV c es ∧ 1 ≤ m ∧ m ≤ 5 then ((List.range (TT es m c)).map (run es m c (zz c)), (st es m c (zz c) (TT es m c)).2) else ([], [])
theorem cores_f (m : Int) : zca.f m = some (decide (1 ≤ m ∧ m ≤ 5)) := by
  unfold zca.f
  rw [in_f]
  rfl
theorem impl_rg (c : List Int) (es : List (List Int)) (m : Int) (hc : c.length ≤ 2097152) (he : es.length ≤ 2097152) : Ev (fun k => zbi.f k c es m) (RG c es m) := by
  unfold zbi.f RG
  refine Ev.bind (zhj c es hc he) ?_
  by_cases h : GV c es
  · rw [decide_eq_true h, cores_f]
    by_cases hm : 1 ≤ m ∧ m ≤ 5
    · rw [if_pos ⟨h, hm⟩]
      obtain ⟨h1, h2, h3⟩ := TT_is h hm.1
      have hb := zgk h c.length (Nat.le_refl _)
      have h8 := h.1
      refine Ev.congr (fun k => ?_) (rg_l0 h (T := TT es m c) (by omega) h2 h3 (TT es m c) 0 (by omega))
      rw [if_pos rfl, decide_eq_true hm]
      simp only [Option.bind_some]
      rw [if_pos trivial, if_pos ⟨by omega, fun e hh => by have hE := h.2.2.2 e hh; exact ⟨hE.1, hE.2.1, by have := hE.2.2; omega⟩⟩]
      rfl
    · rw [if_neg (fun hh => hm hh.2)]
      refine Ev.congr (fun k => ?_) (Ev.now _)
      rw [if_pos rfl, decide_eq_false hm]
      rfl
  · rw [decide_eq_false h, if_neg (show ¬ (GV c es ∧ 1 ≤ m ∧ m ≤ 5) from fun hh => h hh.1)]
    exact Ev.congr (fun k => by rw [if_neg (by simp)]) (Ev.now _)
end
end Go.Proofs.Ytebgfobjhlcopaa.Rg
namespace Go.Proofs.Ytebgfobjhlcopaa.Srg
open Go.RowKit Go.Proofs.Ytebgfobjhlcopaa.P Go.Proofs.Ytebgfobjhlcopaa.Base Go.Proofs.Ytebgfobjhlcopaa.Gen Go.Proofs.Ytebgfobjhlcopaa.Graph Go.Proofs.Ytebgfobjhlcopaa.Crit Go.Proofs.Ytebgfobjhlcopaa.Gra Go.Proofs.Ytebgfobjhlcopaa.Rg Go.Proofs.YtebgfobjhlcopaaW.PrintWords Go.Proofs.YtebgfobjhlcopaaW.PrintLast
theorem rdl_at (xs : List (List Int)) (i : Nat) (h : i < xs.length) : zn xs (i : Int) = xs[i] := zfs xs i h
theorem ready_ev {c : List Int} {es : List (List Int)} (h : GV c es) {left : List Int} (hl : left.length = c.length) (hnn : ∀ i : Nat, i < left.length → 0 ≤ rd left (i : Int)) (i : Nat) (hi : i < left.length) :
    Ev (fun k => zbp.f k left es (i : Int)) (rdy es left (i : Int)) := by
  have h64 := h.2.1
  have loop : ∀ d j, j + d = es.length → (∀ q (hq : q < es.length), q < j → rd es[q] 1 = (i : Int) → rd left (rd es[q] 0) ≤ 0) → Ev (fun k => zbp.l0 k left es (i : Int) (j : Int)) (!(blk es left (i : Int))) := by
    intro d
    induction d with
    | zero =>
      intro j hj hm
      have hb : blk es left (i : Int) = false := zgj.2 (fun e he => by
        obtain ⟨q, hq, rfl⟩ := List.mem_iff_getElem.1 he
        exact hm q hq (by omega))
      rw [hb]
      refine Ev.step (f := fun _ => some true) (fun k => ?_) (Ev.now _)
      rw [zbp.l0, if_neg (by omega)]
    | succ d ih =>
      intro j hj hm
      have hjl : j < es.length := by omega
      have hE := h.2.2.2 es[j] (List.getElem_mem hjl)
      have h2 := hE.1
      have hw : wrap64 ((j : Int) + 1) = ((j + 1 : Nat) : Int) := by rw [w64 (by omega) (by omega)]; omega
      by_cases e : rd es[j] 1 = (i : Int)
      · by_cases hz : rd left (rd es[j] 0) > 0
        · have hb : blk es left (i : Int) = true := by
            cases hb : blk es left (i : Int) with
            | true => rfl
            | false => exact absurd (zgj.1 hb _ (List.getElem_mem hjl) e) (by omega)
          rw [hb]
          refine Ev.step (f := fun _ => some false) (fun k => ?_) (Ev.now _)
          rw [zbp.l0, if_pos (by omega), if_pos (by omega), rdl_at es j hjl, if_pos (by omega), if_pos e, if_pos (by omega), if_pos hE.2.1, if_pos (by have := hE.2.2; omega), if_pos hz]
        · refine Ev.step (fun k => ?_) (ih (j + 1) (by omega) (upto (P := fun e => rd e 1 = (i : Int) → rd left (rd e 0) ≤ 0) hjl hm (fun _ => by omega)))
          rw [zbp.l0, if_pos (by omega), if_pos (by omega), rdl_at es j hjl, if_pos (by omega), if_pos e, if_pos (by omega), if_pos hE.2.1, if_pos (by have := hE.2.2; omega), if_neg hz, hw]
      · refine Ev.step (fun k => ?_) (ih (j + 1) (by omega) (upto (P := fun e => rd e 1 = (i : Int) → rd left (rd e 0) ≤ 0) hjl hm (fun hh => absurd hh e)))
        rw [zbp.l0, if_pos (by omega), if_pos (by omega), rdl_at es j hjl, if_pos (by omega), if_neg e, hw]
  have h0 := hnn i hi
  unfold zbp.f
  by_cases hz : rd left (i : Int) = 0
  · have e : rdy es left (i : Int) = false := by unfold rdy; rw [hz]; rfl
    rw [e]
    exact Ev.congr (fun k => by rw [if_pos (by omega), if_pos (by omega), if_pos hz]) (Ev.now _)
  · have e : rdy es left (i : Int) = !(blk es left (i : Int)) := by unfold rdy; rw [decide_eq_true (by omega), Bool.true_and]
    rw [e]
    exact Ev.congr (fun k => by rw [if_pos (by omega), if_pos (by omega), if_neg hz]; rfl) (loop es.length 0 (by omega) (fun q _ hq => by omega))
theorem pck_stop (es : List (List Int)) (left : List Int) (m : Int) (i : Nat) (h : ¬ ((pck es left m i).length : Int) < m) : ∀ d, pck es left m (i + d) = pck es left m i := by
  intro d
  induction d with
  | zero => rfl
  | succ d ih =>
    rw [← Nat.add_assoc, pck, ih, if_neg (fun hh => h hh.2)]
theorem pick_ev {c : List Int} {es : List (List Int)} (h : GV c es) {left : List Int} (m : Int) (hl : left.length = c.length) (hnn : ∀ i : Nat, i < left.length → 0 ≤ rd left (i : Int)) :
    ∀ d i, i + d = c.length → Ev (fun k => zo.l1 k es m left c.length (d + 1) i (pck es left m i)) (pck es left m c.length) := by
  intro d
  induction d with
  | zero =>
    intro i hi
    obtain rfl : i = c.length := by omega
    exact Ev.congr (fun k => by rw [zo.l1, if_neg (by omega)]) (Ev.now _)
  | succ d ih =>
    intro i hi
    by_cases hm : ((pck es left m i).length : Int) < m
    · have IH := ih (i + 1) (by omega)
      refine Ev.congr (f := fun k => (zbp.f k left es (i : Int)).bind fun t => zo.l1 k es m left c.length (d + 1) (i + 1) (if t = true then pck es left m i ++ [(i : Int)] else pck es left m i)) (fun k => by (conv => lhs; rw [zo.l1, if_pos (show i < c.length by omega), if_pos hm])) ?_
      refine Ev.bind (ready_ev h hl hnn i (by omega)) ?_
      have e : (if rdy es left (i : Int) = true then pck es left m i ++ [(i : Int)] else pck es left m i) = pck es left m (i + 1) := by
        rw [pck]
        by_cases hr : rdy es left (i : Int) = true
        · rw [if_pos hr, if_pos ⟨hr, hm⟩]
        · rw [if_neg hr, if_neg (fun hh => hr hh.1)]
      rw [e]
      exact IH
    · have e := pck_stop es left m i hm (d + 1)
      rw [hi] at e
      rw [e]
      exact Ev.congr (fun k => by rw [zo.l1, if_pos (by omega), if_neg hm]) (Ev.now _)
def dn (left : List Int) : Nat → Nat
  | 0 => 0
  | n + 1 => dn left n + if rd left (n : Int) = 0 then 1 else 0
theorem dn_le (left : List Int) : ∀ n, dn left n ≤ n := by
  intro n
  induction n with
  | zero => exact Nat.le_refl _
  | succ n ih => rw [dn]; split <;> omega
theorem dn_all (left : List Int) : ∀ n, dn left n = n ↔ ∀ i : Nat, i < n → rd left (i : Int) = 0 := by
  intro n
  induction n with
  | zero => exact ⟨fun _ i hi => by omega, fun _ => rfl⟩
  | succ n ih =>
    have hle := dn_le left n
    rw [dn]
    constructor
    · intro h i hi
      by_cases hz : rd left (n : Int) = 0
      · rw [if_pos hz] at h
        rcases Nat.lt_or_ge i n with h1 | h1
        · exact ih.1 (by omega) i h1
        · obtain rfl : i = n := by omega
          exact hz
      · rw [if_neg hz] at h; omega
    · intro h
      rw [if_pos (h n (by omega)), ih.2 (fun i hi => h i (by omega))]
theorem dn_zero (left : List Int) : ∀ n, (∀ i : Nat, i < n → rd left (i : Int) ≠ 0) → dn left n = 0 := by
  intro n
  induction n with
  | zero => intro _; rfl
  | succ n ih => intro h; rw [dn, ih (fun i hi => h i (by omega)), if_neg (h n (by omega))]
theorem dn_set (left : List Int) (a : Nat) (x : Int) (ha : a < left.length) (h0 : rd left (a : Int) ≠ 0) : ∀ n, dn (left.set a x) n = dn left n + if x = 0 ∧ a < n then 1 else 0 := by
  intro n
  induction n with
  | zero => rw [dn, dn, if_neg (by omega)]
  | succ n ih =>
    rw [dn, dn, ih]
    by_cases e : n = a
    · subst e
      rw [zfm _ _ _ ha, if_neg h0, if_neg (show ¬ (x = 0 ∧ n < n) by omega)]
      by_cases hx : x = 0
      · rw [if_pos hx, if_pos ⟨hx, by omega⟩]
      · rw [if_neg hx, if_neg (fun hh => hx hh.1)]
    · rw [zew _ _ _ _ e]
      by_cases hx : x = 0 ∧ a < n
      · rw [if_pos hx, if_pos (show x = 0 ∧ a < n + 1 from ⟨hx.1, by omega⟩)]; omega
      · rw [if_neg hx, if_neg (show ¬ (x = 0 ∧ a < n + 1) from fun hh => hx ⟨hh.1, by omega⟩)]; omega
theorem fold_stick {now : Int} (hnow : wrap64 (now + 1) = now + 1) (n : Nat) (hn : n ≤ 1000) : ∀ (l : List Int) (p : List Int × List Int), l.Nodup → p.1.length = n → (∀ x ∈ l, ∃ i : Nat, i < n ∧ x = (i : Int) ∧ 0 < rd p.1 (i : Int) ∧ rd p.1 (i : Int) ≤ 1000) →
    l.foldl (zdm now) (p.1, p.2, (dn p.1 n : Int)) = ((l.foldl (tick now) p).1, (l.foldl (tick now) p).2, (dn (l.foldl (tick now) p).1 n : Int)) := by
  intro l
  induction l with
  | nil => intro p _ _ _; rfl
  | cons x l ih =>
    intro p hnd hlen hx
    obtain ⟨i, hi, rfl, h1, h2⟩ := hx x (List.mem_cons_self ..)
    have hnd' := List.nodup_cons.1 hnd
    have hd := dn_set p.1 i (rd p.1 (i : Int) - 1) (by omega) (by omega) n
    have hdl := dn_le p.1 n
    have hw : wrap64 (rd p.1 (i : Int) - 1) = rd p.1 (i : Int) - 1 := w64 (by omega) (by omega)
    have hw2 : wrap64 ((dn p.1 n : Int) + 1) = (dn p.1 n : Int) + 1 := w64 (by omega) (by omega)
    have e : zdm now (p.1, p.2, (dn p.1 n : Int)) (i : Int) = ((tick now p (i : Int)).1, (tick now p (i : Int)).2, (dn (tick now p (i : Int)).1 n : Int)) := by
      unfold zdm tick
      simp only [hw, hnow, hw2, Int.toNat_natCast]
      rw [hd]
      by_cases hz : rd p.1 (i : Int) - 1 = 0
      · rw [if_pos hz, if_pos hz, if_pos ⟨hz, hi⟩]; simp
      · rw [if_neg hz, if_neg hz, if_neg (fun hh => hz hh.1)]; simp
    rw [List.foldl_cons, List.foldl_cons, e]
    refine ih (tick now p (i : Int)) hnd'.2 ?_ (fun y hy => ?_)
    · unfold tick; rw [List.length_set]; exact hlen
    · obtain ⟨j, hj, rfl, h3, h4⟩ := hx y (List.mem_cons_of_mem _ hy)
      have hji : j ≠ i := fun hh => hnd'.1 (by rw [← hh]; exact hy)
      refine ⟨j, hj, rfl, ?_⟩
      have e2 : rd (tick now p (i : Int)).1 (j : Int) = rd p.1 (j : Int) := by
        unfold tick
        simp only [Int.toNat_natCast]
        exact zew _ _ _ _ hji
      rw [e2]
      exact ⟨h3, h4⟩
section
variable {es : List (List Int)} {m : Int} {c : List Int}
def z0 (c : List Int) : List Int := List.replicate c.length 0
theorem zgz (c : List Int) : (z0 c).length = c.length := by unfold z0; rw [List.length_replicate]
theorem zfe {z z' : List Int} (hz : z.length = c.length) (hz' : z'.length = c.length) : ∀ t, (st es m c z t).1 = (st es m c z' t).1 := by
  intro t
  induction t with
  | zero => rfl
  | succ t ih =>
    have hl := zdi (es := es) (m := m) hz (t + 1)
    have hl' := zdi (es := es) (m := m) hz' (t + 1)
    refine List.ext_getElem (by omega) (fun a h1 h2 => ?_)
    rw [← zd3 _ a h1, ← zd3 _ a h2, (zhm hz t a (by omega)).1, (zhm hz' t a (by omega)).1]
    unfold run
    rw [ih]
theorem same_fin (hp : Pos c) {z z' : List Int} (hz : z.length = c.length) (hz' : z'.length = c.length) (t i : Nat) (hi : i < c.length) (h0 : rd (st es m c z t).1 (i : Int) = 0) : rd (st es m c z t).2 (i : Int) = rd (st es m c z' t).2 (i : Int) := by
  induction t with
  | zero =>
    have := hp i hi
    exact absurd h0 (by show ¬ rd c (i : Int) = 0; omega)
  | succ t ih =>
    have h1 := zhm (es := es) (m := m) hz t i hi
    have h2 := zhm (es := es) (m := m) hz' t i hi
    have e := zfe (es := es) (m := m) hz hz' t
    have er : run es m c z t = run es m c z' t := by unfold run; rw [e]
    rw [h1.1] at h0
    rw [h1.2, h2.2, ← er, ← e]
    by_cases hm : (i : Int) ∈ run es m c z t
    · rw [if_pos hm] at h0
      rw [if_pos ⟨hm, h0⟩, if_pos ⟨hm, h0⟩]
    · rw [if_neg hm] at h0
      rw [if_neg (fun hh => hm hh.1), if_neg (fun hh => hm hh.1)]
      exact ih (by omega)
theorem same_end (hp : Pos c) {z z' : List Int} (hz : z.length = c.length) (hz' : z'.length = c.length) {t : Nat} (hd : Done es m c z t) : (st es m c z t).2 = (st es m c z' t).2 := by
  have hl := zdi (es := es) (m := m) hz t
  have hl' := zdi (es := es) (m := m) hz' t
  refine List.ext_getElem (by omega) (fun a h1 h2 => ?_)
  rw [← zd3 _ a h1, ← zd3 _ a h2]
  exact same_fin hp hz hz' t a (by omega) (hd a (by omega))
theorem srg_l0 (h : GV c es) {T : Nat} (hT : T ≤ 64) (hd : Done es m c (z0 c) T) (hn : ∀ s, s < T → ¬ Done es m c (z0 c) s) : ∀ d t : Nat, t + d = T →
    Ev (fun k => zo.l0 c es m k (dn (st es m c (z0 c) t).1 c.length : Int) (t : Int) (st es m c (z0 c) t).1 (st es m c (z0 c) t).2 ((List.range t).map (run es m c (z0 c)))) ((List.range T).map (run es m c (z0 c)), (st es m c (z0 c) T).2) := by
  have hu := gv_up h
  have hp := zgi h
  have h8 := h.1
  intro d
  induction d with
  | zero =>
    intro t ht
    obtain rfl : t = T := by omega
    have e : dn (st es m c (z0 c) t).1 c.length = c.length := (dn_all _ _).2 hd
    rw [e]
    refine Ev.step (f := fun _ => some ((List.range t).map (run es m c (z0 c)), (st es m c (z0 c) t).2)) (fun k => ?_) (Ev.now _)
    rw [zo.l0, if_neg (by omega)]
  | succ d ih =>
    intro t ht
    have hl := zdi (es := es) (m := m) (zgz c) t
    have hdn : dn (st es m c (z0 c) t).1 c.length < c.length := by
      have h1 := dn_le (st es m c (z0 c) t).1 c.length
      have h2 : dn (st es m c (z0 c) t).1 c.length ≠ c.length := fun hh => hn t (by omega) ((dn_all _ _).1 hh)
      omega
    have hw : wrap64 ((t : Int) + 1) = (t : Int) + 1 := w64 (by omega) (by omega)
    have hnn := (zft (m := m) (zgz c) hu hp t).nn
    have hlc : ∀ i : Nat, i < c.length → rd (st es m c (z0 c) t).1 (i : Int) ≤ 8 := fun i hi => by
      have h1 := le_c (es := es) (m := m) (c := c) t i hi
      rw [zfe (zdj c) (zgz c)] at h1
      exact Int.le_trans h1 (zet h i hi).2
    have hft := fold_stick hw c.length (by omega) (pck es (st es m c (z0 c) t).1 m c.length) (st es m c (z0 c) t) (zh9 _) hl.1 (fun x hx => by
      obtain ⟨i, hi, h1, h2⟩ := zfl _ _ hx
      have h3 := (zdq.1 h2).1
      have h4 := hlc i hi
      exact ⟨i, hi, h1, h3, by omega⟩)
    have e : (pck es (st es m c (z0 c) t).1 m c.length).foldl (tick (t : Int)) (st es m c (z0 c) t) = st es m c (z0 c) (t + 1) := rfl
    rw [e] at hft
    have IH := ih (t + 1) (by omega)
    have hr : (List.range (t + 1)).map (run es m c (z0 c)) = (List.range t).map (run es m c (z0 c)) ++ [pck es (st es m c (z0 c) t).1 m c.length] := by rw [List.range_succ, List.map_append]; rfl
    rw [hr] at IH
    have hpk := pick_ev h m hl.1 hnn c.length 0 (by omega)
    refine Ev.step (f := fun k => (zo.l1 k es m (st es m c (z0 c) t).1 c.length (c.length + 1) 0 []).bind fun run_ => (if (∀ x ∈ run_, 0 ≤ x ∧ x < (c.length : Int)) then (zo.l0 c es m k (run_.foldl (zdm (t : Int)) ((st es m c (z0 c) t).1, (st es m c (z0 c) t).2, (dn (st es m c (z0 c) t).1 c.length : Int))).2.2 (wrap64 ((t : Int) + 1)) (run_.foldl (zdm (t : Int)) ((st es m c (z0 c) t).1, (st es m c (z0 c) t).2, (dn (st es m c (z0 c) t).1 c.length : Int))).1 (run_.foldl (zdm (t : Int)) ((st es m c (z0 c) t).1, (st es m c (z0 c) t).2, (dn (st es m c (z0 c) t).1 c.length : Int))).2.1 ((List.range t).map (run es m c (z0 c)) ++ [run_])) else (none))) (fun k => by rw [zo.l0, if_pos (by omega), if_pos (by rw [List.length_map, List.length_range]; omega)]) ?_
    refine Ev.bind hpk ?_
    rw [hft]
    refine Ev.congr (fun k => ?_) IH
    rw [if_pos (fun x hx => by obtain ⟨i, hi, h1, _⟩ := zfl _ _ hx; omega), hw]
    rfl
theorem spec_rg (c : List Int) (es : List (List Int)) (m : Int) : Ev (fun k => zo.f k c es m) (RG c es m) := by
  unfold zo.f RG
  refine Ev.bind (zhk c es) ?_
  by_cases h : GV c es
  · rw [decide_eq_true h, zfr]
    by_cases hm : 1 ≤ m ∧ m ≤ 5
    · rw [if_pos ⟨h, hm⟩]
      obtain ⟨h1, h2, h3⟩ := TT_is h hm.1
      have hb := zgk h c.length (Nat.le_refl _)
      have h8 := h.1
      have hp := zgi h
      have hD : ∀ t, Done es m c (z0 c) t ↔ Done es m c (zz c) t := fun t => by unfold Done; rw [zfe (zgz c) (zdj c)]
      have hR : ∀ t, run es m c (z0 c) t = run es m c (zz c) t := fun t => by unfold run; rw [zfe (zgz c) (zdj c)]
      have L := srg_l0 h (T := TT es m c) (by omega) ((hD _).2 h2) (fun s hs hh => h3 s hs ((hD s).1 hh)) (TT es m c) 0 (by omega)
      rw [same_end hp (zgz c) (zdj c) ((hD _).2 h2), funext hR] at L
      have e0 : dn (st es m c (z0 c) 0).1 c.length = 0 := dn_zero c _ (fun i hi => by have := hp i hi; omega)
      rw [e0] at L
      refine Ev.congr (fun k => ?_) L
      rw [if_pos rfl, decide_eq_true hm]
      simp only [Option.bind_some]
      rw [if_pos trivial, if_pos (by omega)]
      rfl
    · rw [if_neg (fun hh => hm hh.2)]
      refine Ev.congr (fun k => ?_) (Ev.now _)
      rw [if_pos rfl, decide_eq_false hm]
      rfl
  · rw [decide_eq_false h, if_neg (show ¬ (GV c es ∧ 1 ≤ m ∧ m ≤ 5) from fun hh => h hh.1)]
    exact Ev.congr (fun k => by rw [if_neg (by simp)]) (Ev.now _)
end
end Go.Proofs.Ytebgfobjhlcopaa.Srg
namespace Go.Proofs.Ytebgfobjhlcopaa.Pb
open Go.RowKit Go.Proofs.Ytebgfobjhlcopaa.P Go.Proofs.Ytebgfobjhlcopaa.Gen Go.Proofs.Ytebgfobjhlcopaa.Base Go.Proofs.YtebgfobjhlcopaaW.PrintWords Go.Proofs.YtebgfobjhlcopaaW.PrintLast
theorem xor_ok (x y : Int) (hx : 0 ≤ x) (hx1 : x < 4611686018427387904) (hy : 0 ≤ y) (hy1 : y < 4611686018427387904) : 0 ≤ Go.bits .xor .i64 x y := by
  obtain ⟨a, rfl⟩ := Int.eq_ofNat_of_zero_le hx
  obtain ⟨b, rfl⟩ := Int.eq_ofNat_of_zero_le hy
  have ha : a < 2 ^ 62 := by have e : (2 : Nat) ^ 62 = 4611686018427387904 := by decide
                             omega
  have hb : b < 2 ^ 62 := by have e : (2 : Nat) ^ 62 = 4611686018427387904 := by decide
                             omega
  have ha' : a % 2 ^ 64 = a := Nat.mod_eq_of_lt (by omega)
  have hb' : b % 2 ^ 64 = b := Nat.mod_eq_of_lt (by omega)
  have hx := Nat.xor_lt_two_pow ha hb
  simp only [Go.bits]
  rw [show IntKind.i64.bits = 64 from rfl]
  rw [BitVec.toNat_xor, BitVec.ofInt_natCast, BitVec.ofInt_natCast, BitVec.toNat_ofNat, BitVec.toNat_ofNat, ha', hb', IntKind.wrap_i64]
  have e : (2 : Nat) ^ 62 = 4611686018427387904 := by decide
  omega
def Bytes (s : List Int) : Prop := s.length ≤ 2000 ∧ ∀ x ∈ s, 0 ≤ x ∧ x ≤ 255
theorem Bytes.rd {s : List Int} (h : Bytes s) (i : Int) : 0 ≤ rd s i ∧ rd s i ≤ 255 := by
  unfold Go.Proofs.YtebgfobjhlcopaaW.PrintWords.rd
  rw [List.getD_eq_getElem?_getD]
  rcases Nat.lt_or_ge i.toNat s.length with hi | hi
  · rw [List.getElem?_eq_getElem hi]
    exact h.2 _ (List.getElem_mem hi)
  · rw [List.getElem?_eq_none hi]
    simp
theorem u8_wf {x : Int} (h : (Lit.int .u8 x).wf = true) : 0 ≤ x ∧ x ≤ 255 := by
  simp [Lit.wf, IntKind.min, IntKind.max, IntKind.bits, IntKind.signed] at h
  omega
theorem zhp (a n : Int) (ha : 0 ≤ a) (hn : 1 ≤ n) : 0 ≤ Int.tmod a n ∧ Int.tmod a n < n := by
  rw [Int.tmod_eq_emod_of_nonneg ha]
  exact ⟨Int.emod_nonneg _ (by omega), Int.emod_lt_of_pos _ (by omega)⟩
theorem tdiv_ok (a n : Int) (ha : 0 ≤ a) (hn : 1 ≤ n) : 0 ≤ Int.tdiv a n ∧ Int.tdiv a n ≤ a := by
  rw [Int.tdiv_eq_ediv_of_nonneg ha]
  exact ⟨Int.ediv_nonneg ha (by omega), Int.ediv_le_self _ ha⟩
theorem pick_at (k : Nat) (s : List Int) (p n : Int) (hs : Bytes s) (hp : 0 ≤ p) (hp2 : p ≤ 1000000000) :
    ∃ r, zf.f (k + 1) s p n = some (r, p + 1) ∧ 0 ≤ r ∧ (1 ≤ n → r < n) := by
  unfold zf.f
  rw [w64 (x := p + 1) (by omega) (by omega)]
  by_cases hn : n < 1
  · rw [if_pos hn]
    exact ⟨0, by simp [zf.j0], Int.le_refl _, fun h => by omega⟩
  · rw [if_neg hn]
    by_cases h0 : (s.length : Int) = 0
    · refine ⟨0, ?_, Int.le_refl _, fun h => by omega⟩
      simp only [zf.j0]
      rw [if_pos (by simpa using h0)]
    · simp only [zf.j0]
      rw [if_neg (by simpa using h0)]
      have hl := hs.1
      rw [w64 (x := p + 1 - 1) (by omega) (by omega), show p + 1 - 1 = p by omega]
      by_cases h1 : p < (s.length : Int)
      · have hb := hs.rd p
        rw [if_pos h1, if_pos hp, if_neg (by omega), w64 (x := rd s p) (by omega) (by omega)]
        have ht := zhp (rd s p) n hb.1 (by omega)
        exact ⟨_, rfl, ht.1, fun _ => ht.2⟩
      · rw [if_neg h1, if_neg h0]
        have m0 := zhp p (s.length : Int) hp (by omega)
        rw [if_pos m0.1, if_pos m0.2]
        rw [w64 (x := p * 7) (by omega) (by omega), w64 (x := p * 7 + 3) (by omega) (by omega)]
        have m1 := zhp (p * 7 + 3) (s.length : Int) (by omega) (by omega)
        rw [if_pos m1.1, if_pos m1.2, if_neg (by omega)]
        have b0 := hs.rd (Int.tmod p (s.length : Int))
        have b1 := hs.rd (Int.tmod (p * 7 + 3) (s.length : Int))
        have d0 := tdiv_ok p (s.length : Int) hp (by omega)
        generalize rd s (Int.tmod p (s.length : Int)) = x at b0 ⊢
        generalize rd s (Int.tmod (p * 7 + 3) (s.length : Int)) = y at b1 ⊢
        generalize Int.tdiv p (s.length : Int) = q at d0 ⊢
        rw [w64 (x := x) (by omega) (by omega), w64 (x := y) (by omega) (by omega), w64 (x := q) (by omega) (by omega)]
        rw [w64 (x := x * 131) (by omega) (by omega), w64 (x := y * 1117) (by omega) (by omega), w64 (x := p * 29) (by omega) (by omega), w64 (x := q * 53) (by omega) (by omega)]
        rw [w64 (x := x * 131 + y * 1117) (by omega) (by omega), w64 (x := x * 131 + y * 1117 + p * 29) (by omega) (by omega), w64 (x := x * 131 + y * 1117 + p * 29 + q * 53) (by omega) (by omega)]
        have e0 := tdiv_ok (x * 131 + y * 1117 + p * 29 + q * 53) 64 (by omega) (by omega)
        rw [w64 (x := Int.tdiv (x * 131 + y * 1117 + p * 29 + q * 53) 64) (by omega) (by omega)]
        have hx := xor_ok (x * 131 + y * 1117 + p * 29 + q * 53) (Int.tdiv (x * 131 + y * 1117 + p * 29 + q * 53) 64) (by omega) (by omega) e0.1 (by omega)
        have ht := zhp _ n hx (by omega)
        exact ⟨_, rfl, ht.1, fun _ => ht.2⟩
theorem open_at (l : List Int) (hl : ∀ x ∈ l, (Lit.int .u8 x).wf = true) : ∃ s, zcy.f l = some (s, 0) ∧ Bytes s := by
  unfold zcy.f
  by_cases h : (l.length : Int) > 2000
  · rw [if_pos h, if_pos (by omega)]
    exact ⟨_, rfl, by rw [List.length_take]; omega, fun x hx => u8_wf (hl x (List.mem_of_mem_take hx))⟩
  · rw [if_neg h]
    exact ⟨_, rfl, by omega, fun x hx => u8_wf (hl x hx)⟩
theorem zdr (s : List Int) (p n : Int) (hs : Bytes s) (hp : 0 ≤ p) (hp2 : p ≤ 1000000000) : Tot (fun k => zf.f k s p n) (fun r => r.2 = p + 1 ∧ 0 ≤ r.1 ∧ (1 ≤ n → r.1 < n)) := by
  obtain ⟨r, hr, h0, h1⟩ := pick_at 0 s p n hs hp hp2
  refine ⟨(r, p + 1), ⟨1, fun k hk => ?_⟩, rfl, h0, h1⟩
  obtain ⟨j, rfl⟩ : ∃ j, k = j + 1 := ⟨k - 1, by omega⟩
  obtain ⟨r', hr', h0', h1'⟩ := pick_at j s p n hs hp hp2
  have hm := zhs (g := fun k => zf.f k s p n) (fun k => zf.mono _ _ _ k) (show 1 ≤ j + 1 by omega) hr
  exact hm
theorem odd_tot (s : List Int) (p n : Int) (hs : Bytes s) (hp : 0 ≤ p) (hp2 : p ≤ 1000000000) : Tot (fun k => zby.f k s p n) (fun r => p ≤ r.2 ∧ r.2 ≤ p + 1) := by
  unfold zby.f
  refine Tot.ite (fun _ => ?_) (fun _ => Tot.ret _ ⟨Int.le_refl _, by omega⟩)
  refine Tot.bind (zdr s p n hs hp hp2) ?_
  rintro ⟨a, q⟩ ⟨rfl, _, _⟩
  exact Tot.ret _ ⟨by show p ≤ p + 1; omega, Int.le_refl _⟩
theorem open_tot {β : Type} {Q : β → Prop} (l : List Int) (hl : ∀ x ∈ l, (Lit.int .u8 x).wf = true) {f : Nat → List Int × Int → Option β} (hf : ∀ s, Bytes s → Tot (fun k => f k (s, 0)) Q) : Tot (fun k => (zcy.f l).bind (f k)) Q := by
  obtain ⟨s, hs, hb⟩ := open_at l hl
  exact Tot.bind0 hs (hf s hb)
theorem zib {α β : Type} {Q : β → Prop} (a : α) {f : Nat → α → Option β} (h : Tot (fun k => f k a) Q) : Tot (fun k => (some a).bind (f k)) Q := h
end Go.Proofs.Ytebgfobjhlcopaa.Pb
namespace Go.Proofs.Ytebgfobjhlcopaa.Alive
open Go.RowKit Go.Proofs.Ytebgfobjhlcopaa.P Go.Proofs.Ytebgfobjhlcopaa.Base Go.Proofs.YtebgfobjhlcopaaW.PrintWords Go.Proofs.YtebgfobjhlcopaaW.PrintLast
def TV (c d p : Int) : Prop := 1 ≤ c ∧ c ≤ 8 ∧ c ≤ d ∧ d ≤ p ∧ p ≤ 12
instance (c d p : Int) : Decidable (TV c d p) := by unfold TV; infer_instance
theorem task_f (c d p : Int) : zcr.f c d p = some (decide (TV c d p)) := by
  unfold zcr.f
  rw [in_f, in_f, zdb, zdb]
  by_cases h1 : 1 ≤ c ∧ c ≤ 8
  · by_cases h2 : c ≤ d ∧ d ≤ p
    · rw [if_pos h1, if_pos h2]; congr 1; rw [decide_eq_decide]; unfold TV; omega
    · rw [if_pos h1, if_neg h2]; congr 1; symm; rw [decide_eq_false_iff_not]; unfold TV; omega
  · rw [if_neg h1]; congr 1; symm; rw [decide_eq_false_iff_not]; unfold TV; omega
theorem alive_f : zdn.f = some true := by
  unfold zdn.f
  rw [task_f]; rfl
end Go.Proofs.Ytebgfobjhlcopaa.Alive
namespace Go.Proofs.Ytebgfobjhlcopaa.DrGraph
open Go.RowKit Go.Proofs.Ytebgfobjhlcopaa.P Go.Proofs.Ytebgfobjhlcopaa.Base Go.Proofs.Ytebgfobjhlcopaa.Gen Go.Proofs.Ytebgfobjhlcopaa.Pb Go.Proofs.YtebgfobjhlcopaaW.PrintWords Go.Proofs.YtebgfobjhlcopaaW.PrintLast
def Short (r : List Int × List (List Int) × Int) : Prop := r.1.length ≤ 20 ∧ r.2.1.length ≤ 20 ∧ 0 ≤ r.2.2 ∧ r.2.2 ≤ 1000000
theorem graph_tot (s : List Int) (p n : Int) (hs : Bytes s) (hp : 0 ≤ p) (hp2 : p ≤ 100000) : Tot (fun k => zw.f k s p n) Short := by
  have last : ∀ (c : List Int) (es : List (List Int)) (x9 q : Int), c.length ≤ 8 → es.length ≤ 9 → 0 ≤ q → q ≤ 900000 → Tot (fun k => zw.j2 k n c es x9 false s q) Short := by
    intro c es x9 q h1 h2 h3 h4
    refine Tot.step (fun k => by rw [zw.j2]) (Tot.no (by simp) ?_)
    refine Tot.bind (odd_tot s q n hs h3 (by omega)) ?_
    rintro ⟨a, q2⟩ ⟨h5, h6⟩
    simp only at h5 h6 ⊢
    refine Tot.ite (fun _ => ?_) (fun _ => Tot.ret _ ⟨by simp; omega, by simp; omega, by simp; omega, by simp; omega⟩)
    refine Tot.bind (zdr s q2 4 hs (by omega) (by omega)) ?_
    rintro ⟨b, q3⟩ ⟨h7, h8, h9⟩
    simp only at h7 h8 h9 ⊢; subst h7
    refine Tot.ite (fun _ => ?_) (fun _ => ?_)
    · refine zib _ ?_
      refine Tot.bind (zdr s (q2 + 1) 2 hs (by omega) (by omega)) ?_
      rintro ⟨d, q4⟩ ⟨h10, h11, h12⟩
      simp only at h10 h11 h12 ⊢; subst h10
      have h12 := h12 (by omega)
      refine Tot.yes h11 (Tot.yes (by simp; omega) (Tot.yes (by omega) (Tot.ret _ ⟨by simp; omega, by simp; omega, by simp; omega, by simp; omega⟩)))
    · refine Tot.ite (fun _ => Tot.yes (by omega) (Tot.ret _ ⟨by simp; omega, by simp; omega, by simp; omega, by simp; omega⟩)) (fun _ => ?_)
      refine Tot.ite (fun _ => Tot.yes (by omega) (Tot.ret _ ⟨by simp; omega, by simp; omega, by simp; omega, by simp; omega⟩)) (fun _ => ?_)
      exact Tot.yes (by omega) (Tot.ret _ ⟨by simp; omega, by simp; omega, by simp; omega, by simp; omega⟩)
  have edges : ∀ (c : List Int), c.length ≤ 8 → ∀ (d : Nat) (x9 : Int) (es : List (List Int)) (q : Int), x9 = d → (es.length : Int) + x9 ≤ 9 → 0 ≤ q → q + 2 * x9 ≤ 800000 → Tot (fun k => zw.l1 k n c es x9 s q) Short := by
    intro c hc d
    induction d with
    | zero =>
      intro x9 es q h1 h2 h3 h4
      exact Tot.step (fun k => by rw [zw.l1]) (Tot.no (by omega) (last c es x9 q hc (by omega) h3 (by omega)))
    | succ d ih =>
      intro x9 es q h1 h2 h3 h4
      refine Tot.step (fun k => by rw [zw.l1]) (Tot.yes (by omega) ?_)
      by_cases hl : (c.length : Int) > 1
      · rw [decide_eq_true hl]
        refine Tot.step (fun k => by rw [zw.j2]) (Tot.yes rfl ?_)
        rw [w64 (x := (c.length : Int) - 1) (by omega) (by omega)]
        refine Tot.bind (zdr s q _ hs h3 (by omega)) ?_
        rintro ⟨a, q2⟩ ⟨h5, h6, h7⟩
        simp only at h5 h6 h7 ⊢; subst h5
        have h7 := h7 (by omega)
        rw [w64 (x := 1 + a) (by omega) (by omega)]
        refine Tot.bind (zdr s (q + 1) _ hs (by omega) (by omega)) ?_
        rintro ⟨b, q3⟩ ⟨h8, h9, h10⟩
        simp only at h8 h9 h10 ⊢; subst h8
        rw [w64 (x := x9 - 1) (by omega) (by omega)]
        exact Tot.yes (by omega) (ih (x9 - 1) _ _ (by omega) (by simp; omega) (by omega) (by omega))
      · rw [decide_eq_false hl]
        exact last c es x9 q hc (by omega) h3 (by omega)
  have costs : ∀ (d : Nat) (x8 : Int) (c : List Int) (q : Int), x8 = d → (c.length : Int) + x8 ≤ 8 → 0 ≤ q → q + x8 ≤ 700000 → Tot (fun k => zw.l0 k n c [] x8 s q) Short := by
    intro d
    induction d with
    | zero =>
      intro x8 c q h1 h2 h3 h4
      refine Tot.step (fun k => by rw [zw.l0]) (Tot.no (by omega) ?_)
      refine Tot.bind (zdr s q 10 hs h3 (by omega)) ?_
      rintro ⟨a, q2⟩ ⟨h5, h6, h7⟩
      simp only at h5 h6 h7 ⊢; subst h5
      have h7 := h7 (by omega)
      exact edges c (by omega) a.toNat a [] _ (by omega) (by simp; omega) (by omega) (by omega)
    | succ d ih =>
      intro x8 c q h1 h2 h3 h4
      refine Tot.step (fun k => by rw [zw.l0]) (Tot.yes (by omega) ?_)
      refine Tot.bind (zdr s q 8 hs h3 (by omega)) ?_
      rintro ⟨a, q2⟩ ⟨h5, h6, h7⟩
      simp only at h5 h6 h7 ⊢; subst h5
      rw [w64 (x := x8 - 1) (by omega) (by omega)]
      exact Tot.yes (by omega) (ih (x8 - 1) _ _ (by omega) (by simp; omega) (by omega) (by omega))
  unfold zw.f
  refine Tot.bind (zdr s p 9 hs hp (by omega)) ?_
  rintro ⟨a, q2⟩ ⟨h5, h6, h7⟩
  simp only at h5 h6 h7 ⊢; subst h5
  have h7 := h7 (by omega)
  exact costs a.toNat a [] _ (by omega) (by simp; omega) (by omega) (by omega)
end Go.Proofs.Ytebgfobjhlcopaa.DrGraph
namespace Go.Proofs.Ytebgfobjhlcopaa.SameG
open Go.RowKit Go.Proofs.Ytebgfobjhlcopaa.P Go.Proofs.Ytebgfobjhlcopaa.Base Go.Proofs.Ytebgfobjhlcopaa.Gen Go.Proofs.Ytebgfobjhlcopaa.Graph Go.Proofs.Ytebgfobjhlcopaa.Crit Go.Proofs.Ytebgfobjhlcopaa.Gra Go.Proofs.Ytebgfobjhlcopaa.Rg Go.Proofs.Ytebgfobjhlcopaa.Srg Go.Proofs.Ytebgfobjhlcopaa.Pb Go.Proofs.Ytebgfobjhlcopaa.Alive Go.Proofs.Ytebgfobjhlcopaa.DrGraph Go.Proofs.YtebgfobjhlcopaaW.PrintWords Go.Proofs.YtebgfobjhlcopaaW.PrintLast
theorem ints_tot (l : List Int) (h : l.length ≤ 1000000) : Tot (fun k => zbe.f k l l) (fun r => r = true) := by
  have loop : ∀ d i : Nat, i + d = l.length → Tot (fun k => zbe.l0 k l l (i : Int)) (fun r => r = true) := by
    intro d
    induction d with
    | zero => intro i hi; exact Tot.step (fun k => by rw [zbe.l0]) (Tot.no (by omega) (Tot.ret _ rfl))
    | succ d ih =>
      intro i hi
      refine Tot.step (fun k => by rw [zbe.l0]) (Tot.yes (by omega) (Tot.yes (by omega) (Tot.yes (by omega) (Tot.yes rfl ?_))))
      rw [w64 (by omega) (by omega)]
      exact ih (i + 1) (by omega)
  unfold zbe.f
  exact Tot.yes rfl (loop l.length 0 (by omega))
theorem rows_tot (l : List (List Int)) (h : l.length ≤ 1000000) (h2 : ∀ x ∈ l, x.length ≤ 1000000) : Tot (fun k => zbm.f k l l) (fun r => r = true) := by
  have loop : ∀ d i : Nat, i + d = l.length → Tot (fun k => zbm.l0 k l l (i : Int)) (fun r => r = true) := by
    intro d
    induction d with
    | zero => intro i hi; exact Tot.step (fun k => by rw [zbm.l0]) (Tot.no (by omega) (Tot.ret _ rfl))
    | succ d ih =>
      intro i hi
      have hil : i < l.length := by omega
      refine Tot.step (fun k => by rw [zbm.l0]) (Tot.yes (by omega) (Tot.yes (by omega) (Tot.yes (by omega) ?_)))
      refine Tot.bind (ints_tot _ (by rw [rdl_at l i hil]; exact h2 _ (List.getElem_mem hil))) ?_
      rintro _ rfl
      refine Tot.yes rfl ?_
      rw [w64 (by omega) (by omega)]
      exact ih (i + 1) (by omega)
  unfold zbm.f
  exact Tot.yes rfl (loop l.length 0 (by omega))
theorem cores_tot (s : List Int) (p n : Int) (hs : Bytes s) (hp : 0 ≤ p) (hp2 : p ≤ 10000000) : Tot (fun k => zck.f k s p n) (fun _ => True) := by
  unfold zck.f
  refine Tot.bind (odd_tot s p n hs hp (by omega)) ?_
  rintro ⟨b, q⟩ ⟨h1, h2⟩
  simp only at h1 h2 ⊢
  refine Tot.ite (fun _ => ?_) (fun _ => ?_)
  · refine zib _ (Tot.bind (zdr s q 3 hs (by omega) (by omega)) ?_)
    rintro ⟨a, q2⟩ ⟨_, h4, h5⟩
    simp only at h4 h5 ⊢
    have h6 := h5 (by omega)
    exact Tot.yes (by omega) (Tot.yes (by simp; omega) (Tot.ret _ trivial))
  · refine Tot.bind (zdr s q 4 hs (by omega) (by omega)) ?_
    rintro ⟨a, q2⟩ _
    exact Tot.ret _ trivial
theorem drg_tot (l0 : List Int) (hl : ∀ x ∈ l0, (Lit.int .u8 x).wf = true) : Tot (fun k => zcg.f k l0) (fun r => r.1.length ≤ 20 ∧ r.2.1.length ≤ 20) := by
  unfold zcg.f zcb.f
  refine Tot.bind (P := fun r => r.1.length ≤ 20 ∧ r.2.1.length ≤ 20) (open_tot l0 hl (fun s hs => Tot.bind (graph_tot s 0 12 hs (by omega) (by omega)) (fun r hr => Tot.bind (cores_tot s r.2.2 12 hs hr.2.2.1 (by have := hr.2.2.2; omega)) (fun _ _ => Tot.ret _ ⟨hr.1, hr.2.1⟩)))) ?_
  rintro ⟨c, es, m⟩ h
  exact Tot.ret _ h
section
variable {c : List Int} {es : List (List Int)} {m : Int}
theorem RG_yes (hg : GV c es) (h1 : 1 ≤ m) (h5 : m ≤ 5) : RG c es m = ((List.range (TT es m c)).map (run es m c (zz c)), (st es m c (zz c) (TT es m c)).2) := if_pos ⟨hg, h1, h5⟩
theorem RG_no (h : ¬ (GV c es ∧ 1 ≤ m ∧ m ≤ 5)) : RG c es m = ([], []) := if_neg h
theorem RG_len (c : List Int) (es : List (List Int)) (m : Int) : (RG c es m).1.length ≤ 64 ∧ (RG c es m).2.length ≤ 8 ∧ ∀ x ∈ (RG c es m).1, x.length ≤ 8 := by
  by_cases h : GV c es ∧ 1 ≤ m ∧ m ≤ 5
  · have hb := zgk h.1 c.length (Nat.le_refl _)
    have h8 := h.1.1
    have hT := (TT_is h.1 h.2.1).1
    rw [RG_yes h.1 h.2.1 h.2.2]
    refine ⟨?_, ?_, ?_⟩
    · simp only [List.length_map, List.length_range]; omega
    · have := (zdi (es := es) (m := m) (zdj c) (TT es m c)).2
      simp only; omega
    · intro x hx
      obtain ⟨t, _, rfl⟩ := List.mem_map.1 hx
      have := pck_le (es := es) (left := (st es m c (zz c) t).1) (m := m) c.length
      unfold run; omega
  · rw [RG_no h]
    simp
theorem both_tot (c : List Int) (es : List (List Int)) (m : Int) : Tot (fun k => zbm.f k (RG c es m).1 (RG c es m).1) (fun r => r = true) ∧ Tot (fun k => zbe.f k (RG c es m).2 (RG c es m).2) (fun r => r = true) := by
  have h := RG_len c es m
  exact ⟨rows_tot _ (by omega) (fun x hx => by have := h.2.2 x hx; omega), ints_tot _ (by omega)⟩
theorem bounds (hg : GV c es) (hm : 1 ≤ m) : (TT es m c : Int) ≤ lng c es + (vl c - lng c es) / m ∧ lng c es ≤ (TT es m c : Int) ∧ vl c ≤ (TT es m c : Int) * m := by
  have h := TT_is hg hm
  have hu := gv_up hg
  have hp := zgi hg
  have G := graham (m := m) (zdj c) hu hp hm (TT es m c) h.2.2
  have hz := lng_zero (es := es) (m := m) (zdj c) hu hp _ h.2.1
  have hs := ((zf1 (m := m) (zdj c) hu hp (TT es m c)).2).2 h.2.1
  rw [hz, hs] at G
  have hv := vl_eq c
  rw [← hv] at G
  obtain ⟨G1, G2, G3, _⟩ := G
  refine ⟨?_, by omega, by rw [Int.mul_comm]; omega⟩
  have e : m * (TT es m c : Int) - m * lng c es ≤ vl c - lng c es := by
    have e1 : (m - 1) * lng c es = m * lng c es - lng c es := by rw [Int.sub_mul, Int.one_mul]
    omega
  have e2 : ((TT es m c : Int) - lng c es) * m ≤ vl c - lng c es := by rw [Int.sub_mul, Int.mul_comm _ m, Int.mul_comm (lng c es) m]; exact e
  have := (Int.le_ediv_iff_mul_le (c := m) (by omega)).2 e2
  omega
end
end Go.Proofs.Ytebgfobjhlcopaa.SameG
namespace Go.Proofs.Ytebgfobjhlcopaa.Pure
open Go.RowKit Go.Proofs.Ytebgfobjhlcopaa.P Go.Proofs.Ytebgfobjhlcopaa.Base Go.Proofs.Ytebgfobjhlcopaa.Gen Go.Proofs.YtebgfobjhlcopaaW.PrintWords Go.Proofs.YtebgfobjhlcopaaW.PrintLast
open Go.Proofs.Ytebgfobjhlcopaa.Pb Go.Proofs.Ytebgfobjhlcopaa.Alive Go.Proofs.Ytebgfobjhlcopaa.Graph Go.Proofs.Ytebgfobjhlcopaa.DrGraph Go.Proofs.Ytebgfobjhlcopaa.Crit Go.Proofs.Ytebgfobjhlcopaa.Gra Go.Proofs.Ytebgfobjhlcopaa.Rg Go.Proofs.Ytebgfobjhlcopaa.Srg Go.Proofs.Ytebgfobjhlcopaa.SameG
theorem FnGraham : laws_FnGraham.Pure := by
  intro l0 _ hl
  apply Tot.rounds
  unfold laws_FnGraham.f
  refine Tot.ite (fun _ => Tot.ret _ rfl) (fun _ => ?_)
  refine Tot.bind (drg_tot l0 hl.2) ?_
  rintro ⟨c, es, m⟩ ⟨hc, he⟩
  simp only at hc he ⊢
  refine Tot.bind (Tot.val (impl_rg c es m (by omega) (by omega))) ?_
  rintro _ rfl
  refine Tot.bind (Tot.val (spec_rg c es m)) ?_
  rintro _ rfl
  refine Tot.bind (Tot.val (impl_mb c es m (by omega) (by omega))) ?_
  rintro _ rfl
  refine Tot.bind (both_tot c es m).1 ?_
  rintro _ rfl
  refine Tot.yes rfl (Tot.bind (both_tot c es m).2 ?_)
  rintro _ rfl
  refine Tot.yes rfl (Tot.bind (Tot.val (spec_mb c es m)) ?_)
  rintro _ rfl
  refine Tot.step (fun k => by rw [laws_FnGraham.j0]) (Tot.no (by simp) ?_)
  by_cases hv : GV c es ∧ 1 ≤ m ∧ m ≤ 5
  · obtain ⟨hg, hm1, hm5⟩ := hv
    have hb := lng_bd hg
    have hb2 := vl_bd hg
    have e1 : MB c es m = lng c es + (vl c - lng c es) / m := if_pos ⟨hg, hm1, hm5⟩
    have e2 : CP c es = lng c es := if_pos hg
    have e3 : VL c es = vl c := if_pos hg
    have hB := bounds hg hm1
    have hq := Int.ediv_nonneg (show 0 ≤ vl c - lng c es by omega) (show 0 ≤ m by omega)
    have hT : ((RG c es m).1.length : Int) = (TT es m c : Int) := by rw [RG_yes hg hm1 hm5]; simp
    have hTl := (RG_len c es m).1
    have hmul : (TT es m c : Int) * m ≤ 64 * 5 := Int.mul_le_mul (by omega) hm5 (by omega) (by omega)
    rw [e1, hT]
    refine Tot.no (by omega) (Tot.yes hB.1 ?_)
    refine Tot.bind (Tot.val (impl_cp c es (by omega) (by omega))) ?_
    rintro _ rfl
    rw [e2]
    refine Tot.yes hB.2.1 (Tot.bind (Tot.val (impl_vol c es (by omega) (by omega))) ?_)
    rintro _ rfl
    refine Tot.ret _ ?_
    rw [e3, w64 (x := (TT es m c : Int) * m) (by omega) (by omega)]
    simp only [decide_eq_true_eq]
    exact hB.2.2
  · have e1 : MB c es m = -1 := if_neg hv
    rw [e1, RG_no hv]
    exact Tot.yes (by omega) (Tot.yes (by simp only [List.length_nil]; rw [w64 (by omega) (by omega)]; rfl) (Tot.bind0 alive_f (Tot.ret _ rfl)))
end Go.Proofs.Ytebgfobjhlcopaa.Pure
namespace Go.Proofs.Ytebgfobjhlcopaa.Opn
open Go.ChangeShapes Go.WideShapes Go.Deep Go.RowKit Go.Proofs.YtebgfobjhlcopaaW.PrintWords
section
variable {H : Type} {enc : TypeId × Value → H} {P : Program} {W : World} {base : Nat} {spare : Nat → Bool} {held : Bool}
def Opens {α : Type} (enc : TypeId × Value → H) (P : Program) (W : World) (base : Nat) (spare : Nat → Bool) (held : Bool) (t : TypeId) (d : Kd α) (G : α → Prop) : Prop :=
  ∀ (fuel : Nat) (cs : List Value) (x : DataW H × List MemPlace), DataW.trod enc P W base spare held fuel t cs = some x → ∃ a, d.K W a cs ∧ G a
theorem opens_int {t : TypeId} {k : IntKind} (hu : P.underlying t = some (.int k)) : Opens enc P W base spare held t (Kd.int k) (fun x => (Lit.int k x).wf = true) := by
  intro fuel cs x h
  obtain ⟨n, hc, _, hw⟩ := DataW.trod_int hu h
  exact ⟨n, hc, hw⟩
theorem list_of {α : Type} (m : Nat) (R : Nat → α → Prop) (h : ∀ i, i < m → ∃ a, R i a) : ∃ xs : List α, xs.length = m ∧ ∀ i a, xs[i]? = some a → R i a := by
  induction m with
  | zero => exact ⟨[], rfl, fun i a ha => by simp at ha⟩
  | succ m ih =>
    obtain ⟨xs, hl, hx⟩ := ih (fun i hi => h i (by omega))
    obtain ⟨a, ha⟩ := h m (by omega)
    refine ⟨xs ++ [a], by simp [hl], fun i b hb => ?_⟩
    rcases Nat.lt_or_ge i m with hi | hi
    · rw [List.getElem?_append_left (by omega)] at hb
      exact hx i b hb
    · have hi' : i = m := by
        have := (List.getElem?_eq_some_iff.1 hb).1
        simp at this
        omega
      subst hi'
      have : a = b := by simpa [hl] using hb
      subst this
      exact ha
theorem slice_row {α : Type} {t e : TypeId} {d : Kd α} {G : α → Prop} (hu : P.underlying t = some (.slice e)) (hC : P.cellsOf e = d.sz) (he : Opens enc P W base spare held e d G)
    {fuel : Nat} {A : Option Addr} {n cap : Nat} {x : DataW H × List MemPlace} (h : DataW.trod enc P W base spare held fuel t [.slice A n cap] = some x) :
    ∃ xs : List α, xs.length = n ∧ n ≤ cap ∧ n ≤ maxLen ∧ d.C W A xs.length xs ∧ ∀ y ∈ xs, G y := by
  rcases open_slice hu h with ⟨h0, _⟩ | ⟨a, len, c, m, k, D, Pl, hcs, _, hl, hm, hmm, _, hel⟩
  · simp only [List.cons.injEq, Value.slice.injEq, and_true] at h0
    obtain ⟨rfl, rfl, rfl⟩ := h0
    exact ⟨[], rfl, Nat.le_refl _, by simp [maxLen], Kd.C_nil d W, fun y hy => by simp at hy⟩
  · simp only [List.cons.injEq, Value.slice.injEq, and_true] at hcs
    obtain ⟨rfl, rfl, rfl⟩ := hcs
    have hle : n ≤ m := by rw [hmm]; split <;> omega
    obtain ⟨xs, hxl, hx⟩ := list_of (α := α) n (fun i y => G y ∧ ∃ cs', d.K W y cs' ∧ cs'.length = d.sz ∧ ∀ j, j < d.sz → W.cell? ((a.add (i * d.sz)).add j) = cs'[j]?) (by
      intro i hi
      obtain ⟨cs', hc, ht⟩ := hel i (by omega)
      obtain ⟨y, hK, hG⟩ := he _ _ _ ht
      rw [hC] at hc
      obtain ⟨_, hcl, hcc⟩ := World.cells?_some hc
      exact ⟨y, hG, cs', hK, hcl, hcc⟩)
    refine ⟨xs, hxl, hl, by omega, ⟨rfl, by simp only [maxLen] at hm; omega, fun hp => ⟨a, rfl, fun j p hj => ?_⟩⟩, fun y hy => ?_⟩
    · obtain ⟨_, cs', hK, hcl, hcc⟩ := hx j p hj
      refine ⟨cs', hcl, hK, fun i u hi => ?_⟩
      have hlt : i < d.sz := by
        have := (List.getElem?_eq_some_iff.1 hi).1
        omega
      rw [← Go.Deep.add_add, hcc i hlt, hi]
    · obtain ⟨i, hi, rfl⟩ := List.getElem_of_mem hy
      exact (hx i _ (List.getElem?_eq_getElem hi)).1
theorem sized_row {t e : TypeId} {A : Option Addr} {n cap : Nat} {d : DataW H} {ps : List MemPlace} {ts : List TypeId} {ds : List (DataW H)} {j : Nat}
    (hsz : (DataW.weightsEach P ts ds).all (· ≤ reachBytes) = true) (ht : ts[j]? = some t) (hd : ds[j]? = some d) (hu : P.underlying t = some (.slice e)) {B : Nat} (hB : P.bytesOf e = B)
    (h : DataW.Trod enc P W base spare held t (.slice A n cap) d ps) : n * B ≤ 140737488351232 := by
  obtain ⟨fuel, hf⟩ := h
  have hf' : DataW.trod enc P W base spare held fuel t [.slice A n cap] = some (d, ps) := hf
  rcases open_slice hu hf' with ⟨h0, _⟩ | ⟨a, len, c, m, k, D, Pl, hcs, _, hl, hm, hmm, hx, hel⟩
  · simp only [List.cons.injEq, Value.slice.injEq, and_true] at h0
    obtain ⟨rfl, rfl, rfl⟩ := h0
    simp
  · simp only [List.cons.injEq, Value.slice.injEq, and_true] at hcs
    obtain ⟨rfl, rfl, rfl⟩ := hcs
    obtain ⟨hx, _⟩ := Prod.mk.inj hx
    subst hx
    have z := sized_slice hsz ht hd hu
    rw [hB] at z
    simp only [List.length_map, List.length_range] at z
    exact Nat.le_trans (Nat.mul_le_mul_right _ (by omega)) z
end
end Go.Proofs.Ytebgfobjhlcopaa.Opn
namespace Go.Proofs.Ytebgfobjhlcopaa.Head
open Go
def chars (l : List Nat) : List Char := l.map Char.ofNat
def w1 : List Nat := [104, 97, 114, 110, 101, 115, 115]
def w2 : List Nat := [53, 57, 99, 56, 55, 98, 101, 99, 57, 52, 48, 54, 101, 57, 48, 57, 53, 52, 100, 53, 57, 57, 100, 55, 55, 100, 99, 57, 51, 55, 50, 48, 54, 55, 57, 57, 99, 49, 48, 97, 101, 56, 98, 49, 53, 51, 50, 57, 100, 102, 53, 52, 49, 101, 55, 54, 98, 100, 55, 98, 98, 97, 55, 48]
def w3 : List Nat := [99, 117, 116]
def w4 : List Nat := [97, 116, 32, 108, 111, 111, 112, 46, 101, 120, 97, 109, 112, 108, 101, 47, 100, 101, 97, 100, 108, 105, 110, 101, 115, 99, 104, 101, 100, 117, 108, 101, 114, 47, 108, 97, 119, 115, 46, 70, 110, 82, 117, 110, 71, 114, 97, 112, 104, 32, 108, 111, 111, 112, 46, 101, 120, 97, 109, 112, 108, 101, 47, 100, 101, 97, 100, 108, 105, 110, 101, 115, 99, 104, 101, 100, 117, 108, 101, 114, 47, 108, 97, 119, 115, 46, 70, 110, 71, 114, 97, 112, 104, 87, 105, 100, 101, 32, 108, 111, 111, 112, 46, 101, 120, 97, 109, 112, 108, 101, 47, 100, 101, 97, 100, 108, 105, 110, 101, 115, 99, 104, 101, 100, 117, 108, 101, 114, 47, 108, 97, 119, 115, 46, 70, 110, 69, 120, 97, 99, 116, 82, 117, 110, 71, 114, 97, 112, 104, 32, 108, 111, 111, 112, 46, 101, 120, 97, 109, 112, 108, 101, 47, 100, 101, 97, 100, 108, 105, 110, 101, 115, 99, 104, 101, 100, 117, 108, 101, 114, 47, 108, 97, 119, 115, 46, 70, 110, 71, 114, 97, 104, 97, 109, 32, 108, 111, 111, 112, 46, 101, 120, 97, 109, 112, 108, 101, 47, 100, 101, 97, 100, 108, 105, 110, 101, 115, 99, 104, 101, 100, 117, 108, 101, 114, 47, 108, 97, 119, 115, 46, 70, 110, 71, 114, 97, 112, 104, 69, 120, 97, 109, 112, 108, 101]
theorem io_eq : Try.prog.initOrder = String.ofList (chars (w1 ++ 32 :: (w2 ++ 32 :: (w3 ++ 32 :: w4)))) := by kernel_rfl
theorem io_list : Try.prog.initOrder.toList = chars (w1 ++ 32 :: (w2 ++ 32 :: (w3 ++ 32 :: w4))) := by rw [io_eq, String.toList_ofList]
theorem ws_one (c : Char) (r w : List Char) (ws : List (List Char)) (hc : c ≠ Char.ofNat 32) (h : wordsSigns r = w :: ws) : wordsSigns (c :: r) = (c :: w) :: ws := by
  have e : wordsSigns (c :: r) = match wordsSigns r with
    | w :: ws => (c :: w) :: ws
    | [] => [[c]] := by
    rw [wordsSigns]
    · rfl
    · exact hc
  rw [e, h]
theorem ws_word (w : List Char) (h : ∀ c ∈ w, c ≠ Char.ofNat 32) (r : List Char) : wordsSigns (w ++ Char.ofNat 32 :: r) = w :: wordsSigns r := by
  induction w with
  | nil => rfl
  | cons c w ih => exact ws_one _ _ _ _ (h c (by simp)) (ih (fun x hx => h x (by simp [hx])))
theorem ws_nat (w r : List Nat) (h : w.all (fun n => !(Char.ofNat n == Char.ofNat 32)) = true) : wordsSigns (chars (w ++ 32 :: r)) = chars w :: wordsSigns (chars r) := by
  have e : chars (w ++ 32 :: r) = chars w ++ Char.ofNat 32 :: chars r := by simp [chars]
  rw [e]
  refine ws_word _ (fun c hc => ?_) _
  obtain ⟨n, hn, rfl⟩ := List.mem_map.1 hc
  have := List.all_eq_true.1 h n hn
  simpa using this
theorem zhq : behindMainWord (wordsSigns Try.prog.initOrder.toList) = chars w3 :: wordsSigns (chars w4) := by
  rw [io_list, ws_nat _ _ (by kernel_rfl), ws_nat _ _ (by kernel_rfl), ws_nat _ _ (by kernel_rfl)]
  generalize wordsSigns (chars w4) = R
  kernel_rfl
theorem make_gen (P : Program) (c : List Char) (R : List (List Char)) (h : behindMainWord (wordsSigns P.initOrder.toList) = c :: R) (h1 : (c == "gc".toList || c == "spec".toList) = false) (h2 : (c == "cut".toList) = true) : P.make = some .cut := by
  unfold Program.make
  rw [h]
  simp only [h1, h2, Bool.true_or, if_true, Bool.false_eq_true, if_false]
theorem make : Try.prog.make = some .cut := make_gen _ _ _ zhq (by kernel_rfl) (by kernel_rfl)
theorem enter_gen (P : Program) (c : List Char) (R : List (List Char)) (h : behindMainWord (wordsSigns P.initOrder.toList) = c :: R) (h1 : ∀ R, stripLifts liftWords (c :: R) = ([], c :: R)) (h2 : (some c == some "cut".toList) = true)
    (h3 : P.laysLater = false) (h4 : P.bearsReflect = false) (h5 : P.doorFits [] = true) : P.mayEnter = true := by
  unfold Program.mayEnter
  rw [h]
  simp only [h1, h2, h3, h4, h5, List.head?_cons, Bool.not_false, Bool.or_true, Bool.and_true, List.contains_nil]
theorem enter : Try.prog.mayEnter = true := enter_gen _ _ _ zhq (fun R => by kernel_rfl) (by kernel_rfl) (by kernel_rfl) (by kernel_rfl) (by kernel_rfl)
theorem lifts : Try.prog.liftsFinal = false := by
  unfold Program.liftsFinal Program.headLifts
  simp only [zhq]
  generalize wordsSigns (chars w4) = R
  kernel_rfl
end Go.Proofs.Ytebgfobjhlcopaa.Head
namespace Go.Proofs.Ytebgfobjhlcopaa.fnGraham
open Go.ChangeShapes Go.WideShapes Go.ChangeAt Go.RowKit Go.Proofs.YtebgfobjhlcopaaW.PrintWords Go.Proofs.Ytebgfobjhlcopaa.P
open Go.ChangeMaps (open_string shut_string)
theorem own : ownKnob Try.prog.godebug = none := by kernel_rfl
theorem laidOut : laidOutB Try.prog = true := by kernel_rfl
theorem lifted (os : Os) (started : os.Started) (H : Type) (enc : TypeId × Value → H) :
    ReturnsInHanded {} Try.checked os 6 .any (Rows.fnGrahamSpec.pre6 enc Try.prog Try.f6 Rows.fnGrahamRow.domain false) (Rows.fnGrahamSpec.post enc Try.prog Try.f6 false true false false) := by
  refine returnsInHanded_of_change_sized (C := Try.checked) own started (by kernel_rfl) Try.func6
    (ChangeSpec.witness6 (enc := enc) (C := Try.checked) false ⟨#[], #[.slice none 0 0], []⟩ 8 (by kernel_rfl) (by kernel_rfl) (by kernel_rfl) (by kernel_rfl)) ?_
  intro W base args ds gs before hval0 hW hcnd hsz0 _
  have hsz : (DataW.weightsEach Try.prog (Try.f6.params.toList ++ Rows.fnGrahamSpec.plain.varTypes Try.prog) (ds ++ gs)).all (· ≤ reachBytes) = true := hsz0
  have hval : ∀ (j : Nat) t v, Try.f6.params[j]? = some t → args[j]? = some v → Value.okWide Try.prog W .any base t v := hval0
  have hW' := hW
  obtain ⟨p, q, hA0, hV, rfl, hfz, hnd⟩ := hW
  have hA : DataW.TrodAll enc Try.prog W 0 (fun _ => true) true Try.f6.params.toList args.toList ds p := hA0
  rw [Try.params6] at hA hval hsz
  obtain ⟨v0, vs0, d0, ds0, p0, q0, hargs, rfl, rfl, h0, r0⟩ := trodAll_cons hA
  obtain ⟨rfl, rfl, rfl⟩ := trodAll_nil r0
  obtain rfl : args = #[v0] := by cases args; simp_all
  obtain ⟨rfl, rfl⟩ := trodVars_none hV
  have k0 := h0
  have lt0 : ∀ x ∈ p0, x.block < W.heap.size := by obtain ⟨m, hm⟩ := k0; exact DataW.trod_lt m _ _ _ hm
  obtain ⟨A0, n0, c0, rfl⟩ := okWide_slice Try.underlying22 (hval 0 22 v0 rfl rfl)
  have y0 : n0 * 1 ≤ 140737488351232 := Opn.sized_row hsz (j := 0) (t := 22) rfl rfl Try.underlying22 (by kernel_rfl) h0
  obtain ⟨l0, rfl, hc0, hm0, hr0, hg0⟩ : ∃ xs : List (Int), xs.length = n0 ∧ n0 ≤ c0 ∧ n0 ≤ maxLen ∧ Kd.C (Kd.int .u8) W A0 xs.length xs ∧ ∀ y0 ∈ xs, (Lit.int .u8 y0).wf = true := by
    obtain ⟨fuel, hf⟩ := h0
    exact Opn.slice_row Try.underlying22 (by kernel_rfl) (Opn.opens_int Try.underlying5) hf
  obtain ⟨k, hk⟩ := Pure.FnGraham l0 y0 ⟨hm0, hg0⟩
  clear hA0 hval0 hsz0 hsz
  refine (laws_FnGraham.calls k A0 c0 l0 true W hr0 hc0 hk).mono fun e W' ⟨he, hd⟩ => ?_
  have bel := hd
  subst he
  exact ⟨_, rfl, _, _, _, [], _, [], hW', trodAll_mk1 (shut_bool Try.underlying4 _), (trodAll_cons_mk (Below.trod laidOut (by kernel_rfl) (of_decide_eq_true (by kernel_rfl)) k0 bel lt0) trodAll_mk0), rfl, bel.frame _, fun h => by cases h⟩
theorem closed : joinedFacts Try.prog 6 Try.f6 Rows.fnGrahamSpec Rows.fnGrahamRow = true := by
  simp only [joinedFacts, Head.enter, Head.lifts, Head.make]
  kernel_rfl
theorem named : Try.prog.funcNamed Rows.fnGrahamRow.func = some 6 := by kernel_rfl
theorem wrapped : Try.f6.isWrapper Try.prog Rows.fnGrahamRow.wrapper Rows.fnGrahamRow.mainSum := by unfold Func.isWrapper; first | (rw [if_pos (by decide +kernel)]; kernel_rfl) | (rw [if_neg (by decide +kernel)]; exact ⟨rfl, rfl⟩)
theorem over : Rows.fnGrahamRow.holds Try.pinned (OpenSpec.ofChange Rows.fnGrahamSpec) :=
  OpenClaim.holds_of_wide 6 Try.f6 rfl rfl rfl rfl rfl rfl rfl ⟨rfl, rfl, rfl, rfl, rfl⟩ rfl rfl rfl rfl rfl named Try.func6 closed
    (of_decide_eq_true (by kernel_rfl)) wrapped
    (fun os started H enc _ => lifted os started H enc)
theorem proved : Rows.FnGrahamSaid := over
#print axioms proved
end Go.Proofs.Ytebgfobjhlcopaa.fnGraham
namespace Go.Proofs.Ytebgfobjhlcopaa
theorem fnGraham_holds : Rows.FnGrahamSaid := fnGraham.proved
end Go.Proofs.Ytebgfobjhlcopaa
