/- The law FnNonPreemptiveSafe for every input, part 5 of its proof: what the program's functions answer, and the plain law. No condition. -/
import Derived.Test.YtkdfjomhichkoaaMFnNonPreemptiveSafe1
import Derived.Test.YtkdfjomhichkoaaMFnNonPreemptiveSafe2
import Derived.Test.YtkdfjomhichkoaaMFnNonPreemptiveSafe3
import Derived.Test.YtkdfjomhichkoaaMFnNonPreemptiveSafe4
import Derived.Laws.BitsLemmas
import Derived.SizedLaws
import Derived.ChangeSlices
import Derived.ChangeArms
import Derived.WideShapes
import Derived.Deep.Slices
import Derived.OpenShut
import Derived.Test.YtkdfjomhichkoaaRows
import Derived.JoinedOf
import Derived.KernelRfl
import Derived.WalkKit
import Derived.ProofKit
import Derived.ShutString
import Derived.ChangeOld
import Derived.Below
namespace Go.Proofs.Ytkdfjomhichkoaa.P
open Go.RowKit Go.Proofs.YtkdfjomhichkoaaW.PrintWords Go.Proofs.YtkdfjomhichkoaaW.PrintLast Go.Proofs.YtkdfjomhichkoaaW.PrintMore
attribute [local go_sem] max2_int min2_int max_two min_two max_three min_three max_four min_four
set_option linter.unusedVariables false
set_option linter.unusedSimpArgs false
mutual
def zh.j0 : Nat → List (S88) → Bool → Option (Bool)
 | 0, _, _ => none
 | k + 1, x0, x21 => if x21 = true then (some false) else (zh.l0 k x0 12 x0 (x0.length : Int) 0)
def zh.l0 : Nat → List (S88) → Int → List (S88) → Int → Int → Option (Bool)
 | 0, _, _, _, _, _ => none
 | k + 1, x0, x3, x22, x23, x24 => if x24 < x23 then (if 0 ≤ x24 then (if x24 < (x22.length : Int) then (zh.l0 k x0 (mn x3 ((zl x22 x24).f2)) x22 x23 (wrap64 (x24 + 1))) else (none)) else (none)) else (zh.l1 k x0 x3 x0 (x0.length : Int) 0)
def zh.l1 : Nat → List (S88) → Int → List (S88) → Int → Int → Option (Bool)
 | 0, _, _, _, _, _ => none
 | k + 1, x0, x3, x33, x34, x35 => if x35 < x34 then (if 0 ≤ x35 then (if x35 < (x33.length : Int) then (zh.l2 k x0 x3 (wrap64 (x3 + 1)) x33 x34 x35 ((zl x33 x35).f0) ((zl x33 x35).f1) ((zl x33 x35).f2)) else (none)) else (none)) else (some true)
def zh.l2 : Nat → List (S88) → Int → Int → List (S88) → Int → Int → Int → Int → Int → Option (Bool)
 | 0, _, _, _, _, _, _, _, _, _ => none
 | k + 1, x0, x3, x8, x33, x34, x35, x575000, x575001, x575002 => if x8 < x575002 then (zh.l3 k x0 x3 x8 x575000 x33 x34 x35 x0 (x0.length : Int) 0 x575000 x575001 x575002) else (zh.l1 k x0 x3 x33 x34 (wrap64 (x35 + 1)))
def zh.l3 : Nat → List (S88) → Int → Int → Int → List (S88) → Int → Int → List (S88) → Int → Int → Int → Int → Int → Option (Bool)
 | 0, _, _, _, _, _, _, _, _, _, _, _, _, _ => none
 | k + 1, x0, x3, x8, x9, x33, x34, x35, x49, x50, x51, x575000, x575001, x575002 => if x51 < x50 then (if 0 ≤ x51 then (if x51 < (x49.length : Int) then (if ((zl x49 x51).f2) < x575002 then (if ((zl x49 x51).f2) = 0 then (none) else (zh.l3 k x0 x3 x8 (wrap64 (x9 + (wrap64 ((wrap64 (Int.tdiv (wrap64 (x8 - 1)) ((zl x49 x51).f2))) * ((zl x49 x51).f0))))) x33 x34 x35 x49 x50 (wrap64 (x51 + 1)) x575000 x575001 x575002)) else (zh.l3 k x0 x3 x8 x9 x33 x34 x35 x49 x50 (wrap64 (x51 + 1)) x575000 x575001 x575002)) else (none)) else (none)) else (if x9 > x8 then (some false) else (zh.l2 k x0 x3 (wrap64 (x8 + 1)) x33 x34 x35 x575000 x575001 x575002))
end
def zh.f (k : Nat) (l0 : List (S88)) : Option (Bool) := (zcm.f l0).bind fun t568 => (if t568 = true then ((zci.f k l0).bind fun t569 => ((zb1.f k l0).bind fun t570 => (zh.j0 k l0 (decide (t569 > t570))))) else (zh.j0 k l0 true))
set_option maxHeartbeats 8000000 in
set_option maxRecDepth 100000 in
theorem zh.calls (k : Nat) (A0 : Option Addr) (c0 : Nat) (l0 : List (S88)) (r : Bool) (w : World) (hr0 : Kd.C k88 w A0 l0.length l0) (hc0 : l0.length ≤ c0) (h : zh.f k l0 = some r) :
  Calls Try.prog 28 #[.slice A0 l0.length c0] w fun e w' => e = .returned (.bool r) ∧ Below w.heap.size w w' := by
 have hu88 := Try.underlying88
 have HR0 := za.mk hr0
 have HC0 := za.mk hc0
 clear hr0 hc0
 have HB := za.mk (Below.refl w.heap.size w)
 have H : ((zcm.f l0).bind fun t568 => (if t568 = true then ((zci.f k l0).bind fun t569 => ((zb1.f k l0).bind fun t570 => (zh.j0 k l0 (decide (t569 > t570))))) else (zh.j0 k l0 true))) = some r := h
 clear h
 have HC2 := za.mk H
 clear H
 go_enter Try.func28, Try.ntmps28
 go_upto_region 1 with (fail)
 repeat (go_quiet (fail); go_upto_region 1 with (fail))
 go_cut [21] (fun v21 wc => ∃ (kq : Nat) (x21_1 : Bool), v21 = .bool x21_1 ∧ za (zh.j0 kq l0 x21_1 = some r) ∧ za (kq ≤ k) ∧ za (Below w.heap.size w wc))
 case first =>
  have H := HC2.out
  clear HC2
  replace H := Option.bind_eq_some_iff.mp H
  obtain ⟨t568, A30, H⟩ := H
  replace H : (if t568 = true then ((zci.f k l0).bind fun t569 => ((zb1.f k l0).bind fun t570 => (zh.j0 k l0 (decide (t569 > t570))))) else (zh.j0 k l0 true)) = some r := H
  have A3 := za.mk A30
  clear A30
  by_cases c4 : t568 = true
  ·subst c4
   have H1 : ((zci.f k l0).bind fun t569 => ((zb1.f k l0).bind fun t570 => (zh.j0 k l0 (decide (t569 > t570))))) = some r := by rw [if_pos rfl] at H; exact H
   clear H
   have H := H1
   clear H1
   replace H := Option.bind_eq_some_iff.mp H
   obtain ⟨t569, A50, H⟩ := H
   replace H : ((zb1.f k l0).bind fun t570 => (zh.j0 k l0 (decide (t569 > t570)))) = some r := H
   have A5 := za.mk A50
   clear A50
   replace H := Option.bind_eq_some_iff.mp H
   obtain ⟨t570, A60, H⟩ := H
   replace H : (zh.j0 k l0 (decide (t569 > t570))) = some r := H
   have A6 := za.mk A60
   clear A60
   have H' := za.mk H
   clear H
   go_wp2_with (first | (go_at_call 64; (with_reducible refine (zcm.calls _ _ l0 true _ ?side1 ?side2 A3.out).mono ?_); (case side1 => exact Zq15 (Kd.zbq HR0.out HB.out)); (case side2 => exact HC0.out); rintro e w7 ⟨rfl, hb⟩; have n0_ := za.mk (zo (Zq1 HB.out) hb); clear HB; have HB := n0_; clear n0_; (try clear hb); (try clear hb2); (try clear hk); (try clear hi)) | (go_at_call 65; (with_reducible refine (zci.calls k _ _ l0 t569 _ ?side1 ?side2 A5.out).mono ?_); (case side1 => exact Zq15 (Kd.zbq HR0.out HB.out)); (case side2 => exact HC0.out); rintro e w8 ⟨rfl, hb⟩; have n0_ := za.mk (zo (Zq1 HB.out) hb); clear HB; have HB := n0_; clear n0_; (try clear hb); (try clear hb2); (try clear hk); (try clear hi)) | (go_at_call 66; (with_reducible refine (zb1.calls k _ _ l0 t570 _ ?side1 ?side2 A6.out).mono ?_); (case side1 => exact Zq15 (Kd.zbq HR0.out HB.out)); (case side2 => exact HC0.out); rintro e w9 ⟨rfl, hb⟩; have n0_ := za.mk (zo (Zq1 HB.out) hb); clear HB; have HB := n0_; clear n0_; (try clear hb); (try clear hb2); (try clear hk); (try clear hi)))
   repeat (go_quiet (first | (go_at_call 64; (with_reducible refine (zcm.calls _ _ l0 true _ ?side1 ?side2 A3.out).mono ?_); (case side1 => exact Zq15 (Kd.zbq HR0.out HB.out)); (case side2 => exact HC0.out); rintro e w7 ⟨rfl, hb⟩; have n0_ := za.mk (zo (Zq1 HB.out) hb); clear HB; have HB := n0_; clear n0_; (try clear hb); (try clear hb2); (try clear hk); (try clear hi)) | (go_at_call 65; (with_reducible refine (zci.calls k _ _ l0 t569 _ ?side1 ?side2 A5.out).mono ?_); (case side1 => exact Zq15 (Kd.zbq HR0.out HB.out)); (case side2 => exact HC0.out); rintro e w8 ⟨rfl, hb⟩; have n0_ := za.mk (zo (Zq1 HB.out) hb); clear HB; have HB := n0_; clear n0_; (try clear hb); (try clear hb2); (try clear hk); (try clear hi)) | (go_at_call 66; (with_reducible refine (zb1.calls k _ _ l0 t570 _ ?side1 ?side2 A6.out).mono ?_); (case side1 => exact Zq15 (Kd.zbq HR0.out HB.out)); (case side2 => exact HC0.out); rintro e w9 ⟨rfl, hb⟩; have n0_ := za.mk (zo (Zq1 HB.out) hb); clear HB; have HB := n0_; clear n0_; (try clear hb); (try clear hb2); (try clear hk); (try clear hi))); try go_wp2_with (first | (go_at_call 64; (with_reducible refine (zcm.calls _ _ l0 true _ ?side1 ?side2 A3.out).mono ?_); (case side1 => exact Zq15 (Kd.zbq HR0.out HB.out)); (case side2 => exact HC0.out); rintro e w7 ⟨rfl, hb⟩; have n0_ := za.mk (zo (Zq1 HB.out) hb); clear HB; have HB := n0_; clear n0_; (try clear hb); (try clear hb2); (try clear hk); (try clear hi)) | (go_at_call 65; (with_reducible refine (zci.calls k _ _ l0 t569 _ ?side1 ?side2 A5.out).mono ?_); (case side1 => exact Zq15 (Kd.zbq HR0.out HB.out)); (case side2 => exact HC0.out); rintro e w8 ⟨rfl, hb⟩; have n0_ := za.mk (zo (Zq1 HB.out) hb); clear HB; have HB := n0_; clear n0_; (try clear hb); (try clear hb2); (try clear hk); (try clear hi)) | (go_at_call 66; (with_reducible refine (zb1.calls k _ _ l0 t570 _ ?side1 ?side2 A6.out).mono ?_); (case side1 => exact Zq15 (Kd.zbq HR0.out HB.out)); (case side2 => exact HC0.out); rintro e w9 ⟨rfl, hb⟩; have n0_ := za.mk (zo (Zq1 HB.out) hb); clear HB; have HB := n0_; clear n0_; (try clear hb); (try clear hb2); (try clear hk); (try clear hi))))
   go_meet
   case rel => exact ⟨_, (decide (t569 > t570)), Zrs, H', ⟨by first | omega | exact Nat.le_refl _⟩, ⟨Zq1 HB.out⟩⟩
  ·replace c4 := Bool.eq_false_iff.mpr c4
   subst c4
   have H1 : (zh.j0 k l0 true) = some r := by rw [if_neg (show ¬ (false = true) by decide)] at H; exact H
   clear H
   have H := H1
   clear H1
   have H' := za.mk H
   clear H
   go_wp2_with (first | (go_at_call 64; (with_reducible refine (zcm.calls _ _ l0 false _ ?side1 ?side2 A3.out).mono ?_); (case side1 => exact Zq15 (Kd.zbq HR0.out HB.out)); (case side2 => exact HC0.out); rintro e w10 ⟨rfl, hb⟩; have n0_ := za.mk (zo (Zq1 HB.out) hb); clear HB; have HB := n0_; clear n0_; (try clear hb); (try clear hb2); (try clear hk); (try clear hi)))
   repeat (go_quiet (first | (go_at_call 64; (with_reducible refine (zcm.calls _ _ l0 false _ ?side1 ?side2 A3.out).mono ?_); (case side1 => exact Zq15 (Kd.zbq HR0.out HB.out)); (case side2 => exact HC0.out); rintro e w10 ⟨rfl, hb⟩; have n0_ := za.mk (zo (Zq1 HB.out) hb); clear HB; have HB := n0_; clear n0_; (try clear hb); (try clear hb2); (try clear hk); (try clear hi))); try go_wp2_with (first | (go_at_call 64; (with_reducible refine (zcm.calls _ _ l0 false _ ?side1 ?side2 A3.out).mono ?_); (case side1 => exact Zq15 (Kd.zbq HR0.out HB.out)); (case side2 => exact HC0.out); rintro e w10 ⟨rfl, hb⟩; have n0_ := za.mk (zo (Zq1 HB.out) hb); clear HB; have HB := n0_; clear n0_; (try clear hb); (try clear hb2); (try clear hk); (try clear hi))))
   go_meet
   case rel => exact ⟨_, (true), Zrs, H', ⟨by first | omega | exact Nat.le_refl _⟩, ⟨Zq1 HB.out⟩⟩
 case rest =>
  clear HC2
  try clear c2
  try clear p2
  try clear c4
  obtain ⟨kq, x21_1, rfl, HA, HJ1, HB⟩ := hcut
  cases kq with
  | zero => exact absurd HA.out (by simp [zh.j0])
  | succ kj1 =>
   have H := HA.out
   clear HA
   simp only [zh.j0] at H
   by_cases c11 : x21_1 = true
   ·subst c11
    have H1 : (some false) = some r := by rw [if_pos rfl] at H; exact H
    clear H
    have H := H1
    clear H1
    obtain rfl := Option.some.inj H
    go_wp2
    repeat (go_quiet (fail); try go_wp2)
    go_ret
    exact ⟨by first | rfl | (simp [zw, zx] <;> rfl) | (simp [*, zw, zx] <;> rfl), Zq1 HB.out⟩
   ·replace c11 := Bool.eq_false_iff.mpr c11
    subst c11
    have H1 : (zh.l0 kj1 l0 12 l0 (l0.length : Int) 0) = some r := by rw [if_neg (show ¬ (false = true) by decide)] at H; exact H
    clear H
    have H := H1
    clear H1
    have H' := za.mk H
    clear H
    go_wp2
    repeat (go_quiet (fail); try go_wp2)
    go_loopg [3, 24] kj1 (fun kq v3 v24 w' => ∃ (x3_2 : Int) (x24_2 : Int), v3 = .int .i64 x3_2 ∧ v24 = .int .i64 x24_2 ∧ za (zh.l0 kq l0 x3_2 l0 (l0.length : Int) x24_2 = some r) ∧ za (kq ≤ kj1) ∧ za (Below w.heap.size w w'))
    case atStart => exact ⟨(12), (0), Zrs, Zrs, H', ⟨Nat.le_refl _⟩, ⟨Zq1 HB.out⟩⟩
    case round =>
     clear H'
     try clear c1
     try clear c2
     try clear p2
     try clear c4
     try clear c11
     try clear p2
     obtain ⟨x3_2, x24_2, rfl, rfl, HA, HK2, HB⟩ := hrel
     cases gk with
     | zero => exact absurd HA.out (by simp [zh.l0])
     | succ k2 =>
      have H := HA.out
      clear HA
      simp only [zh.l0] at H
      by_cases c12 : x24_2 < (l0.length : Int)
      ·rw [if_pos c12] at H
       have c12b0 : decide (x24_2 < (l0.length : Int)) = true := decide_eq_true c12
       clear c12
       by_cases c13 : 0 ≤ x24_2
       ·rw [if_pos c13] at H
        have c13b0 : decide (0 ≤ x24_2) = true := decide_eq_true c13
        clear c13
        by_cases c14 : x24_2 < (l0.length : Int)
        ·rw [if_pos c14] at H
         have c14b0 : decide (x24_2 < (l0.length : Int)) = true := decide_eq_true c14
         clear c14
         obtain ⟨ji15, hji15⟩ : ∃ j_ : Int, (mn x3_2 ((zl l0 x24_2).f2)) = j_ := ⟨_, rfl⟩
         replace H : (zh.l0 k2 l0 ji15 l0 (l0.length : Int) (wrap64 (x24_2 + 1))) = some r := by first | (rw [hji15] at H; exact H) | (simp only [hji15] at H ⊢; exact H)
         have hji15_ : (if ((zl l0 x24_2).f2) < x3_2 then ((zl l0 x24_2).f2) else x3_2) = ji15 := hji15
         have H' := za.mk H
         clear H
         have p571 : 0 ≤ (x24_2 : Int) := of_decide_eq_true Zas
         have q571 : x24_2 < (l0.length : Int) := of_decide_eq_true Zas
         obtain ⟨ad571, e571, hx571_0, hx571_1, hx571_2⟩ := zds HR0.out x24_2 p571 q571
         cases e571
         replace hx571_0 := (HB.out.cell (World.block_lt_of_cell? w _ hx571_0)).trans hx571_0
         replace hx571_1 := (HB.out.cell (World.block_lt_of_cell? w _ hx571_1)).trans hx571_1
         replace hx571_2 := (HB.out.cell (World.block_lt_of_cell? w _ hx571_2)).trans hx571_2
         replace p571 := eq_true p571
         replace q571 := eq_true q571
         go_wp2_with (first | ((with_reducible refine zbj (N := 5) rfl ?_); refine zbr ?hg (N := 5) ?hd (cs := #[.int .i64 0, .int .i64 0, .int .i64 0]) (t := 88) ?hr ?_; (case hd => rfl); (case hg => rfl); (case hr => first | (go_simp; done) | (go_simp; rfl)); intro gb572 hg w16 hbox hb; have n0_ := za.mk (zo (Zq1 HB.out) hb); have n1_ := za.mk (hbox); have n2_ := za.mk ((by rw [hg]; exact (zu (Zq1 HB.out)) : w.heap.size ≤ gb572)); have n3_ := za.mk ((by rw [hg]; exact (zu (Zq1 HB.out)) : w.heap.size ≤ gb572)); clear HB; have HB := n0_; have BK572 := n1_; have GW572 := n2_; have GE572 := n3_; clear n0_ n1_ n2_ n3_; clear hb hbox hg; have hcz17_0 : w16.cell? ⟨gb572, 0, none⟩ = some (.int .i64 0) := (zg BK572.out 0).trans rfl; have hcz17_1 : w16.cell? ⟨gb572, 1, none⟩ = some (.int .i64 0) := (zg BK572.out 1).trans rfl; have hcz17_2 : w16.cell? ⟨gb572, 2, none⟩ = some (.int .i64 0) := (zg BK572.out 2).trans rfl; have hfz17_0 := zf BK572.out 0; have hfz17_1 := zf BK572.out 1; have hfz17_2 := zf BK572.out 2))
         repeat (go_quiet (first | ((with_reducible refine zbj (N := 5) rfl ?_); refine zbr ?hg (N := 5) ?hd (cs := #[.int .i64 0, .int .i64 0, .int .i64 0]) (t := 88) ?hr ?_; (case hd => rfl); (case hg => rfl); (case hr => first | (go_simp; done) | (go_simp; rfl)); intro gb572 hg w16 hbox hb; have n0_ := za.mk (zo (Zq1 HB.out) hb); have n1_ := za.mk (hbox); have n2_ := za.mk ((by rw [hg]; exact (zu (Zq1 HB.out)) : w.heap.size ≤ gb572)); have n3_ := za.mk ((by rw [hg]; exact (zu (Zq1 HB.out)) : w.heap.size ≤ gb572)); clear HB; have HB := n0_; have BK572 := n1_; have GW572 := n2_; have GE572 := n3_; clear n0_ n1_ n2_ n3_; clear hb hbox hg; have hcz17_0 : w16.cell? ⟨gb572, 0, none⟩ = some (.int .i64 0) := (zg BK572.out 0).trans rfl; have hcz17_1 : w16.cell? ⟨gb572, 1, none⟩ = some (.int .i64 0) := (zg BK572.out 1).trans rfl; have hcz17_2 : w16.cell? ⟨gb572, 2, none⟩ = some (.int .i64 0) := (zg BK572.out 2).trans rfl; have hfz17_0 := zf BK572.out 0; have hfz17_1 := zf BK572.out 1; have hfz17_2 := zf BK572.out 2)); try go_wp2_with (first | ((with_reducible refine zbj (N := 5) rfl ?_); refine zbr ?hg (N := 5) ?hd (cs := #[.int .i64 0, .int .i64 0, .int .i64 0]) (t := 88) ?hr ?_; (case hd => rfl); (case hg => rfl); (case hr => first | (go_simp; done) | (go_simp; rfl)); intro gb572 hg w16 hbox hb; have n0_ := za.mk (zo (Zq1 HB.out) hb); have n1_ := za.mk (hbox); have n2_ := za.mk ((by rw [hg]; exact (zu (Zq1 HB.out)) : w.heap.size ≤ gb572)); have n3_ := za.mk ((by rw [hg]; exact (zu (Zq1 HB.out)) : w.heap.size ≤ gb572)); clear HB; have HB := n0_; have BK572 := n1_; have GW572 := n2_; have GE572 := n3_; clear n0_ n1_ n2_ n3_; clear hb hbox hg; have hcz17_0 : w16.cell? ⟨gb572, 0, none⟩ = some (.int .i64 0) := (zg BK572.out 0).trans rfl; have hcz17_1 : w16.cell? ⟨gb572, 1, none⟩ = some (.int .i64 0) := (zg BK572.out 1).trans rfl; have hcz17_2 : w16.cell? ⟨gb572, 2, none⟩ = some (.int .i64 0) := (zg BK572.out 2).trans rfl; have hfz17_0 := zf BK572.out 0; have hfz17_1 := zf BK572.out 1; have hfz17_2 := zf BK572.out 2)))
         go_roundg k2
         case measure => have := HJ1.out; have := HK2.out; omega
         case rel => exact ⟨(ji15), (wrap64 (x24_2 + 1)), (by first | rfl | (simp; done) | (simp only [← hji15] <;> (first | rfl | simp)) | (simp [*]; done)), Zrs, H', ⟨by have := HJ1.out; have := HK2.out; omega⟩, ⟨Zq3 HB.out GE572.out⟩⟩
        ·rw [if_neg c14] at H
         exact absurd H (by simp)
       ·rw [if_neg c13] at H
        exact absurd H (by simp)
      ·rw [if_neg c12] at H
       have c12b0 : decide (x24_2 < (l0.length : Int)) = false := decide_eq_false c12
       clear c12
       have H' := za.mk H
       clear H
       go_wp2
       repeat (go_quiet (fail); try go_wp2)
       go_loopg [35] k2 (fun kq v35 w' => ∃ (x35_3 : Int), v35 = .int .i64 x35_3 ∧ za (zh.l1 kq l0 x3_2 l0 (l0.length : Int) x35_3 = some r) ∧ za (kq ≤ k2) ∧ za (Below w.heap.size w w'))
       case atStart => exact ⟨(0), Zrs, H', ⟨Nat.le_refl _⟩, ⟨Zq1 HB.out⟩⟩
       case round =>
        clear H'
        try clear c1
        try clear c2
        try clear p2
        try clear c4
        try clear p5
        try clear q5
        try clear hx5
        try clear p6
        try clear c11
        try clear c12
        try clear c12b0
        try clear c13
        try clear c13b0
        try clear c14
        try clear c14b0
        try clear hcz17_0
        try clear hcz17_1
        try clear hcz17_2
        try clear hfz17_0
        try clear hfz17_1
        try clear hfz17_2
        try clear hx571_0
        try clear hx571_1
        try clear hx571_2
        try clear p2
        try clear p571
        try clear q571
        obtain ⟨x35_3, rfl, HA, HK3, HB⟩ := hrel
        cases gk with
        | zero => exact absurd HA.out (by simp [zh.l1])
        | succ k3 =>
         have H := HA.out
         clear HA
         simp only [zh.l1] at H
         by_cases c18 : x35_3 < (l0.length : Int)
         ·rw [if_pos c18] at H
          have c18b0 : decide (x35_3 < (l0.length : Int)) = true := decide_eq_true c18
          clear c18
          by_cases c19 : 0 ≤ x35_3
          ·rw [if_pos c19] at H
           have c19b0 : decide (0 ≤ x35_3) = true := decide_eq_true c19
           clear c19
           by_cases c20 : x35_3 < (l0.length : Int)
           ·rw [if_pos c20] at H
            have c20b0 : decide (x35_3 < (l0.length : Int)) = true := decide_eq_true c20
            clear c20
            have H' := za.mk H
            clear H
            have p573 : 0 ≤ (x35_3 : Int) := of_decide_eq_true Zas
            have q573 : x35_3 < (l0.length : Int) := of_decide_eq_true Zas
            obtain ⟨ad573, e573, hx573_0, hx573_1, hx573_2⟩ := zds HR0.out x35_3 p573 q573
            cases e573
            replace hx573_0 := (HB.out.cell (World.block_lt_of_cell? w _ hx573_0)).trans hx573_0
            replace hx573_1 := (HB.out.cell (World.block_lt_of_cell? w _ hx573_1)).trans hx573_1
            replace hx573_2 := (HB.out.cell (World.block_lt_of_cell? w _ hx573_2)).trans hx573_2
            replace p573 := eq_true p573
            replace q573 := eq_true q573
            go_wp2_with (first | ((with_reducible refine zbj (N := 7) rfl ?_); refine zbr ?hg (N := 7) ?hd (cs := #[.int .i64 0, .int .i64 0, .int .i64 0]) (t := 88) ?hr ?_; (case hd => rfl); (case hg => rfl); (case hr => first | (go_simp; done) | (go_simp; rfl)); intro gb574 hg w21 hbox hb; have n0_ := za.mk (zo (Zq1 HB.out) hb); have n1_ := za.mk (hbox); have n2_ := za.mk ((by rw [hg]; exact (zu (Zq1 HB.out)) : w.heap.size ≤ gb574)); have n3_ := za.mk ((by rw [hg]; exact (zu (Zq1 HB.out)) : w.heap.size ≤ gb574)); clear HB; have HB := n0_; have BK574 := n1_; have GW574 := n2_; have GE574 := n3_; clear n0_ n1_ n2_ n3_; clear hb hbox hg; have hcz22_0 : w21.cell? ⟨gb574, 0, none⟩ = some (.int .i64 0) := (zg BK574.out 0).trans rfl; have hcz22_1 : w21.cell? ⟨gb574, 1, none⟩ = some (.int .i64 0) := (zg BK574.out 1).trans rfl; have hcz22_2 : w21.cell? ⟨gb574, 2, none⟩ = some (.int .i64 0) := (zg BK574.out 2).trans rfl; have hfz22_0 := zf BK574.out 0; have hfz22_1 := zf BK574.out 1; have hfz22_2 := zf BK574.out 2))
            repeat (go_quiet (first | ((with_reducible refine zbj (N := 7) rfl ?_); refine zbr ?hg (N := 7) ?hd (cs := #[.int .i64 0, .int .i64 0, .int .i64 0]) (t := 88) ?hr ?_; (case hd => rfl); (case hg => rfl); (case hr => first | (go_simp; done) | (go_simp; rfl)); intro gb574 hg w21 hbox hb; have n0_ := za.mk (zo (Zq1 HB.out) hb); have n1_ := za.mk (hbox); have n2_ := za.mk ((by rw [hg]; exact (zu (Zq1 HB.out)) : w.heap.size ≤ gb574)); have n3_ := za.mk ((by rw [hg]; exact (zu (Zq1 HB.out)) : w.heap.size ≤ gb574)); clear HB; have HB := n0_; have BK574 := n1_; have GW574 := n2_; have GE574 := n3_; clear n0_ n1_ n2_ n3_; clear hb hbox hg; have hcz22_0 : w21.cell? ⟨gb574, 0, none⟩ = some (.int .i64 0) := (zg BK574.out 0).trans rfl; have hcz22_1 : w21.cell? ⟨gb574, 1, none⟩ = some (.int .i64 0) := (zg BK574.out 1).trans rfl; have hcz22_2 : w21.cell? ⟨gb574, 2, none⟩ = some (.int .i64 0) := (zg BK574.out 2).trans rfl; have hfz22_0 := zf BK574.out 0; have hfz22_1 := zf BK574.out 1; have hfz22_2 := zf BK574.out 2)); try go_wp2_with (first | ((with_reducible refine zbj (N := 7) rfl ?_); refine zbr ?hg (N := 7) ?hd (cs := #[.int .i64 0, .int .i64 0, .int .i64 0]) (t := 88) ?hr ?_; (case hd => rfl); (case hg => rfl); (case hr => first | (go_simp; done) | (go_simp; rfl)); intro gb574 hg w21 hbox hb; have n0_ := za.mk (zo (Zq1 HB.out) hb); have n1_ := za.mk (hbox); have n2_ := za.mk ((by rw [hg]; exact (zu (Zq1 HB.out)) : w.heap.size ≤ gb574)); have n3_ := za.mk ((by rw [hg]; exact (zu (Zq1 HB.out)) : w.heap.size ≤ gb574)); clear HB; have HB := n0_; have BK574 := n1_; have GW574 := n2_; have GE574 := n3_; clear n0_ n1_ n2_ n3_; clear hb hbox hg; have hcz22_0 : w21.cell? ⟨gb574, 0, none⟩ = some (.int .i64 0) := (zg BK574.out 0).trans rfl; have hcz22_1 : w21.cell? ⟨gb574, 1, none⟩ = some (.int .i64 0) := (zg BK574.out 1).trans rfl; have hcz22_2 : w21.cell? ⟨gb574, 2, none⟩ = some (.int .i64 0) := (zg BK574.out 2).trans rfl; have hfz22_0 := zf BK574.out 0; have hfz22_1 := zf BK574.out 1; have hfz22_2 := zf BK574.out 2)))
            go_loopg [8] k3 (fun kq v8 w' => ∃ (x8_4 : Int), v8 = .int .i64 x8_4 ∧ za (zh.l2 kq l0 x3_2 x8_4 l0 (l0.length : Int) x35_3 ((zl l0 x35_3).f0) ((zl l0 x35_3).f1) ((zl l0 x35_3).f2) = some r) ∧ za (kq ≤ k3) ∧ za (w'.heap[gb574]? = some (.cells #[.int .i64 ((zl l0 x35_3).f0), .int .i64 ((zl l0 x35_3).f1), .int .i64 ((zl l0 x35_3).f2)] 88 (0, 0))) ∧ za (Below w.heap.size w w'))
            case atStart => exact ⟨(wrap64 (x3_2 + 1)), Zrs, H', ⟨Nat.le_refl _⟩, ⟨by (with_reducible repeat (first | refine zz ?_ _ | refine z8 ?_ | refine zy ?_ _)); refine zb2 (cs := #[.int .i64 ((zl l0 x35_3).f0), .int .i64 ((zl l0 x35_3).f1), .int .i64 0]) ?_ 2 _ rfl; (with_reducible repeat (first | refine zz ?_ _ | refine z8 ?_ | refine zy ?_ _)); refine zb2 (cs := #[.int .i64 ((zl l0 x35_3).f0), .int .i64 0, .int .i64 0]) ?_ 1 _ rfl; (with_reducible repeat (first | refine zz ?_ _ | refine z8 ?_ | refine zy ?_ _)); refine zb2 (cs := #[.int .i64 0, .int .i64 0, .int .i64 0]) ?_ 0 _ rfl; (with_reducible repeat (first | refine zz ?_ _ | refine z8 ?_ | refine zy ?_ _)); exact BK574.out⟩, ⟨Zq3 HB.out GE574.out⟩⟩
            case round =>
             clear H'
             try clear c1
             try clear c2
             try clear p2
             try clear c4
             try clear p5
             try clear q5
             try clear hx5
             try clear p6
             try clear c11
             try clear c12
             try clear c12b0
             try clear c13
             try clear c13b0
             try clear c14
             try clear c14b0
             try clear c18
             try clear c18b0
             try clear c19
             try clear c19b0
             try clear c20
             try clear c20b0
             try clear hcz17_0
             try clear hcz17_1
             try clear hcz17_2
             try clear hcz22_0
             try clear hcz22_1
             try clear hcz22_2
             try clear hfz17_0
             try clear hfz17_1
             try clear hfz17_2
             try clear hfz22_0
             try clear hfz22_1
             try clear hfz22_2
             try clear hx571_0
             try clear hx571_1
             try clear hx571_2
             try clear hx573_0
             try clear hx573_1
             try clear hx573_2
             try clear p2
             try clear p5
             try clear p571
             try clear p573
             try clear p6
             try clear q5
             try clear q571
             try clear q573
             obtain ⟨x8_4, rfl, HA, HK4, BK574, HB⟩ := hrel
             cases gk with
             | zero => exact absurd HA.out (by simp [zh.l2])
             | succ k4 =>
              have H := HA.out
              clear HA
              simp only [zh.l2] at H
              by_cases c23 : x8_4 < ((zl l0 x35_3).f2)
              ·rw [if_pos c23] at H
               have c23b0 : decide (x8_4 < ((zl l0 x35_3).f2)) = true := decide_eq_true c23
               clear c23
               have H' := za.mk H
               clear H
               have hcz24_0 : wr.cell? ⟨gb574, 0, none⟩ = some (.int .i64 ((zl l0 x35_3).f0)) := (zg BK574.out 0).trans rfl
               have hcz24_1 : wr.cell? ⟨gb574, 1, none⟩ = some (.int .i64 ((zl l0 x35_3).f1)) := (zg BK574.out 1).trans rfl
               have hcz24_2 : wr.cell? ⟨gb574, 2, none⟩ = some (.int .i64 ((zl l0 x35_3).f2)) := (zg BK574.out 2).trans rfl
               have hfz24_0 := zf BK574.out 0
               have hfz24_1 := zf BK574.out 1
               have hfz24_2 := zf BK574.out 2
               go_wp2
               repeat (go_quiet (fail); try go_wp2)
               go_loopg [9, 51] k4 (fun kq v9 v51 w' => ∃ (x9_5 : Int) (x51_5 : Int), v9 = .int .i64 x9_5 ∧ v51 = .int .i64 x51_5 ∧ za (zh.l3 kq l0 x3_2 x8_4 x9_5 l0 (l0.length : Int) x35_3 l0 (l0.length : Int) x51_5 ((zl l0 x35_3).f0) ((zl l0 x35_3).f1) ((zl l0 x35_3).f2) = some r) ∧ za (kq ≤ k4) ∧ za (w'.heap[gb574]? = some (.cells #[.int .i64 ((zl l0 x35_3).f0), .int .i64 ((zl l0 x35_3).f1), .int .i64 ((zl l0 x35_3).f2)] 88 (0, 0))) ∧ za (Below w.heap.size w w'))
               case atStart => exact ⟨(((zl l0 x35_3).f0)), (0), Zrs, Zrs, H', ⟨Nat.le_refl _⟩, ⟨Zq2 BK574.out⟩, ⟨Zq3 HB.out GE574.out⟩⟩
               case round =>
                clear H'
                try clear c1
                try clear c2
                try clear p2
                try clear c4
                try clear p5
                try clear q5
                try clear hx5
                try clear p6
                try clear c11
                try clear c12
                try clear c12b0
                try clear c13
                try clear c13b0
                try clear c14
                try clear c14b0
                try clear c18
                try clear c18b0
                try clear c19
                try clear c19b0
                try clear c20
                try clear c20b0
                try clear c23
                try clear c23b0
                try clear hcz17_0
                try clear hcz17_1
                try clear hcz17_2
                try clear hcz22_0
                try clear hcz22_1
                try clear hcz22_2
                try clear hcz24_0
                try clear hcz24_1
                try clear hcz24_2
                try clear hfz17_0
                try clear hfz17_1
                try clear hfz17_2
                try clear hfz22_0
                try clear hfz22_1
                try clear hfz22_2
                try clear hfz24_0
                try clear hfz24_1
                try clear hfz24_2
                try clear hx571_0
                try clear hx571_1
                try clear hx571_2
                try clear hx573_0
                try clear hx573_1
                try clear hx573_2
                try clear p2
                try clear p5
                try clear p571
                try clear p573
                try clear p6
                try clear q5
                try clear q571
                try clear q573
                obtain ⟨x9_5, x51_5, rfl, rfl, HA, HK5, BK574, HB⟩ := hrel
                cases gk with
                | zero => exact absurd HA.out (by simp [zh.l3])
                | succ k5 =>
                 have H := HA.out
                 clear HA
                 simp only [zh.l3] at H
                 by_cases c25 : x51_5 < (l0.length : Int)
                 ·rw [if_pos c25] at H
                  have c25b0 : decide (x51_5 < (l0.length : Int)) = true := decide_eq_true c25
                  clear c25
                  by_cases c26 : 0 ≤ x51_5
                  ·rw [if_pos c26] at H
                   have c26b0 : decide (0 ≤ x51_5) = true := decide_eq_true c26
                   clear c26
                   by_cases c27 : x51_5 < (l0.length : Int)
                   ·rw [if_pos c27] at H
                    have c27b0 : decide (x51_5 < (l0.length : Int)) = true := decide_eq_true c27
                    clear c27
                    by_cases c28 : ((zl l0 x51_5).f2) < ((zl l0 x35_3).f2)
                    ·rw [if_pos c28] at H
                     have c28b0 : decide (((zl l0 x51_5).f2) < ((zl l0 x35_3).f2)) = true := decide_eq_true c28
                     clear c28
                     by_cases c29 : ((zl l0 x51_5).f2) = 0
                     ·rw [if_pos c29] at H
                      exact absurd H (by simp)
                     ·rw [if_neg c29] at H
                      have c29b0 : (((zl l0 x51_5).f2) == 0) = false := beq_eq_false_iff_ne.mpr c29
                      have c29b1 : (((zl l0 x51_5).f2) != 0) = true := bne_iff_ne.mpr c29
                      have H' := za.mk H
                      clear H
                      have p575 : 0 ≤ (x51_5 : Int) := of_decide_eq_true Zas
                      have q575 : x51_5 < (l0.length : Int) := of_decide_eq_true Zas
                      obtain ⟨ad575, e575, hx575_0, hx575_1, hx575_2⟩ := zds HR0.out x51_5 p575 q575
                      obtain rfl : ad573 = ad575 := (by injection e575)
                      replace hx575_0 := (HB.out.cell (World.block_lt_of_cell? w _ hx575_0)).trans hx575_0
                      replace hx575_1 := (HB.out.cell (World.block_lt_of_cell? w _ hx575_1)).trans hx575_1
                      replace hx575_2 := (HB.out.cell (World.block_lt_of_cell? w _ hx575_2)).trans hx575_2
                      replace p575 := eq_true p575
                      replace q575 := eq_true q575
                      go_wp2_with (first | ((with_reducible refine zbj (N := 11) rfl ?_); refine zbr ?hg (N := 11) ?hd (cs := #[.int .i64 0, .int .i64 0, .int .i64 0]) (t := 88) ?hr ?_; (case hd => rfl); (case hg => rfl); (case hr => first | (go_simp; done) | (go_simp; rfl)); intro gb576 hg w30 hbox hb; have n0_ := za.mk (zbn (g := gb574) (o := .cells #[.int .i64 ((zl l0 x35_3).f0), .int .i64 ((zl l0 x35_3).f1), .int .i64 ((zl l0 x35_3).f2)] 88 (0, 0)) (Zq2 BK574.out) hb); have n1_ := za.mk (zo (Zq3 HB.out GE574.out) hb); have n2_ := za.mk (hbox); have n3_ := za.mk ((by rw [hg]; exact (zu (Zq3 HB.out GE574.out)) : w.heap.size ≤ gb576)); have n4_ := za.mk ((by rw [hg]; exact (zu (Zq3 HB.out GE574.out)) : w.heap.size ≤ gb576)); have n5_ := za.mk ((by rw [hg]; exact Nat.ne_of_lt (zcz (g := gb574) (o := .cells #[.int .i64 ((zl l0 x35_3).f0), .int .i64 ((zl l0 x35_3).f1), .int .i64 ((zl l0 x35_3).f2)] 88 (0, 0)) (Zq2 BK574.out)) : gb574 ≠ gb576)); have n6_ := za.mk ((by rw [hg]; exact Nat.ne_of_gt (zcz (g := gb574) (o := .cells #[.int .i64 ((zl l0 x35_3).f0), .int .i64 ((zl l0 x35_3).f1), .int .i64 ((zl l0 x35_3).f2)] 88 (0, 0)) (Zq2 BK574.out)) : gb576 ≠ gb574)); clear BK574; clear HB; have BK574 := n0_; have HB := n1_; have BK576 := n2_; have GW576 := n3_; have GE576 := n4_; have NB574_576 := n5_; have NB576_574 := n6_; clear n0_ n1_ n2_ n3_ n4_ n5_ n6_; clear hb hbox hg; have hnb31 := NB576_574.out; have hnc31 := NB574_576.out; have hcz32_0 : w30.cell? ⟨gb576, 0, none⟩ = some (.int .i64 0) := (zg BK576.out 0).trans rfl; have hcz32_1 : w30.cell? ⟨gb576, 1, none⟩ = some (.int .i64 0) := (zg BK576.out 1).trans rfl; have hcz32_2 : w30.cell? ⟨gb576, 2, none⟩ = some (.int .i64 0) := (zg BK576.out 2).trans rfl; have hfz32_0 := zf BK576.out 0; have hfz32_1 := zf BK576.out 1; have hfz32_2 := zf BK576.out 2; have hcz33_0 : w30.cell? ⟨gb574, 0, none⟩ = some (.int .i64 ((zl l0 x35_3).f0)) := (zg BK574.out 0).trans rfl; have hcz33_1 : w30.cell? ⟨gb574, 1, none⟩ = some (.int .i64 ((zl l0 x35_3).f1)) := (zg BK574.out 1).trans rfl; have hcz33_2 : w30.cell? ⟨gb574, 2, none⟩ = some (.int .i64 ((zl l0 x35_3).f2)) := (zg BK574.out 2).trans rfl; have hfz33_0 := zf BK574.out 0; have hfz33_1 := zf BK574.out 1; have hfz33_2 := zf BK574.out 2))
                      repeat (go_quiet (first | ((with_reducible refine zbj (N := 11) rfl ?_); refine zbr ?hg (N := 11) ?hd (cs := #[.int .i64 0, .int .i64 0, .int .i64 0]) (t := 88) ?hr ?_; (case hd => rfl); (case hg => rfl); (case hr => first | (go_simp; done) | (go_simp; rfl)); intro gb576 hg w30 hbox hb; have n0_ := za.mk (zbn (g := gb574) (o := .cells #[.int .i64 ((zl l0 x35_3).f0), .int .i64 ((zl l0 x35_3).f1), .int .i64 ((zl l0 x35_3).f2)] 88 (0, 0)) (Zq2 BK574.out) hb); have n1_ := za.mk (zo (Zq3 HB.out GE574.out) hb); have n2_ := za.mk (hbox); have n3_ := za.mk ((by rw [hg]; exact (zu (Zq3 HB.out GE574.out)) : w.heap.size ≤ gb576)); have n4_ := za.mk ((by rw [hg]; exact (zu (Zq3 HB.out GE574.out)) : w.heap.size ≤ gb576)); have n5_ := za.mk ((by rw [hg]; exact Nat.ne_of_lt (zcz (g := gb574) (o := .cells #[.int .i64 ((zl l0 x35_3).f0), .int .i64 ((zl l0 x35_3).f1), .int .i64 ((zl l0 x35_3).f2)] 88 (0, 0)) (Zq2 BK574.out)) : gb574 ≠ gb576)); have n6_ := za.mk ((by rw [hg]; exact Nat.ne_of_gt (zcz (g := gb574) (o := .cells #[.int .i64 ((zl l0 x35_3).f0), .int .i64 ((zl l0 x35_3).f1), .int .i64 ((zl l0 x35_3).f2)] 88 (0, 0)) (Zq2 BK574.out)) : gb576 ≠ gb574)); clear BK574; clear HB; have BK574 := n0_; have HB := n1_; have BK576 := n2_; have GW576 := n3_; have GE576 := n4_; have NB574_576 := n5_; have NB576_574 := n6_; clear n0_ n1_ n2_ n3_ n4_ n5_ n6_; clear hb hbox hg; have hnb31 := NB576_574.out; have hnc31 := NB574_576.out; have hcz32_0 : w30.cell? ⟨gb576, 0, none⟩ = some (.int .i64 0) := (zg BK576.out 0).trans rfl; have hcz32_1 : w30.cell? ⟨gb576, 1, none⟩ = some (.int .i64 0) := (zg BK576.out 1).trans rfl; have hcz32_2 : w30.cell? ⟨gb576, 2, none⟩ = some (.int .i64 0) := (zg BK576.out 2).trans rfl; have hfz32_0 := zf BK576.out 0; have hfz32_1 := zf BK576.out 1; have hfz32_2 := zf BK576.out 2; have hcz33_0 : w30.cell? ⟨gb574, 0, none⟩ = some (.int .i64 ((zl l0 x35_3).f0)) := (zg BK574.out 0).trans rfl; have hcz33_1 : w30.cell? ⟨gb574, 1, none⟩ = some (.int .i64 ((zl l0 x35_3).f1)) := (zg BK574.out 1).trans rfl; have hcz33_2 : w30.cell? ⟨gb574, 2, none⟩ = some (.int .i64 ((zl l0 x35_3).f2)) := (zg BK574.out 2).trans rfl; have hfz33_0 := zf BK574.out 0; have hfz33_1 := zf BK574.out 1; have hfz33_2 := zf BK574.out 2)); try go_wp2_with (first | ((with_reducible refine zbj (N := 11) rfl ?_); refine zbr ?hg (N := 11) ?hd (cs := #[.int .i64 0, .int .i64 0, .int .i64 0]) (t := 88) ?hr ?_; (case hd => rfl); (case hg => rfl); (case hr => first | (go_simp; done) | (go_simp; rfl)); intro gb576 hg w30 hbox hb; have n0_ := za.mk (zbn (g := gb574) (o := .cells #[.int .i64 ((zl l0 x35_3).f0), .int .i64 ((zl l0 x35_3).f1), .int .i64 ((zl l0 x35_3).f2)] 88 (0, 0)) (Zq2 BK574.out) hb); have n1_ := za.mk (zo (Zq3 HB.out GE574.out) hb); have n2_ := za.mk (hbox); have n3_ := za.mk ((by rw [hg]; exact (zu (Zq3 HB.out GE574.out)) : w.heap.size ≤ gb576)); have n4_ := za.mk ((by rw [hg]; exact (zu (Zq3 HB.out GE574.out)) : w.heap.size ≤ gb576)); have n5_ := za.mk ((by rw [hg]; exact Nat.ne_of_lt (zcz (g := gb574) (o := .cells #[.int .i64 ((zl l0 x35_3).f0), .int .i64 ((zl l0 x35_3).f1), .int .i64 ((zl l0 x35_3).f2)] 88 (0, 0)) (Zq2 BK574.out)) : gb574 ≠ gb576)); have n6_ := za.mk ((by rw [hg]; exact Nat.ne_of_gt (zcz (g := gb574) (o := .cells #[.int .i64 ((zl l0 x35_3).f0), .int .i64 ((zl l0 x35_3).f1), .int .i64 ((zl l0 x35_3).f2)] 88 (0, 0)) (Zq2 BK574.out)) : gb576 ≠ gb574)); clear BK574; clear HB; have BK574 := n0_; have HB := n1_; have BK576 := n2_; have GW576 := n3_; have GE576 := n4_; have NB574_576 := n5_; have NB576_574 := n6_; clear n0_ n1_ n2_ n3_ n4_ n5_ n6_; clear hb hbox hg; have hnb31 := NB576_574.out; have hnc31 := NB574_576.out; have hcz32_0 : w30.cell? ⟨gb576, 0, none⟩ = some (.int .i64 0) := (zg BK576.out 0).trans rfl; have hcz32_1 : w30.cell? ⟨gb576, 1, none⟩ = some (.int .i64 0) := (zg BK576.out 1).trans rfl; have hcz32_2 : w30.cell? ⟨gb576, 2, none⟩ = some (.int .i64 0) := (zg BK576.out 2).trans rfl; have hfz32_0 := zf BK576.out 0; have hfz32_1 := zf BK576.out 1; have hfz32_2 := zf BK576.out 2; have hcz33_0 : w30.cell? ⟨gb574, 0, none⟩ = some (.int .i64 ((zl l0 x35_3).f0)) := (zg BK574.out 0).trans rfl; have hcz33_1 : w30.cell? ⟨gb574, 1, none⟩ = some (.int .i64 ((zl l0 x35_3).f1)) := (zg BK574.out 1).trans rfl; have hcz33_2 : w30.cell? ⟨gb574, 2, none⟩ = some (.int .i64 ((zl l0 x35_3).f2)) := (zg BK574.out 2).trans rfl; have hfz33_0 := zf BK574.out 0; have hfz33_1 := zf BK574.out 1; have hfz33_2 := zf BK574.out 2)))
                      go_roundg k5
                      case measure => have := HJ1.out; have := HK2.out; have := HK3.out; have := HK4.out; have := HK5.out; omega
                      case rel => exact ⟨(wrap64 (x9_5 + (wrap64 ((wrap64 (Int.tdiv (wrap64 (x8_4 - 1)) ((zl l0 x51_5).f2))) * ((zl l0 x51_5).f0))))), (wrap64 (x51_5 + 1)), Zrs, Zrs, H', ⟨by have := HJ1.out; have := HK2.out; have := HK3.out; have := HK4.out; have := HK5.out; omega⟩, ⟨by (with_reducible repeat (first | refine zz ?_ _ | refine z8 ?_ | refine zy ?_ _)); refine zco ?_ NB574_576.out _; (with_reducible repeat (first | refine zz ?_ _ | refine z8 ?_ | refine zy ?_ _)); refine zco ?_ NB574_576.out _; (with_reducible repeat (first | refine zz ?_ _ | refine z8 ?_ | refine zy ?_ _)); refine zco ?_ NB574_576.out _; (with_reducible repeat (first | refine zz ?_ _ | refine z8 ?_ | refine zy ?_ _)); exact BK574.out⟩, ⟨Zq9 HB.out GE574.out GE576.out⟩⟩
                    ·rw [if_neg c28] at H
                     have c28b0 : decide (((zl l0 x51_5).f2) < ((zl l0 x35_3).f2)) = false := decide_eq_false c28
                     clear c28
                     have H' := za.mk H
                     clear H
                     have p575 : 0 ≤ (x51_5 : Int) := of_decide_eq_true Zas
                     have q575 : x51_5 < (l0.length : Int) := of_decide_eq_true Zas
                     obtain ⟨ad575, e575, hx575_0, hx575_1, hx575_2⟩ := zds HR0.out x51_5 p575 q575
                     obtain rfl : ad573 = ad575 := (by injection e575)
                     replace hx575_0 := (HB.out.cell (World.block_lt_of_cell? w _ hx575_0)).trans hx575_0
                     replace hx575_1 := (HB.out.cell (World.block_lt_of_cell? w _ hx575_1)).trans hx575_1
                     replace hx575_2 := (HB.out.cell (World.block_lt_of_cell? w _ hx575_2)).trans hx575_2
                     replace p575 := eq_true p575
                     replace q575 := eq_true q575
                     go_wp2_with (first | ((with_reducible refine zbj (N := 11) rfl ?_); refine zbr ?hg (N := 11) ?hd (cs := #[.int .i64 0, .int .i64 0, .int .i64 0]) (t := 88) ?hr ?_; (case hd => rfl); (case hg => rfl); (case hr => first | (go_simp; done) | (go_simp; rfl)); intro gb576 hg w34 hbox hb; have n0_ := za.mk (zbn (g := gb574) (o := .cells #[.int .i64 ((zl l0 x35_3).f0), .int .i64 ((zl l0 x35_3).f1), .int .i64 ((zl l0 x35_3).f2)] 88 (0, 0)) (Zq2 BK574.out) hb); have n1_ := za.mk (zo (Zq3 HB.out GE574.out) hb); have n2_ := za.mk (hbox); have n3_ := za.mk ((by rw [hg]; exact (zu (Zq3 HB.out GE574.out)) : w.heap.size ≤ gb576)); have n4_ := za.mk ((by rw [hg]; exact (zu (Zq3 HB.out GE574.out)) : w.heap.size ≤ gb576)); have n5_ := za.mk ((by rw [hg]; exact Nat.ne_of_lt (zcz (g := gb574) (o := .cells #[.int .i64 ((zl l0 x35_3).f0), .int .i64 ((zl l0 x35_3).f1), .int .i64 ((zl l0 x35_3).f2)] 88 (0, 0)) (Zq2 BK574.out)) : gb574 ≠ gb576)); have n6_ := za.mk ((by rw [hg]; exact Nat.ne_of_gt (zcz (g := gb574) (o := .cells #[.int .i64 ((zl l0 x35_3).f0), .int .i64 ((zl l0 x35_3).f1), .int .i64 ((zl l0 x35_3).f2)] 88 (0, 0)) (Zq2 BK574.out)) : gb576 ≠ gb574)); clear BK574; clear HB; have BK574 := n0_; have HB := n1_; have BK576 := n2_; have GW576 := n3_; have GE576 := n4_; have NB574_576 := n5_; have NB576_574 := n6_; clear n0_ n1_ n2_ n3_ n4_ n5_ n6_; clear hb hbox hg; have hnb35 := NB576_574.out; have hnc35 := NB574_576.out; have hcz36_0 : w34.cell? ⟨gb576, 0, none⟩ = some (.int .i64 0) := (zg BK576.out 0).trans rfl; have hcz36_1 : w34.cell? ⟨gb576, 1, none⟩ = some (.int .i64 0) := (zg BK576.out 1).trans rfl; have hcz36_2 : w34.cell? ⟨gb576, 2, none⟩ = some (.int .i64 0) := (zg BK576.out 2).trans rfl; have hfz36_0 := zf BK576.out 0; have hfz36_1 := zf BK576.out 1; have hfz36_2 := zf BK576.out 2; have hcz37_0 : w34.cell? ⟨gb574, 0, none⟩ = some (.int .i64 ((zl l0 x35_3).f0)) := (zg BK574.out 0).trans rfl; have hcz37_1 : w34.cell? ⟨gb574, 1, none⟩ = some (.int .i64 ((zl l0 x35_3).f1)) := (zg BK574.out 1).trans rfl; have hcz37_2 : w34.cell? ⟨gb574, 2, none⟩ = some (.int .i64 ((zl l0 x35_3).f2)) := (zg BK574.out 2).trans rfl; have hfz37_0 := zf BK574.out 0; have hfz37_1 := zf BK574.out 1; have hfz37_2 := zf BK574.out 2))
                     repeat (go_quiet (first | ((with_reducible refine zbj (N := 11) rfl ?_); refine zbr ?hg (N := 11) ?hd (cs := #[.int .i64 0, .int .i64 0, .int .i64 0]) (t := 88) ?hr ?_; (case hd => rfl); (case hg => rfl); (case hr => first | (go_simp; done) | (go_simp; rfl)); intro gb576 hg w34 hbox hb; have n0_ := za.mk (zbn (g := gb574) (o := .cells #[.int .i64 ((zl l0 x35_3).f0), .int .i64 ((zl l0 x35_3).f1), .int .i64 ((zl l0 x35_3).f2)] 88 (0, 0)) (Zq2 BK574.out) hb); have n1_ := za.mk (zo (Zq3 HB.out GE574.out) hb); have n2_ := za.mk (hbox); have n3_ := za.mk ((by rw [hg]; exact (zu (Zq3 HB.out GE574.out)) : w.heap.size ≤ gb576)); have n4_ := za.mk ((by rw [hg]; exact (zu (Zq3 HB.out GE574.out)) : w.heap.size ≤ gb576)); have n5_ := za.mk ((by rw [hg]; exact Nat.ne_of_lt (zcz (g := gb574) (o := .cells #[.int .i64 ((zl l0 x35_3).f0), .int .i64 ((zl l0 x35_3).f1), .int .i64 ((zl l0 x35_3).f2)] 88 (0, 0)) (Zq2 BK574.out)) : gb574 ≠ gb576)); have n6_ := za.mk ((by rw [hg]; exact Nat.ne_of_gt (zcz (g := gb574) (o := .cells #[.int .i64 ((zl l0 x35_3).f0), .int .i64 ((zl l0 x35_3).f1), .int .i64 ((zl l0 x35_3).f2)] 88 (0, 0)) (Zq2 BK574.out)) : gb576 ≠ gb574)); clear BK574; clear HB; have BK574 := n0_; have HB := n1_; have BK576 := n2_; have GW576 := n3_; have GE576 := n4_; have NB574_576 := n5_; have NB576_574 := n6_; clear n0_ n1_ n2_ n3_ n4_ n5_ n6_; clear hb hbox hg; have hnb35 := NB576_574.out; have hnc35 := NB574_576.out; have hcz36_0 : w34.cell? ⟨gb576, 0, none⟩ = some (.int .i64 0) := (zg BK576.out 0).trans rfl; have hcz36_1 : w34.cell? ⟨gb576, 1, none⟩ = some (.int .i64 0) := (zg BK576.out 1).trans rfl; have hcz36_2 : w34.cell? ⟨gb576, 2, none⟩ = some (.int .i64 0) := (zg BK576.out 2).trans rfl; have hfz36_0 := zf BK576.out 0; have hfz36_1 := zf BK576.out 1; have hfz36_2 := zf BK576.out 2; have hcz37_0 : w34.cell? ⟨gb574, 0, none⟩ = some (.int .i64 ((zl l0 x35_3).f0)) := (zg BK574.out 0).trans rfl; have hcz37_1 : w34.cell? ⟨gb574, 1, none⟩ = some (.int .i64 ((zl l0 x35_3).f1)) := (zg BK574.out 1).trans rfl; have hcz37_2 : w34.cell? ⟨gb574, 2, none⟩ = some (.int .i64 ((zl l0 x35_3).f2)) := (zg BK574.out 2).trans rfl; have hfz37_0 := zf BK574.out 0; have hfz37_1 := zf BK574.out 1; have hfz37_2 := zf BK574.out 2)); try go_wp2_with (first | ((with_reducible refine zbj (N := 11) rfl ?_); refine zbr ?hg (N := 11) ?hd (cs := #[.int .i64 0, .int .i64 0, .int .i64 0]) (t := 88) ?hr ?_; (case hd => rfl); (case hg => rfl); (case hr => first | (go_simp; done) | (go_simp; rfl)); intro gb576 hg w34 hbox hb; have n0_ := za.mk (zbn (g := gb574) (o := .cells #[.int .i64 ((zl l0 x35_3).f0), .int .i64 ((zl l0 x35_3).f1), .int .i64 ((zl l0 x35_3).f2)] 88 (0, 0)) (Zq2 BK574.out) hb); have n1_ := za.mk (zo (Zq3 HB.out GE574.out) hb); have n2_ := za.mk (hbox); have n3_ := za.mk ((by rw [hg]; exact (zu (Zq3 HB.out GE574.out)) : w.heap.size ≤ gb576)); have n4_ := za.mk ((by rw [hg]; exact (zu (Zq3 HB.out GE574.out)) : w.heap.size ≤ gb576)); have n5_ := za.mk ((by rw [hg]; exact Nat.ne_of_lt (zcz (g := gb574) (o := .cells #[.int .i64 ((zl l0 x35_3).f0), .int .i64 ((zl l0 x35_3).f1), .int .i64 ((zl l0 x35_3).f2)] 88 (0, 0)) (Zq2 BK574.out)) : gb574 ≠ gb576)); have n6_ := za.mk ((by rw [hg]; exact Nat.ne_of_gt (zcz (g := gb574) (o := .cells #[.int .i64 ((zl l0 x35_3).f0), .int .i64 ((zl l0 x35_3).f1), .int .i64 ((zl l0 x35_3).f2)] 88 (0, 0)) (Zq2 BK574.out)) : gb576 ≠ gb574)); clear BK574; clear HB; have BK574 := n0_; have HB := n1_; have BK576 := n2_; have GW576 := n3_; have GE576 := n4_; have NB574_576 := n5_; have NB576_574 := n6_; clear n0_ n1_ n2_ n3_ n4_ n5_ n6_; clear hb hbox hg; have hnb35 := NB576_574.out; have hnc35 := NB574_576.out; have hcz36_0 : w34.cell? ⟨gb576, 0, none⟩ = some (.int .i64 0) := (zg BK576.out 0).trans rfl; have hcz36_1 : w34.cell? ⟨gb576, 1, none⟩ = some (.int .i64 0) := (zg BK576.out 1).trans rfl; have hcz36_2 : w34.cell? ⟨gb576, 2, none⟩ = some (.int .i64 0) := (zg BK576.out 2).trans rfl; have hfz36_0 := zf BK576.out 0; have hfz36_1 := zf BK576.out 1; have hfz36_2 := zf BK576.out 2; have hcz37_0 : w34.cell? ⟨gb574, 0, none⟩ = some (.int .i64 ((zl l0 x35_3).f0)) := (zg BK574.out 0).trans rfl; have hcz37_1 : w34.cell? ⟨gb574, 1, none⟩ = some (.int .i64 ((zl l0 x35_3).f1)) := (zg BK574.out 1).trans rfl; have hcz37_2 : w34.cell? ⟨gb574, 2, none⟩ = some (.int .i64 ((zl l0 x35_3).f2)) := (zg BK574.out 2).trans rfl; have hfz37_0 := zf BK574.out 0; have hfz37_1 := zf BK574.out 1; have hfz37_2 := zf BK574.out 2)))
                     go_roundg k5
                     case measure => have := HJ1.out; have := HK2.out; have := HK3.out; have := HK4.out; have := HK5.out; omega
                     case rel => exact ⟨(x9_5), (wrap64 (x51_5 + 1)), Zrs, Zrs, H', ⟨by have := HJ1.out; have := HK2.out; have := HK3.out; have := HK4.out; have := HK5.out; omega⟩, ⟨by (with_reducible repeat (first | refine zz ?_ _ | refine z8 ?_ | refine zy ?_ _)); refine zco ?_ NB574_576.out _; (with_reducible repeat (first | refine zz ?_ _ | refine z8 ?_ | refine zy ?_ _)); refine zco ?_ NB574_576.out _; (with_reducible repeat (first | refine zz ?_ _ | refine z8 ?_ | refine zy ?_ _)); refine zco ?_ NB574_576.out _; (with_reducible repeat (first | refine zz ?_ _ | refine z8 ?_ | refine zy ?_ _)); exact BK574.out⟩, ⟨Zq9 HB.out GE574.out GE576.out⟩⟩
                   ·rw [if_neg c27] at H
                    exact absurd H (by simp)
                  ·rw [if_neg c26] at H
                   exact absurd H (by simp)
                 ·rw [if_neg c25] at H
                  have c25b0 : decide (x51_5 < (l0.length : Int)) = false := decide_eq_false c25
                  clear c25
                  by_cases c38 : x9_5 > x8_4
                  ·rw [if_pos c38] at H
                   have c38b0 : decide (x8_4 < x9_5) = true := decide_eq_true c38
                   clear c38
                   obtain rfl := Option.some.inj H
                   go_wp2
                   repeat (go_quiet (fail); try go_wp2)
                   go_ret
                   exact ⟨by first | rfl | (simp [zw, zx] <;> rfl) | (simp [*, zw, zx] <;> rfl), Zq3 HB.out GE574.out⟩
                  ·rw [if_neg c38] at H
                   have c38b0 : decide (x8_4 < x9_5) = false := decide_eq_false c38
                   clear c38
                   have H' := za.mk H
                   clear H
                   go_wp2
                   repeat (go_quiet (fail); try go_wp2)
                   go_roundg k5
                   case measure => have := HJ1.out; have := HK2.out; have := HK3.out; have := HK4.out; have := HK5.out; omega
                   case rel => exact ⟨(wrap64 (x8_4 + 1)), Zrs, H', ⟨by have := HJ1.out; have := HK2.out; have := HK3.out; have := HK4.out; have := HK5.out; omega⟩, ⟨Zq2 BK574.out⟩, ⟨Zq3 HB.out GE574.out⟩⟩
              ·rw [if_neg c23] at H
               have c23b0 : decide (x8_4 < ((zl l0 x35_3).f2)) = false := decide_eq_false c23
               clear c23
               have H' := za.mk H
               clear H
               have hcz39_0 : wr.cell? ⟨gb574, 0, none⟩ = some (.int .i64 ((zl l0 x35_3).f0)) := (zg BK574.out 0).trans rfl
               have hcz39_1 : wr.cell? ⟨gb574, 1, none⟩ = some (.int .i64 ((zl l0 x35_3).f1)) := (zg BK574.out 1).trans rfl
               have hcz39_2 : wr.cell? ⟨gb574, 2, none⟩ = some (.int .i64 ((zl l0 x35_3).f2)) := (zg BK574.out 2).trans rfl
               have hfz39_0 := zf BK574.out 0
               have hfz39_1 := zf BK574.out 1
               have hfz39_2 := zf BK574.out 2
               go_wp2
               repeat (go_quiet (fail); try go_wp2)
               go_roundg k4
               case measure => have := HJ1.out; have := HK2.out; have := HK3.out; have := HK4.out; omega
               case rel => exact ⟨(wrap64 (x35_3 + 1)), Zrs, H', ⟨by have := HJ1.out; have := HK2.out; have := HK3.out; have := HK4.out; omega⟩, ⟨Zq3 HB.out GE574.out⟩⟩
           ·rw [if_neg c20] at H
            exact absurd H (by simp)
          ·rw [if_neg c19] at H
           exact absurd H (by simp)
         ·rw [if_neg c18] at H
          have c18b0 : decide (x35_3 < (l0.length : Int)) = false := decide_eq_false c18
          clear c18
          obtain rfl := Option.some.inj H
          go_wp2
          repeat (go_quiet (fail); try go_wp2)
          go_ret
          exact ⟨by first | rfl | (simp [zw, zx] <;> rfl) | (simp [*, zw, zx] <;> rfl), Zq1 HB.out⟩
def ClipOf (v v' : Value) : Prop := v = v' ∨ ∃ ad n c c', v = .slice (some ad) n c ∧ v' = .slice (some ad) n c' ∧ n ≤ c ∧ c ≤ c'
theorem ClipOf.own {v v' : Value} (h : ClipOf v v') : v'.ownBlock = v.ownBlock := by
  rcases h with rfl | ⟨ad, n, c, c', rfl, rfl, _, _⟩
  · rfl
  · rfl
def Kd.Q {α : Type} (d : Kd α) (e : Nat) (w : World) (base : Nat) (ok : Nat → Prop) (v : Value) (xs : List α) : Prop := ∃ v', ClipOf v v' ∧ Kd.R d e w base ok v' xs
section
variable {α : Type} {d : Kd α} {e base N : Nat} {w w1 W W2 : World} {ok ok' ok1 S : Nat → Prop} {u v : Value} {xs : List α}
theorem Kd.Q_of (h : Kd.R d e w base ok v xs) : Kd.Q d e w base ok v xs := ⟨v, .inl rfl, h⟩
theorem Kd.Q_clip {ad : Addr} {n c c' : Nat} (h : Kd.R d e w base ok (.slice (some ad) n c') xs) (h1 : n ≤ c) (h2 : c ≤ c') : Kd.Q d e w base ok (.slice (some ad) n c) xs := ⟨_, .inr ⟨ad, n, c, c', rfl, rfl, h1, h2⟩, h⟩
theorem Kd.Q_nil (d : Kd α) (e : Nat) (w : World) (base : Nat) (ok : Nat → Prop) : Kd.Q d e w base ok (.slice none 0 0) [] := Kd.Q_of (Kd.R_nil d e w base ok)
theorem Kd.Q_drew (h : Kd.Q d e w base ok v xs) : Kd.Q d e w.drew base ok v xs := let ⟨v', hc, h⟩ := h; ⟨v', hc, Kd.zbl h⟩
theorem Kd.Q_drewN (h : Kd.Q d e w base ok v xs) (m : Nat) : Kd.Q d e (w.drewN m) base ok v xs := let ⟨v', hc, h⟩ := h; ⟨v', hc, Kd.zbe h m⟩
theorem Kd.Q_alloc (h : Kd.Q d e w base ok v xs) (o : Obj) : Kd.Q d e (w.alloc o) base ok v xs := let ⟨v', hc, h⟩ := h; ⟨v', hc, Kd.zbf h o⟩
theorem Kd.zcq (h : Kd.Q d e w base ok v xs) (hb : Below w.heap.size w w1) : Kd.Q d e w1 base ok v xs := let ⟨v', hc, h⟩ := h; ⟨v', hc, Kd.zcx h hb⟩
theorem Kd.Q_mono (h : Kd.Q d e w base ok v xs) (hok : ∀ k, ok k → ok' k) : Kd.Q d e w base ok' v xs := let ⟨v', hc, h⟩ := h; ⟨v', hc, Kd.zbb h hok⟩
theorem Kd.Q_lower {base' : Nat} (h : Kd.Q d e w base ok v xs) (hb : base' ≤ base) : Kd.Q d e w base' ok v xs := let ⟨v', hc, h⟩ := h; ⟨v', hc, Kd.zca h hb⟩
theorem Kd.Q_far (h : Kd.Q d e w base ok v xs) {p : Addr} (hok : ∀ k, ok k → k ≠ p.block) (u : Value) : Kd.Q d e (w.setCell p u) base ok v xs := let ⟨v', hc, h⟩ := h; ⟨v', hc, Kd.zcs h hok u⟩
theorem Kd.Q_types (h : Kd.Q d e w base ok v xs) {g t : Nat} {cells : Array Value} (hb : w.heap[g]? = some (.cells cells t (0, 0))) (ht : ∀ q, q ∈ e :: d.E → q ≠ t) : Kd.Q d e w base (fun k => ok k ∧ k ≠ g) v xs := let ⟨v', hc, h⟩ := h; ⟨v', hc, Kd.zcp h hb ht⟩
theorem Kd.Q_told (h : Kd.Q d e w1 base (fun k => ok k ∧ k < N) u xs) (hbase : ∀ k, v.ownBlock = some k → N ≤ k) : Kd.Q d e w1 base (fun k => (ok k ∧ some k ≠ v.ownBlock) ∧ k < N) u xs := let ⟨v', hc, h⟩ := h; ⟨v', hc, Kd.R_told h hbase⟩
theorem Kd.Q_new' (h : Kd.Q d e w1 W.heap.size ok v xs) (hlt : ∀ k, u.ownBlock = some k → k < W.heap.size) : Kd.Q d e w1 W.heap.size (fun k => ok k ∧ some k ≠ u.ownBlock) v xs := let ⟨v', hc, h⟩ := h; ⟨v', hc, Kd.zdj h hlt⟩
theorem Kd.Q_old (hu : Kd.Q d e W base ok u xs) (hb : Below W.heap.size W w1) : Kd.Q d e w1 base (fun k => ok k ∧ k < W.heap.size) u xs := let ⟨v', hc, h⟩ := hu; ⟨v', hc, Kd.R_old h hb⟩
theorem Kd.Q_elder' (hu : Kd.Q d e W base ok u xs) (hbase : ∀ k, v.ownBlock = some k → W.heap.size ≤ k) (hb : Below W.heap.size W w1) : Kd.Q d e w1 base (fun k => ok k ∧ some k ≠ v.ownBlock) u xs := let ⟨v', hc, h⟩ := hu; ⟨v', hc, Kd.zcr h hbase hb⟩
theorem Kd.Q_lt (h : Kd.Q d e w base ok v xs) : ∀ k, v.ownBlock = some k → k < w.heap.size := by
  obtain ⟨v', hc, h⟩ := h
  rw [← hc.own]
  exact Kd.R_lt h
theorem Kd.Q_base (h : Kd.Q d e w base ok v xs) : ∀ k, v.ownBlock = some k → base ≤ k := by
  obtain ⟨v', hc, h⟩ := h
  rw [← hc.own]
  exact Kd.zc0 h
theorem Kd.Q_reads (h : Kd.Q d e w base ok v xs) : ∃ A c, v = .slice A xs.length c ∧ xs.length ≤ c ∧ Kd.C d w A xs.length xs := by
  obtain ⟨v', hc, h⟩ := h
  obtain ⟨A, c, rfl, h1, h2⟩ := Kd.R_reads h
  rcases hc with rfl | ⟨ad, n, c1, c', rfl, he, h3, h4⟩
  · exact ⟨A, c, rfl, h1, h2⟩
  · injection he with e1 e2 e3
    subst e1 e2 e3
    exact ⟨_, c1, rfl, h3, h2⟩
theorem Kd.Q_slice (h : Kd.Q d e w base ok v xs) : ∃ A c, v = .slice A xs.length c := by
  obtain ⟨A, c, he, _⟩ := Kd.Q_reads h
  exact ⟨A, c, he⟩
theorem Kd.zcj {A : Option Addr} {n c : Nat} (h : Kd.Q d e w base ok (.slice A n c) xs) : n = xs.length ∧ n ≤ c ∧ Kd.C d w A xs.length xs := by
  obtain ⟨A', c', he, h1, h2⟩ := Kd.Q_reads h
  injection he with e1 e2 e3
  subst e1 e2 e3
  exact ⟨rfl, h1, h2⟩
end
section
variable {α : Type} {enc : α → Value} {h1 : ∀ x, (enc x).oneCell' = true} {e base g n cap : Nat} {W : World} {ok : Nat → Prop} {xs : List α}
end
def Kd.cut {α : Type} (e : Nat) (d : Kd α) : Kd (List α) where
  sz := 1
  E := e :: d.E
  K := fun w xs cs => ∃ A c, cs = [.slice A xs.length c] ∧ xs.length ≤ c ∧ Kd.C d w A xs.length xs
  M := fun w base ok xs cs => ∃ v, cs = [v] ∧ Kd.Q d e w base ok v xs
  K_len := by
    rintro w x cs ⟨A, c, rfl, _⟩
    rfl
  K_one := by
    rintro w x cs ⟨A, c, rfl, _⟩ u hu
    rw [List.mem_singleton.1 hu]
    rfl
  K_below := by
    rintro w w1 x cs hb ⟨A, c, rfl, hl, hr⟩
    exact ⟨A, c, rfl, hl, Kd.zbq hr hb⟩
  K_of_M := by
    rintro w base ok x cs ⟨v, rfl, h⟩
    obtain ⟨A, c, rfl, hl, hr⟩ := Kd.Q_reads h
    exact ⟨A, c, rfl, hl, hr⟩
  M_mono := by
    rintro w base ok ok' x cs hok ⟨v, rfl, h⟩
    exact ⟨v, rfl, Kd.Q_mono h hok⟩
  M_bound := by
    rintro w base ok x cs ⟨v, rfl, v', hc, h⟩
    exact ⟨v, rfl, v', hc, Kd.R_bound h⟩
  M_move := by
    rintro w w1 base ok x cs hm ⟨v, rfl, v', hc, h⟩
    exact ⟨v, rfl, v', hc, Kd.R_move h hm⟩
  M_lower := by
    rintro w base base' ok x cs hb ⟨v, rfl, h⟩
    exact ⟨v, rfl, Kd.Q_lower h hb⟩
set_option maxHeartbeats 4000000 in
set_option maxRecDepth 100000 in
theorem clip_nil_calls (w : World) : Calls Try.prog 88 #[.slice none 0 0] w fun e w' => e = .returned (.slice none 0 0) ∧ zby w w' := by
  go_enter Try.func88, Try.ntmps88
  go_wp2
  go_ret
  exact ⟨rfl, zby.refl _⟩
set_option maxHeartbeats 4000000 in
set_option maxRecDepth 100000 in
theorem clip_some_calls (ad : Addr) (n c : Nat) (hn : n ≤ c) (w : World) : Calls Try.prog 88 #[.slice (some ad) n c] w fun e w' => e = .returned (.slice (some ad) n n) ∧ zby w w' := by
  have hnz : (n : Int) ≤ (c : Int) := by omega
  go_enter Try.func88, Try.ntmps88
  go_wp2
  go_ret
  exact ⟨rfl, zby.refl _⟩
def missB (js : List JobT) (fin : List Int) (i : Nat) : Bool := if (jrd js i).f2 ≤ 120 then (if rd fin (i : Int) < 0 then true else decide (rd fin (i : Int) > (jrd js i).f2)) else false
def missL (js : List JobT) (fin : List Int) : Nat → List Int
  | 0 => []
  | i + 1 => match missB js fin i with
    | true => missL js fin i ++ [(i : Int)]
    | false => missL js fin i
theorem missL_len (js : List JobT) (fin : List Int) : ∀ i, (missL js fin i).length ≤ i
  | 0 => Nat.le_refl _
  | i + 1 => by
    have := missL_len js fin i
    rw [missL]
    split
    · rw [List.length_append, List.length_singleton]; omega
    · omega
set_option maxHeartbeats 16000000 in
set_option maxRecDepth 100000 in
theorem missed_calls (A : Option Addr) (c : Nat) (js : List JobT) (F : Option Addr) (cf : Nat) (fin : List Int) (hl : fin.length = js.length) (hn : js.length ≤ 1000) (w : World) (hr : Kd.C k34 w A js.length js) (hf : Kd.C (Kd.int .i64) w F fin.length fin) :
    Calls Try.prog 67 #[.slice A js.length c, .slice F fin.length cf] w fun e w' => ∃ (X : Option Addr) (c2 c3 : Nat), e = .returned (.slice X (missL js fin js.length).length c2) ∧ (missL js fin js.length).length ≤ c2 ∧ c2 ≤ c3 ∧ Kd.R (Kd.int .i64) 3 w' w.heap.size (fun _ => True) (.slice X (missL js fin js.length).length c3) (missL js fin js.length) ∧ Below w.heap.size w w' := by
  have HR := za.mk hr
  have HF := za.mk hf
  have hlz : (fin.length : Int) = (js.length : Int) := by omega
  have HL := za.mk hl
  clear hr hf
  rw [hl]
  clear hl hlz
  go_enter Try.func67, Try.ntmps67
  go_wp2
  go_loopg [5, 15] js.length (fun gg v5 v15 wr => ∃ i : Nat, v15 = .int .i64 i ∧ i ≤ js.length ∧ js.length - i ≤ gg ∧ za (Kd.R (Kd.int .i64) 3 wr w.heap.size (fun _ => True) v5 (missL js fin i)) ∧ za (Below w.heap.size w wr))
  case atStart => exact ⟨0, by go_num, by omega, by omega, ⟨Kd.R_nil _ _ _ _ _⟩, ⟨Below.refl _ _⟩⟩
  case round =>
    obtain ⟨i, rfl, hil, hgg, RW, BW⟩ := hrel
    by_cases hlt : i < js.length
    · have hltz : (i : Int) < (js.length : Int) := by omega
      obtain ⟨ad, ea, hx0, hx1, hx2, hx3⟩ := zda HR.out (i : Int) (by omega) hltz
      cases ea
      have hy0 := (BW.out.cell (World.block_lt_of_cell? w _ hx0)).trans hx0
      have hy1 := (BW.out.cell (World.block_lt_of_cell? w _ hx1)).trans hx1
      have hy2 := (BW.out.cell (World.block_lt_of_cell? w _ hx2)).trans hx2
      have hy3 := (BW.out.cell (World.block_lt_of_cell? w _ hx3)).trans hx3
      clear hx0 hx1 hx2 hx3
      rw [Int.toNat_natCast] at hy0 hy1 hy2 hy3
      obtain ⟨j, hj⟩ : ∃ j : JobT, j = jrd js i := ⟨_, rfl⟩
      rw [show ze js (i : Int) = j from hj.symm] at hy0 hy1 hy2 hy3
      have HJ := za.mk hj
      clear hj
      obtain ⟨adf, ef, hz0⟩ := Kd.zcf HF.out (i : Int) (by omega) (by have := HL.out; omega)
      cases ef
      rw [Int.toNat_natCast] at hz0
      obtain ⟨z, hz⟩ : ∃ z, rd fin (i : Int) = z := ⟨_, rfl⟩
      rw [hz] at hz0
      have HZ := za.mk hz
      have LL := za.mk (missL_len js fin i)
      clear hz
      go_wp2_with fail
      have B6 := za.mk (zbd BW.out (.cells #[.int .i64 j.f0, .int .i64 j.f1, .int .i64 j.f2, .int .i64 j.f3] 34))
      have R6 := za.mk (Kd.zbf RW.out (.cells #[.int .i64 j.f0, .int .i64 j.f1, .int .i64 j.f2, .int .i64 j.f3] 34))
      have cj2 : (wr.alloc (.cells #[.int .i64 j.f0, .int .i64 j.f1, .int .i64 j.f2, .int .i64 j.f3] 34)).cell? ⟨wr.heap.size, 2, none⟩ = some (.int .i64 j.f2) := by simp
      have cf6 := (B6.out.cell (World.block_lt_of_cell? w _ hz0)).trans hz0
      clear hy0 hy1 hy2 hy3 hz0
      generalize wr.alloc (.cells #[.int .i64 j.f0, .int .i64 j.f1, .int .i64 j.f2, .int .i64 j.f3] 34) = w6 at B6 R6 cj2 cf6 ⊢
      by_cases h1 : j.f2 ≤ 120
      · have h1b : decide (j.f2 ≤ 120) = true := decide_eq_true h1
        by_cases h2 : z < 0
        · have h2b : decide (z < 0) = true := decide_eq_true h2
          have MB := za.mk (show missB js fin i = true by unfold missB; rw [← HJ.out, HZ.out, if_pos h1, if_pos h2])
          go_quiet (fail)
          have R7 := za.mk (Kd.zbe R6.out nq)
          have B7 := za.mk (zbc B6.out nq)
          clear R6 B6 cj2 cf6
          generalize w6.drewN nq = w7 at R7 B7 ⊢
          go_wp2_with (first | ((with_reducible refine zcd (b := .append) (xs := #[.tmp 39, .tmp 41]) rfl ?_); at_builtin; refine Kd.zdc (Kd.int .i64) (w0 := w) w.heap.size rfl (.tmp 39) (.tmp 41) 27 3 (.int .i64 0) 8 rfl Try.underlying27 info3 rfl (by decide) (by omega) u5 (missL js fin i) (i : Int) [.int .i64 i] (fun _ => True) (fun _ => False) rfl rfl ?aP (fun _ hk => hk.elim) ?aF ?aO ?aB ?aS ?aL ?_; (case aP => exact rfl); (case aB => exact B7.out); (case aF => exact (fun _ _ => trivial)); (case aO => exact R7.out); (case aS => exact B7.out.size); (case aL => have := LL.out; omega); intro v8 w8 ho hb hg hat; have R8 := za.mk ho; have B8 := za.mk hb; clear ho hb hg hat))
          go_roundg (js.length - (i + 1))
          case measure => omega
          case rel => exact ⟨i + 1, by go_num, by omega, by omega, ⟨by rw [missL, MB.out]; exact R8.out⟩, B8⟩
        · have h2b : decide (z < 0) = false := decide_eq_false h2
          by_cases h3 : z > j.f2
          · have h3b : decide (z > j.f2) = true := decide_eq_true h3
            have MB := za.mk (show missB js fin i = true by unfold missB; rw [← HJ.out, HZ.out, if_pos h1, if_neg h2]; exact h3b)
            go_quiet (fail)
            have R7 := za.mk (Kd.zbe R6.out nq)
            have B7 := za.mk (zbc B6.out nq)
            clear R6 B6 cj2 cf6
            generalize w6.drewN nq = w7 at R7 B7 ⊢
            go_wp2_with (first | ((with_reducible refine zcd (b := .append) (xs := #[.tmp 39, .tmp 41]) rfl ?_); at_builtin; refine Kd.zdc (Kd.int .i64) (w0 := w) w.heap.size rfl (.tmp 39) (.tmp 41) 27 3 (.int .i64 0) 8 rfl Try.underlying27 info3 rfl (by decide) (by omega) u5 (missL js fin i) (i : Int) [.int .i64 i] (fun _ => True) (fun _ => False) rfl rfl ?aP (fun _ hk => hk.elim) ?aF ?aO ?aB ?aS ?aL ?_; (case aP => exact rfl); (case aB => exact B7.out); (case aF => exact (fun _ _ => trivial)); (case aO => exact R7.out); (case aS => exact B7.out.size); (case aL => have := LL.out; omega); intro v8 w8 ho hb hg hat; have R8 := za.mk ho; have B8 := za.mk hb; clear ho hb hg hat))
            go_roundg (js.length - (i + 1))
            case measure => omega
            case rel => exact ⟨i + 1, by go_num, by omega, by omega, ⟨by rw [missL, MB.out]; exact R8.out⟩, B8⟩
          · have h3b : decide (z > j.f2) = false := decide_eq_false h3
            have MB := za.mk (show missB js fin i = false by unfold missB; rw [← HJ.out, HZ.out, if_pos h1, if_neg h2]; exact h3b)
            go_quiet (fail)
            go_wp2
            go_roundg (js.length - (i + 1))
            case measure => omega
            case rel => exact ⟨i + 1, by go_num, by omega, by omega, ⟨by rw [missL, MB.out]; exact Kd.zbe R6.out _⟩, ⟨zbc B6.out _⟩⟩
      · have h1b : decide (j.f2 ≤ 120) = false := decide_eq_false h1
        have MB := za.mk (show missB js fin i = false by unfold missB; rw [← HJ.out, if_neg h1])
        go_quiet (fail)
        go_wp2
        go_roundg (js.length - (i + 1))
        case measure => omega
        case rel => exact ⟨i + 1, by go_num, by omega, by omega, ⟨by rw [missL, MB.out]; exact Kd.zbe R6.out _⟩, ⟨zbc B6.out _⟩⟩
    · have hltz : ¬ (i : Int) < (js.length : Int) := by omega
      obtain rfl : i = js.length := by omega
      obtain ⟨X, c3, ev⟩ := Kd.zbv RW.out
      subst ev
      cases X with
      | none =>
        obtain ⟨inner, ho⟩ := Kd.R_own RW.out
        have hv : (Value.slice none (missL js fin js.length).length c3) = .slice none 0 0 := by
          rcases ho.2 with ⟨hv, _⟩ | ⟨g, cap, cur, hv, _⟩
          · exact hv
          · injection hv with h1; cases h1
        injection hv with _ hn0 hc0
        have RW2 := RW.out
        rw [hn0, hc0] at RW2 ⊢
        have RN := za.mk RW2
        have HN0 := za.mk hn0
        clear hn0 hc0 RW2 ho RW
        go_wp2_with (go_at_call 88; refine (clip_nil_calls _).mono ?_; rintro e w7 ⟨rfl, ⟨q, rfl⟩⟩)
        go_ret
        exact ⟨none, 0, 0, by rw [HN0.out]; rfl, by rw [HN0.out]; exact Nat.le_refl _, Nat.le_refl _, by rw [HN0.out]; exact Kd.zbe RN.out _, zbc BW.out _⟩
      | some ad =>
        have hle := (Kd.zbh RW.out).2.1
        go_wp2_with (go_at_call 88; refine (clip_some_calls ad _ c3 hle _).mono ?_; rintro e w7 ⟨rfl, ⟨q, rfl⟩⟩)
        go_ret
        exact ⟨some ad, _, c3, rfl, Nat.le_refl _, hle, Kd.zbe RW.out _, zbc BW.out _⟩
set_option maxHeartbeats 8000000 in
set_option maxRecDepth 100000 in
theorem Missed_calls (A : Option Addr) (c : Nat) (js : List JobT) (R : Option Addr) (nr cr : Nat) (F : Option Addr) (cf : Nat) (fin : List Int) (hl : fin.length = js.length) (hn : js.length ≤ 1000) (w : World) (hr : Kd.C k34 w A js.length js) (hf : Kd.C (Kd.int .i64) w F fin.length fin) :
    Calls Try.prog 29 #[.slice A js.length c, .agg #[.slice R nr cr, .slice F fin.length cf]] w fun e w' => ∃ (X : Option Addr) (c2 c3 : Nat), e = .returned (.slice X (missL js fin js.length).length c2) ∧ (missL js fin js.length).length ≤ c2 ∧ c2 ≤ c3 ∧ Kd.R (Kd.int .i64) 3 w' w.heap.size (fun _ => True) (.slice X (missL js fin js.length).length c3) (missL js fin js.length) ∧ Below w.heap.size w w' := by
  have HM := za.mk (fun (W : World) (hb : Below w.heap.size w W) => missed_calls A c js F cf fin hl hn W (Kd.zbq hr hb) (Kd.zbq hf hb))
  clear hl hr hf
  go_enter Try.func29, Try.ntmps29
  go_wp2_with (go_at_call 67; refine (HM.out _ (zbd (Below.refl _ _) _)).mono ?_; rintro e w1 ⟨X, c2, c3, rfl, h1, h2, h3, hb⟩; have H := za.mk (And.intro h1 (And.intro h2 (And.intro h3 hb))); clear h1 h2 h3 hb)
  go_ret
  exact ⟨X, c2, c3, rfl, H.out.1, H.out.2.1, Kd.zca H.out.2.2.1 (by simp), zct (zbd (Below.refl _ _) _) (by simp) H.out.2.2.2⟩
def zdn.f (l0 : List S34) (l1 l2 : List Int) : Option (List Int) := if l2.length = l0.length ∧ l0.length ≤ 1000 then some (missL l0 l2 l0.length) else none
theorem zdn.calls (A0 : Option Addr) (c0 : Nat) (l0 : List S34) (A1_0 : Option Addr) (c1_0 : Nat) (l1_0 : List Int) (A1_1 : Option Addr) (c1_1 : Nat) (l1_1 : List Int) (r : List Int) (w : World) (hr0 : Kd.C k34 w A0 l0.length l0) (hc0 : l0.length ≤ c0) (hr1_0 : Kd.C (Kd.int .i64) w A1_0 l1_0.length l1_0) (hc1_0 : l1_0.length ≤ c1_0) (hr1_1 : Kd.C (Kd.int .i64) w A1_1 l1_1.length l1_1) (hc1_1 : l1_1.length ≤ c1_1) (h : zdn.f l0 l1_0 l1_1 = some r) :
    Calls Try.prog 29 #[.slice A0 l0.length c0, .agg #[.slice A1_0 l1_0.length c1_0, .slice A1_1 l1_1.length c1_1]] w fun e w' => ∃ v0_ : Value, e = .returned (v0_) ∧ Kd.Q (Kd.int .i64) 3 w' w.heap.size (fun _ => True) v0_ r ∧ Below w.heap.size w w' := by
  unfold zdn.f at h
  split at h
  · rename_i hh
    have h := Option.some.inj h
    subst h
    refine (Missed_calls A0 c0 l0 A1_0 l1_0.length c1_0 A1_1 c1_1 l1_1 hh.1 hh.2 w hr0 hr1_1).mono ?_
    rintro e w' ⟨X, c2, c3, rfl, h1, h2, h3, h4⟩
    cases X with
    | none =>
      refine ⟨_, rfl, ?_, h4⟩
      obtain ⟨h5, inner, h6, h7⟩ := h3
      have h8 : (Value.slice none (missL l0 l1_1 l0.length).length c3) = .slice none 0 0 := by
        rcases h6.2 with ⟨hv, _⟩ | ⟨g, cap, cur, hv, _⟩
        · exact hv
        · injection hv with h1; cases h1
      injection h8 with _ h9 h10
      have h11 : c2 = 0 := by omega
      subst h11
      subst h10
      exact Kd.Q_of ⟨h5, inner, h6, h7⟩
    | some ad => exact ⟨_, rfl, Kd.Q_clip h3 h1 h2, h4⟩
  · simp at h
theorem Zq16 {X0 P : Prop} (x0 : X0) (h : X0 → P := by intro x0; (with_reducible repeat (first | apply Kd.Q_alloc | apply Kd.Q_drewN | apply Kd.Q_drew)); exact x0) : P := h x0
def laws_FnNonPreemptiveSafe.j0 : Nat → List (S34) → Bool → List Int → List Int → Option (Bool)
 | 0, _, _, _, _ => none
 | k + 1, x4, x31, x600000, x600001 => if x31 = true then ((laws_alive.f).bind fun t608 => (some t608)) else ((zdn.f x4 x600000 x600001).bind fun t609 => (some ((t609.length : Int) == 0)))
def laws_FnNonPreemptiveSafe.f (k : Nat) (l0 : List Int) : Option (Bool) := if (l0.length : Int) > 1048576 then (some true) else ((zb7.f k l0).bind fun bt587 => ((zb6.f bt587.1 bt587.2).bind fun bt593 => ((zm.f k bt587.1 bt587.2).bind fun bt600 => ((zcc.f k bt593.1 bt593.2 bt600.1 bt600.2).bind fun t606 => (if t606 = true then (if (bt593.1.length : Int) = 120 then ((zh.f k bt587.1).bind fun t607 => (laws_FnNonPreemptiveSafe.j0 k bt587.2 (!t607) bt593.1 bt593.2)) else (laws_FnNonPreemptiveSafe.j0 k bt587.2 true bt593.1 bt593.2)) else (some false))))))
set_option maxHeartbeats 8000000 in
set_option maxRecDepth 100000 in
theorem laws_FnNonPreemptiveSafe.calls (k : Nat) (A0 : Option Addr) (c0 : Nat) (l0 : List Int) (r : Bool) (w : World) (hr0 : Kd.C (Kd.int .u8) w A0 l0.length l0) (hc0 : l0.length ≤ c0) (h : laws_FnNonPreemptiveSafe.f k l0 = some r) (hrt : r = true) :
  Calls Try.prog 6 #[.slice A0 l0.length c0] w fun e w' => e = .returned (.bool r) ∧ Below w.heap.size w w' := by
 have HRT := za.mk hrt
 clear hrt
 have hu29 := Try.underlying29
 have HR0 := za.mk hr0
 have HC0 := za.mk hc0
 clear hr0 hc0
 have HB := za.mk (Below.refl w.heap.size w)
 have H : (if (l0.length : Int) > 1048576 then (some true) else ((zb7.f k l0).bind fun bt587 => ((zb6.f bt587.1 bt587.2).bind fun bt593 => ((zm.f k bt587.1 bt587.2).bind fun bt600 => ((zcc.f k bt593.1 bt593.2 bt600.1 bt600.2).bind fun t606 => (if t606 = true then (if (bt593.1.length : Int) = 120 then ((zh.f k bt587.1).bind fun t607 => (laws_FnNonPreemptiveSafe.j0 k bt587.2 (!t607) bt593.1 bt593.2)) else (laws_FnNonPreemptiveSafe.j0 k bt587.2 true bt593.1 bt593.2)) else (some false))))))) = some r := h
 clear h
 by_cases c2 : (l0.length : Int) > 1048576
 ·rw [if_pos c2] at H
  have c2b0 : decide (1048576 < (l0.length : Int)) = true := decide_eq_true c2
  have c2b1 : decide (1048576 < l0.length) = true := decide_eq_true (by omega)
  clear c2
  obtain rfl := Option.some.inj H
  go_enter Try.func6, Try.ntmps6
  go_wp2
  go_ret
  exact ⟨by first | rfl | (simp [zw, zx] <;> rfl) | (simp [*, zw, zx] <;> rfl), Zq1 HB.out⟩
 ·rw [if_neg c2] at H
  have c2b0 : decide (1048576 < (l0.length : Int)) = false := decide_eq_false c2
  have c2b1 : decide (1048576 < l0.length) = false := decide_eq_false (by omega)
  clear c2
  replace H := Option.bind_eq_some_iff.mp H
  obtain ⟨⟨t587, t588⟩, A30, H⟩ := H
  replace H : ((zb6.f t587 t588).bind fun bt593 => ((zm.f k t587 t588).bind fun bt600 => ((zcc.f k bt593.1 bt593.2 bt600.1 bt600.2).bind fun t606 => (if t606 = true then (if (bt593.1.length : Int) = 120 then ((zh.f k t587).bind fun t607 => (laws_FnNonPreemptiveSafe.j0 k t588 (!t607) bt593.1 bt593.2)) else (laws_FnNonPreemptiveSafe.j0 k t588 true bt593.1 bt593.2)) else (some false))))) = some r := H
  have A3 := za.mk A30
  clear A30
  replace H := Option.bind_eq_some_iff.mp H
  obtain ⟨⟨t593, t596⟩, A40, H⟩ := H
  replace H : ((zm.f k t587 t588).bind fun bt600 => ((zcc.f k t593 t596 bt600.1 bt600.2).bind fun t606 => (if t606 = true then (if (t593.length : Int) = 120 then ((zh.f k t587).bind fun t607 => (laws_FnNonPreemptiveSafe.j0 k t588 (!t607) t593 t596)) else (laws_FnNonPreemptiveSafe.j0 k t588 true t593 t596)) else (some false)))) = some r := H
  have A4 := za.mk A40
  clear A40
  replace H := Option.bind_eq_some_iff.mp H
  obtain ⟨⟨t600, t603⟩, A50, H⟩ := H
  replace H : ((zcc.f k t593 t596 t600 t603).bind fun t606 => (if t606 = true then (if (t593.length : Int) = 120 then ((zh.f k t587).bind fun t607 => (laws_FnNonPreemptiveSafe.j0 k t588 (!t607) t593 t596)) else (laws_FnNonPreemptiveSafe.j0 k t588 true t593 t596)) else (some false))) = some r := H
  have A5 := za.mk A50
  clear A50
  replace H := Option.bind_eq_some_iff.mp H
  obtain ⟨t606, A60, H⟩ := H
  replace H : (if t606 = true then (if (t593.length : Int) = 120 then ((zh.f k t587).bind fun t607 => (laws_FnNonPreemptiveSafe.j0 k t588 (!t607) t593 t596)) else (laws_FnNonPreemptiveSafe.j0 k t588 true t593 t596)) else (some false)) = some r := H
  have A6 := za.mk A60
  clear A60
  by_cases c7 : t606 = true
  ·subst c7
   have H1 : (if (t593.length : Int) = 120 then ((zh.f k t587).bind fun t607 => (laws_FnNonPreemptiveSafe.j0 k t588 (!t607) t593 t596)) else (laws_FnNonPreemptiveSafe.j0 k t588 true t593 t596)) = some r := by rw [if_pos rfl] at H; exact H
   clear H
   have H := H1
   clear H1
   have HC8 := za.mk H
   clear H
   go_enter Try.func6, Try.ntmps6
   try go_wp2_with (first | ((with_reducible refine zba (f := 11) rfl ?_); refine zbx (some 11) rfl rfl Try.func11 (by kernel_rfl) rfl #[.slice A0 l0.length c0] rfl Zmt ?_; (with_reducible refine (zb7.calls k _ _ l0 t587 t588 _ ?side1 ?side2 A3.out).mono ?_); (case side1 => exact Zq15 HR0.out); (case side2 => exact HC0.out); rintro e w9 ⟨v589, v591, rfl, ho0, ho1, hb⟩; replace ho0 := Kd.Q_of ho0; replace ho1 := Kd.Q_of ho1; refine ⟨_, rfl, ?_⟩; have n0_ := za.mk (Kd.Q_lower ho0 (zu (Zq1 HB.out))); have n1_ := za.mk (Kd.Q_lower ho1 (zu (Zq1 HB.out))); have n2_ := za.mk (zo (Zq1 HB.out) hb); clear HB; have HO590 := n0_; have HO592 := n1_; have HB := n2_; clear n0_ n1_ n2_; (try clear hb); (try clear hb2); (try clear hk); (try clear hi); (try clear ho0); (try clear ho1); obtain ⟨Ao10, co10, eo10⟩ := Kd.Q_slice HO590.out; subst eo10; obtain ⟨Ao11, co11, eo11⟩ := Kd.Q_slice HO592.out; subst eo11) | ((with_reducible refine zba (f := 12) rfl ?_); refine zbx (some 16) rfl rfl Try.func12 (by kernel_rfl) rfl #[.slice Ao10 t587.length co10, .slice Ao11 t588.length co11] rfl Zmt ?_; (with_reducible refine (zb6.calls _ _ t587 _ _ t588 t593 t596 _ ?side1 ?side2 ?side3 ?side4 A4.out).mono ?_); (case side1 => exact Zq15 ((Kd.zcj HO590.out).2.2)); (case side2 => exact (Kd.zcj HO590.out).2.1); (case side3 => exact Zq15 ((Kd.zcj HO592.out).2.2)); (case side4 => exact (Kd.zcj HO592.out).2.1); rintro e w12 ⟨v594, v597, rfl, ho0, ho1, hb⟩; replace ho0 := Kd.Q_of ho0; replace ho1 := Kd.Q_of ho1; refine ⟨_, rfl, ?_⟩; have n0_ := za.mk (Kd.zcq (Zq16 HO590.out) hb); have n1_ := za.mk (Kd.zcq (Zq16 HO592.out) hb); have n2_ := za.mk (Kd.Q_lower ho0 (zu (Zq1 HB.out))); have n3_ := za.mk (Kd.Q_lower ho1 (zu (Zq1 HB.out))); have n4_ := za.mk (zo (Zq1 HB.out) hb); clear HO590; clear HO592; clear HB; have HO590 := n0_; have HO592 := n1_; have HO595 := n2_; have HO598 := n3_; have HB := n4_; clear n0_ n1_ n2_ n3_ n4_; (try clear hb); (try clear hb2); (try clear hk); (try clear hi); (try clear ho0); (try clear ho1)) | ((with_reducible refine zbj (N := 5) rfl ?_); refine zbr ?hg (N := 5) ?hd (cs := #[.slice none 0 0, .slice none 0 0]) (t := 29) ?hr ?_; (case hd => rfl); (case hg => rfl); (case hr => first | (go_simp; done) | (go_simp; rfl)); intro gb599 hg w13 hbox hb; have n0_ := za.mk (Kd.zcq (Zq16 HO590.out) hb); have n1_ := za.mk (Kd.zcq (Zq16 HO592.out) hb); have n2_ := za.mk (Kd.zcq (Zq16 HO595.out) hb); have n3_ := za.mk (Kd.zcq (Zq16 HO598.out) hb); have n4_ := za.mk (zo (Zq1 HB.out) hb); have n5_ := za.mk (hbox); have n6_ := za.mk ((by rw [hg]; exact (zu (Zq1 HB.out)) : w.heap.size ≤ gb599)); have n7_ := za.mk ((by rw [hg]; exact (zu (Zq1 HB.out)) : w.heap.size ≤ gb599)); clear HO590; clear HO592; clear HO595; clear HO598; clear HB; have HO590 := n0_; have HO592 := n1_; have HO595 := n2_; have HO598 := n3_; have HB := n4_; have BK599 := n5_; have GW599 := n6_; have GE599 := n7_; clear n0_ n1_ n2_ n3_ n4_ n5_ n6_ n7_; clear hb hbox hg; obtain ⟨Ao14, co14, eo14⟩ := Kd.Q_slice HO595.out; subst eo14; have hcz15_0 : w13.cell? ⟨gb599, 0, none⟩ = some (.slice none 0 0) := (zg BK599.out 0).trans rfl; have hcz15_1 : w13.cell? ⟨gb599, 1, none⟩ = some (.slice none 0 0) := (zg BK599.out 1).trans rfl; have hfz15_0 := zf BK599.out 0; have hfz15_1 := zf BK599.out 1; obtain ⟨Ao16, co16, eo16⟩ := Kd.Q_slice HO598.out; subst eo16))
   have n0_ : za (Kd.Q k88 88 ((w13.setCell ⟨gb599, 0, none⟩ (.slice Ao14 t593.length co14)).setCell ⟨gb599, 1, none⟩ (.slice Ao16 t596.length co16)) w.heap.size (fun _ => True) (.slice Ao10 t587.length co10) t587) := ⟨by (with_reducible repeat (first | apply Kd.Q_alloc | apply Kd.Q_drewN | apply Kd.Q_drew)); exact Kd.Q_mono (Kd.Q_far (p := ⟨gb599, 1, none⟩) (Kd.Q_far (p := ⟨gb599, 0, none⟩) (Kd.Q_types HO590.out BK599.out (by decide)) (fun _ hk => hk.2) (.slice Ao14 t593.length co14)) (fun _ hk => hk.2) (.slice Ao16 t596.length co16)) (fun _ hk => trivial)⟩
   have n1_ : za (Kd.Q k34 34 ((w13.setCell ⟨gb599, 0, none⟩ (.slice Ao14 t593.length co14)).setCell ⟨gb599, 1, none⟩ (.slice Ao16 t596.length co16)) w.heap.size (fun _ => True) (.slice Ao11 t588.length co11) t588) := ⟨by (with_reducible repeat (first | apply Kd.Q_alloc | apply Kd.Q_drewN | apply Kd.Q_drew)); exact Kd.Q_mono (Kd.Q_far (p := ⟨gb599, 1, none⟩) (Kd.Q_far (p := ⟨gb599, 0, none⟩) (Kd.Q_types HO592.out BK599.out (by decide)) (fun _ hk => hk.2) (.slice Ao14 t593.length co14)) (fun _ hk => hk.2) (.slice Ao16 t596.length co16)) (fun _ hk => trivial)⟩
   have n2_ : za (Kd.Q (Kd.int .i64) 3 ((w13.setCell ⟨gb599, 0, none⟩ (.slice Ao14 t593.length co14)).setCell ⟨gb599, 1, none⟩ (.slice Ao16 t596.length co16)) w.heap.size (fun k_ => some k_ ≠ (.slice Ao16 t596.length co16 : Value).ownBlock) (.slice Ao14 t593.length co14) t593) := ⟨by (with_reducible repeat (first | apply Kd.Q_alloc | apply Kd.Q_drewN | apply Kd.Q_drew)); exact Kd.Q_mono (Kd.Q_far (p := ⟨gb599, 1, none⟩) (Kd.Q_far (p := ⟨gb599, 0, none⟩) (Kd.Q_types HO595.out BK599.out (by decide)) (fun _ hk => hk.2) (.slice Ao14 t593.length co14)) (fun _ hk => hk.2) (.slice Ao16 t596.length co16)) (fun _ hk => hk.1)⟩
   have n3_ : za (Kd.Q (Kd.int .i64) 3 ((w13.setCell ⟨gb599, 0, none⟩ (.slice Ao14 t593.length co14)).setCell ⟨gb599, 1, none⟩ (.slice Ao16 t596.length co16)) w.heap.size (fun k_ => some k_ ≠ (.slice Ao14 t593.length co14 : Value).ownBlock) (.slice Ao16 t596.length co16) t596) := ⟨by (with_reducible repeat (first | apply Kd.Q_alloc | apply Kd.Q_drewN | apply Kd.Q_drew)); exact Kd.Q_mono (Kd.Q_far (p := ⟨gb599, 1, none⟩) (Kd.Q_far (p := ⟨gb599, 0, none⟩) (Kd.Q_types HO598.out BK599.out (by decide)) (fun _ hk => hk.2) (.slice Ao14 t593.length co14)) (fun _ hk => hk.2) (.slice Ao16 t596.length co16)) (fun _ hk => hk.1)⟩
   have n4_ : za (((w13.setCell ⟨gb599, 0, none⟩ (.slice Ao14 t593.length co14)).setCell ⟨gb599, 1, none⟩ (.slice Ao16 t596.length co16)).heap[gb599]? = some (.cells #[.slice Ao14 t593.length co14, .slice Ao16 t596.length co16] 29 (0, 0))) := ⟨by (with_reducible repeat (first | refine zz ?_ _ | refine z8 ?_ | refine zy ?_ _)); refine zb2 (cs := #[.slice Ao14 t593.length co14, .slice none 0 0]) ?_ 1 _ rfl; (with_reducible repeat (first | refine zz ?_ _ | refine z8 ?_ | refine zy ?_ _)); refine zb2 (cs := #[.slice none 0 0, .slice none 0 0]) ?_ 0 _ rfl; (with_reducible repeat (first | refine zz ?_ _ | refine z8 ?_ | refine zy ?_ _)); exact BK599.out⟩
   have n5_ : za (Below w.heap.size w ((w13.setCell ⟨gb599, 0, none⟩ (.slice Ao14 t593.length co14)).setCell ⟨gb599, 1, none⟩ (.slice Ao16 t596.length co16))) := ⟨Zq3 HB.out GE599.out⟩
   (try clear HO590)
   (try clear HO592)
   (try clear HO595)
   (try clear HO598)
   (try clear BK599)
   (try clear HB)
   generalize ((w13.setCell ⟨gb599, 0, none⟩ (.slice Ao14 t593.length co14)).setCell ⟨gb599, 1, none⟩ (.slice Ao16 t596.length co16)) = w17 at n0_ n1_ n2_ n3_ n4_ n5_ ⊢
   have HO590 := n0_
   have HO592 := n1_
   have HO595 := n2_
   have HO598 := n3_
   have BK599 := n4_
   have HB := n5_
   clear n0_ n1_ n2_ n3_ n4_ n5_
   have n0_ := za.mk (Kd.Q_drew HO590.out)
   have n1_ := za.mk (Kd.Q_drew HO592.out)
   have n2_ := za.mk (Kd.Q_drew HO595.out)
   have n3_ := za.mk (Kd.Q_drew HO598.out)
   have n4_ := za.mk (z8 BK599.out)
   have n5_ := za.mk (zb0 HB.out)
   clear HO590
   clear HO592
   clear HO595
   clear HO598
   clear BK599
   clear HB
   have HO590 := n0_
   have HO592 := n1_
   have HO595 := n2_
   have HO598 := n3_
   have BK599 := n4_
   have HB := n5_
   clear n0_ n1_ n2_ n3_ n4_ n5_
   refine start_ (n := 6) (S := fun w' => w'.cell? ⟨gb599, 0, none⟩ = some (.slice Ao14 t593.length co14) ∧ w'.cell? ⟨gb599, 1, none⟩ = some (.slice Ao16 t596.length co16)) (ds := []) #[false, false, false, false, false, false] (by kernel_rfl) rfl rfl ⟨(zg BK599.out 0).trans rfl, (zg BK599.out 1).trans rfl⟩ (fun hHeld => ?_)
   generalize w17.drew = w18 at HO590 HO592 HO595 HO598 BK599 HB hHeld ⊢
   refine zc1 (i := 1) (N := some 18) (v := ?_) (a' := ?_) #[false, true, false, false, false, false] rfl rfl (by kernel_rfl) (fun _ _ _ h => h) (Or.inl ⟨by rfl, ?_⟩) ?_ ?_
   rotate_left
   ·intro w'
    go_simp
    with_reducible rfl
   rotate_left
   ·simp only [Act.put, List.setIfInBounds_toArray, List.set_cons_zero, List.set_cons_succ, zb3, zb4]
    rfl
   refine zc1 (i := 2) (N := some 19) (v := ?_) (a' := ?_) #[false, true, true, false, false, false] rfl rfl (by kernel_rfl) (fun _ _ _ h => h) (Or.inl ⟨by rfl, ?_⟩) ?_ ?_
   rotate_left
   ·intro w'
    go_simp
    with_reducible rfl
   rotate_left
   ·simp only [Act.put, List.setIfInBounds_toArray, List.set_cons_zero, List.set_cons_succ, zb3, zb4]
    rfl
   refine take_ (i := 0) (N := some 17) (v := ?_) (a' := ?_) #[true, true, true, false, false, false] rfl rfl (by kernel_rfl) (fun _ _ _ h => h) (Or.inl ⟨by rfl, ?_⟩) hHeld ?_ ?_
   rotate_left
   ·rintro w' ⟨s0, s1⟩
    go_simp
    with_reducible rfl
   rotate_left
   ·simp only [Act.put, List.setIfInBounds_toArray, List.set_cons_zero, List.set_cons_succ, zb3, zb4]
    rfl
   refine one_ (i := 3) (N := some 20) #[true, true, true, true, false, false] rfl rfl (by kernel_rfl) (by decide) (fun K hK => ?_)
   refine goes_ Try.func14 (by kernel_rfl) rfl #[.slice Ao10 t587.length co10, .slice Ao11 t588.length co11] (by rfl) rfl rfl Zmt ?_
   with_reducible refine (zm.calls k _ _ t587 _ _ t588 t600 t603 _ ?side1 ?side2 ?side3 ?side4 A5.out).mono ?_
   (case side1 => exact Zq15 ((Kd.zcj HO590.out).2.2))
   (case side2 => exact (Kd.zcj HO590.out).2.1)
   (case side3 => exact Zq15 ((Kd.zcj HO592.out).2.2))
   (case side4 => exact (Kd.zcj HO592.out).2.1)
   rintro e w19 ⟨v601, v604, rfl, ho0, ho1, hb⟩; replace ho0 := Kd.Q_of ho0; replace ho1 := Kd.Q_of ho1
   refine ⟨_, rfl, ?_⟩
   have n0_ := za.mk (Kd.zcq (Zq16 HO590.out) hb)
   have n1_ := za.mk (Kd.zcq (Zq16 HO592.out) hb)
   have n2_ := za.mk (Kd.Q_mono (Kd.Q_told (Kd.Q_told (Kd.Q_old (Zq16 HO595.out) hb) (Kd.Q_base ho0)) (Kd.Q_base ho1)) (fun _ h_ => h_.1))
   have n3_ := za.mk (Kd.Q_mono (Kd.Q_told (Kd.Q_told (Kd.Q_old (Zq16 HO598.out) hb) (Kd.Q_base ho0)) (Kd.Q_base ho1)) (fun _ h_ => h_.1))
   have n4_ := za.mk (Kd.Q_lower (Kd.Q_new' (Kd.Q_new' ho0 (Kd.Q_lt (Zq16 HO595.out))) (Kd.Q_lt (Zq16 HO598.out))) (zu (Zq3 HB.out GE599.out)))
   have n5_ := za.mk (Kd.Q_lower (Kd.Q_new' (Kd.Q_new' ho1 (Kd.Q_lt (Zq16 HO595.out))) (Kd.Q_lt (Zq16 HO598.out))) (zu (Zq3 HB.out GE599.out)))
   have n6_ := za.mk (zbn (g := gb599) (o := .cells #[.slice Ao14 t593.length co14, .slice Ao16 t596.length co16] 29 (0, 0)) (Zq2 BK599.out) hb)
   have n7_ := za.mk (zo (Zq3 HB.out GE599.out) hb)
   clear HO590
   clear HO592
   clear HO595
   clear HO598
   clear BK599
   clear HB
   have HO590 := n0_
   have HO592 := n1_
   have HO595 := n2_
   have HO598 := n3_
   have HO602 := n4_
   have HO605 := n5_
   have BK599 := n6_
   have HB := n7_
   clear n0_ n1_ n2_ n3_ n4_ n5_ n6_ n7_
   (try clear hb)
   (try clear hb2)
   (try clear hk)
   (try clear hi)
   (try clear ho0)
   (try clear ho1)
   obtain ⟨Ao20, co20, eo20⟩ := Kd.Q_slice HO602.out
   (first | subst eo20 | (injection eo20 with f1_ f2_ f3_; have f4_ := f1_.symm; have f5_ := f3_.symm; clear f1_ f2_ f3_; subst f4_; subst f5_))
   obtain ⟨Ao21, co21, eo21⟩ := Kd.Q_slice HO605.out
   (first | subst eo21 | (injection eo21 with f1_ f2_ f3_; have f4_ := f1_.symm; have f5_ := f3_.symm; clear f1_ f2_ f3_; subst f4_; subst f5_))
   refine hK.out _ _ ⟨(zg BK599.out 0).trans rfl, (zg BK599.out 1).trans rfl⟩ (fun hHeld => ?_)
   clear hK K
   refine zc5 (a' := ?_) ?_ ?_
   rotate_left
   ·show Act.put _ (some 20) _ = _
    simp only [Act.put, List.setIfInBounds_toArray, List.set_cons_zero, List.set_cons_succ, zb3, zb4]
    rfl
   refine one_ (i := 4) (N := some 21) #[true, true, true, true, true, false] rfl rfl (by kernel_rfl) (by decide) (fun K hK => ?_)
   refine goes_ Try.func13 (by kernel_rfl) rfl #[.agg #[.slice Ao14 t593.length co14, .slice Ao16 t596.length co16], .agg #[.slice Ao20 t600.length co20, .slice Ao21 t603.length co21]] (by rfl) rfl rfl Zmt ?_
   with_reducible refine (zcc.calls k _ _ t593 _ _ t596 _ _ t600 _ _ t603 true _ ?side1 ?side2 ?side3 ?side4 ?side5 ?side6 ?side7 ?side8 A6.out).mono ?_
   (case side1 => exact Zq15 ((Kd.zcj HO595.out).2.2))
   (case side2 => exact (Kd.zcj HO595.out).2.1)
   (case side3 => exact Zq15 ((Kd.zcj HO598.out).2.2))
   (case side4 => exact (Kd.zcj HO598.out).2.1)
   (case side5 => exact Zq15 ((Kd.zcj HO602.out).2.2))
   (case side6 => exact (Kd.zcj HO602.out).2.1)
   (case side7 => exact Zq15 ((Kd.zcj HO605.out).2.2))
   (case side8 => exact (Kd.zcj HO605.out).2.1)
   rintro e w22 ⟨rfl, hb⟩
   refine ⟨_, rfl, ?_⟩
   have n0_ := za.mk (Kd.zcq (Zq16 HO590.out) hb)
   have n1_ := za.mk (Kd.zcq (Zq16 HO592.out) hb)
   have n2_ := za.mk (Kd.zcq (Zq16 HO595.out) hb)
   have n3_ := za.mk (Kd.zcq (Zq16 HO598.out) hb)
   have n4_ := za.mk (Kd.zcq (Zq16 HO602.out) hb)
   have n5_ := za.mk (Kd.zcq (Zq16 HO605.out) hb)
   have n6_ := za.mk (zbn (g := gb599) (o := .cells #[.slice Ao14 t593.length co14, .slice Ao16 t596.length co16] 29 (0, 0)) (Zq2 BK599.out) hb)
   have n7_ := za.mk (zo (Zq3 HB.out GE599.out) hb)
   clear HO590
   clear HO592
   clear HO595
   clear HO598
   clear HO602
   clear HO605
   clear BK599
   clear HB
   have HO590 := n0_
   have HO592 := n1_
   have HO595 := n2_
   have HO598 := n3_
   have HO602 := n4_
   have HO605 := n5_
   have BK599 := n6_
   have HB := n7_
   clear n0_ n1_ n2_ n3_ n4_ n5_ n6_ n7_
   (try clear hb)
   (try clear hb2)
   (try clear hk)
   (try clear hi)
   refine hK.out _ _ ⟨(zg BK599.out 0).trans rfl, (zg BK599.out 1).trans rfl⟩ (fun hHeld => ?_)
   clear hK K
   refine zc5 (a' := ?_) ?_ ?_
   rotate_left
   ·show Act.put _ (some 21) _ = _
    simp only [Act.put, List.setIfInBounds_toArray, List.set_cons_zero, List.set_cons_succ, zb3, zb4]
    rfl
   refine zc1 (i := 5) (N := some 22) (v := ?_) (a' := ?_) #[true, true, true, true, true, true] rfl rfl (by kernel_rfl) (fun _ _ _ h => h) (Or.inl ⟨by rfl, ?_⟩) ?_ ?_
   rotate_left
   ·intro w'
    go_simp
    with_reducible rfl
   rotate_left
   ·simp only [Act.put, List.setIfInBounds_toArray, List.set_cons_zero, List.set_cons_succ, zb3, zb4]
    rfl
   refine done_ (by kernel_rfl) ?_
   go_upto_region 7 with (fail)
   go_cut [31] (fun v31 wc => ∃ (kq : Nat) (x31_7 : Bool), v31 = .bool x31_7 ∧ za (laws_FnNonPreemptiveSafe.j0 kq t588 x31_7 t593 t596 = some r) ∧ za (kq ≤ k) ∧ za (Kd.Q k34 34 wc w.heap.size (fun _ => True) (.slice Ao11 t588.length co11) t588) ∧ za (Kd.Q (Kd.int .i64) 3 wc w.heap.size (fun k_ => some k_ ≠ ((.slice Ao16 t596.length co16) : Value).ownBlock) (.slice Ao14 t593.length co14) t593) ∧ za (Kd.Q (Kd.int .i64) 3 wc w.heap.size (fun k_ => some k_ ≠ ((.slice Ao14 t593.length co14) : Value).ownBlock) (.slice Ao16 t596.length co16) t596) ∧ za (wc.heap[gb599]? = some (.cells #[(.slice Ao14 t593.length co14), (.slice Ao16 t596.length co16)] 29 (0, 0))) ∧ za (Below w.heap.size w wc))
   case first =>
    have H := HC8.out
    clear HC8
    by_cases c23 : (t593.length : Int) = 120
    ·rw [if_pos c23] at H
     have c23b0 : ((t593.length : Int) == 120) = true := beq_iff_eq.mpr c23
     have c23b1 : ((t593.length : Int) != 120) = false := bne_eq_false_iff_eq.mpr c23
     clear c23
     (first | rw [c23b0] | (simp only [zb3, zb4]; rw [c23b0]) | skip)
     replace H := Option.bind_eq_some_iff.mp H
     obtain ⟨t607, A240, H⟩ := H
     replace H : (laws_FnNonPreemptiveSafe.j0 k t588 (!t607) t593 t596) = some r := H
     have A24 := za.mk A240
     clear A240
     have H' := za.mk H
     clear H
     have hcz25_0 : w22.cell? ⟨gb599, 0, none⟩ = some (.slice Ao14 t593.length co14) := (zg BK599.out 0).trans rfl
     have hcz25_1 : w22.cell? ⟨gb599, 1, none⟩ = some (.slice Ao16 t596.length co16) := (zg BK599.out 1).trans rfl
     have hfz25_0 := zf BK599.out 0
     have hfz25_1 := zf BK599.out 1
     go_wp2_with (first | (go_at_call 28; (with_reducible refine (zh.calls k _ _ t587 t607 _ ?side1 ?side2 A24.out).mono ?_); (case side1 => exact Zq15 ((Kd.zcj HO590.out).2.2)); (case side2 => exact (Kd.zcj HO590.out).2.1); rintro e w26 ⟨rfl, hb⟩; have n0_ := za.mk (Kd.zcq (Zq16 HO590.out) hb); have n1_ := za.mk (Kd.zcq (Zq16 HO592.out) hb); have n2_ := za.mk (Kd.zcq (Zq16 HO595.out) hb); have n3_ := za.mk (Kd.zcq (Zq16 HO598.out) hb); have n4_ := za.mk (Kd.zcq (Zq16 HO602.out) hb); have n5_ := za.mk (Kd.zcq (Zq16 HO605.out) hb); have n6_ := za.mk (zbn (g := gb599) (o := .cells #[.slice Ao14 t593.length co14, .slice Ao16 t596.length co16] 29 (0, 0)) (Zq2 BK599.out) hb); have n7_ := za.mk (zo (Zq3 HB.out GE599.out) hb); clear HO590; clear HO592; clear HO595; clear HO598; clear HO602; clear HO605; clear BK599; clear HB; have HO590 := n0_; have HO592 := n1_; have HO595 := n2_; have HO598 := n3_; have HO602 := n4_; have HO605 := n5_; have BK599 := n6_; have HB := n7_; clear n0_ n1_ n2_ n3_ n4_ n5_ n6_ n7_; (try clear hb); (try clear hb2); (try clear hk); (try clear hi)))
     go_meet
     case rel => exact ⟨_, (!t607), Zrs, H', ⟨by first | omega | exact Nat.le_refl _⟩, ⟨Zq16 HO592.out⟩, ⟨by (with_reducible repeat (first | apply Kd.Q_alloc | apply Kd.Q_drewN | apply Kd.Q_drew)); exact Kd.Q_mono HO595.out (fun _ hk => hk.1.1)⟩, ⟨by (with_reducible repeat (first | apply Kd.Q_alloc | apply Kd.Q_drewN | apply Kd.Q_drew)); exact Kd.Q_mono HO598.out (fun _ hk => hk.1.1)⟩, ⟨Zq2 BK599.out⟩, ⟨Zq3 HB.out GE599.out⟩⟩
    ·rw [if_neg c23] at H
     have c23b0 : ((t593.length : Int) == 120) = false := beq_eq_false_iff_ne.mpr c23
     have c23b1 : ((t593.length : Int) != 120) = true := bne_iff_ne.mpr c23
     (first | rw [c23b0] | (simp only [zb3, zb4]; rw [c23b0]) | skip)
     have H' := za.mk H
     clear H
     have hcz27_0 : w22.cell? ⟨gb599, 0, none⟩ = some (.slice Ao14 t593.length co14) := (zg BK599.out 0).trans rfl
     have hcz27_1 : w22.cell? ⟨gb599, 1, none⟩ = some (.slice Ao16 t596.length co16) := (zg BK599.out 1).trans rfl
     have hfz27_0 := zf BK599.out 0
     have hfz27_1 := zf BK599.out 1
     go_wp2
     go_meet
     case rel => exact ⟨_, (true), Zrs, H', ⟨by first | omega | exact Nat.le_refl _⟩, ⟨Zq16 HO592.out⟩, ⟨by (with_reducible repeat (first | apply Kd.Q_alloc | apply Kd.Q_drewN | apply Kd.Q_drew)); exact Kd.Q_mono HO595.out (fun _ hk => hk.1.1)⟩, ⟨by (with_reducible repeat (first | apply Kd.Q_alloc | apply Kd.Q_drewN | apply Kd.Q_drew)); exact Kd.Q_mono HO598.out (fun _ hk => hk.1.1)⟩, ⟨Zq2 BK599.out⟩, ⟨Zq3 HB.out GE599.out⟩⟩
   case rest =>
    clear HC8
    try clear c1
    try clear c2
    try clear c2b0
    try clear c2b1
    try clear p2
    try clear c6
    try clear c7
    try clear c11
    try clear c12
    try clear c13
    try clear c14
    try clear c23
    try clear c23b0
    try clear c23b1
    try clear hcz15_0
    try clear hcz15_1
    try clear hcz25_0
    try clear hcz25_1
    try clear hcz27_0
    try clear hcz27_1
    try clear hfz15_0
    try clear hfz15_1
    try clear hfz25_0
    try clear hfz25_1
    try clear hfz27_0
    try clear hfz27_1
    obtain ⟨kq, x31_7, rfl, HA, HJ7, HO_4, HO_600000, HO_600001, BK599, HB⟩ := hcut
    cases kq with
    | zero => exact absurd HA.out (by simp [laws_FnNonPreemptiveSafe.j0])
    | succ kj7 =>
     have H := HA.out
     clear HA
     simp only [laws_FnNonPreemptiveSafe.j0] at H
     by_cases c28 : x31_7 = true
     ·subst c28
      have H1 : ((laws_alive.f).bind fun t608 => (some t608)) = some r := by rw [if_pos rfl] at H; exact H
      clear H
      have H := H1
      clear H1
      replace H := Option.bind_eq_some_iff.mp H
      obtain ⟨t608, A290, H⟩ := H
      replace H : (some t608) = some r := H
      have A29 := za.mk A290
      clear A290
      obtain rfl := Option.some.inj H
      go_wp2_with (first | ((with_reducible refine zba (f := 15) rfl ?_); refine zbx (some 32) rfl rfl Try.func15 (by kernel_rfl) rfl #[] rfl Zmt ?_; (with_reducible refine (laws_alive.calls  t608 _ A29.out).mono ?_); rintro e w30 ⟨rfl, hb⟩; refine ⟨_, rfl, ?_⟩; have n0_ := za.mk (Kd.zcq (Zq16 HO_4.out) hb); have n1_ := za.mk (Kd.zcq (Zq16 HO_600000.out) hb); have n2_ := za.mk (Kd.zcq (Zq16 HO_600001.out) hb); have n3_ := za.mk (zbn (g := gb599) (o := .cells #[.slice Ao14 t593.length co14, .slice Ao16 t596.length co16] 29 (0, 0)) (Zq2 BK599.out) hb); have n4_ := za.mk (zo (Zq3 HB.out GE599.out) hb); clear HO_4; clear HO_600000; clear HO_600001; clear BK599; clear HB; have HO_4 := n0_; have HO_600000 := n1_; have HO_600001 := n2_; have BK599 := n3_; have HB := n4_; clear n0_ n1_ n2_ n3_ n4_; (try clear hb); (try clear hb2); (try clear hk); (try clear hi)))
      go_ret
      exact ⟨by first | rfl | (simp [zw, zx] <;> rfl) | (simp [*, zw, zx] <;> rfl), Zq3 HB.out GE599.out⟩
     ·replace c28 := Bool.eq_false_iff.mpr c28
      subst c28
      have H1 : ((zdn.f t588 t593 t596).bind fun t609 => (some ((t609.length : Int) == 0))) = some r := by rw [if_neg (show ¬ (false = true) by decide)] at H; exact H
      clear H
      have H := H1
      clear H1
      replace H := Option.bind_eq_some_iff.mp H
      obtain ⟨t609, A310, H⟩ := H
      replace H : (some ((t609.length : Int) == 0)) = some r := H
      have A31 := za.mk A310
      clear A310
      obtain rfl := Option.some.inj H
      have hcz32_0 : wc.cell? ⟨gb599, 0, none⟩ = some (.slice Ao14 t593.length co14) := (zg BK599.out 0).trans rfl
      have hcz32_1 : wc.cell? ⟨gb599, 1, none⟩ = some (.slice Ao16 t596.length co16) := (zg BK599.out 1).trans rfl
      have hfz32_0 := zf BK599.out 0
      have hfz32_1 := zf BK599.out 1
      go_wp2_with (first | ((with_reducible refine zba (f := 29) rfl ?_); refine zbx (some 35) rfl rfl Try.func29 (by kernel_rfl) rfl #[.slice Ao11 t588.length co11, .agg #[.slice Ao14 t593.length co14, .slice Ao16 t596.length co16]] rfl Zmt ?_; (with_reducible refine (zdn.calls _ _ t588 _ _ t593 _ _ t596 t609 _ ?side1 ?side2 ?side3 ?side4 ?side5 ?side6 A31.out).mono ?_); (case side1 => exact Zq15 ((Kd.zcj HO_4.out).2.2)); (case side2 => exact (Kd.zcj HO_4.out).2.1); (case side3 => exact Zq15 ((Kd.zcj HO_600000.out).2.2)); (case side4 => exact (Kd.zcj HO_600000.out).2.1); (case side5 => exact Zq15 ((Kd.zcj HO_600001.out).2.2)); (case side6 => exact (Kd.zcj HO_600001.out).2.1); rintro e w33 ⟨v610, rfl, ho0, hb⟩; refine ⟨_, rfl, ?_⟩; have n0_ := za.mk (Kd.zcq (Zq16 HO_4.out) hb); have n1_ := za.mk (Kd.Q_elder' (Zq16 HO_600000.out) (Kd.Q_base ho0) hb); have n2_ := za.mk (Kd.Q_elder' (Zq16 HO_600001.out) (Kd.Q_base ho0) hb); have n3_ := za.mk (Kd.Q_lower (Kd.Q_new' (Kd.Q_new' ho0 (Kd.Q_lt (Zq16 HO_600000.out))) (Kd.Q_lt (Zq16 HO_600001.out))) (zu (Zq3 HB.out GE599.out))); have n4_ := za.mk (zbn (g := gb599) (o := .cells #[.slice Ao14 t593.length co14, .slice Ao16 t596.length co16] 29 (0, 0)) (Zq2 BK599.out) hb); have n5_ := za.mk (zo (Zq3 HB.out GE599.out) hb); clear HO_4; clear HO_600000; clear HO_600001; clear BK599; clear HB; have HO_4 := n0_; have HO_600000 := n1_; have HO_600001 := n2_; have HO611 := n3_; have BK599 := n4_; have HB := n5_; clear n0_ n1_ n2_ n3_ n4_ n5_; (try clear hb); (try clear hb2); (try clear hk); (try clear hi); (try clear ho0); obtain ⟨Ao34, co34, eo34⟩ := Kd.Q_slice HO611.out; subst eo34))
      go_ret
      exact ⟨by first | rfl | (simp [zw, zx] <;> rfl) | (simp [*, zw, zx] <;> rfl), Zq3 HB.out GE599.out⟩
  ·replace c7 := Bool.eq_false_iff.mpr c7
   subst c7
   have H1 : (some false) = some r := by rw [if_neg (show ¬ (false = true) by decide)] at H; exact H
   exact Bool.noConfusion ((Option.some.inj H1).trans HRT.out)
def laws_FnNonPreemptiveSafe.Pure : Prop := ∀ (l0 : List Int), l0.length * 1 ≤ 140737488351232 → (l0.length ≤ maxLen ∧ ∀ y0 ∈ l0, (Lit.int .u8 y0).wf = true) → ∃ k, laws_FnNonPreemptiveSafe.f k l0 = some true
end Go.Proofs.Ytkdfjomhichkoaa.P
namespace Go.Proofs.Ytkdfjomhichkoaa.Base
open Go.RowKit Go.Proofs.Ytkdfjomhichkoaa.P Go.Proofs.YtkdfjomhichkoaaW.PrintWords Go.Proofs.YtkdfjomhichkoaaW.PrintLast Go.Proofs.YtkdfjomhichkoaaW.PrintMore
theorem w64 {x : Int} (h0 : -9223372036854775808 ≤ x) (h1 : x < 9223372036854775808) : wrap64 x = x := by unfold wrap64; omega
theorem mul_bd {a b A B : Int} (ha : 0 ≤ a) (hA : a ≤ A) (hb : 0 ≤ b) (hB : b ≤ B) : 0 ≤ a * b ∧ a * b ≤ A * B :=
  ⟨Int.mul_nonneg ha hb, Int.mul_le_mul hA hB hb (by omega)⟩
theorem in_f (a b c : Int) : zcv.f a b c = some (decide (b ≤ a ∧ a ≤ c)) := by
  unfold zcv.f
  by_cases h : a ≥ b
  · rw [if_pos h]; simp [show b ≤ a from h]
  · rw [if_neg h]; simp [show ¬ b ≤ a from h]
theorem l1In_f (a b c : Int) : zbs.f a b c = some (decide (b ≤ a ∧ a ≤ c)) := by
  unfold zbs.f
  by_cases h : a ≥ b
  · rw [if_pos h]; simp [show b ≤ a from h]
  · rw [if_neg h]; simp [show ¬ b ≤ a from h]
theorem and_bind {α : Type} (p : Prop) [Decidable p] (x y : Option α) : (some (decide p)).bind (fun t => if t = true then x else y) = if p then x else y := by
  by_cases hp : p <;> simp [hp]
theorem mn_min (a b : Int) : mn a b = min a b := by unfold mn; omega
theorem tdiv_pos {a b : Int} (h : 0 ≤ a) : Int.tdiv a b = a / b := Int.tdiv_eq_ediv_of_nonneg h
theorem tmod_pos {a b : Int} (h : 0 ≤ a) : Int.tmod a b = a % b := Int.tmod_eq_emod_of_nonneg h
end Go.Proofs.Ytkdfjomhichkoaa.Base
namespace Go.Proofs.Ytkdfjomhichkoaa.Alive
open Go.RowKit Go.Proofs.Ytkdfjomhichkoaa.P Go.Proofs.Ytkdfjomhichkoaa.Base Go.Proofs.YtkdfjomhichkoaaW.PrintWords Go.Proofs.YtkdfjomhichkoaaW.PrintLast
def TV (c d p : Int) : Prop := 1 ≤ c ∧ c ≤ 8 ∧ c ≤ d ∧ d ≤ p ∧ p ≤ 12
instance (c d p : Int) : Decidable (TV c d p) := by unfold TV; infer_instance
theorem task_f (c d p : Int) : zcl.f c d p = some (decide (TV c d p)) := by
  unfold zcl.f
  rw [in_f, in_f, and_bind, and_bind]
  by_cases h1 : 1 ≤ c ∧ c ≤ 8
  · by_cases h2 : c ≤ d ∧ d ≤ p
    · rw [if_pos h1, if_pos h2]; congr 1; rw [decide_eq_decide]; unfold TV; omega
    · rw [if_pos h1, if_neg h2]; congr 1; symm; rw [decide_eq_false_iff_not]; unfold TV; omega
  · rw [if_neg h1]; congr 1; symm; rw [decide_eq_false_iff_not]; unfold TV; omega
theorem alive_f : laws_alive.f = some true := by
  unfold laws_alive.f
  rw [task_f]; rfl
end Go.Proofs.Ytkdfjomhichkoaa.Alive
namespace Go.Proofs.Ytkdfjomhichkoaa.Set
open Go.RowKit Go.Proofs.Ytkdfjomhichkoaa.P Go.Proofs.Ytkdfjomhichkoaa.Base Go.Proofs.Ytkdfjomhichkoaa.Alive Go.Proofs.YtkdfjomhichkoaaW.PrintWords Go.Proofs.YtkdfjomhichkoaaW.PrintLast
abbrev Task := S88
def TVt (t : Task) : Prop := TV t.f0 t.f1 t.f2
instance (t : Task) : Decidable (TVt t) := by unfold TVt; infer_instance
def SetOk (l : List Task) : Prop := l.length ≤ 5 ∧ ∀ t ∈ l, TVt t
instance (l : List Task) : Decidable (SetOk l) := by unfold SetOk; infer_instance
def Impl (l : List Task) : Prop := SetOk l ∧ ∀ t ∈ l, t.f1 = t.f2
instance (l : List Task) : Decidable (Impl l) := by unfold Impl; infer_instance
theorem taskOk_iff (t : Task) : taskOk t = decide (TVt t) := by
  unfold taskOk
  rw [decide_eq_decide]; unfold TVt TV; omega
theorem any_tasks_f (l : List Task) : zc2.f l = some (decide (¬ ∀ t ∈ l, TVt t)) := by
  unfold zc2.f
  congr 1
  rw [Bool.eq_iff_iff, List.any_eq_true]
  simp [zc2.bad, taskOk_iff]
theorem set_f (l : List Task) : zce.f l = some (decide (SetOk l)) := by
  unfold zce.f
  by_cases h : (l.length : Int) ≤ 5
  · rw [if_pos h, any_tasks_f]
    simp only [Option.bind_some]
    congr 1
    rw [Bool.eq_iff_iff]
    unfold SetOk
    have : l.length ≤ 5 := by omega
    simp [this]
  · rw [if_neg h]
    congr 1; symm; rw [decide_eq_false_iff_not]
    unfold SetOk; omega
theorem any_late_f (l : List Task) : zc7.f l = some (decide (¬ ∀ t ∈ l, t.f1 = t.f2)) := by
  unfold zc7.f
  congr 1
  rw [Bool.eq_iff_iff, List.any_eq_true]
  simp [zc7.bad]
theorem impl_f (l : List Task) : zcm.f l = some (decide (Impl l)) := by
  unfold zcm.f
  rw [set_f, and_bind, any_late_f]
  simp only [Option.bind_some]
  by_cases h : SetOk l
  · rw [if_pos h]
    congr 1
    rw [Bool.eq_iff_iff]
    unfold Impl
    simp [h]
  · rw [if_neg h]
    congr 1; symm; rw [decide_eq_false_iff_not]
    exact fun h' => h h'.1
end Go.Proofs.Ytkdfjomhichkoaa.Set
namespace Go.Proofs.Ytkdfjomhichkoaa.Gen
open Go.RowKit Go.Proofs.YtkdfjomhichkoaaW.PrintWords Go.Proofs.YtkdfjomhichkoaaW.PrintLast
def Tot {α : Type} (g : Nat → Option α) (P : α → Prop) : Prop := ∃ r, Ev g r ∧ P r
theorem Tot.ret {α : Type} {P : α → Prop} (a : α) (h : P a) : Tot (fun _ => some a) P := ⟨a, Ev.now a, h⟩
theorem Tot.mono {α : Type} {P Q : α → Prop} {g : Nat → Option α} (h : Tot g P) (hpq : ∀ a, P a → Q a) : Tot g Q := by
  obtain ⟨r, h1, h2⟩ := h
  exact ⟨r, h1, hpq r h2⟩
theorem Tot.congr {α : Type} {P : α → Prop} {g f : Nat → Option α} (e : ∀ k, g k = f k) (h : Tot f P) : Tot g P := by
  have : g = f := funext e
  rw [this]; exact h
theorem Tot.step {α : Type} {P : α → Prop} {g f : Nat → Option α} (e : ∀ k, g (k + 1) = f k) (h : Tot f P) : Tot g P := by
  obtain ⟨r, h1, h2⟩ := h
  exact ⟨r, Ev.step e h1, h2⟩
theorem Tot.bind {α β : Type} {P : α → Prop} {Q : β → Prop} {g : Nat → Option α} {f : Nat → α → Option β} (h : Tot g P) (hf : ∀ a, P a → Tot (fun k => f k a) Q) : Tot (fun k => (g k).bind (f k)) Q := by
  obtain ⟨r, h1, h2⟩ := h
  obtain ⟨q, h3, h4⟩ := hf r h2
  exact ⟨q, Ev.bind h1 h3, h4⟩
theorem Tot.bind0 {α β : Type} {Q : β → Prop} {g : Option α} {f : Nat → α → Option β} {a : α} (h : g = some a) (hf : Tot (fun k => f k a) Q) : Tot (fun k => g.bind (f k)) Q := by
  subst h; exact hf
theorem Tot.yes {α : Type} {P : α → Prop} {c : Prop} [Decidable c] {g f : Nat → Option α} (hc : c) (h : Tot g P) : Tot (fun k => if c then g k else f k) P := by
  simp only [if_pos hc]; exact h
theorem Tot.no {α : Type} {P : α → Prop} {c : Prop} [Decidable c] {g f : Nat → Option α} (hc : ¬ c) (h : Tot f P) : Tot (fun k => if c then g k else f k) P := by
  simp only [if_neg hc]; exact h
theorem Tot.ite {α : Type} {P : α → Prop} {c : Prop} [Decidable c] {g f : Nat → Option α} (h1 : c → Tot g P) (h2 : ¬ c → Tot f P) : Tot (fun k => if c then g k else f k) P := by
  by_cases hc : c
  · exact Tot.yes hc (h1 hc)
  · exact Tot.no hc (h2 hc)
theorem Tot.rounds {g : Nat → Option Bool} (h : Tot g (fun r => r = true)) : ∃ k, g k = some true := by
  obtain ⟨r, h1, rfl⟩ := h
  exact h1.rounds
theorem Tot.val {α : Type} {g : Nat → Option α} {a : α} (h : Ev g a) : Tot g (fun r => r = a) := ⟨a, h, rfl⟩
theorem Tot.ev {α : Type} {g : Nat → Option α} {a : α} (h : Tot g (fun r => r = a)) : Ev g a := by
  obtain ⟨r, h1, rfl⟩ := h
  exact h1
theorem Tot.loop {σ ρ : Type} {P : ρ → Prop} (F : Nat → Nat → σ → Option ρ) (n : Nat) (Inv : Nat → σ → Prop)
    (hstep : ∀ i s, i < n → Inv i s → (∀ s', Inv (i + 1) s' → Tot (fun k => F k (i + 1) s') P) → Tot (fun k => F k i s) P)
    (hend : ∀ s, Inv n s → Tot (fun k => F k n s) P) : ∀ i s, i ≤ n → Inv i s → Tot (fun k => F k i s) P := by
  have key : ∀ d i s, i + d = n → Inv i s → Tot (fun k => F k i s) P := by
    intro d
    induction d with
    | zero => intro i s hi h; obtain rfl : i = n := by omega
              exact hend s h
    | succ d ih => intro i s hi h; exact hstep i s (by omega) h (fun s' hs' => ih (i + 1) s' (by omega) hs')
  intro i s hi h
  exact key (n - i) i s (by omega) h
theorem rd_at (xs : List Int) (i : Nat) (h : i < xs.length) : rd xs (i : Int) = xs[i] := by
  unfold rd
  rw [List.getD_eq_getElem?_getD, Int.toNat_natCast, List.getElem?_eq_getElem h]
  rfl
theorem fill_step {β : Type} (acc tgt : List β) (i : Nat) (hl : acc.length = tgt.length) (h : acc.take i = tgt.take i) (hi : i < tgt.length) : (acc.set i tgt[i]).take (i + 1) = tgt.take (i + 1) := by
  rw [List.take_succ_eq_append_getElem (by simpa [hl] using hi), List.take_succ_eq_append_getElem hi]
  rw [List.take_set_of_le (Nat.le_refl i), h]
  simp
theorem Tot.copy {β : Type} (F : Nat → List β → Int → Option (List β)) (tgt : List β) (z : β)
    (hstep : ∀ k acc (i : Nat) (h : i < tgt.length), acc.length = tgt.length → F (k + 1) acc (i : Int) = F k (acc.set i tgt[i]) ((i : Int) + 1))
    (hend : ∀ k acc, acc.length = tgt.length → F (k + 1) acc (tgt.length : Int) = some acc) : Tot (fun k => F k (List.replicate tgt.length z) 0) (fun r => r = tgt) := by
  have key : ∀ d (i : Nat) acc, i + d = tgt.length → acc.length = tgt.length → acc.take i = tgt.take i → Tot (fun k => F k acc (i : Int)) (fun r => r = tgt) := by
    intro d
    induction d with
    | zero =>
      intro i acc hi hl ht
      obtain rfl : i = tgt.length := by omega
      refine Tot.step (f := fun _ => some acc) (fun k => hend k acc hl) (Tot.ret _ ?_)
      rw [List.take_length, ← hl, List.take_length] at ht
      exact ht
    | succ d ih =>
      intro i acc hi hl ht
      have hlt : i < tgt.length := by omega
      refine Tot.step (fun k => hstep k acc i hlt hl) ?_
      have := ih (i + 1) (acc.set i tgt[i]) (by omega) (by simpa using hl) (fill_step acc tgt i hl ht hlt)
      simpa using this
  simpa using key tgt.length 0 (List.replicate tgt.length z) (by omega) (by simp) (by simp)
theorem Tot.look {ρ : Type} {r : ρ} (F : Nat → Int → Option ρ) (n : Nat) (hstep : ∀ k (i : Nat), i < n → F (k + 1) (i : Int) = F k ((i : Int) + 1)) (hend : ∀ k, F (k + 1) (n : Int) = some r) : Tot (fun k => F k 0) (fun q => q = r) := by
  have key : ∀ d (i : Nat), i + d = n → Tot (fun k => F k (i : Int)) (fun q => q = r) := by
    intro d
    induction d with
    | zero => intro i hi; obtain rfl : i = n := by omega
              exact Tot.step (f := fun _ => some r) (fun k => hend k) (Tot.ret _ rfl)
    | succ d ih => intro i hi; exact Tot.step (fun k => hstep k i (by omega)) (by simpa using ih (i + 1) (by omega))
  simpa using key n 0 (by omega)
end Go.Proofs.Ytkdfjomhichkoaa.Gen
namespace Go.Proofs.Ytkdfjomhichkoaa.Tm
open Go.RowKit Go.Proofs.Ytkdfjomhichkoaa.P Go.Proofs.Ytkdfjomhichkoaa.Base Go.Proofs.Ytkdfjomhichkoaa.Gen Go.Proofs.Ytkdfjomhichkoaa.Alive Go.Proofs.Ytkdfjomhichkoaa.Set Go.Proofs.YtkdfjomhichkoaaW.PrintWords Go.Proofs.YtkdfjomhichkoaaW.PrintLast
def sm {α : Type} (f : α → Int) : List α → Int
  | [] => 0
  | a :: l => f a + sm f l
theorem sm_append {α : Type} (f : α → Int) (l m : List α) : sm f (l ++ m) = sm f l + sm f m := by
  induction l with
  | nil => simp [sm]
  | cons a l ih => rw [List.cons_append, sm, sm, ih]; omega
theorem sm_take {α : Type} (f : α → Int) (l : List α) (i : Nat) (h : i < l.length) : sm f (l.take (i + 1)) = sm f (l.take i) + f l[i] := by
  rw [List.take_succ_eq_append_getElem h, sm_append]
  simp [sm]
theorem sm_le {α : Type} (f g : α → Int) (l : List α) (h : ∀ a ∈ l, f a ≤ g a) : sm f l ≤ sm g l := by
  induction l with
  | nil => exact Int.le_refl _
  | cons a l ih =>
    have h1 := h a (List.mem_cons_self ..)
    have h2 := ih (fun x hx => h x (List.mem_cons_of_mem _ hx))
    rw [sm, sm]; omega
theorem sm_nonneg {α : Type} (f : α → Int) (l : List α) (h : ∀ a ∈ l, 0 ≤ f a) : 0 ≤ sm f l := by
  induction l with
  | nil => exact Int.le_refl _
  | cons a l ih =>
    have h1 := h a (List.mem_cons_self ..)
    have h2 := ih (fun x hx => h x (List.mem_cons_of_mem _ hx))
    rw [sm]; omega
theorem sm_bd {α : Type} (f : α → Int) (l : List α) (B : Int) (hB : ∀ a ∈ l, f a ≤ B) : sm f l ≤ l.length * B := by
  induction l with
  | nil => simp [sm]
  | cons a l ih =>
    have h1 := hB a (List.mem_cons_self ..)
    have h2 := ih (fun x hx => hB x (List.mem_cons_of_mem _ hx))
    rw [sm, List.length_cons, Int.natCast_add, Int.add_mul]; simp only [Int.natCast_one, Int.one_mul]; omega
theorem sm_mul {α : Type} (f : α → Int) (c : Int) (l : List α) : sm (fun a => c * f a) l = c * sm f l := by
  induction l with
  | nil => simp [sm]
  | cons a l ih => rw [sm, sm, ih, Int.mul_add]
theorem take_bd {α : Type} (f : α → Int) (l : List α) (B : Int) (h0 : ∀ a ∈ l, 0 ≤ f a ∧ f a ≤ B) (i : Nat) (hi : i ≤ l.length) : 0 ≤ sm f (l.take i) ∧ sm f (l.take i) ≤ i * B := by
  refine ⟨sm_nonneg _ _ (fun a ha => (h0 a (List.mem_of_mem_take ha)).1), ?_⟩
  have := sm_bd f (l.take i) B (fun a ha => (h0 a (List.mem_of_mem_take ha)).2)
  rwa [List.length_take, Nat.min_eq_left hi] at this
def hy (l : List Task) : Nat := l.foldl (fun h t => Nat.lcm h t.f2.toNat) 1
theorem hy_take (l : List Task) (i : Nat) (h : i < l.length) : hy (l.take (i + 1)) = Nat.lcm (hy (l.take i)) l[i].f2.toNat := by
  unfold hy
  rw [List.take_succ_eq_append_getElem h, List.foldl_append]
  rfl
theorem fold_dvd (l : List Task) : ∀ h : Nat, h ∣ l.foldl (fun h t => Nat.lcm h t.f2.toNat) h ∧ ∀ t ∈ l, t.f2.toNat ∣ l.foldl (fun h t => Nat.lcm h t.f2.toNat) h := by
  induction l with
  | nil => intro h; exact ⟨Nat.dvd_refl _, fun t ht => by simp at ht⟩
  | cons a l ih =>
    intro h
    obtain ⟨h1, h2⟩ := ih (Nat.lcm h a.f2.toNat)
    refine ⟨Nat.dvd_trans (Nat.dvd_lcm_left _ _) h1, fun t ht => ?_⟩
    rcases List.mem_cons.1 ht with rfl | ht
    · exact Nat.dvd_trans (Nat.dvd_lcm_right _ _) h1
    · exact h2 t ht
theorem hy_dvd {l : List Task} {t : Task} (ht : t ∈ l) : t.f2.toNat ∣ hy l := (fold_dvd l 1).2 t ht
theorem fold_least (l : List Task) (m : Nat) (hm : ∀ t ∈ l, t.f2.toNat ∣ m) : ∀ h : Nat, h ∣ m → l.foldl (fun h t => Nat.lcm h t.f2.toNat) h ∣ m := by
  induction l with
  | nil => intro h hh; exact hh
  | cons a l ih =>
    intro h hh
    exact ih (fun t ht => hm t (List.mem_cons_of_mem _ ht)) _ (Nat.lcm_dvd hh (hm a (List.mem_cons_self ..)))
theorem hy_least {l : List Task} {m : Nat} (hm : ∀ t ∈ l, t.f2.toNat ∣ m) : hy l ∣ m := fold_least l m hm 1 (Nat.one_dvd _)
def AllV (l : List Task) : Prop := ∀ t ∈ l, TVt t
theorem _root_.Go.Proofs.Ytkdfjomhichkoaa.Set.SetOk.all {l : List Task} (h : SetOk l) : AllV l := h.2
theorem small_dvd {p : Nat} (h1 : 1 ≤ p) (h2 : p ≤ 12) : p ∣ 27720 := by
  have : p = 1 ∨ p = 2 ∨ p = 3 ∨ p = 4 ∨ p = 5 ∨ p = 6 ∨ p = 7 ∨ p = 8 ∨ p = 9 ∨ p = 10 ∨ p = 11 ∨ p = 12 := by omega
  rcases this with rfl | rfl | rfl | rfl | rfl | rfl | rfl | rfl | rfl | rfl | rfl | rfl <;> decide
theorem hy_small {l : List Task} (h : AllV l) : hy l ∣ 27720 := hy_least fun t ht => by
  have := h t ht
  unfold TVt TV at this
  exact small_dvd (by omega) (by omega)
theorem hy_bd {l : List Task} (h : AllV l) : 1 ≤ hy l ∧ hy l ≤ 27720 := by
  have h1 := hy_small h
  have h2 := Nat.le_of_dvd (by omega) h1
  have h3 : hy l ≠ 0 := fun e => by rw [e] at h1; simp at h1
  omega
theorem AllV.take {l : List Task} (h : AllV l) (i : Nat) : AllV (l.take i) := fun t ht => h t (List.mem_of_mem_take ht)
theorem lcm_div (a b : Nat) (h : 0 < a) : a / Nat.gcd a b * b = Nat.lcm a b := by
  unfold Nat.lcm
  obtain ⟨k, hk⟩ := Nat.gcd_dvd_left a b
  have hg : 0 < Nat.gcd a b := Nat.gcd_pos_of_pos_left _ h
  generalize Nat.gcd a b = g at *
  subst hk
  rw [Nat.mul_div_cancel_left _ hg, Nat.mul_assoc, Nat.mul_div_cancel_left _ hg]
def wk (l : List Task) (m : Int) : Int := sm (fun t => m / t.f2 * t.f0) l
def ld (l : List Task) : Int := wk l (hy l)
def d1 (t : Int) (x : Task) : Int := if t ≥ x.f1 then ((t - x.f1) / x.f2 + 1) * x.f0 else 0
def dm (l : List Task) (t : Int) : Int := sm (d1 t) l
theorem hy_int {l : List Task} (hl : AllV l) {x : Task} (hx : x ∈ l) : x.f2 ∣ (hy l : Int) := by
  have h1 := hy_dvd hx
  have := hl x hx
  unfold TVt TV at this
  have := Int.natCast_dvd_natCast.2 h1
  rwa [Int.toNat_of_nonneg (by omega)] at this
end Go.Proofs.Ytkdfjomhichkoaa.Tm
namespace Go.Proofs.Ytkdfjomhichkoaa.Edf
def su (f : Nat → Int) : Nat → Int
  | 0 => 0
  | n + 1 => su f n + f n
theorem su_congr {f g : Nat → Int} {n : Nat} (h : ∀ i, i < n → f i = g i) : su f n = su g n := by
  induction n with
  | zero => rfl
  | succ n ih => rw [su, su, ih (fun i hi => h i (by omega)), h n (by omega)]
theorem su_le {f g : Nat → Int} {n : Nat} (h : ∀ i, i < n → f i ≤ g i) : su f n ≤ su g n := by
  induction n with
  | zero => exact Int.le_refl _
  | succ n ih =>
    have h1 := ih (fun i hi => h i (by omega))
    have h2 := h n (by omega)
    rw [su, su]; omega
theorem su_zero (n : Nat) : su (fun _ => 0) n = 0 := by
  induction n with
  | zero => rfl
  | succ n ih => rw [su, ih]; rfl
theorem su_nonneg {f : Nat → Int} {n : Nat} (h : ∀ i, i < n → 0 ≤ f i) : 0 ≤ su f n := by
  have := su_le (f := fun _ => 0) (g := f) (n := n) h
  rw [su_zero] at this
  exact this
theorem su_add (f g : Nat → Int) (n : Nat) : su (fun i => f i + g i) n = su f n + su g n := by
  induction n with
  | zero => rfl
  | succ n ih => rw [su, su, su, ih]; omega
theorem su_ge {f : Nat → Int} {n j : Nat} (h : ∀ i, i < n → 0 ≤ f i) (hj : j < n) : f j ≤ su f n := by
  induction n with
  | zero => omega
  | succ n ih =>
    have h0 := su_nonneg (f := f) (n := n) (fun i hi => h i (by omega))
    have hn := h n (by omega)
    rw [su]
    by_cases e : j = n
    · subst e; omega
    · have := ih (fun i hi => h i (by omega)) (by omega)
      omega
theorem su_one {n j : Nat} (hj : j < n) (c : Int) : su (fun i => if i = j then c else 0) n = c := by
  induction n with
  | zero => omega
  | succ n ih =>
    rw [su]
    by_cases e : j = n
    · subst e
      have : su (fun i => if i = j then c else 0) j = su (fun _ => 0) j := su_congr fun i hi => if_neg (by omega)
      rw [this, su_zero, if_pos rfl]; omega
    · rw [ih (by omega), if_neg (by omega)]; omega
theorem su_kinds (f : Nat → Int) (tk : Nat → Nat) (m : Nat) : ∀ n, (∀ i, i < n → tk i < m) → su f n = su (fun k => su (fun i => if tk i = k then f i else 0) n) m := by
  intro n
  induction n with
  | zero => intro _; rw [show su f 0 = 0 from rfl]; symm; exact su_zero m
  | succ n ih =>
    intro h
    rw [su, ih (fun i hi => h i (by omega))]
    have : su (fun k => su (fun i => if tk i = k then f i else 0) (n + 1)) m = su (fun k => su (fun i => if tk i = k then f i else 0) n + (if k = tk n then f n else 0)) m := su_congr fun k _ => by
      rw [su]
      by_cases e : tk n = k
      · rw [if_pos e, if_pos e.symm]
      · rw [if_neg e, if_neg (fun h => e h.symm)]
    rw [this, su_add, su_one (h n (by omega))]
structure Sch (n : Nat) (rel ex : Nat → Int) (L : Nat → Nat → Int) (r : Nat → Int) : Prop where
  start : ∀ i, i < n → L 0 i = ex i
  step : ∀ t i, i < n → L (t + 1) i = L t i - (if r t = (i : Int) then 1 else 0)
  rng : ∀ t, r t = -1 ∨ ∃ i, i < n ∧ r t = (i : Int) ∧ rel i ≤ (t : Int) ∧ 0 < L t i
  pos : ∀ i, i < n → 1 ≤ ex i
section
variable {n : Nat} {rel ex : Nat → Int} {L : Nat → Nat → Int} {r : Nat → Int}
theorem Sch.nonneg (h : Sch n rel ex L r) : ∀ t i, i < n → 0 ≤ L t i := by
  intro t
  induction t with
  | zero => intro i hi; rw [h.start i hi]; have := h.pos i hi; omega
  | succ t ih =>
    intro i hi
    rw [h.step t i hi]
    have h1 := ih i hi
    split
    · rename_i e
      rcases h.rng t with h2 | ⟨j, hj, h2, _, h3⟩
      · omega
      · have : i = j := by omega
        subst this; omega
    · omega
theorem Sch.mono (h : Sch n rel ex L r) (i : Nat) (hi : i < n) : ∀ s t, s ≤ t → L t i ≤ L s i := by
  intro s t hst
  induction t with
  | zero => obtain rfl : s = 0 := by omega
            exact Int.le_refl _
  | succ t ih =>
    by_cases e : s = t + 1
    · subst e; exact Int.le_refl _
    · have := ih (by omega)
      rw [h.step t i hi]
      split <;> omega
theorem Sch.le_ex (h : Sch n rel ex L r) (t i : Nat) (hi : i < n) : L t i ≤ ex i := by
  rw [← h.start i hi]
  exact h.mono i hi 0 t (by omega)
theorem Sch.whole (h : Sch n rel ex L r) (i : Nat) (hi : i < n) : ∀ t : Nat, (t : Int) ≤ rel i → L t i = ex i := by
  intro t
  induction t with
  | zero => intro _; exact h.start i hi
  | succ t ih =>
    intro ht
    rw [h.step t i hi, ih (by omega), if_neg]
    · omega
    · intro e
      rcases h.rng t with h2 | ⟨j, hj, h2, h3, _⟩
      · omega
      · have : i = j := by omega
        subst this; omega
def lf (n : Nat) (L : Nat → Nat → Int) (S : Nat → Prop) [DecidablePred S] (t : Nat) : Int := su (fun i => if S i then L t i else 0) n
theorem Sch.run_in (h : Sch n rel ex L r) (S : Nat → Prop) [DecidablePred S] (t i : Nat) (hi : i < n) (hr : r t = (i : Int)) (hS : S i) : lf n L S (t + 1) = lf n L S t - 1 := by
  unfold lf
  have e : su (fun j => if S j then L t j else 0) n = su (fun j => (if S j then L (t + 1) j else 0) + (if j = i then 1 else 0)) n := su_congr fun j hj => by
    rw [h.step t j hj]
    by_cases e : j = i
    · subst e
      rw [if_pos hS, if_pos hS, if_pos hr, if_pos rfl]; omega
    · rw [if_neg e, if_neg (show ¬ r t = (j : Int) by omega)]
      split <;> omega
  rw [e, su_add, su_one hi]; omega
theorem Sch.run_out (h : Sch n rel ex L r) (S : Nat → Prop) [DecidablePred S] (t : Nat) (hr : ∀ i, i < n → S i → r t ≠ (i : Int)) : lf n L S (t + 1) = lf n L S t := by
  unfold lf
  refine su_congr fun j hj => ?_
  rw [h.step t j hj]
  by_cases e : S j
  · rw [if_pos e, if_pos e, if_neg (hr j hj e)]; omega
  · rw [if_neg e, if_neg e]
theorem Sch.busy (h : Sch n rel ex L r) (S : Nat → Prop) [DecidablePred S] (c : Nat → Int) (a : Nat) : ∀ d : Nat,
    (∀ t, a ≤ t → t < a + d → (c (t + 1) = c t + 1 ∧ ∃ i, i < n ∧ r t = (i : Int) ∧ S i) ∨ (c (t + 1) = c t ∧ r t = -1)) → lf n L S (a + d) = lf n L S a - (c (a + d) - c a) := by
  intro d
  induction d with
  | zero => intro _; rw [Nat.add_zero]; omega
  | succ d ih =>
    intro hh
    have h1 := ih (fun t h1 h2 => hh t h1 (by omega))
    rw [show a + (d + 1) = a + d + 1 by omega]
    rcases hh (a + d) (by omega) (by omega) with ⟨h2, i, hi, hr, hS⟩ | ⟨h2, hr⟩
    · rw [h.run_in S _ i hi hr hS]; omega
    · rw [h.run_out S _ (fun i hi _ => by omega)]; omega
theorem Sch.late (h : Sch n rel ex L r) (S : Nat → Prop) [DecidablePred S] (c : Nat → Int) (a d J : Nat) (hJ : J < n) (hS : S J) (hl : 0 < L (a + d) J)
    (hh : ∀ t, a ≤ t → t < a + d → (c (t + 1) = c t + 1 ∧ ∃ i, i < n ∧ r t = (i : Int) ∧ S i) ∨ (c (t + 1) = c t ∧ r t = -1)) :
    c (a + d) - c a + 1 ≤ su (fun i => if S i then ex i else 0) n := by
  have h1 := h.busy S c a d hh
  have h2 : lf n L S a ≤ su (fun i => if S i then ex i else 0) n := su_le fun i hi => by
    split
    · exact h.le_ex a i hi
    · exact Int.le_refl _
  have h3 : (if S J then L (a + d) J else 0) ≤ lf n L S (a + d) := su_ge (f := fun i => if S i then L (a + d) i else 0) (fun i hi => by
    split
    · exact h.nonneg _ i hi
    · exact Int.le_refl _) hJ
  rw [if_pos hS] at h3
  omega
end
theorem few (rel dl ex : Nat → Int) (K : Nat → Prop) [DecidablePred K] (P C a b : Int)
    (hsp : ∀ i j, i < j → K i → K j → rel i + P ≤ rel j) (hex : ∀ i, K i → ex i ≤ C) :
    ∀ n, su (fun i => if K i ∧ a ≤ rel i ∧ dl i ≤ b then ex i else 0) n = 0 ∨
      ∃ c : Int, ∃ j, j < n ∧ K j ∧ a ≤ rel j ∧ dl j ≤ b ∧ 1 ≤ c ∧ a + (c - 1) * P ≤ rel j ∧ su (fun i => if K i ∧ a ≤ rel i ∧ dl i ≤ b then ex i else 0) n ≤ c * C := by
  intro n
  induction n with
  | zero => exact Or.inl rfl
  | succ n ih =>
    rw [su]
    by_cases hk : K n ∧ a ≤ rel n ∧ dl n ≤ b
    · rw [if_pos hk]
      have hx := hex n hk.1
      right
      rcases ih with h0 | ⟨c, j, hj, kj, aj, bj, c1, hc, hs⟩
      · refine ⟨1, n, by omega, hk.1, hk.2.1, hk.2.2, by omega, ?_, ?_⟩
        · rw [Int.sub_self, Int.zero_mul]; omega
        · rw [h0, Int.one_mul]; omega
      · have hsp' := hsp j n (by omega) kj hk.1
        refine ⟨c + 1, n, by omega, hk.1, hk.2.1, hk.2.2, by omega, ?_, ?_⟩
        · rw [show c + 1 - 1 = (c - 1) + 1 by omega, Int.add_mul, Int.one_mul]; omega
        · rw [Int.add_mul, Int.one_mul]; omega
    · rw [if_neg hk, Int.add_zero]
      rcases ih with h0 | ⟨c, j, hj, h⟩
      · exact Or.inl h0
      · exact Or.inr ⟨c, j, by omega, h⟩
theorem few_le (rel dl ex : Nat → Int) (K : Nat → Prop) [DecidablePred K] (P D C a b : Int) (hP : 1 ≤ P) (hC : 0 ≤ C)
    (hsp : ∀ i j, i < j → K i → K j → rel i + P ≤ rel j) (hdl : ∀ i, K i → dl i = rel i + D) (hex : ∀ i, K i → ex i ≤ C) (n : Nat) :
    su (fun i => if K i ∧ a ≤ rel i ∧ dl i ≤ b then ex i else 0) n ≤ if b - a ≥ D then ((b - a - D) / P + 1) * C else 0 := by
  rcases few rel dl ex K P C a b hsp hex n with h0 | ⟨c, j, _, kj, aj, bj, c1, hc, hs⟩
  · rw [h0]
    split
    · rename_i h
      have := Int.ediv_nonneg (show 0 ≤ b - a - D by omega) (show 0 ≤ P by omega)
      exact Int.mul_nonneg (by omega) hC
    · exact Int.le_refl _
  · have hj := hdl j kj
    have hcp : 0 ≤ (c - 1) * P := Int.mul_nonneg (by omega) (by omega)
    rw [if_pos (by omega)]
    have hq : c - 1 ≤ (b - a - D) / P := by
      apply (Int.le_ediv_iff_mul_le (by omega)).2
      omega
    exact Int.le_trans hs (Int.mul_le_mul_of_nonneg_right (by omega) hC)
theorem last_bad (G : Nat → Prop) : ∀ d : Nat, ∃ a, a ≤ d ∧ (∀ t, a ≤ t → t < d → G t) ∧ (a = 0 ∨ ¬ G (a - 1)) := by
  intro d
  induction d with
  | zero => exact ⟨0, Nat.le_refl _, fun t _ h => by omega, Or.inl rfl⟩
  | succ d ih =>
    by_cases h : G d
    · obtain ⟨a, h1, h2, h3⟩ := ih
      refine ⟨a, by omega, fun t ha hd => ?_, h3⟩
      by_cases e : t = d
      · subst e; exact h
      · exact h2 t ha (by omega)
    · exact ⟨d + 1, Nat.le_refl _, fun t _ _ => by omega, Or.inr h⟩
theorem demand_le {n m : Nat} {rel dl ex : Nat → Int} {tk : Nat → Nat} {P C : Nat → Int} (htk : ∀ i, i < n → tk i < m) (hP : ∀ k, k < m → 1 ≤ P k) (hC : ∀ k, k < m → 0 ≤ C k)
    (D : Nat → Int) (hdl : ∀ i, i < n → dl i = rel i + D (tk i)) (hex : ∀ i, i < n → ex i ≤ C (tk i)) (hsp : ∀ i j, i < j → j < n → tk i = tk j → rel i + P (tk i) ≤ rel j) (a b : Int) :
    su (fun i => if a ≤ rel i ∧ dl i ≤ b then ex i else 0) n ≤ su (fun k => if b - a ≥ D k then ((b - a - D k) / P k + 1) * C k else 0) m := by
  rw [su_kinds _ tk m n htk]
  refine su_le fun k hk => ?_
  have h := few_le rel dl ex (fun i => i < n ∧ tk i = k) (P k) (D k) (C k) a b (hP k hk) (hC k hk) (fun i j hij hi hj => by
    have := hsp i j hij hj.1 (by rw [hi.2, hj.2])
    rwa [hi.2] at this) (fun i hi => by rw [hdl i hi.1, hi.2]) (fun i hi => by have := hex i hi.1; rwa [hi.2] at this) n
  refine Int.le_trans (Int.le_of_eq (su_congr fun i hi => ?_)) h
  by_cases e : tk i = k
  · by_cases e2 : a ≤ rel i ∧ dl i ≤ b
    · rw [if_pos e, if_pos e2, if_pos ⟨⟨hi, e⟩, e2⟩]
    · rw [if_pos e, if_neg e2, if_neg (fun h => e2 h.2)]
  · rw [if_neg e, if_neg (fun h => e h.1.2)]
theorem implicit_term {x P C : Int} (hP : 1 ≤ P) (hx : 0 ≤ x) : (if x ≥ P then ((x - P) / P + 1) * C else 0) = x / P * C := by
  split
  · have : (x - P) / P = x / P - 1 := by
      have h := Int.add_mul_ediv_right x (-1) (show P ≠ 0 by omega)
      rw [show x - P = x + -1 * P by omega, h]; omega
    rw [this]
    congr 1; omega
  · rw [Int.ediv_eq_zero_of_lt hx (by omega), Int.zero_mul]
section
variable {n m : Nat} {rel dl ex : Nat → Int} {L : Nat → Nat → Int} {r : Nat → Int} {tk : Nat → Nat} {P C : Nat → Int}
theorem started (h : Sch n rel ex L r) (hnp : ∀ t i, i < n → r t = (i : Int) → 0 < L (t + 1) i → r (t + 1) = (i : Int)) (i : Nat) (hi : i < n) :
    ∀ t, 0 < L t i → L t i < ex i → r t = (i : Int) ∧ 1 ≤ t ∧ r (t - 1) = (i : Int) := by
  intro t
  induction t with
  | zero => intro _ h2; rw [h.start i hi] at h2; omega
  | succ t ih =>
    intro h1 h2
    by_cases e : r t = (i : Int)
    · exact ⟨hnp t i hi e h1, by omega, by simpa using e⟩
    · have := h.step t i hi
      rw [if_neg e] at this
      have := (ih (by omega) (by omega)).1
      exact absurd this e
theorem starts (h : Sch n rel ex L r) (hnp : ∀ t i, i < n → r t = (i : Int) → 0 < L (t + 1) i → r (t + 1) = (i : Int)) (i : Nat) (hi : i < n) :
    ∀ t, r t = (i : Int) → ∃ s, s ≤ t ∧ L s i = ex i ∧ ∀ u, s ≤ u → u ≤ t → r u = (i : Int) := by
  intro t
  induction t with
  | zero =>
    intro hr
    refine ⟨0, Nat.le_refl _, h.start i hi, fun u _ hu => ?_⟩
    obtain rfl : u = 0 := by omega
    exact hr
  | succ t ih =>
    intro hr
    by_cases e : L (t + 1) i = ex i
    · refine ⟨t + 1, Nat.le_refl _, e, fun u h1 h2 => ?_⟩
      obtain rfl : u = t + 1 := by omega
      exact hr
    · have h1 := h.le_ex (t + 1) i hi
      have h2 : 0 < L (t + 1) i := by
        rcases h.rng (t + 1) with h3 | ⟨j, hj, h3, _, h4⟩
        · omega
        · obtain rfl : i = j := by omega
          exact h4
      have h3 := (started h hnp i hi (t + 1) h2 (by omega)).2.2
      obtain ⟨s, h4, h5, h6⟩ := ih (by simpa using h3)
      refine ⟨s, by omega, h5, fun u h7 h8 => ?_⟩
      by_cases e2 : u = t + 1
      · subst e2; exact hr
      · exact h6 u h7 (by omega)
theorem np_safe (h : Sch n rel ex L r) (htk : ∀ i, i < n → tk i < m) (hP : ∀ k, k < m → 1 ≤ P k) (hC : ∀ k, k < m → 0 ≤ C k)
    (hrel : ∀ i, i < n → 0 ≤ rel i) (hdl : ∀ i, i < n → dl i = rel i + P (tk i)) (hex : ∀ i, i < n → ex i ≤ C (tk i)) (hsp : ∀ i j, i < j → j < n → tk i = tk j → rel i + P (tk i) ≤ rel j)
    (hidle : ∀ t, r t = -1 → ∀ i, i < n → rel i ≤ (t : Int) → L t i = 0)
    (hedf : ∀ t i, i < n → r t = (i : Int) → L t i = ex i → ∀ j, j < n → rel j ≤ (t : Int) → 0 < L t j → dl i ≤ dl j)
    (hnp : ∀ t i, i < n → r t = (i : Int) → 0 < L (t + 1) i → r (t + 1) = (i : Int))
    (hU : ∀ x : Int, 0 ≤ x → su (fun k => x / P k * C k) m ≤ x)
    (hB : ∀ k, k < m → ∀ x : Int, x < P k → (∃ q, q < m ∧ P q < x) → C k + su (fun q => if P q < P k then (x - 1) / P q * C q else 0) m ≤ x)
    (J : Nat) (hJ : J < n) (d : Nat) (hd : dl J = (d : Int)) : L d J = 0 := by
  apply Classical.byContradiction
  intro hne
  have hpos : 0 < L d J := by have := h.nonneg d J hJ; omega
  have dem : ∀ a b : Int, a ≤ b → su (fun i => if a ≤ rel i ∧ dl i ≤ b then ex i else 0) n ≤ su (fun k => (b - a) / P k * C k) m := fun a b hab => by
    refine Int.le_trans (demand_le htk hP hC P hdl hex hsp a b) (Int.le_of_eq (su_congr fun k hk => ?_))
    exact implicit_term (hP k hk) (by omega)
  obtain ⟨a, had, hgood, hbad⟩ := last_bad (fun t => ∃ i, i < n ∧ r t = (i : Int) ∧ dl i ≤ (d : Int)) d
  have liveP : ∀ t i, i < n → r t = (i : Int) → 0 < L t i := fun t i hi hr => by
    rcases h.rng t with h3 | ⟨j, hj, h3, _, h4⟩
    · omega
    · obtain rfl : i = j := by omega
      exact h4
  by_cases hcase : a = 0 ∨ r (a - 1) = -1
  ·
    have hold : ∀ i, i < n → 0 < L a i → (a : Int) ≤ rel i := fun i hi hl => by
      rcases hcase with h0 | h1
      · subst h0; exact hrel i hi
      · apply Classical.byContradiction
        intro hc
        by_cases h0 : a = 0
        · subst h0; have := hrel i hi; omega
        · have e := hidle (a - 1) h1 i hi (by omega)
          have := h.mono i hi (a - 1) a (by omega)
          omega
    have hl := h.late (fun i => (a : Int) ≤ rel i ∧ dl i ≤ (d : Int)) (fun t => (t : Int)) a (d - a) J hJ ⟨hold J hJ (by have := h.mono J hJ a d had; omega), by omega⟩ (by rw [show a + (d - a) = d by omega]; exact hpos) (fun t h1 h2 => by
      obtain ⟨i, hi, hr, hdi⟩ := hgood t h1 (by omega)
      exact Or.inl ⟨by omega, i, hi, hr, hold i hi (by have := h.mono i hi a t h1; have := liveP t i hi hr; omega), hdi⟩)
    have h1 := dem a d (by omega)
    have h2 := hU ((d : Int) - a) (by omega)
    omega
  ·
    have ha0 : a ≠ 0 := fun e => hcase (Or.inl e)
    have hb : ¬ ∃ i, i < n ∧ r (a - 1) = (i : Int) ∧ dl i ≤ (d : Int) := hbad.resolve_left ha0
    obtain ⟨I, hI, hrI, hrelI, _⟩ : ∃ i, i < n ∧ r (a - 1) = (i : Int) ∧ rel i ≤ ((a - 1 : Nat) : Int) ∧ 0 < L (a - 1) i := by
      rcases h.rng (a - 1) with h3 | h3
      · exact absurd (Or.inr h3) hcase
      · exact h3
    have hdI : (d : Int) < dl I := by
      apply Classical.byContradiction
      intro hc
      exact hb ⟨I, hI, hrI, by omega⟩
    obtain ⟨s, hsa, hsx, hsr⟩ := starts h hnp I hI (a - 1) hrI
    have hrs := hsr s (Nat.le_refl _) hsa
    have hrelS : rel I ≤ (s : Int) := by
      rcases h.rng s with h3 | ⟨j, hj, h3, h4, _⟩
      · omega
      · obtain rfl : I = j := by omega
        exact h4
    have hold : ∀ i, i < n → dl i ≤ (d : Int) → 0 < L s i → (s : Int) + 1 ≤ rel i := fun i hi hdi hl => by
      apply Classical.byContradiction
      intro hc
      have := hedf s I hI hrs hsx i hi (by omega) hl
      omega
    have hJs : (s : Int) + 1 ≤ rel J := hold J hJ (by omega) (by have := h.mono J hJ s d (by omega); omega)
    have hl := h.late (fun i => i = I ∨ ((s : Int) + 1 ≤ rel i ∧ dl i ≤ (d : Int))) (fun t => (t : Int)) s (d - s) J hJ (Or.inr ⟨hJs, by omega⟩) (by rw [show s + (d - s) = d by omega]; exact hpos) (fun t h1 h2 => by
      left
      refine ⟨by omega, ?_⟩
      by_cases e : t < a
      · exact ⟨I, hI, hsr t h1 (by omega), Or.inl rfl⟩
      · obtain ⟨i, hi, hr, hdi⟩ := hgood t (by omega) (by omega)
        exact ⟨i, hi, hr, Or.inr ⟨hold i hi hdi (by have := h.mono i hi s t h1; have := liveP t i hi hr; omega), hdi⟩⟩)
    have e1 : su (fun i => if i = I ∨ ((s : Int) + 1 ≤ rel i ∧ dl i ≤ (d : Int)) then ex i else 0) n = su (fun i => (if i = I then ex I else 0) + (if (s : Int) + 1 ≤ rel i ∧ dl i ≤ (d : Int) then ex i else 0)) n := su_congr fun i _ => by
      by_cases e : i = I
      · subst e
        rw [if_pos (Or.inl rfl), if_pos rfl, if_neg (by omega)]; omega
      · by_cases e2 : (s : Int) + 1 ≤ rel i ∧ dl i ≤ (d : Int)
        · rw [if_pos (Or.inr e2), if_neg e, if_pos e2]; omega
        · rw [if_neg (fun h => h.elim e e2), if_neg e, if_neg e2]; omega
    have hdJ := hdl J hJ
    have hPJ := hP _ (htk J hJ)
    have h1 := dem ((s : Int) + 1) d (by omega)
    rw [e1, su_add, su_one hI] at hl
    have hexI := hex I hI
    have hdlI := hdl I hI
    have hbB := hB (tk I) (htk I hI) ((d : Int) - s) (by omega) ⟨tk J, htk J hJ, by omega⟩
    have e2 : su (fun k => ((d : Int) - ((s : Int) + 1)) / P k * C k) m = su (fun q => if P q < P (tk I) then ((d : Int) - s - 1) / P q * C q else 0) m := su_congr fun q hq => by
      rw [show (d : Int) - ((s : Int) + 1) = (d : Int) - s - 1 by omega]
      split
      · rfl
      · rw [Int.ediv_eq_zero_of_lt (by omega) (by omega), Int.zero_mul]
    rw [e2] at h1
    omega
end
end Go.Proofs.Ytkdfjomhichkoaa.Edf
namespace Go.Proofs.Ytkdfjomhichkoaa.Sim
open Go.RowKit Go.Proofs.Ytkdfjomhichkoaa.Gen Go.Proofs.Ytkdfjomhichkoaa.Edf Go.Proofs.YtkdfjomhichkoaaW.PrintWords Go.Proofs.YtkdfjomhichkoaaW.PrintLast
def bst (ok : Nat → Bool) (key : Nat → Int) : Nat → Int
  | 0 => -1
  | n + 1 => if ok n = true ∧ (bst ok key n < 0 ∨ key n < key (bst ok key n).toNat) then (n : Int) else bst ok key n
theorem bst_sp (ok : Nat → Bool) (key : Nat → Int) : ∀ n, (bst ok key n = -1 ∧ ∀ i, i < n → ok i = false) ∨
    ∃ i : Nat, i < n ∧ bst ok key n = (i : Int) ∧ ok i = true ∧ (∀ j, j < n → ok j = true → key i ≤ key j) ∧ ∀ j, j < i → ok j = true → key i < key j := by
  intro n
  induction n with
  | zero => exact Or.inl ⟨rfl, fun i h => by omega⟩
  | succ n ih =>
    rw [bst]
    by_cases h : ok n = true ∧ (bst ok key n < 0 ∨ key n < key (bst ok key n).toNat)
    · rw [if_pos h]
      right
      refine ⟨n, by omega, rfl, h.1, ?_⟩
      rcases ih with ⟨h1, h2⟩ | ⟨i, hi, h1, h2, h3, _⟩
      · refine ⟨fun j hj ho => ?_, fun j hj ho => ?_⟩
        · by_cases e : j = n
          · subst e; exact Int.le_refl _
          · rw [h2 j (by omega)] at ho; cases ho
        · rw [h2 j hj] at ho; cases ho
      · have hlt : key n < key i := by
          rcases h.2 with h4 | h4
          · omega
          · rw [h1] at h4; simpa using h4
        refine ⟨fun j hj ho => ?_, fun j hj ho => ?_⟩
        · by_cases e : j = n
          · subst e; exact Int.le_refl _
          · have := h3 j (by omega) ho; omega
        · have := h3 j hj ho; omega
    · rw [if_neg h]
      rcases ih with ⟨h1, h2⟩ | ⟨i, hi, h1, h2, h3, h4⟩
      · left
        refine ⟨h1, fun j hj => ?_⟩
        by_cases e : j = n
        · subst e
          cases ho : ok j with
          | false => rfl
          | true => exact absurd ⟨ho, Or.inl (by omega)⟩ h
        · exact h2 j (by omega)
      · right
        refine ⟨i, by omega, h1, h2, fun j hj ho => ?_, h4⟩
        by_cases e : j = n
        · subst e
          apply Classical.byContradiction
          intro hc
          exact h ⟨ho, Or.inr (by rw [h1]; simpa using (by omega : key j < key i))⟩
        · exact h3 j (by omega) ho
theorem bst_congr {ok ok' : Nat → Bool} {key key' : Nat → Int} {n : Nat} (h1 : ∀ i, i < n → ok i = ok' i) (h2 : ∀ i, i < n → key i = key' i) : bst ok key n = bst ok' key' n := by
  induction n with
  | zero => rfl
  | succ n ih =>
    have e := ih (fun i hi => h1 i (by omega)) (fun i hi => h2 i (by omega))
    rw [bst, bst, e, h1 n (by omega), h2 n (by omega)]
    have hb := bst_sp ok' key' n
    by_cases hneg : bst ok' key' n < 0
    · simp only [hneg, true_or]
    · rcases hb with ⟨h3, _⟩ | ⟨i, hi, h3, _⟩
      · omega
      · have : key (bst ok' key' n).toNat = key' (bst ok' key' n).toNat := by rw [h3]; exact h2 _ (by simpa using (by omega : i < n + 1))
        rw [this]
def stepL (left : List Int) (i : Int) : List Int := if i < 0 then left else left.set i.toNat (rd left i - 1)
section
variable (pick : List Int → Nat → Int) (ex : List Int)
def stL : Nat → List Int
  | 0 => ex
  | t + 1 => stepL (stL t) (pick (stL t) t)
def runL (t : Nat) : Int := pick (stL pick ex t) t
def finL : Nat → List Int
  | 0 => List.replicate ex.length (-1)
  | t + 1 => if 0 ≤ runL pick ex t ∧ rd (stL pick ex (t + 1)) (runL pick ex t) = 0 then (finL t).set (runL pick ex t).toNat ((t : Int) + 1) else finL t
end
theorem zdf (l : List Int) (i : Nat) (x : Int) (h : i < l.length) : rd (l.set i x) (i : Int) = x := by
  rw [rd_at _ i (by simpa using h)]
  simp
theorem rd_set_ne (l : List Int) (i a : Nat) (x : Int) (h : a ≠ i) : rd (l.set i x) (a : Int) = rd l (a : Int) := by
  unfold rd
  rw [List.getD_eq_getElem?_getD, List.getD_eq_getElem?_getD, Int.toNat_natCast, List.getElem?_set_ne (by omega)]
def Picks (rel : Nat → Int) (n : Nat) (pick : List Int → Nat → Int) : Prop := ∀ left t, left.length = n → pick left t = -1 ∨ ∃ i, i < n ∧ pick left t = ((i : Nat) : Int) ∧ rel i ≤ (t : Int) ∧ 0 < rd left (i : Int)
section
variable {pick : List Int → Nat → Int} {ex : List Int} {rel : Nat → Int}
theorem stepL_len (left : List Int) (i : Int) : (stepL left i).length = left.length := by
  unfold stepL; split
  · rfl
  · rw [List.length_set]
theorem stL_len : ∀ t, (stL pick ex t).length = ex.length
  | 0 => rfl
  | t + 1 => by rw [stL, stepL_len, stL_len t]
theorem finL_len : ∀ t, (finL pick ex t).length = ex.length
  | 0 => by rw [finL, List.length_replicate]
  | t + 1 => by
    rw [finL]; split
    · rw [List.length_set, finL_len t]
    · exact finL_len t
theorem sch_of (hp : Picks rel ex.length pick) (hpos : ∀ i, i < ex.length → 1 ≤ rd ex ((i : Nat) : Int)) : Sch ex.length rel (fun i => rd ex (i : Int)) (fun t i => rd (stL pick ex t) (i : Int)) (runL pick ex) := by
  refine ⟨fun i _ => rfl, fun t i hi => ?_, fun t => hp _ t (stL_len t), hpos⟩
  have hl : (stL pick ex t).length = ex.length := stL_len t
  show rd (stL pick ex (t + 1)) (i : Int) = rd (stL pick ex t) (i : Int) - (if runL pick ex t = (i : Int) then 1 else 0)
  rw [stL]
  show rd (stepL (stL pick ex t) (runL pick ex t)) (i : Int) = _
  rcases hp _ t hl with h | ⟨j, hj, h, _, _⟩
  · have h : runL pick ex t = -1 := h
    unfold stepL
    rw [h, if_pos (by omega), if_neg (by omega)]; omega
  · have h : runL pick ex t = (j : Int) := h
    unfold stepL
    rw [h, if_neg (by omega), Int.toNat_natCast]
    by_cases e : j = i
    · subst e
      rw [zdf _ _ _ (by omega), if_pos rfl]
    · rw [rd_set_ne _ _ _ _ (by omega), if_neg (by omega)]; omega
theorem fin_sp (hp : Picks rel ex.length pick) (hpos : ∀ i, i < ex.length → 1 ≤ rd ex ((i : Nat) : Int)) (i : Nat) (hi : i < ex.length) : ∀ t, (0 < rd (stL pick ex t) (i : Int) ∧ rd (finL pick ex t) (i : Int) = -1) ∨
    (rd (stL pick ex t) (i : Int) = 0 ∧ ∃ f : Nat, 1 ≤ f ∧ f ≤ t ∧ rd (finL pick ex t) (i : Int) = (f : Int) ∧ rd (stL pick ex f) (i : Int) = 0 ∧ runL pick ex (f - 1) = (i : Int)) := by
  have hS := sch_of hp hpos
  intro t
  induction t with
  | zero =>
    left
    refine ⟨by have := hpos i hi; rw [stL]; omega, ?_⟩
    rw [finL, rd_at _ i (by rw [List.length_replicate]; exact hi), List.getElem_replicate]
  | succ t ih =>
    have hst := hS.step t i hi
    have hnn := hS.nonneg (t + 1) i hi
    have hl := finL_len (pick := pick) (ex := ex) t
    rw [finL]
    by_cases hr : runL pick ex t = (i : Int)
    · rw [if_pos hr] at hst
      rw [hr, Int.toNat_natCast]
      have hlive : 0 < rd (stL pick ex t) (i : Int) := by
        rcases hS.rng t with h | ⟨j, hj, h, _, h2⟩
        · omega
        · obtain rfl : i = j := by omega
          exact h2
      have hf : rd (finL pick ex t) (i : Int) = -1 := by
        rcases ih with h | h
        · exact h.2
        · omega
      by_cases hz : rd (stL pick ex (t + 1)) (i : Int) = 0
      · rw [if_pos ⟨by omega, hz⟩]
        right
        refine ⟨hz, t + 1, by omega, Nat.le_refl _, ?_, hz, by simpa using hr⟩
        rw [zdf _ _ _ (by omega)]; rfl
      · rw [if_neg (fun h => hz h.2)]
        exact Or.inl ⟨by omega, hf⟩
    · rw [if_neg hr] at hst
      have e1 : rd (stL pick ex (t + 1)) (i : Int) = rd (stL pick ex t) (i : Int) := by omega
      have e2 : rd (if 0 ≤ runL pick ex t ∧ rd (stL pick ex (t + 1)) (runL pick ex t) = 0 then (finL pick ex t).set (runL pick ex t).toNat ((t : Int) + 1) else finL pick ex t) (i : Int) = rd (finL pick ex t) (i : Int) := by
        split
        · rename_i h
          exact rd_set_ne _ _ _ _ (by omega)
        · rfl
      rw [e1, e2]
      rcases ih with h | ⟨h1, f, h2, h3, h4⟩
      · exact Or.inl h
      · exact Or.inr ⟨h1, f, h2, by omega, h4⟩
end
end Go.Proofs.Ytkdfjomhichkoaa.Sim
namespace Go.Proofs.Ytkdfjomhichkoaa.Jobs
open Go.RowKit Go.Proofs.Ytkdfjomhichkoaa.P Go.Proofs.Ytkdfjomhichkoaa.Base Go.Proofs.Ytkdfjomhichkoaa.Gen Go.Proofs.Ytkdfjomhichkoaa.Alive Go.Proofs.Ytkdfjomhichkoaa.Set Go.Proofs.Ytkdfjomhichkoaa.Tm Go.Proofs.Ytkdfjomhichkoaa.Edf Go.Proofs.Ytkdfjomhichkoaa.Sim Go.Proofs.YtkdfjomhichkoaaW.PrintWords Go.Proofs.YtkdfjomhichkoaaW.PrintLast
abbrev Job := S34
def rj (l : List Job) (i : Nat) : Job := ze l (i : Int)
def tk (l : List Task) (i : Int) : Task := zl l i
theorem rj_at (l : List Job) (i : Nat) (h : i < l.length) : rj l i = l[i] := by
  unfold rj ze
  rw [List.getD_eq_getElem?_getD, Int.toNat_natCast, List.getElem?_eq_getElem h]
  rfl
theorem tk_at (l : List Task) (i : Nat) (h : i < l.length) : tk l (i : Int) = l[i] := by
  unfold tk zl
  rw [List.getD_eq_getElem?_getD, Int.toNat_natCast, List.getElem?_eq_getElem h]
  rfl
def One (l : List Task) (js : List Job) (i : Nat) : Prop :=
  (0 ≤ (rj js i).f0 ∧ (rj js i).f0 < (l.length : Int)) ∧ (0 ≤ (rj js i).f1 ∧ (rj js i).f1 ≤ 119) ∧ (1 ≤ (rj js i).f3 ∧ (rj js i).f3 ≤ (tk l (rj js i).f0).f0) ∧
    (rj js i).f2 = (rj js i).f1 + (tk l (rj js i).f0).f1 ∧
    (0 < i → (rj js (i - 1)).f1 < (rj js i).f1 ∨ ((rj js (i - 1)).f1 = (rj js i).f1 ∧ (rj js (i - 1)).f0 < (rj js i).f0)) ∧
    ∀ p, p < i → (rj js p).f0 = (rj js i).f0 → (rj js p).f1 + (tk l (rj js i).f0).f2 ≤ (rj js i).f1
def JL (l : List Task) (js : List Job) : Prop := SetOk l ∧ js.length ≤ 60 ∧ ∀ i, i < js.length → One l js i
noncomputable instance (l : List Task) (js : List Job) : Decidable (JL l js) := Classical.propDecidable _
section
variable {l : List Task} {js : List Job}
def rel (js : List Job) (i : Nat) : Int := (rj js i).f1
def dl (js : List Job) (i : Nat) : Int := (rj js i).f2
def exs (js : List Job) : List Int := js.map (fun j => j.f3)
def tki (js : List Job) (i : Nat) : Nat := (rj js i).f0.toNat
theorem zc4 (js : List Job) : (exs js).length = js.length := by unfold exs; rw [List.length_map]
theorem exs_rd (js : List Job) (i : Nat) (h : i < js.length) : rd (exs js) (i : Int) = (rj js i).f3 := by
  rw [rd_at _ i (by rw [zc4]; exact h), rj_at js i h]
  unfold exs
  rw [List.getElem_map]
theorem JL.pos (h : JL l js) : ∀ i, i < (exs js).length → 1 ≤ rd (exs js) ((i : Nat) : Int) := fun i hi => by
  rw [zc4] at hi
  rw [exs_rd js i hi]
  exact (h.2.2 i hi).2.2.1.1
theorem JL.tkm (h : JL l js) (i : Nat) (hi : i < js.length) : tki js i < l.length ∧ ((tki js i : Nat) : Int) = (rj js i).f0 := by
  have := (h.2.2 i hi).1
  unfold tki
  omega
def P (l : List Task) (k : Nat) : Int := (tk l (k : Int)).f2
def C (l : List Task) (k : Nat) : Int := (tk l (k : Int)).f0
def D (l : List Task) (k : Nat) : Int := (tk l (k : Int)).f1
theorem task_ok (hs : SetOk l) (k : Nat) (hk : k < l.length) : 1 ≤ C l k ∧ C l k ≤ 8 ∧ C l k ≤ D l k ∧ D l k ≤ P l k ∧ P l k ≤ 12 := by
  have := hs.2 _ (List.getElem_mem hk)
  unfold C D P
  rw [tk_at l k hk]
  exact this
theorem su_sm (f : Task → Int) (l : List Task) : su (fun k => f (tk l (k : Int))) l.length = sm f l := by
  have key : ∀ i, i ≤ l.length → su (fun k => f (tk l (k : Int))) i = sm f (l.take i) := by
    intro i
    induction i with
    | zero => intro _; rfl
    | succ i ih =>
      intro hi
      rw [su, ih (by omega), sm_take f l i (by omega), tk_at l i (by omega)]
  have := key l.length (Nat.le_refl _)
  rwa [List.take_length] at this
theorem JL.dl_eq (h : JL l js) (i : Nat) (hi : i < js.length) : dl js i = rel js i + D l (tki js i) := by
  have h1 := (h.2.2 i hi).2.2.2.1
  have h2 := (h.tkm i hi).2
  unfold dl rel D
  rw [h2]; exact h1
theorem JL.ex_le (h : JL l js) (i : Nat) (hi : i < js.length) : rd (exs js) (i : Int) ≤ C l (tki js i) := by
  have h1 := (h.2.2 i hi).2.2.1.2
  have h2 := (h.tkm i hi).2
  rw [exs_rd js i hi]
  unfold C
  rw [h2]; exact h1
theorem JL.sep (h : JL l js) : ∀ i j, i < j → j < js.length → tki js i = tki js j → rel js i + P l (tki js i) ≤ rel js j := by
  intro i j hij hj he
  have h1 := (h.2.2 j hj).2.2.2.2.2 i hij
  have h2 := (h.tkm i (by omega)).2
  have h3 := (h.tkm j hj).2
  unfold rel P
  rw [he, h3]
  exact h1 (by omega)
theorem JL.rel0 (h : JL l js) (i : Nat) (hi : i < js.length) : 0 ≤ rel js i := (h.2.2 i hi).2.1.1
theorem JL.demand (h : JL l js) (a b : Int) : su (fun i => if a ≤ rel js i ∧ dl js i ≤ b then rd (exs js) (i : Int) else 0) js.length ≤ dm l (b - a) := by
  have h1 := demand_le (n := js.length) (m := l.length) (rel := rel js) (dl := dl js) (ex := fun i => rd (exs js) (i : Int)) (tk := tki js) (P := P l) (C := C l)
    (fun i hi => (h.tkm i hi).1) (fun k hk => by have := task_ok h.1 k hk; omega) (fun k hk => by have := task_ok h.1 k hk; omega) (D l) (fun i hi => h.dl_eq i hi) (fun i hi => h.ex_le i hi) h.sep a b
  refine Int.le_trans h1 (Int.le_of_eq ?_)
  unfold dm
  rw [← su_sm (d1 (b - a)) l]
  refine su_congr fun k hk => ?_
  unfold d1 C D P
  rfl
end
def rdyb (js : List Job) (left : List Int) (t : Nat) (i : Nat) : Bool := decide ((rj js i).f1 ≤ (t : Int) ∧ 0 < rd left (i : Int))
def edfp (js : List Job) (left : List Int) (t : Nat) : Int := bst (rdyb js left t) (dl js) js.length
def startp (js : List Job) (left : List Int) (t : Nat) : Int := bst (fun i => rdyb js left t i && decide (rd left (i : Int) < (rj js i).f3)) (dl js) js.length
def npp (js : List Job) (left : List Int) (t : Nat) : Int := if 0 ≤ startp js left t then startp js left t else edfp js left t
theorem edfp_sp (js : List Job) (left : List Int) (t : Nat) : (edfp js left t = -1 ∧ ∀ i, i < js.length → rel js i ≤ (t : Int) → rd left (i : Int) ≤ 0) ∨
    ∃ i : Nat, i < js.length ∧ edfp js left t = (i : Int) ∧ rel js i ≤ (t : Int) ∧ 0 < rd left (i : Int) ∧ ∀ j, j < js.length → rel js j ≤ (t : Int) → 0 < rd left (j : Int) → dl js i ≤ dl js j := by
  rcases bst_sp (rdyb js left t) (dl js) js.length with ⟨h1, h2⟩ | ⟨i, hi, h1, h2, h3, _⟩
  · left
    refine ⟨h1, fun i hi hr => ?_⟩
    have := h2 i hi
    unfold rdyb at this
    rw [decide_eq_false_iff_not] at this
    unfold rel at hr
    omega
  · right
    unfold rdyb at h2
    have h2 := of_decide_eq_true h2
    refine ⟨i, hi, h1, h2.1, h2.2, fun j hj hr hl => h3 j hj ?_⟩
    unfold rdyb
    exact decide_eq_true ⟨hr, hl⟩
theorem edfp_picks (js : List Job) : Picks (rel js) (exs js).length (edfp js) := fun left t _ => by
  rw [zc4]
  rcases edfp_sp js left t with ⟨h, _⟩ | ⟨i, hi, h1, h2, h3, _⟩
  · exact Or.inl h
  · exact Or.inr ⟨i, hi, h1, h2, h3⟩
theorem startp_sp (js : List Job) (left : List Int) (t : Nat) : (startp js left t = -1 ∧ ∀ i, i < js.length → rel js i ≤ (t : Int) → 0 < rd left (i : Int) → (rj js i).f3 ≤ rd left (i : Int)) ∨
    ∃ i : Nat, i < js.length ∧ startp js left t = (i : Int) ∧ rel js i ≤ (t : Int) ∧ 0 < rd left (i : Int) ∧ rd left (i : Int) < (rj js i).f3 := by
  rcases bst_sp (fun i => rdyb js left t i && decide (rd left (i : Int) < (rj js i).f3)) (dl js) js.length with ⟨h1, h2⟩ | ⟨i, hi, h1, h2, _, _⟩
  · left
    refine ⟨h1, fun i hi hr hp => ?_⟩
    have := h2 i hi
    unfold rdyb at this
    rw [Bool.and_eq_false_iff, decide_eq_false_iff_not, decide_eq_false_iff_not] at this
    unfold rel at hr
    omega
  · right
    unfold rdyb at h2
    rw [Bool.and_eq_true, decide_eq_true_eq, decide_eq_true_eq] at h2
    exact ⟨i, hi, h1, h2.1.1, h2.1.2, h2.2⟩
theorem npp_picks (js : List Job) : Picks (rel js) (exs js).length (npp js) := fun left t hl => by
  unfold npp
  split
  · rename_i h
    rw [zc4]
    rcases startp_sp js left t with ⟨h1, _⟩ | ⟨i, hi, h1, h2, h3, _⟩
    · omega
    · exact Or.inr ⟨i, hi, h1, h2, h3⟩
  · exact edfp_picks js left t hl
end Go.Proofs.Ytkdfjomhichkoaa.Jobs
namespace Go.Proofs.Ytkdfjomhichkoaa.Leg
open Go.RowKit Go.Proofs.Ytkdfjomhichkoaa.P Go.Proofs.Ytkdfjomhichkoaa.Base Go.Proofs.Ytkdfjomhichkoaa.Gen Go.Proofs.Ytkdfjomhichkoaa.Alive Go.Proofs.Ytkdfjomhichkoaa.Set Go.Proofs.Ytkdfjomhichkoaa.Tm Go.Proofs.Ytkdfjomhichkoaa.Edf Go.Proofs.Ytkdfjomhichkoaa.Sim Go.Proofs.Ytkdfjomhichkoaa.Jobs Go.Proofs.YtkdfjomhichkoaaW.PrintWords Go.Proofs.YtkdfjomhichkoaaW.PrintLast
theorem lastOf_sp (js : List Job) (k : Int) : ∀ i, (lastOf js i k = none ∧ ∀ p, p < i → (rj js p).f0 ≠ k) ∨ ∃ p, p < i ∧ (rj js p).f0 = k ∧ lastOf js i k = some (rj js p).f1 ∧ ∀ q, p < q → q < i → (rj js q).f0 ≠ k := by
  intro i
  induction i with
  | zero => exact Or.inl ⟨rfl, fun p h => by omega⟩
  | succ i ih =>
    rw [lastOf]
    by_cases h : (jrd js i).f0 = k
    · rw [if_pos h]
      exact Or.inr ⟨i, by omega, h, rfl, fun q h1 h2 => by omega⟩
    · rw [if_neg h]
      have h' : (rj js i).f0 ≠ k := h
      rcases ih with ⟨h1, h2⟩ | ⟨p, h1, h2, h3, h4⟩
      · refine Or.inl ⟨h1, fun p hp => ?_⟩
        by_cases e : p = i
        · subst e; exact h'
        · exact h2 p (by omega)
      · refine Or.inr ⟨p, by omega, h2, h3, fun q h5 h6 => ?_⟩
        by_cases e : q = i
        · subst e; exact h'
        · exact h4 q h5 (by omega)
def Loc (l : List Task) (js : List Job) (i : Nat) : Prop :=
  (0 ≤ (rj js i).f0 ∧ (rj js i).f0 < (l.length : Int)) ∧ (0 ≤ (rj js i).f1 ∧ (rj js i).f1 ≤ 119) ∧ (1 ≤ (rj js i).f3 ∧ (rj js i).f3 ≤ (tk l (rj js i).f0).f0) ∧
    (0 < i → (rj js (i - 1)).f1 < (rj js i).f1 ∨ ((rj js (i - 1)).f1 = (rj js i).f1 ∧ (rj js (i - 1)).f0 < (rj js i).f0))
theorem one_loc {l : List Task} {js : List Job} {i : Nat} (h : One l js i) : Loc l js i := ⟨h.1, h.2.1, h.2.2.1, h.2.2.2.2.1⟩
theorem mono_rel {l : List Task} {js : List Job} {n : Nat} (h : ∀ i, i < n → Loc l js i) : ∀ q p, p ≤ q → q < n → (rj js p).f1 ≤ (rj js q).f1 := by
  intro q
  induction q with
  | zero => intro p hp _; obtain rfl : p = 0 := by omega
            exact Int.le_refl _
  | succ q ih =>
    intro p hp hq
    by_cases e : p = q + 1
    · subst e; exact Int.le_refl _
    · have h1 := ih p (by omega) (by omega)
      have h2 := (h (q + 1) hq).2.2.2 (by omega)
      rw [Nat.add_sub_cancel] at h2
      omega
theorem dist_iff {l : List Task} {js : List Job} {i n : Nat} (hi : i < n) (h : ∀ p, p < n → Loc l js p) :
    (∀ p, p < i → (rj js p).f0 = (rj js i).f0 → (rj js p).f1 + (tk l (rj js i).f0).f2 ≤ (rj js i).f1) ↔ ∀ b, lastOf js i (rj js i).f0 = some b → b + (tk l (rj js i).f0).f2 ≤ (rj js i).f1 := by
  constructor
  · intro hh b hb
    rcases lastOf_sp js (rj js i).f0 i with ⟨h1, _⟩ | ⟨p, h1, h2, h3, _⟩
    · rw [h1] at hb; cases hb
    · rw [h3] at hb
      obtain rfl := Option.some.inj hb
      exact hh p h1 h2
  · intro hh p hp he
    rcases lastOf_sp js (rj js i).f0 i with ⟨_, h2⟩ | ⟨q, h1, h2, h3, h4⟩
    · exact absurd he (h2 p hp)
    · have h5 := hh _ h3
      have h6 : p ≤ q := by
        apply Classical.byContradiction
        intro hc
        exact h4 p (by omega) hp he
      have := mono_rel h q p h6 (by omega)
      omega
theorem tk_ok {l : List Task} (hs : SetOk l) (k : Int) (h0 : 0 ≤ k) (h1 : k < (l.length : Int)) : 1 ≤ (tk l k).f0 ∧ (tk l k).f0 ≤ 8 ∧ (tk l k).f0 ≤ (tk l k).f1 ∧ (tk l k).f1 ≤ (tk l k).f2 ∧ (tk l k).f2 ≤ 12 := by
  obtain ⟨n, rfl⟩ := Int.eq_ofNat_of_zero_le h0
  have hn : n < l.length := by omega
  rw [tk_at l n hn]
  exact hs.2 _ (List.getElem_mem hn)
theorem allB_iff {p : Nat → Bool} : ∀ {n : Nat}, allB p n = true ↔ ∀ i, i < n → p i = true := by
  intro n
  constructor
  · exact fun h => allB_true h
  · intro h
    cases e : allB p n with
    | true => rfl
    | false =>
      have key : ∀ m, m ≤ n → allB p m = true := by
        intro m
        induction m with
        | zero => intro _; rfl
        | succ m ih => intro hm; rw [allB, ih (by omega), h m (by omega)]; rfl
      rw [key n (Nat.le_refl _)] at e
      cases e
theorem ordOk_iff (l : List Task) (js : List Job) (i : Nat) : ordOk l js i = true ↔ Loc l js i := by
  unfold ordOk Loc
  have e : jrd js i = rj js i := rfl
  have e2 : jrd js (i - 1) = rj js (i - 1) := rfl
  rw [Bool.and_eq_true, Bool.and_eq_true, Bool.and_eq_true, Bool.or_eq_true]
  unfold inRng relOk exOk bhd
  simp only [decide_eq_true_eq, Bool.not_eq_true', Bool.or_eq_false_iff, Bool.and_eq_false_iff, decide_eq_false_iff_not, e, e2]
  have e3 : trd l (rj js i).f0 = tk l (rj js i).f0 := rfl
  rw [e3]
  constructor
  · rintro ⟨⟨⟨h1, h2⟩, h3⟩, h4⟩
    refine ⟨by omega, h2, h3, fun h0 => ?_⟩
    rcases h4 with h4 | ⟨h4, h5⟩
    · omega
    · rcases h5 with h5 | h5 <;> omega
  · rintro ⟨h1, h2, h3, h4⟩
    refine ⟨⟨⟨by omega, h2⟩, h3⟩, ?_⟩
    by_cases h0 : i = 0
    · exact Or.inl h0
    · right
      have := h4 (by omega)
      constructor
      · omega
      · by_cases e4 : (rj js (i - 1)).f1 = (rj js i).f1
        · right; omega
        · left; exact e4
theorem spcOk_iff {l : List Task} {js : List Job} {i n : Nat} (hs : SetOk l) (hi : i < n) (h : ∀ p, p < n → Loc l js p) : spcOk l js i = true ↔ ∀ b, lastOf js i (rj js i).f0 = some b → b + (tk l (rj js i).f0).f2 ≤ (rj js i).f1 := by
  unfold spcOk
  have e : jrd js i = rj js i := rfl
  have e3 : trd l (rj js i).f0 = tk l (rj js i).f0 := rfl
  rw [e, e3]
  have hb := (h i hi).2.1
  have ht := tk_ok hs _ (h i hi).1.1 (h i hi).1.2
  rcases lastOf_sp js (rj js i).f0 i with ⟨h1, _⟩ | ⟨p, h1, _, h3, _⟩
  · rw [h1]
    exact ⟨fun _ b hb => (by cases hb), fun _ => rfl⟩
  · rw [h3]
    have hp := (h p (by omega)).2.1
    simp only [Bool.not_eq_true', decide_eq_false_iff_not]
    rw [w64 (by omega) (by omega)]
    constructor
    · intro h5 b hb
      obtain rfl := Option.some.inj hb
      omega
    · intro h5
      have := h5 _ rfl
      omega
theorem leg_iff {l : List Task} {js : List Job} (hs : SetOk l) : legB l js = true ↔ JL l js := by
  unfold legB
  by_cases ho : ordB l js = true
  · rw [if_pos ho]
    unfold ordB at ho
    rw [Bool.and_eq_true, decide_eq_true_eq, allB_iff] at ho
    have hloc : ∀ p, p < js.length → Loc l js p := fun p hp => (ordOk_iff l js p).1 (ho.1 p hp)
    have hlate : (!(js.any (lateB l))) = true ↔ ∀ i, i < js.length → (rj js i).f2 = (rj js i).f1 + (tk l (rj js i).f0).f1 := by
      rw [Bool.not_eq_true', List.any_eq_false]
      have one : ∀ i, i < js.length → (¬ lateB l (rj js i) = true ↔ (rj js i).f2 = (rj js i).f1 + (tk l (rj js i).f0).f1) := fun i hi => by
        have hb := (hloc i hi).2.1
        have ht := tk_ok hs _ (hloc i hi).1.1 (hloc i hi).1.2
        unfold lateB
        have e3 : trd l (rj js i).f0 = tk l (rj js i).f0 := rfl
        rw [e3, w64 (by omega) (by omega), bne_iff_ne, Ne, Classical.not_not]
      constructor
      · intro hh i hi
        rw [← one i hi, rj_at js i hi]
        exact hh _ (List.getElem_mem hi)
      · intro hh x hx
        obtain ⟨i, hi, rfl⟩ := List.getElem_of_mem hx
        rw [← rj_at js i hi]
        exact (one i hi).2 (hh i hi)
    by_cases hp : spcB l js = true
    · rw [if_pos hp, hlate]
      unfold spcB at hp
      rw [allB_iff] at hp
      constructor
      · intro hh
        refine ⟨hs, by omega, fun i hi => ⟨(hloc i hi).1, (hloc i hi).2.1, (hloc i hi).2.2.1, hh i hi, (hloc i hi).2.2.2, ?_⟩⟩
        exact (dist_iff hi hloc).2 ((spcOk_iff hs hi hloc).1 (hp i hi))
      · intro hh i hi
        exact (hh.2.2 i hi).2.2.2.1
    · rw [if_neg hp]
      constructor
      · intro h; cases h
      · intro hh
        refine absurd ?_ hp
        unfold spcB
        rw [allB_iff]
        intro i hi
        exact (spcOk_iff hs hi hloc).2 ((dist_iff hi hloc).1 (hh.2.2 i hi).2.2.2.2.2)
  · rw [if_neg ho]
    constructor
    · intro h; cases h
    · intro hh
      refine absurd ?_ ho
      unfold ordB
      rw [Bool.and_eq_true, decide_eq_true_eq, allB_iff]
      exact ⟨fun i hi => (ordOk_iff l js i).2 (one_loc (hh.2.2 i hi)), by have := hh.2.1; omega⟩
theorem impl_jl (l : List Task) (js : List Job) (hl : l.length ≤ 1000000000) (hj : js.length ≤ 1000000000) : zcw.f l js = some (decide (JL l js)) := by
  unfold zcw.f
  rw [set_f l]
  simp only [Option.bind_some]
  by_cases hs : SetOk l
  · rw [decide_eq_true hs, if_pos rfl, if_pos ⟨hl, hj⟩]
    congr 1
    rw [Bool.eq_iff_iff, leg_iff hs, decide_eq_true_eq]
  · rw [decide_eq_false hs, if_neg (by simp), decide_eq_false (fun h => hs h.1)]
end Go.Proofs.Ytkdfjomhichkoaa.Leg
namespace Go.Proofs.Ytkdfjomhichkoaa.Tm
open Go.RowKit Go.Proofs.Ytkdfjomhichkoaa.P Go.Proofs.Ytkdfjomhichkoaa.Base Go.Proofs.Ytkdfjomhichkoaa.Gen Go.Proofs.Ytkdfjomhichkoaa.Alive Go.Proofs.Ytkdfjomhichkoaa.Set Go.Proofs.YtkdfjomhichkoaaW.PrintWords Go.Proofs.YtkdfjomhichkoaaW.PrintLast
theorem rdT_at (l : List Task) (i : Nat) (h : i < l.length) : zl l (i : Int) = l[i] := by
  unfold zl
  rw [List.getD_eq_getElem?_getD, Int.toNat_natCast, List.getElem?_eq_getElem h]
  rfl
theorem stv_f (c d p : Int) : zc9.f c d p = some (decide (TV c d p)) := by
  unfold zc9.f
  rw [l1In_f, l1In_f, l1In_f, and_bind, and_bind]
  by_cases h1 : 1 ≤ c ∧ c ≤ 8
  · by_cases h2 : c ≤ d ∧ d ≤ p
    · rw [if_pos h1, if_pos h2]; simp only [Option.bind_some]; congr 1; rw [decide_eq_decide]; unfold TV; omega
    · rw [if_pos h1, if_neg h2]; congr 1; symm; rw [decide_eq_false_iff_not]; unfold TV; omega
  · rw [if_neg h1]; congr 1; symm; rw [decide_eq_false_iff_not]; unfold TV; omega
theorem sset_ev (l : List Task) (hl : l.length ≤ 2097152) : Ev (fun k => zbk.f k l) (decide (SetOk l)) := by
  have loop : ∀ d i, i + d = l.length → (∀ j (h : j < l.length), j < i → TVt l[j]) → Ev (fun k => zbk.l0 k l (i : Int)) (decide (SetOk l)) := by
    intro d
    induction d with
    | zero =>
      intro i hi hm
      have ha : ∀ t ∈ l, TVt t := by
        intro t ht
        obtain ⟨j, hj, rfl⟩ := List.mem_iff_getElem.1 ht
        exact hm j hj (by omega)
      refine Ev.step (f := fun _ => some (decide (SetOk l))) (fun k => ?_) (Ev.now _)
      simp only [zbk.l0]
      rw [if_neg (by omega)]
      congr 1
      rw [decide_eq_decide]
      unfold SetOk
      exact ⟨fun h => ⟨by omega, ha⟩, fun h => by omega⟩
    | succ d ih =>
      intro i hi hm
      have hil : i < l.length := by omega
      by_cases hv : TVt l[i]
      · refine Ev.step (fun k => ?_) (ih (i + 1) (by omega) (fun j hj hji => ?_))
        · have hv' : TV l[i].f0 l[i].f1 l[i].f2 := hv
          simp only [zbk.l0]
          rw [if_pos (by omega), if_pos (by omega), rdT_at l i hil, stv_f, decide_eq_true hv', w64 (by omega) (by omega)]
          rfl
        · by_cases e : j = i
          · subst e; exact hv
          · exact hm j hj (by omega)
      · rw [decide_eq_false (fun h => hv (h.2 _ (List.getElem_mem hil)))]
        have hv' : ¬ TV l[i].f0 l[i].f1 l[i].f2 := hv
        refine Ev.step (f := fun _ => some false) (fun k => ?_) (Ev.now _)
        simp only [zbk.l0]
        rw [if_pos (by omega), if_pos (by omega), rdT_at l i hil, stv_f, decide_eq_false hv']
        rfl
  exact loop l.length 0 (by omega) (fun j _ h => by omega)
end Go.Proofs.Ytkdfjomhichkoaa.Tm
namespace Go.Proofs.Ytkdfjomhichkoaa.Leg
open Go.RowKit Go.Proofs.Ytkdfjomhichkoaa.P Go.Proofs.Ytkdfjomhichkoaa.Base Go.Proofs.Ytkdfjomhichkoaa.Gen Go.Proofs.Ytkdfjomhichkoaa.Alive Go.Proofs.Ytkdfjomhichkoaa.Set Go.Proofs.Ytkdfjomhichkoaa.Tm Go.Proofs.Ytkdfjomhichkoaa.Edf Go.Proofs.Ytkdfjomhichkoaa.Sim Go.Proofs.Ytkdfjomhichkoaa.Jobs Go.Proofs.YtkdfjomhichkoaaW.PrintWords Go.Proofs.YtkdfjomhichkoaaW.PrintLast
def nx (l : List Task) (js : List Job) (i : Nat) (k : Nat) : Int := match lastOf js i (k : Int) with
  | none => 0
  | some b => b + (tk l (k : Int)).f2
theorem rjI (js : List Job) (i : Nat) : ze js (i : Int) = rj js i := rfl
theorem tkI (l : List Task) (i : Int) : zl l i = tk l i := rfl
theorem spec_jl (l : List Task) (js : List Job) (hl : l.length ≤ 2097152) (hj : js.length ≤ 2097152) : Ev (fun k => zn.f k l js) (decide (JL l js)) := by
  unfold zn.f
  refine Ev.bind (sset_ev l hl) ?_
  have bad : ¬ JL l js → Ev (fun k => zn.j0 k l js true) (decide (JL l js)) := fun h => by
    rw [decide_eq_false h]
    exact Ev.step (f := fun _ => some false) (fun k => by simp [zn.j0]) (Ev.now _)
  by_cases hs : SetOk l
  · simp only [decide_eq_true hs, if_true]
    by_cases h60 : js.length ≤ 60
    · have hno : ¬ (js.length : Int) > 60 := by omega
      rw [decide_eq_false hno]
      have hl5 := hs.1
      have loop : ∀ d i (y : List Int), i + d = js.length → (∀ p, p < i → One l js p) → y.length = l.length → (∀ k : Nat, k < l.length → rd y (k : Int) = nx l js i k) → Ev (fun k => zn.l0 k l js y (i : Int)) (decide (JL l js)) := by
        intro d
        induction d with
        | zero =>
          intro i y hi hp _ _
          rw [decide_eq_true (show JL l js from ⟨hs, h60, fun p hpl => hp p (by omega)⟩)]
          refine Ev.step (f := fun _ => some true) (fun k => ?_) (Ev.now _)
          simp only [zn.l0]
          rw [if_neg (by omega)]
        | succ d ih =>
          intro i y hi hp hy hr
          have hil : i < js.length := by omega
          have out : ¬ One l js i → decide (JL l js) = false := fun h => decide_eq_false (fun hh => h (hh.2.2 i hil))
          have no2 : ¬ One l js i → ∀ a b c e, Ev (fun k => zn.j2 k l js y (i : Int) true a b c e) (decide (JL l js)) := fun h a b c e => by
            rw [out h]
            exact Ev.step (f := fun _ => some false) (fun k => by simp [zn.j2]) (Ev.now _)
          have no3 : ¬ One l js i → ∀ a b c e u v z, Ev (fun k => zn.j3 k l js y (i : Int) true a b c e u v z) (decide (JL l js)) := fun h a b c e u v z => by
            rw [out h]
            exact Ev.step (f := fun _ => some false) (fun k => by simp [zn.j3]) (Ev.now _)
          have w1 : wrap64 ((l.length : Int) - 1) = (l.length : Int) - 1 := w64 (by omega) (by omega)
          by_cases h1 : 0 ≤ (rj js i).f0 ∧ (rj js i).f0 ≤ (l.length : Int) - 1
          · by_cases h2 : 0 ≤ (rj js i).f1 ∧ (rj js i).f1 ≤ 119
            · have ht := tk_ok hs (rj js i).f0 h1.1 (by omega)
              obtain ⟨q, hq⟩ : ∃ q : Nat, (rj js i).f0 = (q : Int) := ⟨(rj js i).f0.toNat, by omega⟩
              have hql : q < l.length := by omega
              have hnx := hr q hql
              have hlast := lastOf_sp js (q : Int) i
              have dist : (rj js i).f1 < rd y (q : Int) ↔ ¬ ∀ p, p < i → (rj js p).f0 = (rj js i).f0 → (rj js p).f1 + (tk l (rj js i).f0).f2 ≤ (rj js i).f1 := by
                rw [hnx, hq]
                unfold nx
                rcases hlast with ⟨h3, h4⟩ | ⟨p, h3, h4, h5, h6⟩
                · rw [h3]
                  simp only
                  constructor
                  · intro h7; omega
                  · intro h7
                    exact absurd (fun p hp2 he => absurd he (h4 p hp2)) h7
                · rw [h5]
                  simp only
                  constructor
                  · intro h7 h8
                    have := h8 p h3 h4; omega
                  · intro h7
                    apply Classical.byContradiction
                    intro h8
                    refine h7 (fun p2 hp2 he => ?_)
                    have h9 : p2 ≤ p := by
                      apply Classical.byContradiction
                      intro hc
                      exact h6 p2 (by omega) hp2 he
                    have := mono_rel (l := l) (n := i) (fun a ha => one_loc (hp a ha)) p p2 h9 h3
                    omega
              have step2 : Ev (fun k => zn.j2 k l js y (i : Int) false (rj js i).f0 (rj js i).f1 (rj js i).f2 (rj js i).f3) (decide (JL l js)) := by
                have go : ∀ b : Bool, (b = true → ¬ One l js i) → (b = false → (1 ≤ (rj js i).f3 ∧ (rj js i).f3 ≤ (tk l (rj js i).f0).f0) ∧ (rj js i).f2 = (rj js i).f1 + (tk l (rj js i).f0).f1 ∧ ∀ p, p < i → (rj js p).f0 = (rj js i).f0 → (rj js p).f1 + (tk l (rj js i).f0).f2 ≤ (rj js i).f1) →
                    Ev (fun k => zn.j3 k l js y (i : Int) b (rj js i).f0 (rj js i).f1 (rj js i).f2 (rj js i).f3 (tk l (rj js i).f0).f0 (tk l (rj js i).f0).f1 (tk l (rj js i).f0).f2) (decide (JL l js)) := by
                  intro b hb1 hb2
                  cases b with
                  | true => exact no3 (hb1 rfl) _ _ _ _ _ _ _
                  | false =>
                    obtain ⟨h3, h4, h5⟩ := hb2 rfl
                    have fin : One l js i → Ev (fun k => zn.l0 k l js (y.set q ((rj js i).f1 + (tk l (rj js i).f0).f2)) (wrap64 ((i : Int) + 1))) (decide (JL l js)) := by
                      intro hone
                      rw [show wrap64 ((i : Int) + 1) = ((i + 1 : Nat) : Int) by rw [w64 (by omega) (by omega)]; omega]
                      refine ih (i + 1) _ (by omega) (fun p hp2 => ?_) (by rw [List.length_set]; exact hy) (fun k hk => ?_)
                      · by_cases e : p = i
                        · subst e; exact hone
                        · exact hp p (by omega)
                      · unfold nx
                        rw [lastOf]
                        have ej : jrd js i = rj js i := rfl
                        rw [ej]
                        by_cases e : k = q
                        · subst e
                          rw [zdf _ _ _ (by omega), if_pos hq, hq]
                        · rw [rd_set_ne _ _ _ _ e, if_neg (by omega), hr k hk]
                          rfl
                    have hset : wrap64 ((rj js i).f1 + (tk l (rj js i).f0).f2) = (rj js i).f1 + (tk l (rj js i).f0).f2 := w64 (by omega) (by omega)
                    have htn : (rj js i).f0.toNat = q := by omega
                    by_cases h0 : i = 0
                    · refine Ev.step (fun k => ?_) (fin ⟨by omega, h2, h3, h4, fun h => by omega, h5⟩)
                      simp only [zn.j3]
                      rw [if_neg (by simp), if_neg (by omega), if_pos (by omega), if_pos (by omega), hset, htn]
                    · have e1 : wrap64 ((i : Int) - 1) = ((i - 1 : Nat) : Int) := by rw [w64 (by omega) (by omega)]; omega
                      by_cases h6 : (rj js (i - 1)).f1 > (rj js i).f1
                      · have hn : ¬ One l js i := fun h => by have := h.2.2.2.2.1 (by omega); omega
                        rw [out hn]
                        refine Ev.step (f := fun _ => some false) (fun k => ?_) (Ev.now _)
                        simp only [zn.j3]
                        rw [if_neg (by simp), if_pos (by omega), e1, if_pos (by omega), if_pos (by omega), rjI, if_pos h6]
                      · by_cases h7 : (rj js (i - 1)).f1 = (rj js i).f1
                        · by_cases h8 : (rj js (i - 1)).f0 ≥ (rj js i).f0
                          · have hn : ¬ One l js i := fun h => by have := h.2.2.2.2.1 (by omega); omega
                            rw [out hn]
                            refine Ev.step (f := fun _ => some false) (fun k => ?_) (Ev.now _)
                            simp only [zn.j3]
                            rw [if_neg (by simp), if_pos (by omega), e1, if_pos (by omega), if_pos (by omega), rjI, if_neg h6, if_pos h7, if_pos h8]
                          · refine Ev.step (fun k => ?_) (fin ⟨by omega, h2, h3, h4, fun _ => Or.inr ⟨h7, by omega⟩, h5⟩)
                            simp only [zn.j3]
                            rw [if_neg (by simp), if_pos (by omega), e1, if_pos (by omega), if_pos (by omega), rjI, if_neg h6, if_pos h7, if_neg h8, if_pos (by omega), if_pos (by omega), hset, htn]
                        · refine Ev.step (fun k => ?_) (fin ⟨by omega, h2, h3, h4, fun _ => Or.inl (by omega), h5⟩)
                          simp only [zn.j3]
                          rw [if_neg (by simp), if_pos (by omega), e1, if_pos (by omega), if_pos (by omega), rjI, if_neg h6, if_neg h7, if_pos (by omega), if_pos (by omega), hset, htn]
                have hwd : wrap64 ((rj js i).f1 + (tk l (rj js i).f0).f1) = (rj js i).f1 + (tk l (rj js i).f0).f1 := w64 (by omega) (by omega)
                by_cases h3 : (rj js i).f1 < rd y (rj js i).f0
                · refine Ev.step (fun k => ?_) (go true (fun _ h => ?_) (fun h => by cases h))
                  · simp only [zn.j2]
                    rw [if_neg (by simp), if_pos (by omega), if_pos (by omega), if_pos (by omega), if_pos h3]
                    rfl
                  · rw [hq] at h3
                    exact dist.1 h3 h.2.2.2.2.2
                · have h3' : ∀ p, p < i → (rj js p).f0 = (rj js i).f0 → (rj js p).f1 + (tk l (rj js i).f0).f2 ≤ (rj js i).f1 := by
                    apply Classical.byContradiction
                    intro hc
                    exact h3 (by rw [hq]; exact dist.2 hc)
                  by_cases h4 : (rj js i).f2 = (rj js i).f1 + (tk l (rj js i).f0).f1
                  · by_cases h5 : 1 ≤ (rj js i).f3 ∧ (rj js i).f3 ≤ (tk l (rj js i).f0).f0
                    · refine Ev.step (fun k => ?_) (go false (fun h => by cases h) (fun _ => ⟨h5, h4, h3'⟩))
                      simp only [zn.j2]
                      rw [if_neg (by simp), if_pos (by omega), if_pos (by omega), if_pos (by omega), if_neg h3, tkI, hwd, if_pos h4, l1In_f, decide_eq_true h5]
                      rfl
                    · refine Ev.step (fun k => ?_) (go true (fun _ h => h5 h.2.2.1) (fun h => by cases h))
                      simp only [zn.j2]
                      rw [if_neg (by simp), if_pos (by omega), if_pos (by omega), if_pos (by omega), if_neg h3, tkI, hwd, if_pos h4, l1In_f, decide_eq_false h5]
                      rfl
                  · refine Ev.step (fun k => ?_) (go true (fun _ h => h4 h.2.2.2.1) (fun h => by cases h))
                    simp only [zn.j2]
                    rw [if_neg (by simp), if_pos (by omega), if_pos (by omega), if_pos (by omega), if_neg h3, tkI, hwd, if_neg h4]
              refine Ev.step (fun k => ?_) step2
              simp only [zn.l0]
              rw [if_pos (by omega), if_pos (by omega), rjI, w1, l1In_f, decide_eq_true h1]
              simp only [Option.bind_some, if_true]
              rw [l1In_f, decide_eq_true h2]
              rfl
            · refine Ev.step (fun k => ?_) (no2 (fun h => h2 h.2.1) (rj js i).f0 (rj js i).f1 (rj js i).f2 (rj js i).f3)
              simp only [zn.l0]
              rw [if_pos (by omega), if_pos (by omega), rjI, w1, l1In_f, decide_eq_true h1]
              simp only [Option.bind_some, if_true]
              rw [l1In_f, decide_eq_false h2]
              rfl
          · refine Ev.step (fun k => ?_) (no2 (fun h => h1 (by have := h.1; omega)) (rj js i).f0 (rj js i).f1 (rj js i).f2 (rj js i).f3)
            simp only [zn.l0]
            rw [if_pos (by omega), if_pos (by omega), rjI, w1, l1In_f, decide_eq_false h1]
            rfl
      refine Ev.step (fun k => ?_) (loop js.length 0 (List.replicate l.length 0) (by omega) (fun p h => by omega) (by simp) (fun k hk => ?_))
      · simp only [zn.j0]
        rw [if_neg (by simp), if_pos (by omega), if_pos (by rw [Int.toNat_natCast]; omega), Int.toNat_natCast]
        rfl
      · rw [rd_at _ k (by simpa using hk), List.getElem_replicate]
        rfl
    · rw [decide_eq_true (show (js.length : Int) > 60 by omega)]
      exact bad (fun h => h60 h.2.1)
  · simp only [decide_eq_false hs]
    exact bad (fun h => hs h.1)
end Go.Proofs.Ytkdfjomhichkoaa.Leg
namespace Go.Proofs.Ytkdfjomhichkoaa.Nps
open Go.RowKit Go.Proofs.Ytkdfjomhichkoaa.P Go.Proofs.Ytkdfjomhichkoaa.Base Go.Proofs.Ytkdfjomhichkoaa.Gen Go.Proofs.Ytkdfjomhichkoaa.Set Go.Proofs.Ytkdfjomhichkoaa.Edf Go.Proofs.Ytkdfjomhichkoaa.Sim Go.Proofs.Ytkdfjomhichkoaa.Jobs Go.Proofs.YtkdfjomhichkoaaW.PrintWords Go.Proofs.YtkdfjomhichkoaaW.PrintLast
theorem best_bst (ok : Nat → Bool) (key : Nat → Int) : ∀ n, bestD ok key n = bst ok key n
  | 0 => rfl
  | n + 1 => by rw [bestD, bst, best_bst ok key n]
def sch (js : List Job) (pick : List Int → Nat → Int) : List Int × List Int := ((List.range 120).map (runL pick (exs js)), finL pick (exs js) 120)
section
variable {pick : List Int → Nat → Int} {ex : List Int}
theorem st_idle {t : Nat} (h : runL pick ex t = -1) : stL pick ex (t + 1) = stL pick ex t ∧ finL pick ex (t + 1) = finL pick ex t := by
  have h' : pick (stL pick ex t) t = -1 := h
  constructor
  · rw [stL, h']; rfl
  · rw [finL, h]; rfl
theorem st_run {t i : Nat} (h : runL pick ex t = (i : Int)) (hi : i < ex.length) : stL pick ex (t + 1) = (stL pick ex t).set i (rd (stL pick ex t) (i : Int) - 1) ∧
    finL pick ex (t + 1) = if rd (stL pick ex t) (i : Int) - 1 = 0 then (finL pick ex t).set i ((t : Int) + 1) else finL pick ex t := by
  have h' : pick (stL pick ex t) t = (i : Int) := h
  have e : stL pick ex (t + 1) = (stL pick ex t).set i (rd (stL pick ex t) (i : Int) - 1) := by
    rw [stL, h']
    unfold stepL
    rw [if_neg (by omega), Int.toNat_natCast]
  refine ⟨e, ?_⟩
  rw [finL, h, e, zdf _ _ _ (by rw [stL_len]; exact hi), Int.toNat_natCast]
  by_cases hz : rd (stL pick ex t) (i : Int) - 1 = 0
  · rw [if_pos ⟨by omega, hz⟩, if_pos hz]
  · rw [if_neg (fun h => hz h.2), if_neg hz]
end
def Agree (js : List Job) (pk : List Int → Int → Int) (pick : List Int → Nat → Int) : Prop :=
  ∀ (dn left : List Int) (t : Nat), dn.length = js.length → left.length = js.length → (∀ i, i < js.length → rd left (i : Int) = rd (exs js) (i : Int) - rd dn (i : Int)) → pk dn (t : Int) = pick left t
theorem sim_rel {js : List Job} {pk : List Int → Int → Int} {pick : List Int → Nat → Int} {rel : Nat → Int} (ha : Agree js pk pick) (hp : Picks rel js.length pick) (hex : ∀ i, i < js.length → 1 ≤ rd (exs js) (i : Int) ∧ rd (exs js) (i : Int) ≤ 8) : ∀ t,
    (∀ i, i < js.length → rd (stL pick (exs js) t) (i : Int) = rd (exs js) (i : Int) - rd (simT pk js t).1 (i : Int)) ∧ (simT pk js t).2 = finL pick (exs js) t := by
  have hel : (exs js).length = js.length := zc4 js
  have hS := sch_of (pick := pick) (ex := exs js) (rel := rel) (by rw [hel]; exact hp) (fun i hi => (hex i (by omega)).1)
  intro t
  induction t with
  | zero =>
    refine ⟨fun i hi => ?_, ?_⟩
    · rw [stL, simT, rd_at (List.replicate js.length 0) i (by simpa using hi), List.getElem_replicate]; omega
    · rw [finL, simT, hel]
  | succ t ih =>
    have hsl := simT_len pk js t
    have hstl : (stL pick (exs js) t).length = js.length := by rw [stL_len, hel]
    have hrun : pk (simT pk js t).1 (t : Int) = runL pick (exs js) t := ha _ _ t hsl.1 hstl ih.1
    rcases hp _ t hstl with h | ⟨j, hj, h, _, hpos⟩
    · have h : runL pick (exs js) t = -1 := h
      have e := st_idle h
      rw [e.1, e.2, simT_idle (by rw [hrun, h])]
      exact ih
    · have h : runL pick (exs js) t = (j : Int) := h
      have e := st_run h (by rw [hel]; exact hj)
      have hd := ih.1 j hj
      have hx := hex j hj
      have hle := hS.le_ex t j (by rw [hel]; exact hj)
      have hf3 : (jrd js j).f3 = rd (exs js) (j : Int) := (exs_rd js j hj).symm
      have es := simT_runs (pk := pk) (js := js) (t := t) (b := j) (by rw [hrun, h]) rfl hf3
      rw [w64 (x := rd (simT pk js t).1 (j : Int) + 1) (by omega) (by omega)] at es
      rw [es, e.1, e.2]
      refine ⟨fun i hi => ?_, ?_⟩
      · by_cases eij : i = j
        · subst eij
          simp only
          rw [zdf _ _ _ (by omega), zdf _ _ _ (by omega)]; omega
        · simp only
          rw [rd_set_ne _ _ _ _ eij, rd_set_ne _ _ _ _ eij]
          exact ih.1 i hi
      · simp only
        rw [ih.2]
        by_cases hz : rd (stL pick (exs js) t) (j : Int) - 1 = 0
        · rw [if_pos hz, if_pos (by omega)]
        · rw [if_neg hz, if_neg (by omega)]
theorem sim_sch {js : List Job} {pk : List Int → Int → Int} {pick : List Int → Nat → Int} {rel : Nat → Int} (ha : Agree js pk pick) (hp : Picks rel js.length pick) (hex : ∀ i, i < js.length → 1 ≤ rd (exs js) (i : Int) ∧ rd (exs js) (i : Int) ≤ 8) : simR pk js = sch js pick := by
  have hr := sim_rel ha hp hex
  unfold simR sch
  rw [(hr 120).2]
  congr 1
  apply List.map_congr_left
  intro t _
  have hsl := simT_len pk js t
  exact ha _ _ t hsl.1 (by rw [stL_len, zc4]) (hr t).1
theorem rdy_eq {js : List Job} {dn left : List Int} {t : Nat} {i : Nat} (hi : i < js.length) (h : rd left (i : Int) = rd (exs js) (i : Int) - rd dn (i : Int)) : rdyD js dn (t : Int) i = rdyb js left t i := by
  unfold rdyD rdyb
  rw [exs_rd js i hi] at h
  have e : jrd js i = rj js i := rfl
  rw [e, Bool.eq_iff_iff, Bool.and_eq_true, decide_eq_true_eq, decide_eq_true_eq, decide_eq_true_eq]
  omega
theorem edf_agree (js : List Job) : Agree js (edfD js) (edfp js) := by
  intro dn left t h1 h2 h3
  unfold edfD edfp
  rw [best_bst]
  exact bst_congr (fun i hi => rdy_eq hi (h3 i hi)) (fun i _ => rfl)
theorem start_agree (js : List Job) {dn left : List Int} {t : Nat} (h3 : ∀ i, i < js.length → rd left (i : Int) = rd (exs js) (i : Int) - rd dn (i : Int)) : startD js dn (t : Int) = startp js left t := by
  unfold startD startp
  rw [best_bst]
  refine bst_congr (fun i hi => ?_) (fun i _ => rfl)
  have := h3 i hi
  rw [exs_rd js i hi] at this
  rw [rdy_eq hi (h3 i hi)]
  congr 1
  rw [decide_eq_decide]; omega
theorem np_agree (js : List Job) : Agree js (npD js) (npp js) := by
  intro dn left t h1 h2 h3
  unfold npD npp
  rw [start_agree js h3, edf_agree js dn left t h1 h2 h3]
theorem exs_bd {l : List Task} {js : List Job} (h : JL l js) : ∀ i, i < js.length → 1 ≤ rd (exs js) (i : Int) ∧ rd (exs js) (i : Int) ≤ 8 := fun i hi => by
  have h1 := h.pos i (by rw [zc4]; exact hi)
  have h2 := h.ex_le i hi
  have h3 := task_ok h.1 (tki js i) (h.tkm i hi).1
  omega
theorem np_sim {l : List Task} {js : List Job} (h : JL l js) : simR (npD js) js = sch js (npp js) := sim_sch (np_agree js) (by have := npp_picks js; rwa [zc4] at this) (exs_bd h)
def keys (js : List Job) : List Int := js.map (fun j => j.f2)
theorem keys_len (js : List Job) : (keys js).length = js.length := by unfold keys; rw [List.length_map]
theorem keys_rd (js : List Job) (i : Nat) (h : i < js.length) : rd (keys js) (i : Int) = dl js i := by
  unfold dl
  rw [rd_at _ i (by rw [keys_len]; exact h), rj_at js i h]
  unfold keys
  rw [List.getElem_map]
theorem rjT (js : List Job) (i : Nat) : ze js (i : Int) = rj js i := rfl
theorem map_take {α β : Type} (f : α → β) (l : List α) (i : Nat) (h : i < l.length) : (l.take (i + 1)).map f = (l.take i).map f ++ [f l[i]] := by
  rw [List.take_succ_eq_append_getElem h, List.map_append]
  rfl
theorem keys_ev (js : List Job) (hn : js.length ≤ 1000) : Ev (fun k => zbo.f k js) (keys js) := by
  have loop : ∀ d i, i + d = js.length → Ev (fun k => zbo.l0 k js ((js.take i).map (fun j => j.f2)) (i : Int)) (keys js) := by
    intro d
    induction d with
    | zero =>
      intro i hi
      refine Ev.step (f := fun _ => some (keys js)) (fun k => ?_) (Ev.now _)
      simp only [zbo.l0]
      rw [if_neg (by omega), List.take_of_length_le (by omega)]
      rfl
    | succ d ih =>
      intro i hi
      have hil : i < js.length := by omega
      refine Ev.step (fun k => ?_) (ih (i + 1) (by omega))
      simp only [zbo.l0]
      rw [if_pos (by omega), if_pos (by omega), if_pos (by rw [List.length_map, List.length_take]; omega), rjT, rj_at js i hil, map_take _ _ _ hil, w64 (by omega) (by omega)]
      rfl
  have := loop js.length 0 (by omega)
  exact this
theorem best_ev (js : List Job) (left : List Int) (t : Nat) (hn : js.length ≤ 1000) (hl : left.length = js.length) : Ev (fun k => zb9.f k js left (keys js) (t : Int)) (edfp js left t) := by
  have hk := keys_len js
  have loop : ∀ d i, i + d = js.length → Ev (fun k => zb9.l0 k js left (keys js) (t : Int) (bst (rdyb js left t) (dl js) i) (i : Int)) (edfp js left t) := by
    intro d
    induction d with
    | zero =>
      intro i hi
      obtain rfl : i = js.length := by omega
      refine Ev.step (f := fun _ => some (edfp js left t)) (fun k => ?_) (Ev.now _)
      simp only [zb9.l0]
      rw [if_neg (by omega)]
      rfl
    | succ d ih =>
      intro i hi
      have hil : i < js.length := by omega
      have hb := bst_sp (rdyb js left t) (dl js) i
      refine Ev.step (fun k => ?_) (ih (i + 1) (by omega))
      simp only [zb9.l0]
      rw [if_pos (by omega), if_pos (by omega), rjT, w64 (by omega) (by omega)]
      have e1 : ((i : Int) + 1) = ((i + 1 : Nat) : Int) := by omega
      rw [e1, bst]
      by_cases h1 : (rj js i).f1 ≤ (t : Int)
      · rw [if_pos h1, if_pos (by omega)]
        by_cases h2 : 0 < rd left (i : Int)
        · have hok : rdyb js left t i = true := by unfold rdyb; exact decide_eq_true ⟨h1, h2⟩
          rw [if_pos (show rd left (i : Int) > 0 from h2)]
          rcases hb with ⟨h3, _⟩ | ⟨b, h3, h4, _⟩
          · rw [h3, if_pos (by omega), if_pos ⟨hok, Or.inl (by omega)⟩]
          · rw [h4, if_neg (by omega), if_pos (by omega), if_pos (by omega), if_pos (by omega), keys_rd js i hil, keys_rd js b (by omega), Int.toNat_natCast]
            by_cases h5 : dl js i < dl js b
            · rw [if_pos h5, if_pos ⟨hok, Or.inr h5⟩]
            · rw [if_neg h5, if_neg (fun h => h.2.elim (fun h6 => by omega) h5)]
        · have hok : rdyb js left t i = false := by unfold rdyb; exact decide_eq_false (fun h => h2 h.2)
          rw [if_neg (show ¬ rd left (i : Int) > 0 from h2), if_neg (fun h => by rw [hok] at h; cases h.1)]
      · have hok : rdyb js left t i = false := by unfold rdyb; exact decide_eq_false (fun h => h1 h.1)
        rw [if_neg h1, if_neg (fun h => by rw [hok] at h; cases h.1)]
  have := loop js.length 0 (by omega)
  exact this
end Go.Proofs.Ytkdfjomhichkoaa.Nps
namespace Go.Proofs.Ytkdfjomhichkoaa.Npr
open Go.RowKit Go.Proofs.Ytkdfjomhichkoaa.P Go.Proofs.Ytkdfjomhichkoaa.Base Go.Proofs.Ytkdfjomhichkoaa.Gen Go.Proofs.Ytkdfjomhichkoaa.Alive Go.Proofs.Ytkdfjomhichkoaa.Set Go.Proofs.Ytkdfjomhichkoaa.Tm Go.Proofs.Ytkdfjomhichkoaa.Edf Go.Proofs.Ytkdfjomhichkoaa.Sim Go.Proofs.Ytkdfjomhichkoaa.Jobs Go.Proofs.Ytkdfjomhichkoaa.Leg Go.Proofs.Ytkdfjomhichkoaa.Nps Go.Proofs.YtkdfjomhichkoaaW.PrintWords Go.Proofs.YtkdfjomhichkoaaW.PrintLast
noncomputable def RN (l : List Task) (js : List Job) : List Int × List Int := if JL l js then sch js (npp js) else ([], [])
theorem impl_rn (l : List Task) (js : List Job) (hl : l.length ≤ 2097152) (hj : js.length ≤ 2097152) : zb6.f l js = some (RN l js) := by
  unfold zb6.f RN
  rw [impl_jl l js (by omega) (by omega)]
  simp only [Option.bind_some]
  by_cases h : JL l js
  · rw [decide_eq_true h, if_pos rfl, if_pos (by have := h.2.1; omega), if_pos h, np_sim h]
  · rw [decide_eq_false h, if_neg (by simp), if_neg h]
theorem sch_len (js : List Job) (pick : List Int → Nat → Int) : (sch js pick).1.length = 120 ∧ (sch js pick).2.length = js.length := by
  unfold sch
  refine ⟨by simp, ?_⟩
  simp only
  rw [finL_len, zc4]
theorem RN_len (l : List Task) (js : List Job) : (RN l js).1.length ≤ 120 ∧ (RN l js).2.length ≤ 60 := by
  unfold RN
  split
  · rename_i h
    have h1 := sch_len js (npp js)
    have h2 := h.2.1
    omega
  · simp
def Cur (js : List Job) (cur : Int) (t : Nat) : Prop :=
  (cur = -1 ∧ ∀ i, i < js.length → 0 < rd (stL (npp js) (exs js) t) (i : Int) → (rj js i).f3 ≤ rd (stL (npp js) (exs js) t) (i : Int)) ∨
  ∃ i : Nat, i < js.length ∧ cur = (i : Int) ∧ rel js i ≤ (t : Int) ∧ 0 < rd (stL (npp js) (exs js) t) (i : Int) ∧ rd (stL (npp js) (exs js) t) (i : Int) < (rj js i).f3 ∧
    ∀ j, j < js.length → 0 < rd (stL (npp js) (exs js) t) (j : Int) → rd (stL (npp js) (exs js) t) (j : Int) < (rj js j).f3 → j = i
theorem cur_pick {js : List Job} {cur : Int} {t : Nat} (h : Cur js cur t) : (cur < 0 → runL (npp js) (exs js) t = edfp js (stL (npp js) (exs js) t) t) ∧ (0 ≤ cur → runL (npp js) (exs js) t = cur) := by
  have hs := startp_sp js (stL (npp js) (exs js) t) t
  have e : runL (npp js) (exs js) t = if 0 ≤ startp js (stL (npp js) (exs js) t) t then startp js (stL (npp js) (exs js) t) t else edfp js (stL (npp js) (exs js) t) t := rfl
  rw [e]
  rcases h with ⟨h1, h2⟩ | ⟨i, hi, h1, h2, h3, h4, h5⟩
  · refine ⟨fun _ => ?_, fun h => by omega⟩
    rcases hs with ⟨h6, _⟩ | ⟨j, hj, h6, h7, h8, h9⟩
    · rw [if_neg (by omega)]
    · have := h2 j hj h8; omega
  · refine ⟨fun h => by omega, fun _ => ?_⟩
    rcases hs with ⟨h6, h7⟩ | ⟨j, hj, h6, h7, h8, h9⟩
    · have := h7 i hi h2 h3; omega
    · have := h5 j hj h8 h9
      rw [if_pos (by omega), h6, h1, this]
theorem cur_next {l : List Task} {js : List Job} {cur : Int} {t : Nat} (hl : JL l js) (h : Cur js cur t) : Cur js (if 0 ≤ runL (npp js) (exs js) t ∧ rd (stL (npp js) (exs js) (t + 1)) (runL (npp js) (exs js) t) ≠ 0 then runL (npp js) (exs js) t else -1) (t + 1) := by
  have hst : (stL (npp js) (exs js) t).length = js.length := by rw [stL_len, zc4]
  have hp := npp_picks js (stL (npp js) (exs js) t) t (stL_len t)
  have hpos := hl.pos
  have hS := sch_of (npp_picks js) hpos
  have hpk := cur_pick h
  rw [zc4] at hp
  rcases hp with hr | ⟨i, hi, hr, hrel, hliv⟩
  · have hr : runL (npp js) (exs js) t = -1 := hr
    have e := (st_idle hr).1
    rw [hr, if_neg (by omega)]
    left
    refine ⟨rfl, ?_⟩
    rw [e]
    rcases h with ⟨_, h2⟩ | ⟨i, hi, h1, _⟩
    · exact h2
    · have := hpk.2 (by omega); omega
  · have hr : runL (npp js) (exs js) t = (i : Int) := hr
    have e := (st_run hr (by rw [zc4]; exact hi)).1
    have hle := hS.le_ex t i (by rw [zc4]; exact hi)
    rw [exs_rd js i hi] at hle
    have oth : ∀ j, j < js.length → j ≠ i → 0 < rd (stL (npp js) (exs js) t) (j : Int) → (rj js j).f3 ≤ rd (stL (npp js) (exs js) t) (j : Int) := by
      intro j hj hji hjl
      rcases h with ⟨_, h2⟩ | ⟨c, hc, h1, _, _, _, h5⟩
      · exact h2 j hj hjl
      · have hci : (c : Int) = (i : Int) := by rw [← h1, ← hr]; exact (hpk.2 (by omega)).symm
        apply Classical.byContradiction
        intro hcn
        have := h5 j hj hjl (by omega)
        omega
    rw [hr, e, zdf _ _ _ (by omega)]
    by_cases hz : rd (stL (npp js) (exs js) t) (i : Int) - 1 = 0
    · rw [if_neg (fun h => h.2 hz)]
      left
      refine ⟨rfl, fun j hj => ?_⟩
      rw [e]
      by_cases eij : j = i
      · subst eij
        rw [zdf _ _ _ (by omega)]
        intro h0; omega
      · rw [rd_set_ne _ _ _ _ eij]
        exact oth j hj eij
    · rw [if_pos ⟨by omega, hz⟩]
      right
      refine ⟨i, hi, rfl, by omega, ?_, ?_, fun j hj => ?_⟩
      · rw [e, zdf _ _ _ (by omega)]; omega
      · rw [e, zdf _ _ _ (by omega)]; omega
      · rw [e]
        by_cases eij : j = i
        · intro _ _; exact eij
        · rw [rd_set_ne _ _ _ _ eij]
          intro h1 h2
          have := oth j hj eij h1; omega
theorem spec_np_run {l : List Task} {js : List Job} (hl : JL l js) : Ev (fun k => zm.l0 k js [] (keys js) 0 []) (sch js (npp js)) := by
  have h60 := hl.2.1
  have hS := sch_of (npp_picks js) hl.pos
  have ticks : ∀ d t cur, t + d = 120 → Cur js cur t → Ev (fun k => zm.l1 k js (stL (npp js) (exs js) t) (keys js) cur (t : Int) ((List.range t).map (runL (npp js) (exs js))) (finL (npp js) (exs js) t)) (sch js (npp js)) := by
    intro d
    induction d with
    | zero =>
      intro t cur ht _
      obtain rfl : t = 120 := by omega
      refine Ev.step (f := fun _ => some (sch js (npp js))) (fun k => ?_) (Ev.now _)
      simp only [zm.l1]
      rw [if_neg (by omega)]
      rfl
    | succ d ih =>
      intro t cur ht hc
      have hpk := cur_pick hc
      have hst : (stL (npp js) (exs js) t).length = js.length := by rw [stL_len, zc4]
      have hfl : (finL (npp js) (exs js) t).length = js.length := by rw [finL_len, zc4]
      have hnx := cur_next hl hc
      have hw : wrap64 ((t : Int) + 1) = ((t + 1 : Nat) : Int) := by rw [w64 (by omega) (by omega)]; omega
      have hrange : (List.range (t + 1)).map (runL (npp js) (exs js)) = (List.range t).map (runL (npp js) (exs js)) ++ [runL (npp js) (exs js) t] := by rw [List.range_succ, List.map_append]; rfl
      have body : Ev (fun k => zm.j2 k js (stL (npp js) (exs js) t) (keys js) (runL (npp js) (exs js) t) (t : Int) ((List.range t).map (runL (npp js) (exs js))) (finL (npp js) (exs js) t)) (sch js (npp js)) := by
        have hp := npp_picks js (stL (npp js) (exs js) t) t (stL_len t)
        rw [zc4] at hp
        rcases hp with hr | ⟨i, hi, hr, hrel, hliv⟩
        · have hr : runL (npp js) (exs js) t = -1 := hr
          have e := st_idle hr
          have hnx2 := hnx
          rw [hr, if_neg (by omega)] at hnx2
          refine Ev.step (fun k => ?_) (ih (t + 1) (-1) (by omega) hnx2)
          simp only [zm.j2]
          rw [if_pos (by rw [List.length_map, List.length_range]; omega), Option.bind_some, hr, if_neg (by omega), hw, e.1, e.2, hrange, hr]
        · have hr : runL (npp js) (exs js) t = (i : Int) := hr
          have e := st_run hr (by rw [zc4]; exact hi)
          have hle := hS.le_ex t i (by rw [zc4]; exact hi)
          have hxb := exs_bd hl i hi
          have hw2 : wrap64 (rd (stL (npp js) (exs js) t) (i : Int) - 1) = rd (stL (npp js) (exs js) t) (i : Int) - 1 := w64 (by omega) (by omega)
          have hnx2 := hnx
          rw [hr, e.1, zdf _ _ _ (by omega)] at hnx2
          by_cases hz : rd (stL (npp js) (exs js) t) (i : Int) - 1 = 0
          · rw [if_neg (fun h => h.2 hz)] at hnx2
            refine Ev.step (fun k => ?_) (ih (t + 1) (-1) (by omega) hnx2)
            simp only [zm.j2]
            rw [if_pos (by rw [List.length_map, List.length_range]; omega), Option.bind_some, hr, if_pos (by omega), if_pos (by omega), if_pos (by omega), Option.bind_some, hw2, Int.toNat_natCast, zdf _ _ _ (by omega), if_pos hz, if_pos (by omega), hw, e.1, e.2, if_pos hz, hrange, hr]
            rfl
          · rw [if_pos ⟨by omega, hz⟩] at hnx2
            refine Ev.step (fun k => ?_) (ih (t + 1) (i : Int) (by omega) hnx2)
            simp only [zm.j2]
            rw [if_pos (by rw [List.length_map, List.length_range]; omega), Option.bind_some, hr, if_pos (by omega), if_pos (by omega), if_pos (by omega), Option.bind_some, hw2, Int.toNat_natCast, zdf _ _ _ (by omega), if_neg hz, hw, e.1, e.2, if_neg hz, hrange, hr]
      by_cases hneg : cur < 0
      · have hb := best_ev js (stL (npp js) (exs js) t) t (by omega) hst
        rw [← hpk.1 hneg] at hb
        refine Ev.step (f := fun k => (zb9.f k js (stL (npp js) (exs js) t) (keys js) (t : Int)).bind fun t358 => (zm.j2 k js (stL (npp js) (exs js) t) (keys js) t358 (t : Int) ((List.range t).map (runL (npp js) (exs js))) (finL (npp js) (exs js) t))) (fun k => ?_) (Ev.bind hb body)
        simp only [zm.l1]
        rw [if_pos (by omega), if_pos hneg]
      · have hcur := hpk.2 (by omega)
        refine Ev.step (fun k => ?_) body
        simp only [zm.l1]
        rw [if_pos (by omega), if_neg hneg, hcur]
  have build : ∀ d i, i + d = js.length → Ev (fun k => zm.l0 k js ((js.take i).map (fun j => j.f3)) (keys js) (i : Int) (List.replicate i (-1))) (sch js (npp js)) := by
    intro d
    induction d with
    | zero =>
      intro i hi
      obtain rfl : i = js.length := by omega
      have h0 : Cur js (-1) 0 := by
        left
        refine ⟨rfl, fun i hi _ => ?_⟩
        rw [show stL (npp js) (exs js) 0 = exs js from rfl, exs_rd js i hi]
        exact Int.le_refl _
      refine Ev.step (fun k => ?_) (ticks 120 0 (-1) (by omega) h0)
      simp only [zm.l0]
      rw [if_neg (by omega), List.take_of_length_le (Nat.le_refl _)]
      have e : finL (npp js) (exs js) 0 = List.replicate js.length (-1) := by rw [finL, zc4]
      rw [e]
      rfl
    | succ d ih =>
      intro i hi
      have hil : i < js.length := by omega
      refine Ev.step (fun k => ?_) (ih (i + 1) (by omega))
      simp only [zm.l0]
      rw [if_pos (by omega), if_pos (by omega), if_pos (by rw [List.length_map, List.length_take]; omega), if_pos (by rw [List.length_replicate]; omega), rjT, rj_at js i hil, map_take _ _ _ hil, w64 (by omega) (by omega), List.replicate_succ']
      rfl
  exact build js.length 0 (by omega)
theorem spec_rn (l : List Task) (js : List Job) (hl : l.length ≤ 2097152) (hj : js.length ≤ 2097152) : Ev (fun k => zm.f k l js) (RN l js) := by
  unfold zm.f
  refine Ev.bind (spec_jl l js (by omega) (by omega)) ?_
  unfold RN
  by_cases h : JL l js
  · simp only [decide_eq_true h, if_true]
    rw [if_pos h]
    exact Ev.bind (keys_ev js (by have := h.2.1; omega)) (spec_np_run h)
  · simp only [decide_eq_false h]
    rw [if_neg h]
    exact Ev.now _
end Go.Proofs.Ytkdfjomhichkoaa.Npr
namespace Go.Proofs.Ytkdfjomhichkoaa.Npk
open Go.RowKit Go.Proofs.Ytkdfjomhichkoaa.P Go.Proofs.Ytkdfjomhichkoaa.Base Go.Proofs.Ytkdfjomhichkoaa.Gen Go.Proofs.Ytkdfjomhichkoaa.Alive Go.Proofs.Ytkdfjomhichkoaa.Set Go.Proofs.Ytkdfjomhichkoaa.Tm Go.Proofs.Ytkdfjomhichkoaa.Edf Go.Proofs.Ytkdfjomhichkoaa.Sim Go.Proofs.Ytkdfjomhichkoaa.Jobs Go.Proofs.Ytkdfjomhichkoaa.Leg Go.Proofs.Ytkdfjomhichkoaa.Nps Go.Proofs.Ytkdfjomhichkoaa.Npr Go.Proofs.YtkdfjomhichkoaaW.PrintWords Go.Proofs.YtkdfjomhichkoaaW.PrintLast
theorem np_once {js : List Job} {l : List Set.Task} (h : JL l js) : ∀ t i, i < (exs js).length → runL (npp js) (exs js) t = (i : Int) → 0 < rd (stL (npp js) (exs js) (t + 1)) (i : Int) → runL (npp js) (exs js) (t + 1) = (i : Int) := by
  have cur : ∀ t, ∃ c, Cur js c t := by
    intro t
    induction t with
    | zero =>
      refine ⟨-1, Or.inl ⟨rfl, fun i hi _ => ?_⟩⟩
      rw [show stL (npp js) (exs js) 0 = exs js from rfl, exs_rd js i hi]
      exact Int.le_refl _
    | succ t ih =>
      obtain ⟨c, hc⟩ := ih
      exact ⟨_, cur_next h hc⟩
  intro t i hi hr hl
  obtain ⟨c, hc⟩ := cur t
  have hn := cur_next h hc
  rw [hr, if_pos ⟨by omega, by omega⟩] at hn
  exact (cur_pick hn).2 (by omega)
theorem np_idle (js : List Job) {t : Nat} (h : runL (npp js) (exs js) t = -1) : ∀ i, i < (exs js).length → rel js i ≤ (t : Int) → rd (stL (npp js) (exs js) t) (i : Int) ≤ 0 := by
  have e : runL (npp js) (exs js) t = if 0 ≤ startp js (stL (npp js) (exs js) t) t then startp js (stL (npp js) (exs js) t) t else edfp js (stL (npp js) (exs js) t) t := rfl
  rw [e] at h
  intro i hi hr
  rw [zc4] at hi
  split at h
  · omega
  · rcases edfp_sp js (stL (npp js) (exs js) t) t with ⟨_, h2⟩ | ⟨b, hb, h2, _⟩
    · exact h2 i hi hr
    · omega
theorem met {js : List Job} {pick : List Int → Nat → Int} (hP : Picks (rel js) (exs js).length pick) (hpos : ∀ i, i < (exs js).length → 1 ≤ rd (exs js) ((i : Nat) : Int)) {i : Nat} (hi : i < (exs js).length) {d : Nat} (h0 : rd (stL pick (exs js) d) (i : Int) = 0) (hd : d ≤ 120) : ∃ f : Nat, f ≤ d ∧ rd (finL pick (exs js) 120) (i : Int) = (f : Int) := by
  have hS := sch_of hP hpos
  have hm := hS.mono i hi d 120 hd
  rcases fin_sp hP hpos i hi 120 with ⟨h1, _⟩ | ⟨_, f, h1, h2, h3, h4, h5⟩
  · omega
  · refine ⟨f, ?_, h3⟩
    apply Classical.byContradiction
    intro hn
    have h6 := hS.mono i hi d (f - 1) (by omega)
    rcases hS.rng (f - 1) with h7 | ⟨j, hj, h7, _, h8⟩
    · rw [h5] at h7; omega
    · rw [h5] at h7
      obtain rfl : i = j := by omega
      omega
end Go.Proofs.Ytkdfjomhichkoaa.Npk
namespace Go.Proofs.Ytkdfjomhichkoaa.Tm
open Go.RowKit Go.Proofs.Ytkdfjomhichkoaa.P Go.Proofs.Ytkdfjomhichkoaa.Base Go.Proofs.Ytkdfjomhichkoaa.Gen Go.Proofs.Ytkdfjomhichkoaa.Alive Go.Proofs.Ytkdfjomhichkoaa.Set Go.Proofs.YtkdfjomhichkoaaW.PrintWords Go.Proofs.YtkdfjomhichkoaaW.PrintLast
theorem nmod (a b : Nat) : Int.tmod (a : Int) (b : Int) = ((a % b : Nat) : Int) := by
  rw [tmod_pos (by omega)]; omega
theorem ndiv (a b : Nat) : Int.tdiv (a : Int) (b : Int) = ((a / b : Nat) : Int) := by
  rw [tdiv_pos (by omega)]; omega
theorem gcd_step (a b : Nat) : Nat.gcd b (a % b) = Nat.gcd a b := by
  rw [Nat.gcd_comm b (a % b), ← Nat.gcd_rec, Nat.gcd_comm]
theorem gcd_ev : ∀ (b a : Nat), Ev (fun k => zc8.f k (a : Int) (b : Int)) ((Nat.gcd a b : Nat) : Int) := by
  intro b
  induction b using Nat.strongRecOn with
  | ind b ih =>
    intro a
    rcases Nat.eq_zero_or_pos b with rfl | hb
    · refine Ev.step (f := fun _ => some (a : Int)) (fun k => ?_) ?_
      · unfold zc8.f
        simp only [zc8.l0]
        rw [if_pos (by omega)]
      · rw [Nat.gcd_zero_right]; exact Ev.now _
    · have h := ih (a % b) (Nat.mod_lt _ hb) b
      rw [gcd_step] at h
      refine Ev.step (fun k => ?_) h
      unfold zc8.f
      simp only [zc8.l0]
      rw [if_neg (by omega), nmod]
theorem lcm_val {h p : Nat} (h1 : 1 ≤ h) (h2 : h ≤ 27720) (h3 : Nat.lcm h p ≤ 27720) : ((Nat.gcd h p : Nat) : Int) ≠ 0 ∧ wrap64 (wrap64 (Int.tdiv (h : Int) ((Nat.gcd h p : Nat) : Int)) * (p : Int)) = ((Nat.lcm h p : Nat) : Int) := by
  have hg : 0 < Nat.gcd h p := Nat.gcd_pos_of_pos_left _ h1
  refine ⟨by omega, ?_⟩
  have hd := Nat.div_le_self h (Nat.gcd h p)
  have hl := lcm_div h p h1
  rw [ndiv]
  generalize h / Nat.gcd h p = q at hd hl ⊢
  rw [w64 (x := ((q : Nat) : Int)) (by omega) (by omega), ← Int.natCast_mul, hl, w64 (by omega) (by omega)]
theorem lcm_ev {h p : Nat} (h1 : 1 ≤ h) (h2 : h ≤ 27720) (h3 : Nat.lcm h p ≤ 27720) : Ev (fun k => impl_lcm.f k (h : Int) (p : Int)) ((Nat.lcm h p : Nat) : Int) := by
  have hv := lcm_val h1 h2 h3
  unfold impl_lcm.f
  refine Ev.bind (gcd_ev p h) ?_
  rw [if_neg hv.1, hv.2]
  exact Ev.now _
theorem pnat {l : List Task} (hl : AllV l) (i : Nat) (h : i < l.length) : l[i].f2 = ((l[i].f2.toNat : Nat) : Int) := by
  have := hl _ (List.getElem_mem h)
  unfold TVt TV at this
  omega
theorem hyper_ev {l : List Task} (hs : SetOk l) : Ev (fun k => zb1.f k l) ((hy l : Nat) : Int) := by
  have hl := hs.all
  have hlen := hs.1
  have loop : ∀ d i, i + d = l.length → Ev (fun k => zb1.l0 k ((hy (l.take i) : Nat) : Int) l (l.length : Int) (i : Int)) ((hy l : Nat) : Int) := by
    intro d
    induction d with
    | zero =>
      intro i hi
      refine Ev.step (f := fun _ => some ((hy l : Nat) : Int)) (fun k => ?_) (Ev.now _)
      simp only [zb1.l0]
      rw [if_neg (by omega), List.take_of_length_le (by omega)]
    | succ d ih =>
      intro i hi
      have hil : i < l.length := by omega
      have hb := hy_bd (hl.take i)
      have hb2 := hy_bd (hl.take (i + 1))
      rw [hy_take _ _ hil] at hb2
      refine Ev.step (f := fun k => (impl_lcm.f k ((hy (l.take i) : Nat) : Int) ((l[i].f2.toNat : Nat) : Int)).bind fun t => zb1.l0 k t l (l.length : Int) ((i : Int) + 1)) (fun k => ?_) ?_
      · simp only [zb1.l0]
        rw [if_pos (by omega), if_pos (by omega), if_pos (by omega), rdT_at l i hil, ← pnat hl i hil, w64 (by omega) (by omega)]
      · refine Ev.bind (lcm_ev hb.1 hb.2 hb2.2) ?_
        rw [← hy_take _ _ hil]
        exact ih (i + 1) (by omega)
  exact loop l.length 0 (by omega)
theorem wk1_bd {l : List Task} (hs : SetOk l) : ∀ t ∈ l, 0 ≤ (hy l : Int) / t.f2 ∧ (hy l : Int) / t.f2 ≤ 27720 ∧ 0 ≤ (hy l : Int) / t.f2 * t.f0 ∧ (hy l : Int) / t.f2 * t.f0 ≤ 221760 := by
  intro t ht
  have hb := hy_bd hs.all
  have := hs.2 t ht
  unfold TVt TV at this
  have h1 := Int.ediv_nonneg (show 0 ≤ (hy l : Int) by omega) (show 0 ≤ t.f2 by omega)
  have h2 := Int.ediv_le_self t.f2 (show 0 ≤ (hy l : Int) by omega)
  have h3 := mul_bd (a := (hy l : Int) / t.f2) (b := t.f0) (A := 27720) (B := 8) h1 (by omega) (by omega) (by omega)
  omega
theorem load_ev {l : List Task} (hs : SetOk l) : Ev (fun k => zci.f k l) (ld l) := by
  have hl := hs.all
  have hlen := hs.1
  have hb := hy_bd hl
  have h1 := wk1_bd hs
  have loop : ∀ d i, i + d = l.length → Ev (fun k => zci.l0 k (hy l : Int) (sm (fun t => (hy l : Int) / t.f2 * t.f0) (l.take i)) l (l.length : Int) (i : Int)) (ld l) := by
    intro d
    induction d with
    | zero =>
      intro i hi
      refine Ev.step (f := fun _ => some (ld l)) (fun k => ?_) (Ev.now _)
      simp only [zci.l0]
      rw [if_neg (by omega), List.take_of_length_le (by omega)]
      rfl
    | succ d ih =>
      intro i hi
      have hil : i < l.length := by omega
      have hi1 := h1 _ (List.getElem_mem hil)
      have hv := hl _ (List.getElem_mem hil)
      unfold TVt TV at hv
      have ht := take_bd (fun t => (hy l : Int) / t.f2 * t.f0) l 221760 (fun a ha => by have := h1 a ha; exact ⟨this.2.2.1, this.2.2.2⟩) i (by omega)
      have IH := ih (i + 1) (by omega)
      rw [sm_take _ _ _ hil] at IH
      refine Ev.step (fun k => ?_) IH
      simp only [zci.l0]
      rw [if_pos (by omega), if_pos (by omega), if_pos (by omega), rdT_at l i hil, if_neg (by omega), tdiv_pos (by omega), w64 (x := (hy l : Int) / l[i].f2) (by omega) (by omega), w64 (x := (hy l : Int) / l[i].f2 * l[i].f0) (by omega) (by omega), w64 (x := (i : Int) + 1) (by omega) (by omega), w64 (by omega) (by omega)]
      rfl
  unfold zci.f
  exact Ev.bind (hyper_ev hs) (loop l.length 0 (by omega))
end Go.Proofs.Ytkdfjomhichkoaa.Tm
namespace Go.Proofs.Ytkdfjomhichkoaa.Np
open Go.RowKit Go.Proofs.Ytkdfjomhichkoaa.P Go.Proofs.Ytkdfjomhichkoaa.Base Go.Proofs.Ytkdfjomhichkoaa.Gen Go.Proofs.Ytkdfjomhichkoaa.Alive Go.Proofs.Ytkdfjomhichkoaa.Set Go.Proofs.Ytkdfjomhichkoaa.Tm Go.Proofs.YtkdfjomhichkoaaW.PrintWords Go.Proofs.YtkdfjomhichkoaaW.PrintLast
noncomputable instance (p : Prop) : Decidable p := Classical.propDecidable p
def n1 (P t : Int) (y : Task) : Int := if y.f2 < P then (t - 1) / y.f2 * y.f0 else 0
def np1 (l : List Task) (x : Task) (t : Int) : Int := x.f0 + sm (n1 x.f2 t) l
def NP (l : List Task) : Prop := Impl l ∧ ld l ≤ hy l ∧ ∀ x ∈ l, ∀ t : Int, (∃ y ∈ l, y.f2 < t) → t < x.f2 → np1 l x t ≤ t
noncomputable instance (l : List Task) : Decidable (NP l) := Classical.propDecidable _
theorem all_of {α : Type} {P : α → Prop} {l : List α} (h : ∀ i (h : i < l.length), P l[i]) : ∀ x ∈ l, P x := by
  intro x hx
  obtain ⟨i, hi, rfl⟩ := List.mem_iff_getElem.1 hx
  exact h i hi
theorem n1_bd {y : Task} (hy : TVt y) {P t : Int} (h0 : 1 ≤ t) (h1 : t ≤ 12) : 0 ≤ n1 P t y ∧ n1 P t y ≤ 100 := by
  unfold TVt TV at hy
  unfold n1
  split
  · have h2 := Int.ediv_nonneg (show 0 ≤ t - 1 by omega) (show 0 ≤ y.f2 by omega)
    have h3 := Int.ediv_le_self y.f2 (show 0 ≤ t - 1 by omega)
    have := mul_bd (a := (t - 1) / y.f2) (b := y.f0) (A := 12) (B := 8) h2 (by omega) (by omega) (by omega)
    omega
  · omega
theorem n1_val {y : Task} (hy : TVt y) {P t : Int} (h0 : 1 ≤ t) (h1 : t ≤ 12) (h : y.f2 < P) : y.f2 ≠ 0 ∧ wrap64 (wrap64 (Int.tdiv (wrap64 (t - 1)) y.f2) * y.f0) = n1 P t y := by
  have hb := n1_bd (P := P) hy h0 h1
  unfold TVt TV at hy
  unfold n1 at hb ⊢
  rw [if_pos h] at hb ⊢
  have h2 := Int.ediv_nonneg (show 0 ≤ t - 1 by omega) (show 0 ≤ y.f2 by omega)
  have h3 := Int.ediv_le_self y.f2 (show 0 ≤ t - 1 by omega)
  refine ⟨by omega, ?_⟩
  rw [w64 (x := t - 1) (by omega) (by omega), tdiv_pos (by omega), w64 (x := (t - 1) / y.f2) (by omega) (by omega), w64 (by omega) (by omega)]
theorem n1_take {l : List Task} (hs : SetOk l) {P t : Int} (h0 : 1 ≤ t) (h1 : t ≤ 12) (i : Nat) (hi : i ≤ l.length) : 0 ≤ sm (n1 P t) (l.take i) ∧ sm (n1 P t) (l.take i) ≤ 500 := by
  have := take_bd (n1 P t) l 100 (fun a ha => n1_bd (hs.2 a ha) h0 h1) i hi
  have h5 := hs.1
  omega
def lst (l : List Task) : Int := l.foldl (fun m t => min m t.f2) 12
theorem lst_take (l : List Task) (i : Nat) (h : i < l.length) : lst (l.take (i + 1)) = min (lst (l.take i)) l[i].f2 := by
  unfold lst
  rw [List.take_succ_eq_append_getElem h, List.foldl_append]
  rfl
theorem fold_lst (l : List Task) : ∀ m t : Int, (l.foldl (fun m t => min m t.f2) m < t ↔ m < t ∨ ∃ y ∈ l, y.f2 < t) := by
  induction l with
  | nil => intro m t; simp
  | cons a l ih =>
    intro m t
    rw [List.foldl_cons, ih]
    simp only [List.mem_cons, exists_eq_or_imp]
    constructor
    · rintro (h | h)
      · by_cases h' : m < t
        · exact Or.inl h'
        · exact Or.inr (Or.inl (by omega))
      · exact Or.inr (Or.inr h)
    · rintro (h | h | h)
      · exact Or.inl (by omega)
      · exact Or.inl (by omega)
      · exact Or.inr h
theorem lst_lt {l : List Task} {x : Task} (hx : TVt x) {t : Int} (ht : t < x.f2) : lst l < t ↔ ∃ y ∈ l, y.f2 < t := by
  unfold TVt TV at hx
  unfold lst
  rw [fold_lst]
  constructor
  · rintro (h | h)
    · omega
    · exact h
  · exact Or.inr
theorem lst_bd {l : List Task} (hs : SetOk l) : 1 ≤ lst l ∧ lst l ≤ 12 := by
  have h1 := fold_lst l 12 1
  have h2 := (fold_lst l 12 13).2 (Or.inl (by omega))
  unfold lst
  have : ¬ (l.foldl (fun m t => min m t.f2) 12 < 1) := fun h => by
    rcases h1.1 h with h | ⟨y, hy, h⟩
    · omega
    · have := hs.2 y hy
      unfold TVt TV at this
      omega
  omega
theorem impl_np (l : List Task) : Ev (fun k => zh.f k l) (decide (NP l)) := by
  apply Tot.ev
  have bad : ¬ NP l → Tot (fun k => zh.j0 k l true) (fun r => r = decide (NP l)) := fun h =>
    Tot.step (fun k => by rw [zh.j0]) (Tot.yes rfl (Tot.ret _ (decide_eq_false h).symm))
  unfold zh.f
  refine Tot.bind0 (impl_f l) (Tot.ite (fun hI => ?_) (fun hI => bad (fun h => hI (decide_eq_true h.1))))
  have hI := of_decide_eq_true hI
  have hs := hI.1
  have hlen := hs.1
  have hlb := lst_bd hs
  refine Tot.bind (Tot.val (load_ev hs)) ?_
  rintro _ rfl
  refine Tot.bind (Tot.val (hyper_ev hs)) ?_
  rintro _ rfl
  by_cases hu : ld l > hy l
  · rw [decide_eq_true hu]
    exact bad (fun h => by have := h.2.1; omega)
  rw [decide_eq_false hu]
  refine Tot.step (fun k => by rw [zh.j0]) (Tot.no (by simp) ?_)
  have inner : ∀ (i : Nat) (hi : i < l.length) (t : Int), 1 ≤ t → t < l[i].f2 → ∀ Q : Bool → Prop, (np1 l l[i] t > t → Q false) → (np1 l l[i] t ≤ t → Tot (fun k => zh.l2 k l (lst l) (t + 1) l (l.length : Int) (i : Int) l[i].f0 l[i].f1 l[i].f2) Q) → ∀ d j, j + d = l.length → Tot (fun k => zh.l3 k l (lst l) t (l[i].f0 + sm (n1 l[i].f2 t) (l.take j)) l (l.length : Int) (i : Int) l (l.length : Int) (j : Int) l[i].f0 l[i].f1 l[i].f2) Q := by
    intro i hi t h0 h1 Q hq1 hq2 d
    have hvi := hs.2 _ (List.getElem_mem hi)
    unfold TVt TV at hvi
    induction d with
    | zero =>
      intro j hj
      refine Tot.step (fun k => by rw [zh.l3]) (Tot.no (by omega) ?_)
      rw [List.take_of_length_le (by omega), w64 (x := t + 1) (by omega) (by omega)]
      exact Tot.ite (fun h => Tot.ret _ (hq1 h)) (fun h => hq2 (show np1 l l[i] t ≤ t by unfold np1; omega))
    | succ d ih =>
      intro j hj
      have hjl : j < l.length := by omega
      have hvj := hs.2 _ (List.getElem_mem hjl)
      have hvj' := hvj
      unfold TVt TV at hvj'
      have hb := n1_bd (P := l[i].f2) hvj h0 (by omega)
      have ht := n1_take (P := l[i].f2) hs h0 (t := t) (by omega) j (by omega)
      have IH := ih (j + 1) (by omega)
      rw [sm_take _ _ _ hjl] at IH
      refine Tot.step (fun k => by rw [zh.l3]) (Tot.yes (by omega) (Tot.yes (by omega) (Tot.yes (by omega) ?_)))
      rw [rdT_at l j hjl, w64 (x := (j : Int) + 1) (by omega) (by omega)]
      refine Tot.ite (fun h => ?_) (fun h => ?_)
      · have hv := n1_val (P := l[i].f2) hvj h0 (by omega) h
        refine Tot.no hv.1 ?_
        rw [hv.2, w64 (by omega) (by omega), Int.add_assoc]
        exact IH
      · have e : n1 l[i].f2 t l[j] = 0 := if_neg h
        rw [e, Int.add_zero] at IH
        exact IH
  have mid : ∀ (i : Nat) (hi : i < l.length) (Q : Bool → Prop), (∀ t : Int, lst l < t → t < l[i].f2 → np1 l l[i] t > t → Q false) → ((∀ t : Int, lst l < t → t < l[i].f2 → np1 l l[i] t ≤ t) → Tot (fun k => zh.l1 k l (lst l) l (l.length : Int) ((i : Int) + 1)) Q) → ∀ (d : Nat) (t : Int), t + d = max (lst l + 1) l[i].f2 → lst l < t → (∀ q : Int, lst l < q → q < t → np1 l l[i] q ≤ q) → Tot (fun k => zh.l2 k l (lst l) t l (l.length : Int) (i : Int) l[i].f0 l[i].f1 l[i].f2) Q := by
    intro i hi Q hq1 hq2 d
    have hvi := hs.2 _ (List.getElem_mem hi)
    unfold TVt TV at hvi
    induction d with
    | zero =>
      intro t ht h1 hm
      refine Tot.step (fun k => by rw [zh.l2]) (Tot.no (by omega) ?_)
      rw [w64 (x := (i : Int) + 1) (by omega) (by omega)]
      exact hq2 (fun q q1 q2 => hm q q1 (by omega))
    | succ d ih =>
      intro t ht h1 hm
      refine Tot.step (fun k => by rw [zh.l2]) (Tot.yes (by omega) ?_)
      have := inner i hi t (by omega) (by omega) Q (fun h => hq1 t h1 (by omega) h) (fun h => ih (t + 1) (by omega) (by omega) (fun q q1 q2 => by
        by_cases e : q = t
        · subst e; exact h
        · exact hm q q1 (by omega))) l.length 0 (by omega)
      simpa [sm] using this
  have outer : ∀ d i, i + d = l.length → (∀ p (hp : p < l.length), p < i → ∀ t : Int, lst l < t → t < l[p].f2 → np1 l l[p] t ≤ t) → Tot (fun k => zh.l1 k l (lst l) l (l.length : Int) (i : Int)) (fun r => r = decide (NP l)) := by
    intro d
    induction d with
    | zero =>
      intro i hi hm
      refine Tot.step (fun k => by rw [zh.l1]) (Tot.no (by omega) (Tot.ret _ ?_))
      symm
      rw [decide_eq_true_iff]
      refine ⟨hI, by omega, all_of (P := fun x => ∀ t : Int, (∃ y ∈ l, y.f2 < t) → t < x.f2 → np1 l x t ≤ t) (fun p hp t h1 h2 => hm p hp (by omega) t ((lst_lt (hs.2 _ (List.getElem_mem hp)) h2).2 h1) h2)⟩
    | succ d ih =>
      intro i hi hm
      have hil : i < l.length := by omega
      have hvi := hs.2 _ (List.getElem_mem hil)
      have hvi' := hvi
      unfold TVt TV at hvi'
      refine Tot.step (fun k => by rw [zh.l1]) (Tot.yes (by omega) (Tot.yes (by omega) (Tot.yes (by omega) ?_)))
      rw [rdT_at l i hil, w64 (x := lst l + 1) (by omega) (by omega)]
      refine mid i hil _ (fun t h1 h2 h3 => ?_) (fun hall => ih (i + 1) (by omega) (fun p hp hpi => ?_)) (max (lst l + 1) l[i].f2 - (lst l + 1)).toNat (lst l + 1) (by omega) (by omega) (fun q q1 q2 => by omega)
      · symm
        rw [decide_eq_false_iff_not]
        intro h
        have := h.2.2 _ (List.getElem_mem hil) t ((lst_lt hvi h2).1 h1) h2
        omega
      · by_cases e : p = i
        · subst e; exact hall
        · exact hm p hp (by omega)
  have least : ∀ d i, i + d = l.length → Tot (fun k => zh.l0 k l (lst (l.take i)) l (l.length : Int) (i : Int)) (fun r => r = decide (NP l)) := by
    intro d
    induction d with
    | zero =>
      intro i hi
      refine Tot.step (fun k => by rw [zh.l0]) (Tot.no (by omega) ?_)
      rw [List.take_of_length_le (by omega)]
      exact outer l.length 0 (by omega) (fun p _ h => by omega)
    | succ d ih =>
      intro i hi
      have hil : i < l.length := by omega
      refine Tot.step (fun k => by rw [zh.l0]) (Tot.yes (by omega) (Tot.yes (by omega) (Tot.yes (by omega) ?_)))
      have IH := ih (i + 1) (by omega)
      rw [lst_take _ _ hil] at IH
      rw [rdT_at l i hil, mn_min, w64 (by omega) (by omega)]
      exact IH
  exact least l.length 0 (by omega)
end Go.Proofs.Ytkdfjomhichkoaa.Np
namespace Go.Proofs.Ytkdfjomhichkoaa.NpSafe
open Go.RowKit Go.Proofs.Ytkdfjomhichkoaa.P Go.Proofs.Ytkdfjomhichkoaa.Base Go.Proofs.Ytkdfjomhichkoaa.Gen Go.Proofs.Ytkdfjomhichkoaa.Alive Go.Proofs.Ytkdfjomhichkoaa.Set Go.Proofs.Ytkdfjomhichkoaa.Tm Go.Proofs.Ytkdfjomhichkoaa.Np Go.Proofs.Ytkdfjomhichkoaa.Edf Go.Proofs.Ytkdfjomhichkoaa.Sim Go.Proofs.Ytkdfjomhichkoaa.Jobs Go.Proofs.Ytkdfjomhichkoaa.Leg Go.Proofs.Ytkdfjomhichkoaa.Nps Go.Proofs.Ytkdfjomhichkoaa.Npr Go.Proofs.Ytkdfjomhichkoaa.Npk Go.Proofs.YtkdfjomhichkoaaW.PrintWords Go.Proofs.YtkdfjomhichkoaaW.PrintLast
theorem wk_le {l : List Task} (hl : AllV l) (h : ld l ≤ hy l) {x : Int} (hx : 0 ≤ x) : wk l x ≤ x := by
  have hb := hy_bd hl
  have h1 : (hy l : Int) * wk l x ≤ x * ld l := by
    unfold ld wk
    rw [← sm_mul, ← sm_mul]
    apply sm_le
    intro t ht
    have hv := hl t ht
    unfold TVt TV at hv
    obtain ⟨m, hm⟩ := hy_int hl ht
    rw [hm, Int.mul_ediv_cancel_left _ (by omega)]
    have hp : (0 : Int) < hy l := by omega
    have hm0 : 0 ≤ m := by
      rcases Int.lt_or_le m 0 with h | h
      · have := Int.mul_neg_of_pos_of_neg (show 0 < t.f2 by omega) h
        omega
      · exact h
    have h2 : x / t.f2 * t.f2 ≤ x := Int.ediv_mul_le x (by omega)
    have h3 : x / t.f2 * t.f2 * (m * t.f0) ≤ x * (m * t.f0) := Int.mul_le_mul_of_nonneg_right h2 (Int.mul_nonneg hm0 (by omega))
    have e : t.f2 * m * (x / t.f2 * t.f0) = x / t.f2 * t.f2 * (m * t.f0) := by ac_rfl
    rw [e]
    exact h3
  have h4 : x * ld l ≤ x * hy l := Int.mul_le_mul_of_nonneg_left h hx
  have h5 : (hy l : Int) * wk l x ≤ hy l * x := by rw [Int.mul_comm (hy l : Int) x]; omega
  exact Int.le_of_mul_le_mul_left h5 (by omega)
theorem missL_none {js : List Job} {fin : List Int} (h : ∀ i, i < js.length → missB js fin i = false) : ∀ n, n ≤ js.length → missL js fin n = [] := by
  intro n
  induction n with
  | zero => intro _; rfl
  | succ n ih => intro hn; rw [missL, h n (by omega)]; exact ih (by omega)
theorem np_done {l : List Task} {js : List Job} (h : JL l js) (hf : NP l) (J : Nat) (hJ : J < js.length) (d : Nat) (hd : dl js J = (d : Int)) : rd (stL (npp js) (exs js) d) (J : Int) = 0 := by
  have hS := sch_of (npp_picks js) h.pos
  have hon := np_once h
  have hid := @np_idle js
  rw [zc4] at hS hon hid
  have hl := h.1
  refine np_safe (m := l.length) (tk := tki js) (P := P l) (C := C l) (dl := dl js) hS (fun i hi => (h.tkm i hi).1) (fun k hk => by have := task_ok hl k hk; omega) (fun k hk => by have := task_ok hl k hk; omega) (h.rel0) (fun i hi => ?_) (fun i hi => h.ex_le i hi) h.sep (fun t ht i hi hr => ?_) (fun t i hi hr hli j hj hrj hlj => ?_) hon (fun x hx => ?_) (fun k hk x hx hq => ?_) J hJ d hd
  · rw [h.dl_eq i hi]
    have hk := (h.tkm i hi).1
    have hP : D l (tki js i) = P l (tki js i) := by
      unfold D P
      rw [tk_at l _ hk]
      exact hf.1.2 _ (List.getElem_mem hk)
    rw [hP]
  · have h1 := hid ht i hi hr
    have h2 := hS.nonneg t i hi
    omega
  · have e : runL (npp js) (exs js) t = if 0 ≤ startp js (stL (npp js) (exs js) t) t then startp js (stL (npp js) (exs js) t) t else edfp js (stL (npp js) (exs js) t) t := rfl
    rw [e] at hr
    split at hr
    · rcases startp_sp js (stL (npp js) (exs js) t) t with ⟨h1, _⟩ | ⟨a, ha, h1, _, _, h2⟩
      · omega
      · obtain rfl : a = i := by omega
        have h3 := exs_rd js a ha
        have hli2 : rd (stL (npp js) (exs js) t) (a : Int) = rd (exs js) (a : Int) := hli
        omega
    · rcases edfp_sp js (stL (npp js) (exs js) t) t with ⟨h1, _⟩ | ⟨a, ha, h1, _, _, h2⟩
      · omega
      · obtain rfl : a = i := by omega
        exact h2 j hj hrj hlj
  · have e := su_sm (fun y => x / y.f2 * y.f0) l
    have e2 : su (fun k => x / P l k * C l k) l.length = sm (fun y => x / y.f2 * y.f0) l := e
    rw [e2]
    exact wk_le hl.all hf.2.1 hx
  · have hv := hf.2.2 (l[k]) (List.getElem_mem hk) x (by
      obtain ⟨q, hq1, hq2⟩ := hq
      refine ⟨l[q], List.getElem_mem hq1, ?_⟩
      have : P l q = l[q].f2 := by unfold P; rw [tk_at l q hq1]
      omega) (by have : P l k = l[k].f2 := by unfold P; rw [tk_at l k hk]
                 omega)
    unfold np1 at hv
    have e := su_sm (n1 (l[k]).f2 x) l
    have e1 : C l k = (l[k]).f0 := by unfold C; rw [tk_at l k hk]
    have e2 : P l k = (l[k]).f2 := by unfold P; rw [tk_at l k hk]
    have e3 : su (fun q => if P l q < P l k then (x - 1) / P l q * C l q else 0) l.length = sm (n1 (l[k]).f2 x) l := by
      rw [← e, e2]
      rfl
    rw [e3, e1]
    exact hv
theorem np_missed {l : List Task} {js : List Job} (h : JL l js) (hf : NP l) : missL js (sch js (npp js)).2 js.length = [] := by
  refine missL_none (fun i hi => ?_) js.length (Nat.le_refl _)
  unfold missB
  have e0 : (jrd js i).f2 = dl js i := rfl
  rw [e0]
  by_cases hd : dl js i ≤ 120
  · rw [if_pos hd]
    have h1 := h.dl_eq i hi
    have h2 := h.rel0 i hi
    have h3 := task_ok h.1 _ (h.tkm i hi).1
    obtain ⟨d, hdd⟩ := Int.eq_ofNat_of_zero_le (show 0 ≤ dl js i by omega)
    have h0 := np_done h hf i hi d hdd
    obtain ⟨f, hf1, hf2⟩ := met (npp_picks js) h.pos (by rw [zc4]; exact hi) h0 (by omega)
    have e1 : rd (sch js (npp js)).2 (i : Int) = (f : Int) := hf2
    rw [e1, if_neg (by omega)]
    exact decide_eq_false (by omega)
  · rw [if_neg hd]
end Go.Proofs.Ytkdfjomhichkoaa.NpSafe
namespace Go.Proofs.Ytkdfjomhichkoaa.Pb
open Go.RowKit Go.Proofs.Ytkdfjomhichkoaa.P Go.Proofs.Ytkdfjomhichkoaa.Gen Go.Proofs.Ytkdfjomhichkoaa.Base Go.Proofs.YtkdfjomhichkoaaW.PrintWords Go.Proofs.YtkdfjomhichkoaaW.PrintLast
theorem xor_ok (x y : Int) (hx : 0 ≤ x) (hx1 : x < 4611686018427387904) (hy : 0 ≤ y) (hy1 : y < 4611686018427387904) : 0 ≤ Go.bits .xor .i64 x y := by
  obtain ⟨a, rfl⟩ := Int.eq_ofNat_of_zero_le hx
  obtain ⟨b, rfl⟩ := Int.eq_ofNat_of_zero_le hy
  have ha : a < 2 ^ 62 := by have e : (2 : Nat) ^ 62 = 4611686018427387904 := by decide
                             omega
  have hb : b < 2 ^ 62 := by have e : (2 : Nat) ^ 62 = 4611686018427387904 := by decide
                             omega
  have ha' : a % 2 ^ 64 = a := Nat.mod_eq_of_lt (by omega)
  have hb' : b % 2 ^ 64 = b := Nat.mod_eq_of_lt (by omega)
  have hx := Nat.xor_lt_two_pow ha hb
  simp only [Go.bits]
  rw [show IntKind.i64.bits = 64 from rfl]
  rw [BitVec.toNat_xor, BitVec.ofInt_natCast, BitVec.ofInt_natCast, BitVec.toNat_ofNat, BitVec.toNat_ofNat, ha', hb', IntKind.wrap_i64]
  have e : (2 : Nat) ^ 62 = 4611686018427387904 := by decide
  omega
def Bytes (s : List Int) : Prop := s.length ≤ 2000 ∧ ∀ x ∈ s, 0 ≤ x ∧ x ≤ 255
theorem Bytes.rd {s : List Int} (h : Bytes s) (i : Int) : 0 ≤ rd s i ∧ rd s i ≤ 255 := by
  unfold Go.Proofs.YtkdfjomhichkoaaW.PrintWords.rd
  rw [List.getD_eq_getElem?_getD]
  rcases Nat.lt_or_ge i.toNat s.length with hi | hi
  · rw [List.getElem?_eq_getElem hi]
    exact h.2 _ (List.getElem_mem hi)
  · rw [List.getElem?_eq_none hi]
    simp
theorem u8_wf {x : Int} (h : (Lit.int .u8 x).wf = true) : 0 ≤ x ∧ x ≤ 255 := by
  simp [Lit.wf, IntKind.min, IntKind.max, IntKind.bits, IntKind.signed] at h
  omega
theorem tmod_ok (a n : Int) (ha : 0 ≤ a) (hn : 1 ≤ n) : 0 ≤ Int.tmod a n ∧ Int.tmod a n < n := by
  rw [Int.tmod_eq_emod_of_nonneg ha]
  exact ⟨Int.emod_nonneg _ (by omega), Int.emod_lt_of_pos _ (by omega)⟩
theorem tdiv_ok (a n : Int) (ha : 0 ≤ a) (hn : 1 ≤ n) : 0 ≤ Int.tdiv a n ∧ Int.tdiv a n ≤ a := by
  rw [Int.tdiv_eq_ediv_of_nonneg ha]
  exact ⟨Int.ediv_nonneg ha (by omega), Int.ediv_le_self _ ha⟩
theorem pick_at (k : Nat) (s : List Int) (p n : Int) (hs : Bytes s) (hp : 0 ≤ p) (hp2 : p ≤ 1000000000) :
    ∃ r, zb.f (k + 1) s p n = some (r, p + 1) ∧ 0 ≤ r ∧ (1 ≤ n → r < n) := by
  unfold zb.f
  rw [w64 (x := p + 1) (by omega) (by omega)]
  by_cases hn : n < 1
  · rw [if_pos hn]
    exact ⟨0, by simp [zb.j0], Int.le_refl _, fun h => by omega⟩
  · rw [if_neg hn]
    by_cases h0 : (s.length : Int) = 0
    · refine ⟨0, ?_, Int.le_refl _, fun h => by omega⟩
      simp only [zb.j0]
      rw [if_pos (by simpa using h0)]
    · simp only [zb.j0]
      rw [if_neg (by simpa using h0)]
      have hl := hs.1
      rw [w64 (x := p + 1 - 1) (by omega) (by omega), show p + 1 - 1 = p by omega]
      by_cases h1 : p < (s.length : Int)
      · have hb := hs.rd p
        rw [if_pos h1, if_pos hp, if_neg (by omega), w64 (x := rd s p) (by omega) (by omega)]
        have ht := tmod_ok (rd s p) n hb.1 (by omega)
        exact ⟨_, rfl, ht.1, fun _ => ht.2⟩
      · rw [if_neg h1, if_neg h0]
        have m0 := tmod_ok p (s.length : Int) hp (by omega)
        rw [if_pos m0.1, if_pos m0.2]
        rw [w64 (x := p * 7) (by omega) (by omega), w64 (x := p * 7 + 3) (by omega) (by omega)]
        have m1 := tmod_ok (p * 7 + 3) (s.length : Int) (by omega) (by omega)
        rw [if_pos m1.1, if_pos m1.2, if_neg (by omega)]
        have b0 := hs.rd (Int.tmod p (s.length : Int))
        have b1 := hs.rd (Int.tmod (p * 7 + 3) (s.length : Int))
        have d0 := tdiv_ok p (s.length : Int) hp (by omega)
        generalize rd s (Int.tmod p (s.length : Int)) = x at b0 ⊢
        generalize rd s (Int.tmod (p * 7 + 3) (s.length : Int)) = y at b1 ⊢
        generalize Int.tdiv p (s.length : Int) = q at d0 ⊢
        rw [w64 (x := x) (by omega) (by omega), w64 (x := y) (by omega) (by omega), w64 (x := q) (by omega) (by omega)]
        rw [w64 (x := x * 131) (by omega) (by omega), w64 (x := y * 1117) (by omega) (by omega), w64 (x := p * 29) (by omega) (by omega), w64 (x := q * 53) (by omega) (by omega)]
        rw [w64 (x := x * 131 + y * 1117) (by omega) (by omega), w64 (x := x * 131 + y * 1117 + p * 29) (by omega) (by omega), w64 (x := x * 131 + y * 1117 + p * 29 + q * 53) (by omega) (by omega)]
        have e0 := tdiv_ok (x * 131 + y * 1117 + p * 29 + q * 53) 64 (by omega) (by omega)
        rw [w64 (x := Int.tdiv (x * 131 + y * 1117 + p * 29 + q * 53) 64) (by omega) (by omega)]
        have hx := xor_ok (x * 131 + y * 1117 + p * 29 + q * 53) (Int.tdiv (x * 131 + y * 1117 + p * 29 + q * 53) 64) (by omega) (by omega) e0.1 (by omega)
        have ht := tmod_ok _ n hx (by omega)
        exact ⟨_, rfl, ht.1, fun _ => ht.2⟩
theorem open_at (l : List Int) (hl : ∀ x ∈ l, (Lit.int .u8 x).wf = true) : ∃ s, zc6.f l = some (s, 0) ∧ Bytes s := by
  unfold zc6.f
  by_cases h : (l.length : Int) > 2000
  · rw [if_pos h, if_pos (by omega)]
    exact ⟨_, rfl, by rw [List.length_take]; omega, fun x hx => u8_wf (hl x (List.mem_of_mem_take hx))⟩
  · rw [if_neg h]
    exact ⟨_, rfl, by omega, fun x hx => u8_wf (hl x hx)⟩
theorem zcu (s : List Int) (p n : Int) (hs : Bytes s) (hp : 0 ≤ p) (hp2 : p ≤ 1000000000) : Tot (fun k => zb.f k s p n) (fun r => r.2 = p + 1 ∧ 0 ≤ r.1 ∧ (1 ≤ n → r.1 < n)) := by
  obtain ⟨r, hr, h0, h1⟩ := pick_at 0 s p n hs hp hp2
  refine ⟨(r, p + 1), ⟨1, fun k hk => ?_⟩, rfl, h0, h1⟩
  obtain ⟨j, rfl⟩ : ∃ j, k = j + 1 := ⟨k - 1, by omega⟩
  obtain ⟨r', hr', h0', h1'⟩ := pick_at j s p n hs hp hp2
  have hm := at_rounds (g := fun k => zb.f k s p n) (fun k => zb.mono _ _ _ k) (show 1 ≤ j + 1 by omega) hr
  exact hm
theorem odd_tot (s : List Int) (p n : Int) (hs : Bytes s) (hp : 0 ≤ p) (hp2 : p ≤ 1000000000) : Tot (fun k => zbg.f k s p n) (fun r => p ≤ r.2 ∧ r.2 ≤ p + 1) := by
  unfold zbg.f
  refine Tot.ite (fun _ => ?_) (fun _ => Tot.ret _ ⟨Int.le_refl _, by omega⟩)
  refine Tot.bind (zcu s p n hs hp hp2) ?_
  rintro ⟨a, q⟩ ⟨rfl, _, _⟩
  exact Tot.ret _ ⟨by show p ≤ p + 1; omega, Int.le_refl _⟩
theorem open_tot {β : Type} {Q : β → Prop} (l : List Int) (hl : ∀ x ∈ l, (Lit.int .u8 x).wf = true) {f : Nat → List Int × Int → Option β} (hf : ∀ s, Bytes s → Tot (fun k => f k (s, 0)) Q) : Tot (fun k => (zc6.f l).bind (f k)) Q := by
  obtain ⟨s, hs, hb⟩ := open_at l hl
  exact Tot.bind0 hs (hf s hb)
theorem some_bind {α β : Type} {Q : β → Prop} (a : α) {f : Nat → α → Option β} (h : Tot (fun k => f k a) Q) : Tot (fun k => (some a).bind (f k)) Q := h
theorem rd_mem {xs : List Int} {i : Int} (h0 : 0 ≤ i) (h1 : i < (xs.length : Int)) : rd xs i ∈ xs := by
  unfold Go.Proofs.YtkdfjomhichkoaaW.PrintWords.rd
  have : i.toNat < xs.length := by omega
  rw [List.getD_eq_getElem?_getD, List.getElem?_eq_getElem this]
  exact List.getElem_mem this
end Go.Proofs.Ytkdfjomhichkoaa.Pb
namespace Go.Proofs.Ytkdfjomhichkoaa.DrTask
open Go.RowKit Go.Proofs.Ytkdfjomhichkoaa.P Go.Proofs.Ytkdfjomhichkoaa.Base Go.Proofs.Ytkdfjomhichkoaa.Gen Go.Proofs.Ytkdfjomhichkoaa.Pb Go.Proofs.YtkdfjomhichkoaaW.PrintWords Go.Proofs.YtkdfjomhichkoaaW.PrintLast
theorem rd_bd {xs : List Int} {i : Int} (lo hi : Int) (h0 : 0 ≤ i) (h1 : i < (xs.length : Int)) (h : ∀ x ∈ xs, lo ≤ x ∧ x ≤ hi) : lo ≤ rd xs i ∧ rd xs i ≤ hi := h _ (rd_mem h0 h1)
theorem mx_bd (a b : Int) : a ≤ mx a b ∧ b ≤ mx a b ∧ (mx a b = a ∨ mx a b = b) := by unfold mx; split <;> omega
theorem mn_bd (a b : Int) : mn a b ≤ a ∧ mn a b ≤ b ∧ (mn a b = a ∨ mn a b = b) := by unfold mn; split <;> omega
def SmallT (c d p : Int) : Prop := -20 ≤ c ∧ c ≤ 20 ∧ -20 ≤ d ∧ d ≤ 20 ∧ -20 ≤ p ∧ p ≤ 20
theorem task_tot (s : List Int) (p n : Int) (hs : Bytes s) (hp : 0 ≤ p) (hp2 : p ≤ 900000000) :
    Tot (fun k => zk.f k s p n) (fun r => SmallT r.1 r.2.1 r.2.2.1 ∧ p ≤ r.2.2.2 ∧ r.2.2.2 ≤ p + 9) := by
  have last : ∀ (q c d e : Int), SmallT c d e → p ≤ q → q ≤ p + 9 → Tot (fun k => zk.j0 k s q c d e) (fun r => SmallT r.1 r.2.1 r.2.2.1 ∧ p ≤ r.2.2.2 ∧ r.2.2.2 ≤ p + 9) := by
    intro q c d e h1 h2 h3
    exact Tot.step (fun k => by rw [zk.j0]) (Tot.ret _ ⟨h1, h2, h3⟩)
  unfold zk.f
  refine Tot.bind (zcu s p 12 hs hp (by omega)) ?_
  rintro ⟨a, q⟩ ⟨h, ha0, ha1⟩
  simp only at h ha0 ha1 ⊢; subst h
  have ha1 := ha1 (by omega)
  rw [w64 (x := 1 + a) (by omega) (by omega)]
  refine some_bind _ ?_
  refine Tot.bind (zcu s (p + 1) 8 hs (by omega) (by omega)) ?_
  rintro ⟨b, q⟩ ⟨h, hb0, hb1⟩
  simp only at h hb0 hb1 ⊢; subst h
  have hb1 := hb1 (by omega)
  have hlt : b < ((([2, 3, 4, 6, 8, 12, 1 + a, 5] : List Int).length : Nat) : Int) := by simp; omega
  refine Tot.yes hb0 (Tot.yes hlt ?_)
  have hc := rd_bd 1 12 hb0 hlt (by intro x hx; simp only [List.mem_cons, List.not_mem_nil, or_false] at hx; omega)
  generalize rd [2, 3, 4, 6, 8, 12, 1 + a, 5] b = P at hc ⊢
  refine Tot.bind (zcu s (p + 1 + 1) P hs (by omega) (by omega)) ?_
  rintro ⟨c, q⟩ ⟨h, hc0, hc1⟩
  simp only at h hc0 hc1 ⊢; subst h
  have hc1 := hc1 (by omega)
  rw [w64 (x := 1 + c) (by omega) (by omega), w64 (x := P - 1) (by omega) (by omega)]
  have hm := mx_bd 1 (P - 1)
  refine some_bind _ ?_
  refine Tot.bind (zcu s (p + 1 + 1 + 1) 3 hs (by omega) (by omega)) ?_
  rintro ⟨d, q⟩ ⟨h, hd0, hd1⟩
  simp only at h hd0 hd1 ⊢; subst h
  have hd1 := hd1 (by omega)
  have hlt : d < ((([P, 1 + c, mx 1 (P - 1)] : List Int).length : Nat) : Int) := by simp; omega
  refine Tot.yes hd0 (Tot.yes hlt ?_)
  have hD := rd_bd 1 12 hd0 hlt (by intro x hx; simp only [List.mem_cons, List.not_mem_nil, or_false] at hx; omega)
  generalize rd [P, 1 + c, mx 1 (P - 1)] d = D at hD ⊢
  have e2 := tdiv_ok D 2 (by omega) (by omega)
  have e3 := tdiv_ok D 3 (by omega) (by omega)
  rw [w64 (x := Int.tdiv D 2) (by omega) (by omega), w64 (x := Int.tdiv D 3) (by omega) (by omega)]
  have hm2 := mx_bd 1 (Int.tdiv D 2)
  have hm3 := mx_bd 1 (Int.tdiv D 3)
  refine some_bind _ ?_
  refine Tot.bind (zcu s (p + 1 + 1 + 1 + 1) 3 hs (by omega) (by omega)) ?_
  rintro ⟨e, q⟩ ⟨h, he0, he1⟩
  simp only at h he0 he1 ⊢; subst h
  have he1 := he1 (by omega)
  have hlt : e < ((([D, mx 1 (Int.tdiv D 2), mx 1 (Int.tdiv D 3)] : List Int).length : Nat) : Int) := by simp; omega
  refine Tot.yes he0 (Tot.yes hlt ?_)
  have hE := rd_bd 1 12 he0 hlt (by intro x hx; simp only [List.mem_cons, List.not_mem_nil, or_false] at hx; omega)
  generalize rd [D, mx 1 (Int.tdiv D 2), mx 1 (Int.tdiv D 3)] e = E at hE ⊢
  have hmn := mn_bd 8 E
  refine Tot.bind (zcu s (p + 1 + 1 + 1 + 1 + 1) (mn 8 E) hs (by omega) (by omega)) ?_
  rintro ⟨f, q⟩ ⟨h, hf0, hf1⟩
  simp only at h hf0 hf1 ⊢; subst h
  have hf1 := hf1 (by omega)
  rw [w64 (x := 1 + f) (by omega) (by omega)]
  refine Tot.bind (odd_tot s (p + 1 + 1 + 1 + 1 + 1 + 1) n hs (by omega) (by omega)) ?_
  rintro ⟨g, q⟩ ⟨h1, h2⟩
  simp only at h1 h2 ⊢
  refine Tot.ite (fun _ => ?_) (fun _ => last _ _ _ _ (by unfold SmallT; omega) (by omega) (by omega))
  refine Tot.bind (zcu s q 3 hs (by omega) (by omega)) ?_
  rintro ⟨u, q'⟩ ⟨h, hu0, hu1⟩
  simp only at h hu0 hu1 ⊢; subst h
  refine Tot.ite (fun _ => ?_) (fun _ => Tot.ite (fun _ => ?_) (fun _ => ?_))
  · rw [w64 (x := D + 1) (by omega) (by omega)]
    refine some_bind _ ?_
    refine Tot.bind (zcu s (q + 1) 4 hs (by omega) (by omega)) ?_
    rintro ⟨v, q'⟩ ⟨h, hv0, hv1⟩
    simp only at h hv0 hv1 ⊢; subst h
    have hlt : v < ((([0, -1, 9, D + 1] : List Int).length : Nat) : Int) := by simp; omega
    refine Tot.yes hv0 (Tot.yes hlt ?_)
    have hV := rd_bd (-1) 13 hv0 hlt (by intro x hx; simp only [List.mem_cons, List.not_mem_nil, or_false] at hx; omega)
    exact last _ _ _ _ (by unfold SmallT; omega) (by omega) (by omega)
  · rw [w64 (x := P + 1) (by omega) (by omega)]
    refine some_bind _ ?_
    refine Tot.bind (zcu s (q + 1) 3 hs (by omega) (by omega)) ?_
    rintro ⟨v, q'⟩ ⟨h, hv0, hv1⟩
    simp only at h hv0 hv1 ⊢; subst h
    have hlt : v < ((([0, P + 1, -1] : List Int).length : Nat) : Int) := by simp; omega
    refine Tot.yes hv0 (Tot.yes hlt ?_)
    have hV := rd_bd (-1) 13 hv0 hlt (by intro x hx; simp only [List.mem_cons, List.not_mem_nil, or_false] at hx; omega)
    exact last _ _ _ _ (by unfold SmallT; omega) (by omega) (by omega)
  · refine some_bind _ ?_
    refine Tot.bind (zcu s (q + 1) 3 hs (by omega) (by omega)) ?_
    rintro ⟨v, q'⟩ ⟨h, hv0, hv1⟩
    simp only at h hv0 hv1 ⊢; subst h
    have hlt : v < ((([0, 13, -1] : List Int).length : Nat) : Int) := by simp; omega
    refine Tot.yes hv0 (Tot.yes hlt ?_)
    have hV := rd_bd (-1) 13 hv0 hlt (by intro x hx; simp only [List.mem_cons, List.not_mem_nil, or_false] at hx; omega)
    exact last _ _ _ _ (by unfold SmallT; omega) (by omega) (by omega)
end Go.Proofs.Ytkdfjomhichkoaa.DrTask
namespace Go.Proofs.Ytkdfjomhichkoaa.DrSet
open Go.RowKit Go.Proofs.Ytkdfjomhichkoaa.P Go.Proofs.Ytkdfjomhichkoaa.Base Go.Proofs.Ytkdfjomhichkoaa.Gen Go.Proofs.Ytkdfjomhichkoaa.Pb Go.Proofs.Ytkdfjomhichkoaa.DrTask Go.Proofs.YtkdfjomhichkoaaW.PrintWords Go.Proofs.YtkdfjomhichkoaaW.PrintLast
abbrev Task := S88
def Short (p : Int) (r : List Task × Int) : Prop := r.1.length ≤ 20 ∧ p ≤ r.2 ∧ r.2 ≤ p + 300
theorem set_tot (s : List Int) (p n : Int) (hs : Bytes s) (hp : 0 ≤ p) (hp2 : p ≤ 100000) : Tot (fun k => zbm.f k s p n) (Short p) := by
  have more : ∀ (d : Nat) (x : List Task) (q : Int), x.length + d = 6 → p ≤ q → q ≤ p + 100 + 10 * (6 - d) → Tot (fun k => zbm.l1 k x s q) (Short p) := by
    intro d
    induction d with
    | zero =>
      intro x q h1 h2 h3
      refine Tot.step (fun k => by rw [zbm.l1]) (Tot.no (by omega) ?_)
      refine Tot.bind (task_tot s q 2 hs (by omega) (by omega)) ?_
      rintro ⟨a, b, c, q2⟩ ⟨_, h4, h5⟩
      simp only at h4 h5 ⊢
      exact Tot.yes (by omega) (Tot.ret _ ⟨by simp; omega, by simp; omega, by simp; omega⟩)
    | succ d ih =>
      intro x q h1 h2 h3
      refine Tot.step (fun k => by rw [zbm.l1]) (Tot.yes (by omega) ?_)
      refine Tot.bind (task_tot s q 0 hs (by omega) (by omega)) ?_
      rintro ⟨a, b, c, q2⟩ ⟨_, h4, h5⟩
      simp only at h4 h5 ⊢
      exact Tot.yes (by omega) (ih _ _ (by simp; omega) (by omega) (by omega))
  have first : ∀ (d : Nat) (x6 : Int) (x : List Task) (q : Int), x6 = d → x.length + d ≤ 5 → p ≤ q → q ≤ p + 1 + 9 * (5 - d) → Tot (fun k => zbm.l0 k n x x6 s q) (Short p) := by
    intro d
    induction d with
    | zero =>
      intro x6 x q h1 h2 h3 h4
      refine Tot.step (fun k => by rw [zbm.l0]) (Tot.no (by omega) ?_)
      refine Tot.bind (odd_tot s q n hs (by omega) (by omega)) ?_
      rintro ⟨a, q2⟩ ⟨h5, h6⟩
      simp only at h5 h6 ⊢
      refine Tot.ite (fun _ => ?_) (fun _ => Tot.ret _ ⟨by simp; omega, by simp; omega, by simp; omega⟩)
      refine Tot.bind (zcu s q2 3 hs (by omega) (by omega)) ?_
      rintro ⟨b, q3⟩ ⟨h7, h8, h9⟩
      simp only at h7 h8 h9 ⊢; subst h7
      refine Tot.ite (fun _ => more (6 - x.length) x _ (by omega) (by omega) (by omega)) (fun _ => ?_)
      refine Tot.bind (task_tot s (q2 + 1) 2 hs (by omega) (by omega)) ?_
      rintro ⟨a, b, c, q4⟩ ⟨_, h10, h11⟩
      simp only at h10 h11 ⊢
      exact Tot.yes (by omega) (Tot.ret _ ⟨by simp; omega, by simp; omega, by simp; omega⟩)
    | succ d ih =>
      intro x6 x q h1 h2 h3 h4
      refine Tot.step (fun k => by rw [zbm.l0]) (Tot.yes (by omega) ?_)
      refine Tot.bind (task_tot s q 0 hs (by omega) (by omega)) ?_
      rintro ⟨a, b, c, q2⟩ ⟨_, h4, h5⟩
      simp only at h4 h5 ⊢
      rw [w64 (x := x6 - 1) (by omega) (by omega)]
      exact Tot.yes (by omega) (ih _ _ _ (by omega) (by simp; omega) (by omega) (by omega))
  unfold zbm.f
  refine Tot.bind (zcu s p 6 hs hp (by omega)) ?_
  rintro ⟨a, q2⟩ ⟨h5, h6, h7⟩
  simp only at h5 h6 h7 ⊢; subst h5
  have h7 := h7 (by omega)
  exact first a.toNat a [] _ (by omega) (by simp; omega) (by omega) (by omega)
end Go.Proofs.Ytkdfjomhichkoaa.DrSet
namespace Go.Proofs.Ytkdfjomhichkoaa.DrJobs
open Go.RowKit Go.Proofs.Ytkdfjomhichkoaa.P Go.Proofs.Ytkdfjomhichkoaa.Base Go.Proofs.Ytkdfjomhichkoaa.Gen Go.Proofs.Ytkdfjomhichkoaa.Pb Go.Proofs.Ytkdfjomhichkoaa.Set Go.Proofs.Ytkdfjomhichkoaa.Jobs Go.Proofs.YtkdfjomhichkoaaW.PrintWords Go.Proofs.YtkdfjomhichkoaaW.PrintLast
theorem jobs_tot (s : List Int) (l : List Task) (p n : Int) (hs : Bytes s) (hl : l.length ≤ 5) (hp : 0 ≤ p) (hp2 : p ≤ 990000000) : Tot (fun k => zt.f k s p l n) (fun r => r.1.length ≤ 61) := by
  have fill : ∀ (d : Nat) (x : List Job) (q : Int), x.length + d = 61 → Tot (fun k => zt.l2 k x s q) (fun r => r.1.length ≤ 61) := by
    intro d
    induction d with
    | zero => intro x q hx; exact Tot.step (fun k => by rw [zt.l2]) (Tot.no (by omega) (Tot.ret _ (by simp only; omega)))
    | succ d ih =>
      intro x q hx
      exact Tot.step (fun k => by rw [zt.l2]) (Tot.yes (by omega) (Tot.yes (by omega) (ih _ q (by rw [List.length_append, List.length_singleton]; omega))))
  have last : ∀ (x : List Job) (b : Bool) (q : Int), x.length ≤ 60 → (b = true → 0 < x.length) → 0 ≤ q → q ≤ 999000000 → Tot (fun k => zt.j3 k l x b s q) (fun r => r.1.length ≤ 61) := by
    intro x b q hx hb hq0 hq1
    refine Tot.step (fun k => by rw [zt.j3]) (Tot.ite (fun hbt => ?_) (fun _ => Tot.ret _ (by simp only; omega)))
    have hpos := hb hbt
    refine Tot.bind (zcu s q (x.length : Int) hs hq0 (by omega)) ?_
    rintro ⟨a, q2⟩ ⟨h1, h2, h3⟩
    simp only at h1 h2 h3 ⊢; subst h1
    have h3 := h3 (by omega)
    refine Tot.bind (zcu s (q + 1) 6 hs (by omega) (by omega)) ?_
    rintro ⟨c, q3⟩ ⟨h4, h5, h6⟩
    simp only at h4 h5 h6 ⊢; subst h4
    refine Tot.ite (fun _ => ?_) (fun _ => Tot.ite (fun _ => ?_) (fun _ => Tot.ite (fun _ => ?_) (fun _ => Tot.ite (fun _ => ?_) (fun _ => Tot.ite (fun _ => ?_) (fun _ => ?_)))))
    · refine some_bind _ (Tot.bind (zcu s (q + 1 + 1) 2 hs (by omega) (by omega)) ?_)
      rintro ⟨d, q4⟩ ⟨h7, h8, h9⟩
      simp only at h7 h8 h9 ⊢; subst h7
      have h9 := h9 (by omega)
      exact Tot.yes h8 (Tot.yes (by simp; omega) (Tot.yes h2 (Tot.yes h3 (Tot.ret _ (by simp only [List.length_set]; omega)))))
    · refine Tot.yes h2 (Tot.yes h3 (some_bind _ (Tot.bind (zcu s (q + 1 + 1) 3 hs (by omega) (by omega)) ?_)))
      rintro ⟨d, q4⟩ ⟨h7, h8, h9⟩
      simp only at h7 h8 h9 ⊢; subst h7
      have h9 := h9 (by omega)
      exact Tot.yes h8 (Tot.yes (by simp; omega) (Tot.ret _ (by simp only [List.length_set]; omega)))
    · exact Tot.yes h2 (Tot.yes h3 (Tot.ret _ (by simp only [List.length_set]; omega)))
    · refine some_bind _ (Tot.bind (zcu s (q + 1 + 1) 2 hs (by omega) (by omega)) ?_)
      rintro ⟨d, q4⟩ ⟨h7, h8, h9⟩
      simp only at h7 h8 h9 ⊢; subst h7
      have h9 := h9 (by omega)
      exact Tot.yes h8 (Tot.yes (by simp; omega) (Tot.yes h2 (Tot.yes h3 (Tot.ret _ (by simp only [List.length_set]; omega)))))
    · exact Tot.yes h2 (Tot.yes h3 (Tot.yes (by omega) (Tot.ret _ (by simp only [List.length_append, List.length_singleton]; omega))))
    · exact fill (61 - x.length) x _ (by omega)
  have inner : ∀ (t : Int) (u : Int), 0 ≤ u → u ≤ 3 → ∀ (R : Int → Prop),
      (∀ (x : List Job) (y : List Int) (q : Int), x.length ≤ 60 → y.length = l.length → R q → Tot (fun k => zt.l0 k l n x y u (wrap64 (t + 1)) s q) (fun r => r.1.length ≤ 61)) →
      ∀ (d i : Nat) (x : List Job) (y : List Int) (q : Int), i + d = l.length → x.length ≤ 60 → y.length = l.length → 0 ≤ q → (∀ q', q ≤ q' → q' ≤ q + 3 * d → R q') → q + 3 * d ≤ 999000000 → Tot (fun k => zt.l1 k l n x y u t (i : Int) s q) (fun r => r.1.length ≤ 61) := by
    intro t u hu0 hu1 R hR d
    induction d with
    | zero =>
      intro i x y q hi hx hy hq hRq _
      exact Tot.step (fun k => by rw [zt.l1]) (Tot.no (by omega) (hR x y q hx hy (hRq q (by omega) (by omega))))
    | succ d ih =>
      intro i x y q hi hx hy hq hRq hqb
      have e1 : wrap64 ((i : Int) + 1) = ((i + 1 : Nat) : Int) := by rw [w64 (by omega) (by omega)]; omega
      have next : ∀ (x2 : List Job) (y2 : List Int) (q2 : Int), x2.length ≤ 60 → y2.length = l.length → q ≤ q2 → q2 ≤ q + 3 → Tot (fun k => zt.l1 k l n x2 y2 u t (wrap64 ((i : Int) + 1)) s q2) (fun r => r.1.length ≤ 61) := by
        intro x2 y2 q2 hx2 hy2 h1 h2
        rw [e1]
        exact ih (i + 1) x2 y2 q2 (by omega) hx2 hy2 (by omega) (fun q' h3 h4 => hRq q' (by omega) (by omega)) (by omega)
      have j2 : ∀ (b : Bool) (q2 : Int), (b = false → x.length < 60) → q ≤ q2 → q2 ≤ q + 1 → Tot (fun k => zt.j2 k l n x y u t (i : Int) b s q2) (fun r => r.1.length ≤ 61) := by
        intro b q2 hb h1 h2
        refine Tot.step (fun k => by rw [zt.j2]) (Tot.ite (fun _ => next x y q2 hx hy h1 (by omega)) (fun hbf => ?_))
        have hlt := hb (by simpa using hbf)
        refine Tot.yes (by omega) (Tot.yes (by omega) ?_)
        refine Tot.bind (zcu s q2 3 hs (by omega) (by omega)) ?_
        rintro ⟨a, q3⟩ ⟨h3, h4, h5⟩
        simp only at h3 h4 h5 ⊢; subst h3
        refine Tot.ite (fun _ => ?_) (fun _ => ?_)
        · refine Tot.bind (zcu s (q2 + 1) _ hs (by omega) (by omega)) ?_
          rintro ⟨c, q4⟩ ⟨h6, h7, h8⟩
          simp only at h6 h7 h8 ⊢; subst h6
          exact Tot.yes (by omega) (Tot.yes (by omega) (next _ _ _ (by rw [List.length_append, List.length_singleton]; omega) (by rw [List.length_set]; exact hy) (by omega) (by omega)))
        · exact Tot.yes (by omega) (Tot.yes (by omega) (next _ _ _ (by rw [List.length_append, List.length_singleton]; omega) (by rw [List.length_set]; exact hy) (by omega) (by omega)))
      refine Tot.step (fun k => by rw [zt.l1]) (Tot.yes (by omega) (Tot.yes (by omega) (Tot.yes (by omega) ?_)))
      refine Tot.ite (fun _ => j2 true q (by simp) (by omega) (by omega)) (fun _ => Tot.ite (fun _ => j2 true q (by simp) (by omega) (by omega)) (fun h60 => ?_))
      refine Tot.ite (fun _ => ?_) (fun _ => j2 false q (fun _ => by omega) (by omega) (by omega))
      refine Tot.bind (zcu s q _ hs hq (by omega)) ?_
      rintro ⟨a, q3⟩ ⟨h3, h4, h5⟩
      simp only at h3 h4 h5 ⊢; subst h3
      exact j2 _ _ (fun _ => by omega) (by omega) (by omega)
  have outer : ∀ (u : Int), 0 ≤ u → u ≤ 3 → ∀ (d i : Nat) (x : List Job) (y : List Int) (q : Int), i + d = 100 → x.length ≤ 60 → y.length = l.length → 0 ≤ q → q + 15 * d ≤ 998000000 → Tot (fun k => zt.l0 k l n x y u (i : Int) s q) (fun r => r.1.length ≤ 61) := by
    intro u hu0 hu1 d
    induction d with
    | zero =>
      intro i x y q hi hx hy hq hqb
      refine Tot.step (fun k => by rw [zt.l0]) (Tot.no (by omega) ?_)
      refine Tot.bind (odd_tot s q n hs hq (by omega)) ?_
      rintro ⟨a, q2⟩ ⟨h1, h2⟩
      simp only at h1 h2 ⊢
      exact Tot.ite (fun _ => last x _ q2 hx (fun h => by have := of_decide_eq_true h; omega) (by omega) (by omega)) (fun _ => last x _ q2 hx (by simp) (by omega) (by omega))
    | succ d ih =>
      intro i x y q hi hx hy hq hqb
      refine Tot.step (fun k => by rw [zt.l0]) (Tot.yes (by omega) ?_)
      refine inner (i : Int) u hu0 hu1 (fun q' => q ≤ q' ∧ q' ≤ q + 15) (fun x2 y2 q2 hx2 hy2 hq2 => ?_) l.length 0 x y q (by omega) hx hy hq (fun q' h1 h2 => ⟨h1, by omega⟩) (by omega)
      rw [show wrap64 ((i : Int) + 1) = ((i + 1 : Nat) : Int) by rw [w64 (by omega) (by omega)]; omega]
      exact ih (i + 1) x2 y2 q2 (by omega) hx2 hy2 (by omega) (by omega)
  unfold zt.f
  refine Tot.yes (by omega) (Tot.yes (by rw [Int.toNat_natCast]; omega) ?_)
  refine Tot.bind (zcu s p 3 hs hp (by omega)) ?_
  rintro ⟨a, q2⟩ ⟨h1, h2, h3⟩
  simp only at h1 h2 h3 ⊢; subst h1
  have h3 := h3 (by omega)
  exact outer a h2 (by omega) 100 0 [] _ _ (by omega) (by simp) (by rw [List.length_replicate, Int.toNat_natCast]) (by omega) (by omega)
end Go.Proofs.Ytkdfjomhichkoaa.DrJobs
namespace Go.Proofs.Ytkdfjomhichkoaa.Same
open Go.RowKit Go.Proofs.Ytkdfjomhichkoaa.P Go.Proofs.Ytkdfjomhichkoaa.Base Go.Proofs.Ytkdfjomhichkoaa.Gen Go.Proofs.YtkdfjomhichkoaaW.PrintWords Go.Proofs.YtkdfjomhichkoaaW.PrintLast
theorem same_tot (l : List Int) (hl : l.length ≤ 1048576) : Tot (fun k => zbt.f k l l) (fun r => r = true) := by
  have h := Tot.look (r := true) (fun k i => zbt.l0 k l l i) l.length (fun k i h => by
    simp only [zbt.l0]
    rw [if_pos (by omega), if_pos (by omega), if_pos (by omega), if_pos (by first | trivial | rfl), w64 (by omega) (by omega)]) (fun k => by
    simp only [zbt.l0]
    rw [if_neg (by omega)])
  refine Tot.congr (fun k => ?_) h
  unfold zbt.f
  rw [if_pos rfl]
end Go.Proofs.Ytkdfjomhichkoaa.Same
namespace Go.Proofs.Ytkdfjomhichkoaa.DrNp
open Go.RowKit Go.Proofs.Ytkdfjomhichkoaa.P Go.Proofs.Ytkdfjomhichkoaa.Base Go.Proofs.Ytkdfjomhichkoaa.Gen Go.Proofs.Ytkdfjomhichkoaa.Pb Go.Proofs.Ytkdfjomhichkoaa.Set Go.Proofs.Ytkdfjomhichkoaa.Tm Go.Proofs.Ytkdfjomhichkoaa.DrSet Go.Proofs.Ytkdfjomhichkoaa.Jobs Go.Proofs.Ytkdfjomhichkoaa.DrJobs Go.Proofs.Ytkdfjomhichkoaa.Same Go.Proofs.YtkdfjomhichkoaaW.PrintWords Go.Proofs.YtkdfjomhichkoaaW.PrintLast
theorem implicit_tot (s : List Int) (n : Int) (hs : Bytes s) : Tot (fun k => zbi.f k s 0 n) (fun r => r.1.length ≤ 20 ∧ 0 ≤ r.2 ∧ r.2 ≤ 400) := by
  unfold zbi.f
  refine Tot.bind (set_tot s 0 n hs (by omega) (by omega)) ?_
  rintro ⟨x, q⟩ ⟨h1, h2, h3⟩
  simp only at h1 h2 h3 ⊢
  refine Tot.bind (odd_tot s q n hs (by omega) (by omega)) ?_
  rintro ⟨a, q2⟩ ⟨h4, h5⟩
  simp only at h4 h5 ⊢
  refine Tot.ite (fun _ => Tot.ret _ ⟨h1, by simp only; omega, by simp only; omega⟩) (fun _ => ?_)
  have loop : ∀ (d i : Nat) (y : List Set.Task), i + d = y.length → y.length ≤ 20 → Tot (fun k => zbi.l0 k y (i : Int) s q2) (fun r => r.1.length ≤ 20 ∧ 0 ≤ r.2 ∧ r.2 ≤ 400) := by
    intro d
    induction d with
    | zero =>
      intro i y hi hy
      exact Tot.step (fun k => by rw [zbi.l0]) (Tot.no (by omega) (Tot.ret _ ⟨hy, by simp only; omega, by simp only; omega⟩))
    | succ d ih =>
      intro i y hi hy
      refine Tot.step (fun k => by rw [zbi.l0]) (Tot.yes (by omega) (Tot.yes (by omega) ?_))
      rw [w64 (by omega) (by omega)]
      exact ih (i + 1) _ (by rw [List.length_set]; omega) (by rw [List.length_set]; exact hy)
  exact loop x.length 0 x (by omega) h1
theorem draw_np (l0 : List Int) (hl : ∀ x ∈ l0, (Lit.int .u8 x).wf = true) : Tot (fun k => zb7.f k l0) (fun r => r.1.length ≤ 20 ∧ r.2.length ≤ 61) := by
  unfold zb7.f
  refine open_tot l0 hl (fun s hs => ?_)
  refine Tot.bind (implicit_tot s 20 hs) ?_
  rintro ⟨l, q⟩ ⟨h1, h2, h3⟩
  simp only at h1 h2 h3 ⊢
  refine Tot.bind (Tot.val (sset_ev l (by omega))) ?_
  rintro _ rfl
  by_cases hs2 : SetOk l
  · refine Tot.yes (decide_eq_true hs2) (Tot.bind (jobs_tot s l q 16 hs hs2.1 h2 (by omega)) ?_)
    rintro ⟨js, q2⟩ h4
    exact Tot.ret _ ⟨h1, h4⟩
  · exact Tot.no (by simp [hs2]) (Tot.ret _ ⟨h1, by simp⟩)
theorem sched_tot (a b : List Int) (ha : a.length ≤ 1048576) (hb : b.length ≤ 1048576) : Tot (fun k => zcc.f k a b a b) (fun r => r = true) := by
  unfold zcc.f
  refine Tot.bind (same_tot a ha) ?_
  rintro _ rfl
  refine Tot.yes rfl (Tot.bind (same_tot b hb) ?_)
  rintro _ rfl
  exact Tot.ret _ rfl
end Go.Proofs.Ytkdfjomhichkoaa.DrNp
namespace Go.Proofs.Ytkdfjomhichkoaa.Pure
open Go.RowKit Go.Proofs.Ytkdfjomhichkoaa.P Go.Proofs.Ytkdfjomhichkoaa.Base Go.Proofs.Ytkdfjomhichkoaa.Gen Go.Proofs.YtkdfjomhichkoaaW.PrintWords Go.Proofs.YtkdfjomhichkoaaW.PrintLast
open Go.Proofs.Ytkdfjomhichkoaa.Pb Go.Proofs.Ytkdfjomhichkoaa.Alive Go.Proofs.Ytkdfjomhichkoaa.Set Go.Proofs.Ytkdfjomhichkoaa.Np Go.Proofs.Ytkdfjomhichkoaa.Edf Go.Proofs.Ytkdfjomhichkoaa.Sim Go.Proofs.Ytkdfjomhichkoaa.Jobs Go.Proofs.Ytkdfjomhichkoaa.Leg Go.Proofs.Ytkdfjomhichkoaa.Nps Go.Proofs.Ytkdfjomhichkoaa.Npr Go.Proofs.Ytkdfjomhichkoaa.NpSafe Go.Proofs.Ytkdfjomhichkoaa.DrNp
theorem FnNonPreemptiveSafe : laws_FnNonPreemptiveSafe.Pure := by
  intro l0 _ hl
  apply Tot.rounds
  unfold laws_FnNonPreemptiveSafe.f
  refine Tot.ite (fun _ => Tot.ret _ rfl) (fun _ => ?_)
  refine Tot.bind (draw_np l0 hl.2) ?_
  rintro ⟨l, js⟩ ⟨h1, h2⟩
  simp only at h1 h2 ⊢
  refine Tot.bind0 (impl_rn l js (by omega) (by omega)) ?_
  refine Tot.bind (Tot.val (spec_rn l js (by omega) (by omega))) ?_
  rintro _ rfl
  have hal : ∀ a b : List Int, Tot (fun k => laws_FnNonPreemptiveSafe.j0 k js true a b) (fun r => r = true) := fun a b => Tot.step (fun k => by rw [laws_FnNonPreemptiveSafe.j0]) (Tot.yes rfl (Tot.bind0 alive_f (Tot.ret _ rfl)))
  have hlen := RN_len l js
  refine Tot.bind (sched_tot _ _ (by omega) (by omega)) ?_
  rintro _ rfl
  refine Tot.yes rfl (Tot.ite (fun h120 => ?_) (fun _ => hal _ _))
  refine Tot.bind (Tot.val (impl_np l)) ?_
  rintro _ rfl
  by_cases hn : NP l
  · rw [decide_eq_true hn]
    by_cases h : JL l js
    · have hr : RN l js = sch js (npp js) := if_pos h
      rw [hr]
      have hsl := sch_len js (npp js)
      have hm := np_missed h hn
      have hj := h.2.1
      refine Tot.step (fun k => by rw [laws_FnNonPreemptiveSafe.j0]) (Tot.no (by simp) ?_)
      have e : zdn.f js (sch js (npp js)).1 (sch js (npp js)).2 = some [] := by
        unfold zdn.f
        rw [if_pos ⟨hsl.2, by omega⟩, hm]
      refine Tot.bind0 e (Tot.ret _ ?_)
      rfl
    · exfalso
      have hr : RN l js = ([], []) := if_neg h
      rw [hr] at h120
      simp at h120
  · rw [decide_eq_false hn]
    exact hal _ _
end Go.Proofs.Ytkdfjomhichkoaa.Pure
namespace Go.Proofs.Ytkdfjomhichkoaa.Opn
open Go.ChangeShapes Go.WideShapes Go.Deep Go.RowKit Go.Proofs.YtkdfjomhichkoaaW.PrintWords
section
variable {H : Type} {enc : TypeId × Value → H} {P : Program} {W : World} {base : Nat} {spare : Nat → Bool} {held : Bool}
def Opens {α : Type} (enc : TypeId × Value → H) (P : Program) (W : World) (base : Nat) (spare : Nat → Bool) (held : Bool) (t : TypeId) (d : Kd α) (G : α → Prop) : Prop :=
  ∀ (fuel : Nat) (cs : List Value) (x : DataW H × List MemPlace), DataW.trod enc P W base spare held fuel t cs = some x → ∃ a, d.K W a cs ∧ G a
theorem opens_int {t : TypeId} {k : IntKind} (hu : P.underlying t = some (.int k)) : Opens enc P W base spare held t (Kd.int k) (fun x => (Lit.int k x).wf = true) := by
  intro fuel cs x h
  obtain ⟨n, hc, _, hw⟩ := DataW.trod_int hu h
  exact ⟨n, hc, hw⟩
theorem list_of {α : Type} (m : Nat) (R : Nat → α → Prop) (h : ∀ i, i < m → ∃ a, R i a) : ∃ xs : List α, xs.length = m ∧ ∀ i a, xs[i]? = some a → R i a := by
  induction m with
  | zero => exact ⟨[], rfl, fun i a ha => by simp at ha⟩
  | succ m ih =>
    obtain ⟨xs, hl, hx⟩ := ih (fun i hi => h i (by omega))
    obtain ⟨a, ha⟩ := h m (by omega)
    refine ⟨xs ++ [a], by simp [hl], fun i b hb => ?_⟩
    rcases Nat.lt_or_ge i m with hi | hi
    · rw [List.getElem?_append_left (by omega)] at hb
      exact hx i b hb
    · have hi' : i = m := by
        have := (List.getElem?_eq_some_iff.1 hb).1
        simp at this
        omega
      subst hi'
      have : a = b := by simpa [hl] using hb
      subst this
      exact ha
theorem slice_row {α : Type} {t e : TypeId} {d : Kd α} {G : α → Prop} (hu : P.underlying t = some (.slice e)) (hC : P.cellsOf e = d.sz) (he : Opens enc P W base spare held e d G)
    {fuel : Nat} {A : Option Addr} {n cap : Nat} {x : DataW H × List MemPlace} (h : DataW.trod enc P W base spare held fuel t [.slice A n cap] = some x) :
    ∃ xs : List α, xs.length = n ∧ n ≤ cap ∧ n ≤ maxLen ∧ d.C W A xs.length xs ∧ ∀ y ∈ xs, G y := by
  rcases open_slice hu h with ⟨h0, _⟩ | ⟨a, len, c, m, k, D, Pl, hcs, _, hl, hm, hmm, _, hel⟩
  · simp only [List.cons.injEq, Value.slice.injEq, and_true] at h0
    obtain ⟨rfl, rfl, rfl⟩ := h0
    exact ⟨[], rfl, Nat.le_refl _, by simp [maxLen], Kd.C_nil d W, fun y hy => by simp at hy⟩
  · simp only [List.cons.injEq, Value.slice.injEq, and_true] at hcs
    obtain ⟨rfl, rfl, rfl⟩ := hcs
    have hle : n ≤ m := by rw [hmm]; split <;> omega
    obtain ⟨xs, hxl, hx⟩ := list_of (α := α) n (fun i y => G y ∧ ∃ cs', d.K W y cs' ∧ cs'.length = d.sz ∧ ∀ j, j < d.sz → W.cell? ((a.add (i * d.sz)).add j) = cs'[j]?) (by
      intro i hi
      obtain ⟨cs', hc, ht⟩ := hel i (by omega)
      obtain ⟨y, hK, hG⟩ := he _ _ _ ht
      rw [hC] at hc
      obtain ⟨_, hcl, hcc⟩ := World.cells?_some hc
      exact ⟨y, hG, cs', hK, hcl, hcc⟩)
    refine ⟨xs, hxl, hl, by omega, ⟨rfl, by simp only [maxLen] at hm; omega, fun hp => ⟨a, rfl, fun j p hj => ?_⟩⟩, fun y hy => ?_⟩
    · obtain ⟨_, cs', hK, hcl, hcc⟩ := hx j p hj
      refine ⟨cs', hcl, hK, fun i u hi => ?_⟩
      have hlt : i < d.sz := by
        have := (List.getElem?_eq_some_iff.1 hi).1
        omega
      rw [← Go.Deep.add_add, hcc i hlt, hi]
    · obtain ⟨i, hi, rfl⟩ := List.getElem_of_mem hy
      exact (hx i _ (List.getElem?_eq_getElem hi)).1
theorem sized_row {t e : TypeId} {A : Option Addr} {n cap : Nat} {d : DataW H} {ps : List MemPlace} {ts : List TypeId} {ds : List (DataW H)} {j : Nat}
    (hsz : (DataW.weightsEach P ts ds).all (· ≤ reachBytes) = true) (ht : ts[j]? = some t) (hd : ds[j]? = some d) (hu : P.underlying t = some (.slice e)) {B : Nat} (hB : P.bytesOf e = B)
    (h : DataW.Trod enc P W base spare held t (.slice A n cap) d ps) : n * B ≤ 140737488351232 := by
  obtain ⟨fuel, hf⟩ := h
  have hf' : DataW.trod enc P W base spare held fuel t [.slice A n cap] = some (d, ps) := hf
  rcases open_slice hu hf' with ⟨h0, _⟩ | ⟨a, len, c, m, k, D, Pl, hcs, _, hl, hm, hmm, hx, hel⟩
  · simp only [List.cons.injEq, Value.slice.injEq, and_true] at h0
    obtain ⟨rfl, rfl, rfl⟩ := h0
    simp
  · simp only [List.cons.injEq, Value.slice.injEq, and_true] at hcs
    obtain ⟨rfl, rfl, rfl⟩ := hcs
    obtain ⟨hx, _⟩ := Prod.mk.inj hx
    subst hx
    have z := sized_slice hsz ht hd hu
    rw [hB] at z
    simp only [List.length_map, List.length_range] at z
    exact Nat.le_trans (Nat.mul_le_mul_right _ (by omega)) z
end
end Go.Proofs.Ytkdfjomhichkoaa.Opn
namespace Go.Proofs.Ytkdfjomhichkoaa.Head
open Go
def chars (l : List Nat) : List Char := l.map Char.ofNat
def w1 : List Nat := [104, 97, 114, 110, 101, 115, 115]
def w2 : List Nat := [53, 56, 52, 57, 99, 51, 101, 100, 56, 100, 101, 101, 57, 99, 49, 55, 56, 100, 101, 48, 49, 51, 53, 50, 57, 99, 57, 53, 100, 99, 51, 50, 57, 51, 57, 100, 102, 102, 53, 53, 98, 102, 54, 98, 52, 51, 55, 99, 55, 48, 49, 56, 49, 48, 57, 48, 56, 53, 56, 102, 99, 54, 52, 48]
def w3 : List Nat := [99, 117, 116]
def w4 : List Nat := [97, 116, 32, 108, 111, 111, 112, 46, 101, 120, 97, 109, 112, 108, 101, 47, 100, 101, 97, 100, 108, 105, 110, 101, 115, 99, 104, 101, 100, 117, 108, 101, 114, 47, 108, 97, 119, 115, 46, 70, 110, 82, 117, 110, 78, 111, 110, 80, 114, 101, 101, 109, 112, 116, 105, 118, 101, 32, 108, 111, 111, 112, 46, 101, 120, 97, 109, 112, 108, 101, 47, 100, 101, 97, 100, 108, 105, 110, 101, 115, 99, 104, 101, 100, 117, 108, 101, 114, 47, 108, 97, 119, 115, 46, 70, 110, 85, 110, 105, 116, 67, 111, 115, 116, 115, 32, 108, 111, 111, 112, 46, 101, 120, 97, 109, 112, 108, 101, 47, 100, 101, 97, 100, 108, 105, 110, 101, 115, 99, 104, 101, 100, 117, 108, 101, 114, 47, 108, 97, 119, 115, 46, 70, 110, 69, 120, 97, 99, 116, 82, 117, 110, 78, 111, 110, 80, 114, 101, 101, 109, 112, 116, 105, 118, 101, 32, 108, 111, 111, 112, 46, 101, 120, 97, 109, 112, 108, 101, 47, 100, 101, 97, 100, 108, 105, 110, 101, 115, 99, 104, 101, 100, 117, 108, 101, 114, 47, 108, 97, 119, 115, 46, 70, 110, 78, 111, 110, 80, 114, 101, 101, 109, 112, 116, 105, 118, 101, 83, 97, 102, 101, 32, 108, 111, 111, 112, 46, 101, 120, 97, 109, 112, 108, 101, 47, 100, 101, 97, 100, 108, 105, 110, 101, 115, 99, 104, 101, 100, 117, 108, 101, 114, 47, 108, 97, 119, 115, 46, 70, 110, 82, 117, 110, 83, 117, 112, 112, 108, 121, 32, 108, 111, 111, 112, 46, 101, 120, 97, 109, 112, 108, 101, 47, 100, 101, 97, 100, 108, 105, 110, 101, 115, 99, 104, 101, 100, 117, 108, 101, 114, 47, 108, 97, 119, 115, 46, 70, 110, 69, 120, 97, 99, 116, 82, 117, 110, 83, 117, 112, 112, 108, 121, 32, 108, 111, 111, 112, 46, 101, 120, 97, 109, 112, 108, 101, 47, 100, 101, 97, 100, 108, 105, 110, 101, 115, 99, 104, 101, 100, 117, 108, 101, 114, 47, 108, 97, 119, 115, 46, 70, 110, 83, 117, 112, 112, 108, 121, 83, 97, 102, 101, 32, 108, 111, 111, 112, 46, 101, 120, 97, 109, 112, 108, 101, 47, 100, 101, 97, 100, 108, 105, 110, 101, 115, 99, 104, 101, 100, 117, 108, 101, 114, 47, 108, 97, 119, 115, 46, 70, 110, 69, 120, 97, 99, 116, 83, 116, 101, 97, 108, 83, 108, 97, 99, 107]
theorem io_eq : Try.prog.initOrder = String.ofList (chars (w1 ++ 32 :: (w2 ++ 32 :: (w3 ++ 32 :: w4)))) := by kernel_rfl
theorem io_list : Try.prog.initOrder.toList = chars (w1 ++ 32 :: (w2 ++ 32 :: (w3 ++ 32 :: w4))) := by rw [io_eq, String.toList_ofList]
theorem ws_one (c : Char) (r w : List Char) (ws : List (List Char)) (hc : c ≠ Char.ofNat 32) (h : wordsSigns r = w :: ws) : wordsSigns (c :: r) = (c :: w) :: ws := by
  have e : wordsSigns (c :: r) = match wordsSigns r with
    | w :: ws => (c :: w) :: ws
    | [] => [[c]] := by
    rw [wordsSigns]
    · rfl
    · exact hc
  rw [e, h]
theorem ws_word (w : List Char) (h : ∀ c ∈ w, c ≠ Char.ofNat 32) (r : List Char) : wordsSigns (w ++ Char.ofNat 32 :: r) = w :: wordsSigns r := by
  induction w with
  | nil => rfl
  | cons c w ih => exact ws_one _ _ _ _ (h c (by simp)) (ih (fun x hx => h x (by simp [hx])))
theorem ws_nat (w r : List Nat) (h : w.all (fun n => !(Char.ofNat n == Char.ofNat 32)) = true) : wordsSigns (chars (w ++ 32 :: r)) = chars w :: wordsSigns (chars r) := by
  have e : chars (w ++ 32 :: r) = chars w ++ Char.ofNat 32 :: chars r := by simp [chars]
  rw [e]
  refine ws_word _ (fun c hc => ?_) _
  obtain ⟨n, hn, rfl⟩ := List.mem_map.1 hc
  have := List.all_eq_true.1 h n hn
  simpa using this
theorem io_words : behindMainWord (wordsSigns Try.prog.initOrder.toList) = chars w3 :: wordsSigns (chars w4) := by
  rw [io_list, ws_nat _ _ (by kernel_rfl), ws_nat _ _ (by kernel_rfl), ws_nat _ _ (by kernel_rfl)]
  generalize wordsSigns (chars w4) = R
  kernel_rfl
theorem make_gen (P : Program) (c : List Char) (R : List (List Char)) (h : behindMainWord (wordsSigns P.initOrder.toList) = c :: R) (h1 : (c == "gc".toList || c == "spec".toList) = false) (h2 : (c == "cut".toList) = true) : P.make = some .cut := by
  unfold Program.make
  rw [h]
  simp only [h1, h2, Bool.true_or, if_true, Bool.false_eq_true, if_false]
theorem make : Try.prog.make = some .cut := make_gen _ _ _ io_words (by kernel_rfl) (by kernel_rfl)
theorem enter_gen (P : Program) (c : List Char) (R : List (List Char)) (h : behindMainWord (wordsSigns P.initOrder.toList) = c :: R) (h1 : ∀ R, stripLifts liftWords (c :: R) = ([], c :: R)) (h2 : (some c == some "cut".toList) = true)
    (h3 : P.laysLater = false) (h4 : P.bearsReflect = false) (h5 : P.doorFits [] = true) : P.mayEnter = true := by
  unfold Program.mayEnter
  rw [h]
  simp only [h1, h2, h3, h4, h5, List.head?_cons, Bool.not_false, Bool.or_true, Bool.and_true, List.contains_nil]
theorem enter : Try.prog.mayEnter = true := enter_gen _ _ _ io_words (fun R => by kernel_rfl) (by kernel_rfl) (by kernel_rfl) (by kernel_rfl) (by kernel_rfl)
theorem lifts : Try.prog.liftsFinal = false := by
  unfold Program.liftsFinal Program.headLifts
  simp only [io_words]
  generalize wordsSigns (chars w4) = R
  kernel_rfl
end Go.Proofs.Ytkdfjomhichkoaa.Head
namespace Go.Proofs.Ytkdfjomhichkoaa.fnNonPreemptiveSafe
open Go.ChangeShapes Go.WideShapes Go.ChangeAt Go.RowKit Go.Proofs.YtkdfjomhichkoaaW.PrintWords Go.Proofs.Ytkdfjomhichkoaa.P
open Go.ChangeMaps (open_string shut_string)
theorem own : ownKnob Try.prog.godebug = none := by kernel_rfl
theorem laidOut : laidOutB Try.prog = true := by kernel_rfl
set_option maxRecDepth 100000 in
theorem lifted (os : Os) (started : os.Started) (H : Type) (enc : TypeId × Value → H) :
    ReturnsInHanded {} Try.checked os 6 .any (Rows.fnNonPreemptiveSafeSpec.pre6 enc Try.prog Try.f6 Rows.fnNonPreemptiveSafeRow.domain false) (Rows.fnNonPreemptiveSafeSpec.post enc Try.prog Try.f6 false true false false) := by
  refine returnsInHanded_of_change_sized (C := Try.checked) own started (by kernel_rfl) Try.func6
    (ChangeSpec.witness6 (enc := enc) (C := Try.checked) false ⟨#[], #[.slice none 0 0], []⟩ 8 (by kernel_rfl) (by kernel_rfl) (by kernel_rfl) (by kernel_rfl)) ?_
  intro W base args ds gs before hval0 hW hcnd hsz0 _
  have hsz : (DataW.weightsEach Try.prog (Try.f6.params.toList ++ Rows.fnNonPreemptiveSafeSpec.plain.varTypes Try.prog) (ds ++ gs)).all (· ≤ reachBytes) = true := hsz0
  have hval : ∀ (j : Nat) t v, Try.f6.params[j]? = some t → args[j]? = some v → Value.okWide Try.prog W .any base t v := hval0
  have hW' := hW
  obtain ⟨p, q, hA0, hV, rfl, hfz, hnd⟩ := hW
  have hA : DataW.TrodAll enc Try.prog W 0 (fun _ => true) true Try.f6.params.toList args.toList ds p := hA0
  rw [Try.params6] at hA hval hsz
  obtain ⟨v0, vs0, d0, ds0, p0, q0, hargs, rfl, rfl, h0, r0⟩ := trodAll_cons hA
  obtain ⟨rfl, rfl, rfl⟩ := trodAll_nil r0
  obtain rfl : args = #[v0] := by cases args; simp_all
  obtain ⟨rfl, rfl⟩ := trodVars_none hV
  have k0 := h0
  have lt0 : ∀ x ∈ p0, x.block < W.heap.size := by obtain ⟨m, hm⟩ := k0; exact DataW.trod_lt m _ _ _ hm
  obtain ⟨A0, n0, c0, rfl⟩ := okWide_slice Try.underlying22 (hval 0 22 v0 rfl rfl)
  have y0 : n0 * 1 ≤ 140737488351232 := Opn.sized_row hsz (j := 0) (t := 22) rfl rfl Try.underlying22 (by kernel_rfl) h0
  obtain ⟨l0, rfl, hc0, hm0, hr0, hg0⟩ : ∃ xs : List (Int), xs.length = n0 ∧ n0 ≤ c0 ∧ n0 ≤ maxLen ∧ Kd.C (Kd.int .u8) W A0 xs.length xs ∧ ∀ y0 ∈ xs, (Lit.int .u8 y0).wf = true := by
    obtain ⟨fuel, hf⟩ := h0
    exact Opn.slice_row Try.underlying22 (by kernel_rfl) (Opn.opens_int Try.underlying5) hf
  obtain ⟨k, hk⟩ := Pure.FnNonPreemptiveSafe l0 y0 ⟨hm0, hg0⟩
  clear hA0 hval0 hsz0 hsz
  refine (laws_FnNonPreemptiveSafe.calls k A0 c0 l0 true W hr0 hc0 hk rfl).mono fun e W' ⟨he, hd⟩ => ?_
  have bel := hd
  subst he
  exact ⟨_, rfl, _, _, _, [], _, [], hW', trodAll_mk1 (shut_bool Try.underlying4 _), (trodAll_cons_mk (Below.trod laidOut (by kernel_rfl) (of_decide_eq_true (by kernel_rfl)) k0 bel lt0) trodAll_mk0), rfl, bel.frame _, fun h => by cases h⟩
theorem closed : joinedFacts Try.prog 6 Try.f6 Rows.fnNonPreemptiveSafeSpec Rows.fnNonPreemptiveSafeRow = true := by
  simp only [joinedFacts, Head.enter, Head.lifts, Head.make]
  kernel_rfl
theorem named : Try.prog.funcNamed Rows.fnNonPreemptiveSafeRow.func = some 6 := by kernel_rfl
theorem wrapped : Try.f6.isWrapper Try.prog Rows.fnNonPreemptiveSafeRow.wrapper Rows.fnNonPreemptiveSafeRow.mainSum := by unfold Func.isWrapper; first | (rw [if_pos (by decide +kernel)]; kernel_rfl) | (rw [if_neg (by decide +kernel)]; exact ⟨rfl, rfl⟩)
theorem over : Rows.fnNonPreemptiveSafeRow.holds Try.pinned (OpenSpec.ofChange Rows.fnNonPreemptiveSafeSpec) :=
  OpenClaim.holds_of_wide 6 Try.f6 rfl rfl rfl rfl rfl rfl rfl ⟨rfl, rfl, rfl, rfl, rfl⟩ rfl rfl rfl rfl rfl named Try.func6 closed
    (of_decide_eq_true (by kernel_rfl)) wrapped
    (fun os started H enc _ => lifted os started H enc)
theorem proved : Rows.FnNonPreemptiveSafeSaid := over
#print axioms proved
end Go.Proofs.Ytkdfjomhichkoaa.fnNonPreemptiveSafe
namespace Go.Proofs.Ytkdfjomhichkoaa
theorem fnNonPreemptiveSafe_holds : Rows.FnNonPreemptiveSafeSaid := fnNonPreemptiveSafe.proved
end Go.Proofs.Ytkdfjomhichkoaa
