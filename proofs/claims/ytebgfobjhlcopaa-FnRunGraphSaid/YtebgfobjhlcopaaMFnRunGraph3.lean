/- The law FnRunGraph for every input, part 3 of its proof: what the program's functions answer, and the plain law. No condition. -/
import Derived.Test.YtebgfobjhlcopaaMFnRunGraph1
import Derived.Test.YtebgfobjhlcopaaMFnRunGraph2
set_option maxRecDepth 100000
namespace Go.Proofs.Ytebgfobjhlcopaa.P
open Go.RowKit Go.Proofs.YtebgfobjhlcopaaW.PrintWords Go.Proofs.YtebgfobjhlcopaaW.PrintLast Go.Proofs.YtebgfobjhlcopaaW.PrintMore
attribute [local go_sem] zfw zfx zhc zhd zfe zff zfy zfz
set_option linter.unusedVariables false
set_option linter.unusedSimpArgs false
mutual
def zk.j0 : Nat → List Int → List (List Int) → Bool → Option (Bool)
 | 0, _, _, _ => none
 | k + 1, x0, x1, x14 => if x14 = true then (some false) else (zk.l0 k x0 x1 0)
def zk.l0 : Nat → List Int → List (List Int) → Int → Option (Bool)
 | 0, _, _, _ => none
 | k + 1, x0, x1, x5 => if x5 < (x0.length : Int) then (if 0 ≤ x5 then ((zcb.f (rd x0 x5) 1 8).bind fun t211 => (if t211 = true then (zk.l0 k x0 x1 (wrap64 (x5 + 1))) else (some false))) else (none)) else (zk.l1 k x0 x1 0)
def zk.l1 : Nat → List Int → List (List Int) → Int → Option (Bool)
 | 0, _, _, _ => none
 | k + 1, x0, x1, x6 => if x6 < (x1.length : Int) then (if 0 ≤ x6 then (if ((zh x1 x6).length : Int) = 2 then (if 1 < ((zh x1 x6).length : Int) then ((zcb.f (rd (zh x1 x6) 1) 0 (wrap64 ((x0.length : Int) - 1))).bind fun t215 => (if t215 = true then (if 0 < ((zh x1 x6).length : Int) then ((zcb.f (rd (zh x1 x6) 0) 0 (wrap64 ((rd (zh x1 x6) 1) - 1))).bind fun t220 => (if t220 = true then (zk.l1 k x0 x1 (wrap64 (x6 + 1))) else (some false))) else (none)) else (some false))) else (none)) else (some false)) else (none)) else (some true)
end
def zk.f (k : Nat) (l0 : List Int) (l1 : List (List Int)) : Option (Bool) := if (l0.length : Int) > 8 then (zk.j0 k l0 l1 true) else (zk.j0 k l0 l1 (decide ((l1.length : Int) > 64)))
def zk.T11 : Bool × List (List Nat × List Nat) := (true, [([], []), ([], []), ([0, 1], [0, 1]), ([2], [2]), ([3], [3]), ([4], [4]), ([5], [5]), ([6], [6]), ([6], [6]), ([7, 8, 6], [6, 7, 8]), ([9, 6], [6, 9]), ([10, 6], [6, 10]), ([11, 6], [6, 11]), ([6], [6]), ([13, 6], [6, 13]), ([14, 6], [6, 14]), ([12, 15, 6, 6], [6, 12, 15]), ([16, 6], [6, 16]), ([6, 17], [6, 17]), ([18, 16], [18]), ([19], [19]), ([19], [19]), ([20, 21, 19], [19, 20, 21]), ([22, 19], [19, 22]), ([23, 19], [19, 23]), ([24, 19], [19, 24]), ([19], [19]), ([19], [19]), ([26, 27, 19], [19, 26, 27]), ([28, 19], [19, 28]), ([29, 19], [19, 29]), ([30, 19], [19, 30]), ([31, 19], [19, 31]), ([25, 32, 19, 19], [19, 25, 32]), ([33, 19], [19, 33]), ([19, 34], [19, 34])])
def zk.B11 : List Nat := [0, 0, 3, 7, 15, 31, 63, 127, 127, 511, 1023, 2047, 4095, 127, 8319, 24703, 65535, 131071, 262143, 524287, 1048575, 1048575, 4194303, 8388607, 16777215, 33554431, 1048575, 1048575, 202375167, 470810623, 1007681535, 2081423359, 4228907007, 8589934591, 17179869183, 34359738367]
theorem zk.tab11 : rtab .any (opsOf Try.f13 11) = zk.T11 := by kernel_rfl
theorem zk.bits11 : zdw zk.T11.2 zk.B11 = true := by kernel_rfl
set_option maxHeartbeats 8000000 in
theorem zk.calls (k : Nat) (A0 : Option Addr) (c0 : Nat) (l0 : List Int) (A1 : Option Addr) (c1 : Nat) (l1 : List (List Int)) (r : Bool) (w : World) (hr0 : Kd.C (Kd.int .i64) w A0 l0.length l0) (hc0 : l0.length ≤ c0) (hr1 : Kd.C (Kd.slice 3 (Kd.int .i64)) w A1 l1.length l1) (hc1 : l1.length ≤ c1) (h : zk.f k l0 l1 = some r) :
  Calls Try.prog 13 #[.slice A0 l0.length c0, .slice A1 l1.length c1] w fun e w' => e = .returned (.bool r) ∧ Below w.heap.size w w' := by
 have HR0 := za.mk hr0
 have HC0 := za.mk hc0
 clear hr0 hc0
 have HR1 := za.mk hr1
 have HC1 := za.mk hc1
 clear hr1 hc1
 have HB := za.mk (Below.refl w.heap.size w)
 have H : (if (l0.length : Int) > 8 then (zk.j0 k l0 l1 true) else (zk.j0 k l0 l1 (decide ((l1.length : Int) > 64)))) = some r := h
 clear h
 have HC3 := za.mk H
 clear H
 go_enter Try.func13, Try.ntmps13
 go_upto_region 1 with (fail)
 go_cut [14] (fun v14 wc => ∃ (kq : Nat) (x14_2 : Bool), v14 = .bool x14_2 ∧ za (zk.j0 kq l0 l1 x14_2 = some r) ∧ za (kq ≤ k) ∧ za (Below w.heap.size w wc))
 case first =>
  have H := HC3.out;clear HC3;by_cases c4 : (l0.length : Int) > 8
  ·rw [if_pos c4] at H
   have c4b0 : decide (8 < (l0.length : Int)) = true := decide_eq_true c4;have c4b1 : decide (8 < l0.length) = true := decide_eq_true (by omega);clear c4;(first | rw [c4b0] | (simp only [ze, zf]; rw [c4b0]) | skip);have H' := za.mk H;clear H;go_wp2;go_meet
   case rel => exact ⟨_, (true), Zrs, H', ⟨by first | omega | exact Nat.le_refl _⟩, ⟨Zq1 HB⟩⟩
  ·rw [if_neg c4] at H
   have c4b0 : decide (8 < (l0.length : Int)) = false := decide_eq_false c4;have c4b1 : decide (8 < l0.length) = false := decide_eq_false (by omega);clear c4;(first | rw [c4b0] | (simp only [ze, zf]; rw [c4b0]) | skip);have H' := za.mk H;clear H;go_wp2;go_meet
   case rel => exact ⟨_, (decide ((l1.length : Int) > 64)), Zrs, H', ⟨by first | omega | exact Nat.le_refl _⟩, ⟨Zq1 HB⟩⟩
 case rest =>
  clear HC3
  (try clear c1);(try clear p2);(try clear c4);(try clear c4b0);(try clear c4b1)
  obtain ⟨kq, x14_2, rfl, HA, HJ2, HB⟩ := hcut
  cases kq with
  | zero => exact absurd HA.out (by simp [zk.j0])
  | succ kj2 =>
   have H := HA.out;clear HA;simp only [zk.j0] at H;by_cases c5 : x14_2 = true
   ·subst c5
    have H1 : (some false) = some r := by rw [if_pos rfl] at H; exact H
    clear H;have H := H1;clear H1;obtain rfl := Option.some.inj H;go_wp2;go_ret;exact ⟨by first | rfl | (simp [zq, zt] <;> rfl) | (simp [*, zq, zt] <;> rfl), Zq1 HB⟩
   ·replace c5 := Bool.eq_false_iff.mpr c5
    subst c5;have H1 : (zk.l0 kj2 l0 l1 0) = some r := by rw [if_neg (show ¬ (false = true) by decide)] at H; exact H
    clear H;have H := H1;clear H1;have H' := za.mk H;clear H;go_wp2
    go_loopg [5] kj2 (fun kq v5 w' => ∃ (x5_2 : Int), v5 = .int .i64 x5_2 ∧ za (zk.l0 kq l0 l1 x5_2 = some r) ∧ za (kq ≤ kj2) ∧ za (Below w.heap.size w w'))
    case atStart => exact ⟨(0), Zrs, H', ⟨Nat.le_refl _⟩, ⟨Zq1 HB⟩⟩
    case round =>
     clear H'
     (try clear c1);(try clear p2);(try clear c4);(try clear c4b0);(try clear c4b1);(try clear c5);(try clear p2)
     obtain ⟨x5_2, rfl, HA, HK2, HB⟩ := hrel
     cases gk with
     | zero => exact absurd HA.out (by simp [zk.l0])
     | succ k2 =>
      have H := HA.out;clear HA;simp only [zk.l0] at H;by_cases c6 : x5_2 < (l0.length : Int)
      ·rw [if_pos c6] at H
       have c6b0 : decide (x5_2 < (l0.length : Int)) = true := decide_eq_true c6;clear c6;by_cases c7 : 0 ≤ x5_2
       ·rw [if_pos c7] at H
        have c7b0 : decide (0 ≤ x5_2) = true := decide_eq_true c7;clear c7;replace H := Option.bind_eq_some_iff.mp H;obtain ⟨t211, A80, H⟩ := H;replace H : (if t211 = true then (zk.l0 k2 l0 l1 (wrap64 (x5_2 + 1))) else (some false)) = some r := H;have A8 := za.mk A80;clear A80;by_cases c9 : t211 = true
        ·subst c9
         have H1 : (zk.l0 k2 l0 l1 (wrap64 (x5_2 + 1))) = some r := by rw [if_pos rfl] at H; exact H
         clear H;have H := H1;clear H1;have H' := za.mk H;clear H;have p210 : 0 ≤ (x5_2 : Int) := of_decide_eq_true Zas;have q210 : x5_2 < (l0.length : Int) := of_decide_eq_true Zas;obtain ⟨ad210, e210, hx210_0⟩ := Kd.zbq HR0.out x5_2 p210 q210
         cases e210
         replace hx210_0 := (HB.out.cell (World.block_lt_of_cell? w _ hx210_0)).trans hx210_0;replace p210 := eq_true p210;replace q210 := eq_true q210;go_wp2_with (first | ((with_reducible refine zbd (f := 39) rfl ?_); refine zb7 (some 25) rfl rfl Try.func39 (by kernel_rfl) rfl #[.int .i64 (rd l0 x5_2), .int .i64 1, .int .i64 8] rfl Zmt ?_; (with_reducible refine (zcb.calls (rd l0 x5_2) 1 8 true _ A8.out).mono ?_); rintro e w' ⟨rfl, ⟨nd, rfl⟩⟩; refine ⟨_, rfl, ?_⟩));go_roundg k2
         case measure => have := HJ2.out; have := HK2.out; omega
         case rel => exact ⟨(wrap64 (x5_2 + 1)), Zrs, H', ⟨by have := HJ2.out; have := HK2.out; omega⟩, ⟨Zq1 HB⟩⟩
        ·replace c9 := Bool.eq_false_iff.mpr c9
         subst c9;have H1 : (some false) = some r := by rw [if_neg (show ¬ (false = true) by decide)] at H; exact H
         clear H;have H := H1;clear H1;obtain rfl := Option.some.inj H;have p210 : 0 ≤ (x5_2 : Int) := of_decide_eq_true Zas;have q210 : x5_2 < (l0.length : Int) := of_decide_eq_true Zas;obtain ⟨ad210, e210, hx210_0⟩ := Kd.zbq HR0.out x5_2 p210 q210
         cases e210
         replace hx210_0 := (HB.out.cell (World.block_lt_of_cell? w _ hx210_0)).trans hx210_0;replace p210 := eq_true p210;replace q210 := eq_true q210;go_wp2_with (first | ((with_reducible refine zbd (f := 39) rfl ?_); refine zb7 (some 25) rfl rfl Try.func39 (by kernel_rfl) rfl #[.int .i64 (rd l0 x5_2), .int .i64 1, .int .i64 8] rfl Zmt ?_; (with_reducible refine (zcb.calls (rd l0 x5_2) 1 8 false _ A8.out).mono ?_); rintro e w' ⟨rfl, ⟨nd, rfl⟩⟩; refine ⟨_, rfl, ?_⟩));go_ret;exact ⟨by first | rfl | (simp [zq, zt] <;> rfl) | (simp [*, zq, zt] <;> rfl), Zq1 HB⟩
       ·rw [if_neg c7] at H
        exact absurd H (by simp)
      ·rw [if_neg c6] at H
       have c6b0 : decide (x5_2 < (l0.length : Int)) = false := decide_eq_false c6;clear c6;have H' := za.mk H;clear H;go_wp2
       go_loopg [6] k2 (fun kq v6 w' => ∃ (x6_3 : Int), v6 = .int .i64 x6_3 ∧ za (zk.l1 kq l0 l1 x6_3 = some r) ∧ za (kq ≤ k2) ∧ za (Below w.heap.size w w'))
       case atStart => exact ⟨(0), Zrs, H', ⟨Nat.le_refl _⟩, ⟨Zq1 HB⟩⟩
       case round =>
        clear H'
        (try clear c1);(try clear p2);(try clear q2);(try clear hx2);(try clear c3);(try clear c4);(try clear c4b0);(try clear c4b1);(try clear c5);(try clear c6);(try clear c6b0);(try clear p6);(try clear c7);(try clear c7b0);(try clear c9);(try clear hx210_0);(try clear p2);(try clear p210);(try clear q210)
        obtain ⟨x6_3, rfl, HA, HK3, HB⟩ := hrel
        cases gk with
        | zero => exact absurd HA.out (by simp [zk.l1])
        | succ k3 =>
         have H := HA.out;clear HA;simp only [zk.l1] at H;by_cases c10 : x6_3 < (l1.length : Int)
         ·rw [if_pos c10] at H
          have c10b0 : decide (x6_3 < (l1.length : Int)) = true := decide_eq_true c10;clear c10;by_cases c11 : 0 ≤ x6_3
          ·rw [if_pos c11] at H
           have c11b0 : decide (0 ≤ x6_3) = true := decide_eq_true c11;clear c11;by_cases c12 : ((zh l1 x6_3).length : Int) = 2
           ·rw [if_pos c12] at H
            have c12b0 : (((zh l1 x6_3).length : Int) == 2) = true := beq_iff_eq.mpr c12;have c12b1 : (((zh l1 x6_3).length : Int) != 2) = false := bne_eq_false_iff_eq.mpr c12;clear c12;by_cases c13 : 1 < ((zh l1 x6_3).length : Int)
            ·rw [if_pos c13] at H
             have c13b0 : decide (1 < ((zh l1 x6_3).length : Int)) = true := decide_eq_true c13;have c13b1 : decide (1 < (zh l1 x6_3).length) = true := decide_eq_true (by omega);clear c13;replace H := Option.bind_eq_some_iff.mp H;obtain ⟨t215, A140, H⟩ := H;replace H : (if t215 = true then (if 0 < ((zh l1 x6_3).length : Int) then ((zcb.f (rd (zh l1 x6_3) 0) 0 (wrap64 ((rd (zh l1 x6_3) 1) - 1))).bind fun t220 => (if t220 = true then (zk.l1 k3 l0 l1 (wrap64 (x6_3 + 1))) else (some false))) else (none)) else (some false)) = some r := H;have A14 := za.mk A140;clear A140;by_cases c15 : t215 = true
             ·subst c15
              have H1 : (if 0 < ((zh l1 x6_3).length : Int) then ((zcb.f (rd (zh l1 x6_3) 0) 0 (wrap64 ((rd (zh l1 x6_3) 1) - 1))).bind fun t220 => (if t220 = true then (zk.l1 k3 l0 l1 (wrap64 (x6_3 + 1))) else (some false))) else (none)) = some r := by rw [if_pos rfl] at H; exact H
              clear H;have H := H1;clear H1;by_cases c16 : 0 < ((zh l1 x6_3).length : Int)
              ·rw [if_pos c16] at H
               have c16b0 : decide (0 < ((zh l1 x6_3).length : Int)) = true := decide_eq_true c16;have c16b1 : decide (0 < (zh l1 x6_3).length) = true := decide_eq_true (by omega);clear c16;replace H := Option.bind_eq_some_iff.mp H;obtain ⟨t220, A170, H⟩ := H;replace H : (if t220 = true then (zk.l1 k3 l0 l1 (wrap64 (x6_3 + 1))) else (some false)) = some r := H;have A17 := za.mk A170;clear A170;by_cases c18 : t220 = true
               ·subst c18
                have H1 : (zk.l1 k3 l0 l1 (wrap64 (x6_3 + 1))) = some r := by rw [if_pos rfl] at H; exact H
                clear H;have H := H1;clear H1;have H' := za.mk H;clear H
                try go_wp2
                have n0_ := za.mk (zbr HB.out);clear HB;have HB := n0_;clear n0_;have p212 : 0 ≤ (x6_3 : Int) := of_decide_eq_true Zas;have q212 : x6_3 < (l1.length : Int) := of_decide_eq_true Zas;obtain ⟨ad212, A212_0, c212_0, e212, hx212_0, hl212_0, hi212_0⟩ := zc6 HR1.out x6_3 p212 q212;have hw212_0 := hx212_0
                cases e212
                replace hx212_0 := (HB.out.cell (World.block_lt_of_cell? w _ hx212_0)).trans hx212_0;have HR212_0 := za.mk hi212_0;have HC212_0 := za.mk hl212_0;clear hi212_0 hl212_0;replace p212 := eq_true p212;replace q212 := eq_true q212;have p213 : 0 ≤ (x6_3 : Int) := of_decide_eq_true Zas;have q213 : x6_3 < (l1.length : Int) := of_decide_eq_true Zas;obtain ⟨ad213, A213_0, c213_0, e213, hx213_0, hl213_0, hi213_0⟩ := zc6 HR1.out x6_3 p213 q213;have hw213_0 := hx213_0;obtain rfl : ad212 = ad213 := (by injection e213);replace hx213_0 := (HB.out.cell (World.block_lt_of_cell? w _ hx213_0)).trans hx213_0;have HR213_0 := za.mk hi213_0;have HC213_0 := za.mk hl213_0;clear hi213_0 hl213_0;replace p213 := eq_true p213;replace q213 := eq_true q213;have ea_ := Option.some.inj (hx212_0.symm.trans hx213_0);injection ea_ with ea_ en_ ec_;subst ea_;subst ec_;clear en_;have p214 : 0 ≤ (1 : Int) := (by omega);have q214 : 1 < ((zh l1 x6_3).length : Int) := of_decide_eq_true Zas;obtain ⟨ad214, e214, hx214_0⟩ := Kd.zbq HR213_0.out 1 p214 q214;have hw214_0 := hx214_0;(try rw [show ((1 : Int)).toNat = 1 from rfl] at hw214_0);(try rw [show 1 * 1 = 1 from rfl] at hw214_0);(try simp only [Nat.reduceMul, Nat.reduceEqDiff, Go.Addr.add, ↓reduceIte] at hw214_0)
                cases e214
                (try simp only [show (1 : Int).toNat = 1 from rfl, Nat.reduceMul, Nat.reduceEqDiff, Go.Addr.add, ↓reduceIte] at hx214_0);have qi214 : (1 < (zh l1 x6_3).length) = True := eq_true (by omega);(try rw [show ((1 : Int)).toNat = 1 from rfl] at hx214_0);replace hx214_0 := (HB.out.cell (World.block_lt_of_cell? w _ hx214_0)).trans hx214_0;replace p214 := eq_true p214;replace q214 := eq_true q214;have p216 : 0 ≤ (x6_3 : Int) := of_decide_eq_true Zas;have q216 : x6_3 < (l1.length : Int) := of_decide_eq_true Zas;obtain ⟨ad216, A216_0, c216_0, e216, hx216_0, hl216_0, hi216_0⟩ := zc6 HR1.out x6_3 p216 q216;have hw216_0 := hx216_0;obtain rfl : ad212 = ad216 := (by injection e216);replace hx216_0 := (HB.out.cell (World.block_lt_of_cell? w _ hx216_0)).trans hx216_0;have HR216_0 := za.mk hi216_0;have HC216_0 := za.mk hl216_0;clear hi216_0 hl216_0;replace p216 := eq_true p216;replace q216 := eq_true q216;have ea_ := Option.some.inj (hx212_0.symm.trans hx216_0);injection ea_ with ea_ en_ ec_;subst ea_;subst ec_;clear en_;have p217 : 0 ≤ (0 : Int) := (by omega);have q217 : 0 < ((zh l1 x6_3).length : Int) := of_decide_eq_true Zas;obtain ⟨ad217, e217, hx217_0⟩ := Kd.zbq HR216_0.out 0 p217 q217;have hw217_0 := hx217_0;(try rw [show ((0 : Int)).toNat = 0 from rfl] at hw217_0);(try rw [show 0 * 1 = 0 from rfl] at hw217_0);(try rw [Addr.add_zero'] at hw217_0)
                cases e217
                have qi217 : (0 < (zh l1 x6_3).length) = True := eq_true (by omega);(try rw [show ((0 : Int)).toNat = 0 from rfl] at hx217_0);(try rw [Addr.add_zero'] at hx217_0);replace hx217_0 := (HB.out.cell (World.block_lt_of_cell? w _ hx217_0)).trans hx217_0;replace p217 := eq_true p217;replace q217 := eq_true q217;have p218 : 0 ≤ (x6_3 : Int) := of_decide_eq_true Zas;have q218 : x6_3 < (l1.length : Int) := of_decide_eq_true Zas;obtain ⟨ad218, A218_0, c218_0, e218, hx218_0, hl218_0, hi218_0⟩ := zc6 HR1.out x6_3 p218 q218;have hw218_0 := hx218_0;obtain rfl : ad212 = ad218 := (by injection e218);replace hx218_0 := (HB.out.cell (World.block_lt_of_cell? w _ hx218_0)).trans hx218_0;have HR218_0 := za.mk hi218_0;have HC218_0 := za.mk hl218_0;clear hi218_0 hl218_0;replace p218 := eq_true p218;replace q218 := eq_true q218;have ea_ := Option.some.inj (hx212_0.symm.trans hx218_0);injection ea_ with ea_ en_ ec_;subst ea_;subst ec_;clear en_;have p219 : 0 ≤ (1 : Int) := (by omega);have q219 : 1 < ((zh l1 x6_3).length : Int) := of_decide_eq_true Zas;obtain ⟨ad219, e219, hx219_0⟩ := Kd.zbq HR218_0.out 1 p219 q219;have hw219_0 := hx219_0;(try rw [show ((1 : Int)).toNat = 1 from rfl] at hw219_0);(try rw [show 1 * 1 = 1 from rfl] at hw219_0);(try simp only [Nat.reduceMul, Nat.reduceEqDiff, Go.Addr.add, ↓reduceIte] at hw219_0)
                cases e219
                (try simp only [show (1 : Int).toNat = 1 from rfl, Nat.reduceMul, Nat.reduceEqDiff, Go.Addr.add, ↓reduceIte] at hx219_0);have qi219 : (1 < (zh l1 x6_3).length) = True := eq_true (by omega);(try rw [show ((1 : Int)).toNat = 1 from rfl] at hx219_0);replace hx219_0 := (HB.out.cell (World.block_lt_of_cell? w _ hx219_0)).trans hx219_0;replace p219 := eq_true p219;replace q219 := eq_true q219;refine zdl (n := 36) (S := fun w' => w'.cell? (ad212.add (x6_3).toNat) = some (.slice (some ad214) (zh l1 x6_3).length c212_0) ∧ w'.cell? (ad212.add (x6_3).toNat) = some (.slice (some ad214) (zh l1 x6_3).length c212_0) ∧ w'.cell? ⟨ad214.block, ad214.off + 1, none⟩ = some (.int .i64 (rd (zh l1 x6_3) 1)) ∧ w'.cell? (ad212.add (x6_3).toNat) = some (.slice (some ad214) (zh l1 x6_3).length c212_0) ∧ w'.cell? ad214 = some (.int .i64 (rd (zh l1 x6_3) 0)) ∧ w'.cell? (ad212.add (x6_3).toNat) = some (.slice (some ad214) (zh l1 x6_3).length c212_0) ∧ w'.cell? ⟨ad214.block, ad214.off + 1, none⟩ = some (.int .i64 (rd (zh l1 x6_3) 1))) (ds := []) #[false, false, false, false, false, false, false, false, false, false, false, false, false, false, false, false, false, false, false, false, false, false, false, false, false, false, false, false, false, false, false, false, false, false, false, false] (by kernel_rfl) rfl rfl ⟨((HB.out.cell (World.block_lt_of_cell? w _ hw212_0)).trans hw212_0), ((HB.out.cell (World.block_lt_of_cell? w _ hw213_0)).trans hw213_0), ((HB.out.cell (World.block_lt_of_cell? w _ hw214_0)).trans hw214_0), ((HB.out.cell (World.block_lt_of_cell? w _ hw216_0)).trans hw216_0), ((HB.out.cell (World.block_lt_of_cell? w _ hw217_0)).trans hw217_0), ((HB.out.cell (World.block_lt_of_cell? w _ hw218_0)).trans hw218_0), ((HB.out.cell (World.block_lt_of_cell? w _ hw219_0)).trans hw219_0)⟩ (fun hHeld => ?_); refine zb9 zk.tab11 zk.bits11 (fun HT_ HW_ => ?_);generalize wr.drew = w19 at HB HR212_0 HR213_0 HR216_0 HR218_0 hx212_0 hx213_0 hx214_0 hx216_0 hx217_0 hx218_0 hx219_0 hHeld ⊢;refine zi (i := 0) (N := some 33) (v := ?_) (a' := ?_) #[true, false, false, false, false, false, false, false, false, false, false, false, false, false, false, false, false, false, false, false, false, false, false, false, false, false, false, false, false, false, false, false, false, false, false, false] rfl rfl (zb HT_.out (by kernel_rfl)) (fun _ _ _ h => h) (Or.inl ⟨by rfl, ?_⟩) ?_ ?_;rotate_left
                ·intro w'
                 go_simp;with_reducible rfl
                rotate_left
                ·simp only [Act.put, Zs1, Zs2, Zs3, ze, zf]
                 rfl
                refine zi (i := 1) (N := some 34) (v := ?_) (a' := ?_) #[true, true, false, false, false, false, false, false, false, false, false, false, false, false, false, false, false, false, false, false, false, false, false, false, false, false, false, false, false, false, false, false, false, false, false, false] rfl rfl (zb HT_.out (by kernel_rfl)) (fun _ _ _ h => h) (Or.inl ⟨by rfl, ?_⟩) ?_ ?_;rotate_left
                ·intro w'
                 go_simp;with_reducible rfl
                rotate_left
                ·simp only [Act.put, Zs1, Zs2, Zs3, ze, zf]
                 rfl
                refine zi (i := 2) (N := some 35) (v := ?_) (a' := ?_) #[true, true, true, false, false, false, false, false, false, false, false, false, false, false, false, false, false, false, false, false, false, false, false, false, false, false, false, false, false, false, false, false, false, false, false, false] rfl rfl (zb HT_.out (by kernel_rfl)) (fun _ _ _ h => h) (Or.inl ⟨by rfl, ?_⟩) ?_ ?_;rotate_left
                ·intro w'
                 go_simp;with_reducible rfl
                rotate_left
                ·simp only [Act.put, Zs1, Zs2, Zs3, ze, zf]
                 rfl
                refine zb3 (i := 3) (N := some 36) (v := ?_) (a' := ?_) #[true, true, true, true, false, false, false, false, false, false, false, false, false, false, false, false, false, false, false, false, false, false, false, false, false, false, false, false, false, false, false, false, false, false, false, false] rfl rfl (zbf HT_.out HW_.out (by kernel_rfl)) (fun _ _ _ h => h) (Or.inl ⟨by rfl, ?_⟩) hHeld ?_ ?_;rotate_left
                ·rintro w' ⟨s0, s1, s2, s3, s4, s5, s6⟩
                 go_simp;with_reducible rfl
                rotate_left
                ·simp only [Act.put, Zs1, Zs2, Zs3, ze, zf]
                 rfl
                refine zi (i := 4) (N := some 37) (v := ?_) (a' := ?_) #[true, true, true, true, true, false, false, false, false, false, false, false, false, false, false, false, false, false, false, false, false, false, false, false, false, false, false, false, false, false, false, false, false, false, false, false] rfl rfl (zb HT_.out (by kernel_rfl)) (fun _ _ _ h => h) (Or.inl ⟨by rfl, ?_⟩) ?_ ?_;rotate_left
                ·intro w'
                 go_simp;with_reducible rfl
                rotate_left
                ·simp only [Act.put, Zs1, Zs2, Zs3, ze, zf]
                 rfl
                refine zi (i := 5) (N := some 38) (v := ?_) (a' := ?_) #[true, true, true, true, true, true, false, false, false, false, false, false, false, false, false, false, false, false, false, false, false, false, false, false, false, false, false, false, false, false, false, false, false, false, false, false] rfl rfl (zb HT_.out (by kernel_rfl)) (fun _ _ _ h => h) (Or.inl ⟨by rfl, ?_⟩) ?_ ?_;rotate_left
                ·intro w'
                 go_simp;with_reducible rfl
                rotate_left
                ·simp only [Act.put, Zs1, Zs2, Zs3, ze, zf]
                 rfl
                refine zi (i := 6) (N := some 39) (v := ?_) (a' := ?_) #[true, true, true, true, true, true, true, false, false, false, false, false, false, false, false, false, false, false, false, false, false, false, false, false, false, false, false, false, false, false, false, false, false, false, false, false] rfl rfl (zb HT_.out (by kernel_rfl)) (fun _ _ _ h => h) (Or.inl ⟨by rfl, ?_⟩) ?_ ?_;rotate_left
                ·intro w'
                 go_simp;with_reducible rfl
                rotate_left
                ·simp only [Act.put, Zs1, Zs2, Zs3, ze, zf]
                 rfl
                refine zi (i := 7) (N := some 40) (v := ?_) (a' := ?_) #[true, true, true, true, true, true, true, true, false, false, false, false, false, false, false, false, false, false, false, false, false, false, false, false, false, false, false, false, false, false, false, false, false, false, false, false] rfl rfl (zb HT_.out (by kernel_rfl)) (fun _ _ _ h => h) (Or.inl ⟨by rfl, ?_⟩) ?_ ?_;rotate_left
                ·intro w'
                 go_simp;with_reducible rfl
                rotate_left
                ·simp only [Act.put, Zs1, Zs2, Zs3, ze, zf]
                 rfl
                refine zi (i := 8) (N := some 41) (v := ?_) (a' := ?_) #[true, true, true, true, true, true, true, true, true, false, false, false, false, false, false, false, false, false, false, false, false, false, false, false, false, false, false, false, false, false, false, false, false, false, false, false] rfl rfl (zb HT_.out (by kernel_rfl)) (fun _ _ _ h => h) (Or.inl ⟨by rfl, ?_⟩) ?_ ?_;rotate_left
                ·intro w'
                 go_simp;with_reducible rfl
                rotate_left
                ·simp only [Act.put, Zs1, Zs2, Zs3, ze, zf]
                 rfl
                refine zi (i := 9) (N := some 42) (v := ?_) (a' := ?_) #[true, true, true, true, true, true, true, true, true, true, false, false, false, false, false, false, false, false, false, false, false, false, false, false, false, false, false, false, false, false, false, false, false, false, false, false] rfl rfl (zb HT_.out (by kernel_rfl)) (fun _ _ _ h => h) (Or.inl ⟨by rfl, ?_⟩) ?_ ?_;rotate_left
                ·intro w'
                 go_simp;with_reducible rfl
                rotate_left
                ·simp only [Act.put, Zs1, Zs2, Zs3, ze, zf]
                 rfl
                refine zi (i := 13) (N := some 46) (v := ?_) (a' := ?_) #[true, true, true, true, true, true, true, true, true, true, false, false, false, true, false, false, false, false, false, false, false, false, false, false, false, false, false, false, false, false, false, false, false, false, false, false] rfl rfl (zb HT_.out (by kernel_rfl)) (fun _ _ _ h => h) (Or.inl ⟨by rfl, ?_⟩) ?_ ?_;rotate_left
                ·intro w'
                 go_simp;with_reducible rfl
                rotate_left
                ·simp only [Act.put, Zs1, Zs2, Zs3, ze, zf]
                 rfl
                refine zi (i := 14) (N := some 47) (v := ?_) (a' := ?_) #[true, true, true, true, true, true, true, true, true, true, false, false, false, true, true, false, false, false, false, false, false, false, false, false, false, false, false, false, false, false, false, false, false, false, false, false] rfl rfl (zb HT_.out (by kernel_rfl)) (fun _ _ _ h => h) (Or.inl ⟨by rfl, ?_⟩) ?_ ?_;rotate_left
                ·intro w'
                 go_simp;with_reducible rfl
                rotate_left
                ·simp only [Act.put, Zs1, Zs2, Zs3, ze, zf]
                 rfl
                refine zi (i := 15) (N := some 48) (v := ?_) (a' := ?_) #[true, true, true, true, true, true, true, true, true, true, false, false, false, true, true, true, false, false, false, false, false, false, false, false, false, false, false, false, false, false, false, false, false, false, false, false] rfl rfl (zb HT_.out (by kernel_rfl)) (fun _ _ _ h => h) (Or.inl ⟨by rfl, ?_⟩) ?_ ?_;rotate_left
                ·intro w'
                 go_simp;with_reducible rfl
                rotate_left
                ·simp only [Act.put, Zs1, Zs2, Zs3, ze, zf]
                 rfl
                refine zb3 (i := 10) (N := some 43) (v := ?_) (a' := ?_) #[true, true, true, true, true, true, true, true, true, true, true, false, false, true, true, true, false, false, false, false, false, false, false, false, false, false, false, false, false, false, false, false, false, false, false, false] rfl rfl (zbf HT_.out HW_.out (by kernel_rfl)) (fun _ _ _ h => h) (Or.inl ⟨by rfl, ?_⟩) hHeld ?_ ?_;rotate_left
                ·rintro w' ⟨s0, s1, s2, s3, s4, s5, s6⟩
                 go_simp;with_reducible rfl
                rotate_left
                ·simp only [Act.put, Zs1, Zs2, Zs3, ze, zf]
                 rfl
                refine zi (i := 11) (N := some 44) (v := ?_) (a' := ?_) #[true, true, true, true, true, true, true, true, true, true, true, true, false, true, true, true, false, false, false, false, false, false, false, false, false, false, false, false, false, false, false, false, false, false, false, false] rfl rfl (zb HT_.out (by kernel_rfl)) (fun _ _ _ h => h) (Or.inl ⟨by rfl, ?_⟩) ?_ ?_;rotate_left
                ·intro w'
                 go_simp;with_reducible rfl
                rotate_left
                ·simp only [Act.put, Zs1, Zs2, Zs3, ze, zf]
                 rfl
                refine zb3 (i := 12) (N := some 45) (v := ?_) (a' := ?_) #[true, true, true, true, true, true, true, true, true, true, true, true, true, true, true, true, false, false, false, false, false, false, false, false, false, false, false, false, false, false, false, false, false, false, false, false] rfl rfl (zbf HT_.out HW_.out (by kernel_rfl)) (fun _ _ _ h => h) (Or.inl ⟨by rfl, ?_⟩) hHeld ?_ ?_;rotate_left
                ·rintro w' ⟨s0, s1, s2, s3, s4, s5, s6⟩
                 go_simp;with_reducible rfl
                rotate_left
                ·simp only [Act.put, Zs1, Zs2, Zs3, ze, zf]
                 rfl
                refine one_ (i := 16) (N := some 49) #[true, true, true, true, true, true, true, true, true, true, true, true, true, true, true, true, true, false, false, false, false, false, false, false, false, false, false, false, false, false, false, false, false, false, false, false] rfl rfl (zdb HT_.out (by kernel_rfl)) (by decide) (fun K hK => ?_);refine ze4 Try.func39 (by kernel_rfl) rfl #[.int .i64 (rd (zh l1 x6_3) 1), .int .i64 0, .int .i64 (wrap64 ((l0.length : Int) - 1))] (by rfl) rfl rfl Zmt ?_;with_reducible refine (zcb.calls (rd (zh l1 x6_3) 1) 0 (wrap64 ((l0.length : Int) - 1)) true _ A14.out).mono ?_
                rintro e w' ⟨rfl, ⟨nd, rfl⟩⟩;refine ⟨_, rfl, ?_⟩;refine hK.out _ _ ⟨((HB.out.cell (World.block_lt_of_cell? w _ hw212_0)).trans hw212_0), ((HB.out.cell (World.block_lt_of_cell? w _ hw213_0)).trans hw213_0), ((HB.out.cell (World.block_lt_of_cell? w _ hw214_0)).trans hw214_0), ((HB.out.cell (World.block_lt_of_cell? w _ hw216_0)).trans hw216_0), ((HB.out.cell (World.block_lt_of_cell? w _ hw217_0)).trans hw217_0), ((HB.out.cell (World.block_lt_of_cell? w _ hw218_0)).trans hw218_0), ((HB.out.cell (World.block_lt_of_cell? w _ hw219_0)).trans hw219_0)⟩ (fun hHeld => ?_);clear hK K;refine zeu (a' := ?_) ?_ ?_;rotate_left
                ·show Act.put _ (some 49) _ = _
                 simp only [Act.put, Zs1, Zs2, Zs3, ze, zf];rfl
                refine zi (i := 17) (N := some 50) (v := ?_) (a' := ?_) #[true, true, true, true, true, true, true, true, true, true, true, true, true, true, true, true, true, true, false, false, false, false, false, false, false, false, false, false, false, false, false, false, false, false, false, false] rfl rfl (zb HT_.out (by kernel_rfl)) (fun _ _ _ h => h) (Or.inl ⟨by rfl, ?_⟩) ?_ ?_;rotate_left
                ·intro w'
                 go_simp;with_reducible rfl
                rotate_left
                ·simp only [Act.put, Zs1, Zs2, Zs3, ze, zf]
                 rfl
                refine zi (i := 18) (N := some 51) (v := ?_) (a' := ?_) #[true, true, true, true, true, true, true, true, true, true, true, true, true, true, true, true, true, true, true, false, false, false, false, false, false, false, false, false, false, false, false, false, false, false, false, false] rfl rfl (zb HT_.out (by kernel_rfl)) (fun _ _ _ h => h) (Or.inl ⟨by rfl, ?_⟩) ?_ ?_;rotate_left
                ·intro w'
                 go_simp;with_reducible rfl
                rotate_left
                ·simp only [Act.put, Zs1, Zs2, Zs3, ze, zf]
                 rfl
                refine zi (i := 19) (N := some 52) (v := ?_) (a' := ?_) #[true, true, true, true, true, true, true, true, true, true, true, true, true, true, true, true, true, true, true, true, false, false, false, false, false, false, false, false, false, false, false, false, false, false, false, false] rfl rfl (zb HT_.out (by kernel_rfl)) (fun _ _ _ h => h) (Or.inl ⟨by rfl, ?_⟩) ?_ ?_;rotate_left
                ·intro w'
                 go_simp;with_reducible rfl
                rotate_left
                ·simp only [Act.put, Zs1, Zs2, Zs3, ze, zf]
                 rfl
                refine zi (i := 20) (N := some 53) (v := ?_) (a' := ?_) #[true, true, true, true, true, true, true, true, true, true, true, true, true, true, true, true, true, true, true, true, true, false, false, false, false, false, false, false, false, false, false, false, false, false, false, false] rfl rfl (zb HT_.out (by kernel_rfl)) (fun _ _ _ h => h) (Or.inl ⟨by rfl, ?_⟩) ?_ ?_;rotate_left
                ·intro w'
                 go_simp;with_reducible rfl
                rotate_left
                ·simp only [Act.put, Zs1, Zs2, Zs3, ze, zf]
                 rfl
                refine zi (i := 21) (N := some 54) (v := ?_) (a' := ?_) #[true, true, true, true, true, true, true, true, true, true, true, true, true, true, true, true, true, true, true, true, true, true, false, false, false, false, false, false, false, false, false, false, false, false, false, false] rfl rfl (zb HT_.out (by kernel_rfl)) (fun _ _ _ h => h) (Or.inl ⟨by rfl, ?_⟩) ?_ ?_;rotate_left
                ·intro w'
                 go_simp;with_reducible rfl
                rotate_left
                ·simp only [Act.put, Zs1, Zs2, Zs3, ze, zf]
                 rfl
                refine zi (i := 22) (N := some 55) (v := ?_) (a' := ?_) #[true, true, true, true, true, true, true, true, true, true, true, true, true, true, true, true, true, true, true, true, true, true, true, false, false, false, false, false, false, false, false, false, false, false, false, false] rfl rfl (zb HT_.out (by kernel_rfl)) (fun _ _ _ h => h) (Or.inl ⟨by rfl, ?_⟩) ?_ ?_;rotate_left
                ·intro w'
                 go_simp;with_reducible rfl
                rotate_left
                ·simp only [Act.put, Zs1, Zs2, Zs3, ze, zf]
                 rfl
                refine zi (i := 26) (N := some 59) (v := ?_) (a' := ?_) #[true, true, true, true, true, true, true, true, true, true, true, true, true, true, true, true, true, true, true, true, true, true, true, false, false, false, true, false, false, false, false, false, false, false, false, false] rfl rfl (zb HT_.out (by kernel_rfl)) (fun _ _ _ h => h) (Or.inl ⟨by rfl, ?_⟩) ?_ ?_;rotate_left
                ·intro w'
                 go_simp;with_reducible rfl
                rotate_left
                ·simp only [Act.put, Zs1, Zs2, Zs3, ze, zf]
                 rfl
                refine zi (i := 27) (N := some 60) (v := ?_) (a' := ?_) #[true, true, true, true, true, true, true, true, true, true, true, true, true, true, true, true, true, true, true, true, true, true, true, false, false, false, true, true, false, false, false, false, false, false, false, false] rfl rfl (zb HT_.out (by kernel_rfl)) (fun _ _ _ h => h) (Or.inl ⟨by rfl, ?_⟩) ?_ ?_;rotate_left
                ·intro w'
                 go_simp;with_reducible rfl
                rotate_left
                ·simp only [Act.put, Zs1, Zs2, Zs3, ze, zf]
                 rfl
                refine zi (i := 28) (N := some 61) (v := ?_) (a' := ?_) #[true, true, true, true, true, true, true, true, true, true, true, true, true, true, true, true, true, true, true, true, true, true, true, false, false, false, true, true, true, false, false, false, false, false, false, false] rfl rfl (zb HT_.out (by kernel_rfl)) (fun _ _ _ h => h) (Or.inl ⟨by rfl, ?_⟩) ?_ ?_;rotate_left
                ·intro w'
                 go_simp;with_reducible rfl
                rotate_left
                ·simp only [Act.put, Zs1, Zs2, Zs3, ze, zf]
                 rfl
                refine zb3 (i := 23) (N := some 56) (v := ?_) (a' := ?_) #[true, true, true, true, true, true, true, true, true, true, true, true, true, true, true, true, true, true, true, true, true, true, true, true, false, false, true, true, true, false, false, false, false, false, false, false] rfl rfl (zbf HT_.out HW_.out (by kernel_rfl)) (fun _ _ _ h => h) (Or.inl ⟨by rfl, ?_⟩) hHeld ?_ ?_;rotate_left
                ·rintro w' ⟨s0, s1, s2, s3, s4, s5, s6⟩
                 go_simp;with_reducible rfl
                rotate_left
                ·simp only [Act.put, Zs1, Zs2, Zs3, ze, zf]
                 rfl
                refine zi (i := 24) (N := some 57) (v := ?_) (a' := ?_) #[true, true, true, true, true, true, true, true, true, true, true, true, true, true, true, true, true, true, true, true, true, true, true, true, true, false, true, true, true, false, false, false, false, false, false, false] rfl rfl (zb HT_.out (by kernel_rfl)) (fun _ _ _ h => h) (Or.inl ⟨by rfl, ?_⟩) ?_ ?_;rotate_left
                ·intro w'
                 go_simp;with_reducible rfl
                rotate_left
                ·simp only [Act.put, Zs1, Zs2, Zs3, ze, zf]
                 rfl
                refine zb3 (i := 25) (N := some 58) (v := ?_) (a' := ?_) #[true, true, true, true, true, true, true, true, true, true, true, true, true, true, true, true, true, true, true, true, true, true, true, true, true, true, true, true, true, false, false, false, false, false, false, false] rfl rfl (zbf HT_.out HW_.out (by kernel_rfl)) (fun _ _ _ h => h) (Or.inl ⟨by rfl, ?_⟩) hHeld ?_ ?_;rotate_left
                ·rintro w' ⟨s0, s1, s2, s3, s4, s5, s6⟩
                 go_simp;with_reducible rfl
                rotate_left
                ·simp only [Act.put, Zs1, Zs2, Zs3, ze, zf]
                 rfl
                refine zb3 (i := 29) (N := some 62) (v := ?_) (a' := ?_) #[true, true, true, true, true, true, true, true, true, true, true, true, true, true, true, true, true, true, true, true, true, true, true, true, true, true, true, true, true, true, false, false, false, false, false, false] rfl rfl (zbf HT_.out HW_.out (by kernel_rfl)) (fun _ _ _ h => h) (Or.inl ⟨by rfl, ?_⟩) hHeld ?_ ?_;rotate_left
                ·rintro w' ⟨s0, s1, s2, s3, s4, s5, s6⟩
                 go_simp;with_reducible rfl
                rotate_left
                ·simp only [Act.put, Zs1, Zs2, Zs3, ze, zf]
                 rfl
                refine zi (i := 30) (N := some 63) (v := ?_) (a' := ?_) #[true, true, true, true, true, true, true, true, true, true, true, true, true, true, true, true, true, true, true, true, true, true, true, true, true, true, true, true, true, true, true, false, false, false, false, false] rfl rfl (zb HT_.out (by kernel_rfl)) (fun _ _ _ h => h) (Or.inl ⟨by rfl, ?_⟩) ?_ ?_;rotate_left
                ·intro w'
                 go_simp;with_reducible rfl
                rotate_left
                ·simp only [Act.put, Zs1, Zs2, Zs3, ze, zf]
                 rfl
                refine zb3 (i := 31) (N := some 64) (v := ?_) (a' := ?_) #[true, true, true, true, true, true, true, true, true, true, true, true, true, true, true, true, true, true, true, true, true, true, true, true, true, true, true, true, true, true, true, true, false, false, false, false] rfl rfl (zbf HT_.out HW_.out (by kernel_rfl)) (fun _ _ _ h => h) (Or.inl ⟨by rfl, ?_⟩) hHeld ?_ ?_;rotate_left
                ·rintro w' ⟨s0, s1, s2, s3, s4, s5, s6⟩
                 go_simp;with_reducible rfl
                rotate_left
                ·simp only [Act.put, Zs1, Zs2, Zs3, ze, zf]
                 rfl
                refine zi (i := 32) (N := some 65) (v := ?_) (a' := ?_) #[true, true, true, true, true, true, true, true, true, true, true, true, true, true, true, true, true, true, true, true, true, true, true, true, true, true, true, true, true, true, true, true, true, false, false, false] rfl rfl (zb HT_.out (by kernel_rfl)) (fun _ _ _ h => h) (Or.inl ⟨by rfl, ?_⟩) ?_ ?_;rotate_left
                ·intro w'
                 go_simp;with_reducible rfl
                rotate_left
                ·simp only [Act.put, Zs1, Zs2, Zs3, ze, zf]
                 rfl
                refine one_ (i := 33) (N := some 66) #[true, true, true, true, true, true, true, true, true, true, true, true, true, true, true, true, true, true, true, true, true, true, true, true, true, true, true, true, true, true, true, true, true, true, false, false] rfl rfl (zdb HT_.out (by kernel_rfl)) (by decide) (fun K hK => ?_);refine ze4 Try.func39 (by kernel_rfl) rfl #[.int .i64 (rd (zh l1 x6_3) 0), .int .i64 0, .int .i64 (wrap64 ((rd (zh l1 x6_3) 1) - 1))] (by rfl) rfl rfl Zmt ?_;with_reducible refine (zcb.calls (rd (zh l1 x6_3) 0) 0 (wrap64 ((rd (zh l1 x6_3) 1) - 1)) true _ A17.out).mono ?_
                rintro e w' ⟨rfl, ⟨nd, rfl⟩⟩;refine ⟨_, rfl, ?_⟩;refine hK.out _ _ ⟨((HB.out.cell (World.block_lt_of_cell? w _ hw212_0)).trans hw212_0), ((HB.out.cell (World.block_lt_of_cell? w _ hw213_0)).trans hw213_0), ((HB.out.cell (World.block_lt_of_cell? w _ hw214_0)).trans hw214_0), ((HB.out.cell (World.block_lt_of_cell? w _ hw216_0)).trans hw216_0), ((HB.out.cell (World.block_lt_of_cell? w _ hw217_0)).trans hw217_0), ((HB.out.cell (World.block_lt_of_cell? w _ hw218_0)).trans hw218_0), ((HB.out.cell (World.block_lt_of_cell? w _ hw219_0)).trans hw219_0)⟩ (fun hHeld => ?_);clear hK K;refine zeu (a' := ?_) ?_ ?_;rotate_left
                ·show Act.put _ (some 66) _ = _
                 simp only [Act.put, Zs1, Zs2, Zs3, ze, zf];rfl
                refine zi (i := 34) (N := some 67) (v := ?_) (a' := ?_) #[true, true, true, true, true, true, true, true, true, true, true, true, true, true, true, true, true, true, true, true, true, true, true, true, true, true, true, true, true, true, true, true, true, true, true, false] rfl rfl (zb HT_.out (by kernel_rfl)) (fun _ _ _ h => h) (Or.inl ⟨by rfl, ?_⟩) ?_ ?_;rotate_left
                ·intro w'
                 go_simp;with_reducible rfl
                rotate_left
                ·simp only [Act.put, Zs1, Zs2, Zs3, ze, zf]
                 rfl
                refine zi (i := 35) (N := some 68) (v := ?_) (a' := ?_) #[true, true, true, true, true, true, true, true, true, true, true, true, true, true, true, true, true, true, true, true, true, true, true, true, true, true, true, true, true, true, true, true, true, true, true, true] rfl rfl (zb HT_.out (by kernel_rfl)) (fun _ _ _ h => h) (Or.inl ⟨by rfl, ?_⟩) ?_ ?_;rotate_left
                ·intro w'
                 go_simp;with_reducible rfl
                rotate_left
                ·simp only [Act.put, Zs1, Zs2, Zs3, ze, zf]
                 rfl
                refine zeg (zct HT_.out (by kernel_rfl)) ?_
                try go_wp2
                go_roundg k3
                case measure => have := HJ2.out; have := HK2.out; have := HK3.out; omega
                case rel => exact ⟨(wrap64 (x6_3 + 1)), Zrs, H', ⟨by have := HJ2.out; have := HK2.out; have := HK3.out; omega⟩, ⟨Zq1 HB⟩⟩
               ·replace c18 := Bool.eq_false_iff.mpr c18
                subst c18;have H1 : (some false) = some r := by rw [if_neg (show ¬ (false = true) by decide)] at H; exact H
                clear H;have H := H1;clear H1;obtain rfl := Option.some.inj H
                try go_wp2
                have n0_ := za.mk (zbr HB.out);clear HB;have HB := n0_;clear n0_;have p212 : 0 ≤ (x6_3 : Int) := of_decide_eq_true Zas;have q212 : x6_3 < (l1.length : Int) := of_decide_eq_true Zas;obtain ⟨ad212, A212_0, c212_0, e212, hx212_0, hl212_0, hi212_0⟩ := zc6 HR1.out x6_3 p212 q212;have hw212_0 := hx212_0
                cases e212
                replace hx212_0 := (HB.out.cell (World.block_lt_of_cell? w _ hx212_0)).trans hx212_0;have HR212_0 := za.mk hi212_0;have HC212_0 := za.mk hl212_0;clear hi212_0 hl212_0;replace p212 := eq_true p212;replace q212 := eq_true q212;have p213 : 0 ≤ (x6_3 : Int) := of_decide_eq_true Zas;have q213 : x6_3 < (l1.length : Int) := of_decide_eq_true Zas;obtain ⟨ad213, A213_0, c213_0, e213, hx213_0, hl213_0, hi213_0⟩ := zc6 HR1.out x6_3 p213 q213;have hw213_0 := hx213_0;obtain rfl : ad212 = ad213 := (by injection e213);replace hx213_0 := (HB.out.cell (World.block_lt_of_cell? w _ hx213_0)).trans hx213_0;have HR213_0 := za.mk hi213_0;have HC213_0 := za.mk hl213_0;clear hi213_0 hl213_0;replace p213 := eq_true p213;replace q213 := eq_true q213;have ea_ := Option.some.inj (hx212_0.symm.trans hx213_0);injection ea_ with ea_ en_ ec_;subst ea_;subst ec_;clear en_;have p214 : 0 ≤ (1 : Int) := (by omega);have q214 : 1 < ((zh l1 x6_3).length : Int) := of_decide_eq_true Zas;obtain ⟨ad214, e214, hx214_0⟩ := Kd.zbq HR213_0.out 1 p214 q214;have hw214_0 := hx214_0;(try rw [show ((1 : Int)).toNat = 1 from rfl] at hw214_0);(try rw [show 1 * 1 = 1 from rfl] at hw214_0);(try simp only [Nat.reduceMul, Nat.reduceEqDiff, Go.Addr.add, ↓reduceIte] at hw214_0)
                cases e214
                (try simp only [show (1 : Int).toNat = 1 from rfl, Nat.reduceMul, Nat.reduceEqDiff, Go.Addr.add, ↓reduceIte] at hx214_0);have qi214 : (1 < (zh l1 x6_3).length) = True := eq_true (by omega);(try rw [show ((1 : Int)).toNat = 1 from rfl] at hx214_0);replace hx214_0 := (HB.out.cell (World.block_lt_of_cell? w _ hx214_0)).trans hx214_0;replace p214 := eq_true p214;replace q214 := eq_true q214;have p216 : 0 ≤ (x6_3 : Int) := of_decide_eq_true Zas;have q216 : x6_3 < (l1.length : Int) := of_decide_eq_true Zas;obtain ⟨ad216, A216_0, c216_0, e216, hx216_0, hl216_0, hi216_0⟩ := zc6 HR1.out x6_3 p216 q216;have hw216_0 := hx216_0;obtain rfl : ad212 = ad216 := (by injection e216);replace hx216_0 := (HB.out.cell (World.block_lt_of_cell? w _ hx216_0)).trans hx216_0;have HR216_0 := za.mk hi216_0;have HC216_0 := za.mk hl216_0;clear hi216_0 hl216_0;replace p216 := eq_true p216;replace q216 := eq_true q216;have ea_ := Option.some.inj (hx212_0.symm.trans hx216_0);injection ea_ with ea_ en_ ec_;subst ea_;subst ec_;clear en_;have p217 : 0 ≤ (0 : Int) := (by omega);have q217 : 0 < ((zh l1 x6_3).length : Int) := of_decide_eq_true Zas;obtain ⟨ad217, e217, hx217_0⟩ := Kd.zbq HR216_0.out 0 p217 q217;have hw217_0 := hx217_0;(try rw [show ((0 : Int)).toNat = 0 from rfl] at hw217_0);(try rw [show 0 * 1 = 0 from rfl] at hw217_0);(try rw [Addr.add_zero'] at hw217_0)
                cases e217
                have qi217 : (0 < (zh l1 x6_3).length) = True := eq_true (by omega);(try rw [show ((0 : Int)).toNat = 0 from rfl] at hx217_0);(try rw [Addr.add_zero'] at hx217_0);replace hx217_0 := (HB.out.cell (World.block_lt_of_cell? w _ hx217_0)).trans hx217_0;replace p217 := eq_true p217;replace q217 := eq_true q217;have p218 : 0 ≤ (x6_3 : Int) := of_decide_eq_true Zas;have q218 : x6_3 < (l1.length : Int) := of_decide_eq_true Zas;obtain ⟨ad218, A218_0, c218_0, e218, hx218_0, hl218_0, hi218_0⟩ := zc6 HR1.out x6_3 p218 q218;have hw218_0 := hx218_0;obtain rfl : ad212 = ad218 := (by injection e218);replace hx218_0 := (HB.out.cell (World.block_lt_of_cell? w _ hx218_0)).trans hx218_0;have HR218_0 := za.mk hi218_0;have HC218_0 := za.mk hl218_0;clear hi218_0 hl218_0;replace p218 := eq_true p218;replace q218 := eq_true q218;have ea_ := Option.some.inj (hx212_0.symm.trans hx218_0);injection ea_ with ea_ en_ ec_;subst ea_;subst ec_;clear en_;have p219 : 0 ≤ (1 : Int) := (by omega);have q219 : 1 < ((zh l1 x6_3).length : Int) := of_decide_eq_true Zas;obtain ⟨ad219, e219, hx219_0⟩ := Kd.zbq HR218_0.out 1 p219 q219;have hw219_0 := hx219_0;(try rw [show ((1 : Int)).toNat = 1 from rfl] at hw219_0);(try rw [show 1 * 1 = 1 from rfl] at hw219_0);(try simp only [Nat.reduceMul, Nat.reduceEqDiff, Go.Addr.add, ↓reduceIte] at hw219_0)
                cases e219
                (try simp only [show (1 : Int).toNat = 1 from rfl, Nat.reduceMul, Nat.reduceEqDiff, Go.Addr.add, ↓reduceIte] at hx219_0);have qi219 : (1 < (zh l1 x6_3).length) = True := eq_true (by omega);(try rw [show ((1 : Int)).toNat = 1 from rfl] at hx219_0);replace hx219_0 := (HB.out.cell (World.block_lt_of_cell? w _ hx219_0)).trans hx219_0;replace p219 := eq_true p219;replace q219 := eq_true q219;refine zdl (n := 36) (S := fun w' => w'.cell? (ad212.add (x6_3).toNat) = some (.slice (some ad214) (zh l1 x6_3).length c212_0) ∧ w'.cell? (ad212.add (x6_3).toNat) = some (.slice (some ad214) (zh l1 x6_3).length c212_0) ∧ w'.cell? ⟨ad214.block, ad214.off + 1, none⟩ = some (.int .i64 (rd (zh l1 x6_3) 1)) ∧ w'.cell? (ad212.add (x6_3).toNat) = some (.slice (some ad214) (zh l1 x6_3).length c212_0) ∧ w'.cell? ad214 = some (.int .i64 (rd (zh l1 x6_3) 0)) ∧ w'.cell? (ad212.add (x6_3).toNat) = some (.slice (some ad214) (zh l1 x6_3).length c212_0) ∧ w'.cell? ⟨ad214.block, ad214.off + 1, none⟩ = some (.int .i64 (rd (zh l1 x6_3) 1))) (ds := []) #[false, false, false, false, false, false, false, false, false, false, false, false, false, false, false, false, false, false, false, false, false, false, false, false, false, false, false, false, false, false, false, false, false, false, false, false] (by kernel_rfl) rfl rfl ⟨((HB.out.cell (World.block_lt_of_cell? w _ hw212_0)).trans hw212_0), ((HB.out.cell (World.block_lt_of_cell? w _ hw213_0)).trans hw213_0), ((HB.out.cell (World.block_lt_of_cell? w _ hw214_0)).trans hw214_0), ((HB.out.cell (World.block_lt_of_cell? w _ hw216_0)).trans hw216_0), ((HB.out.cell (World.block_lt_of_cell? w _ hw217_0)).trans hw217_0), ((HB.out.cell (World.block_lt_of_cell? w _ hw218_0)).trans hw218_0), ((HB.out.cell (World.block_lt_of_cell? w _ hw219_0)).trans hw219_0)⟩ (fun hHeld => ?_); refine zb9 zk.tab11 zk.bits11 (fun HT_ HW_ => ?_);generalize wr.drew = w20 at HB HR212_0 HR213_0 HR216_0 HR218_0 hx212_0 hx213_0 hx214_0 hx216_0 hx217_0 hx218_0 hx219_0 hHeld ⊢;refine zi (i := 0) (N := some 33) (v := ?_) (a' := ?_) #[true, false, false, false, false, false, false, false, false, false, false, false, false, false, false, false, false, false, false, false, false, false, false, false, false, false, false, false, false, false, false, false, false, false, false, false] rfl rfl (zb HT_.out (by kernel_rfl)) (fun _ _ _ h => h) (Or.inl ⟨by rfl, ?_⟩) ?_ ?_;rotate_left
                ·intro w'
                 go_simp;with_reducible rfl
                rotate_left
                ·simp only [Act.put, Zs1, Zs2, Zs3, ze, zf]
                 rfl
                refine zi (i := 1) (N := some 34) (v := ?_) (a' := ?_) #[true, true, false, false, false, false, false, false, false, false, false, false, false, false, false, false, false, false, false, false, false, false, false, false, false, false, false, false, false, false, false, false, false, false, false, false] rfl rfl (zb HT_.out (by kernel_rfl)) (fun _ _ _ h => h) (Or.inl ⟨by rfl, ?_⟩) ?_ ?_;rotate_left
                ·intro w'
                 go_simp;with_reducible rfl
                rotate_left
                ·simp only [Act.put, Zs1, Zs2, Zs3, ze, zf]
                 rfl
                refine zi (i := 2) (N := some 35) (v := ?_) (a' := ?_) #[true, true, true, false, false, false, false, false, false, false, false, false, false, false, false, false, false, false, false, false, false, false, false, false, false, false, false, false, false, false, false, false, false, false, false, false] rfl rfl (zb HT_.out (by kernel_rfl)) (fun _ _ _ h => h) (Or.inl ⟨by rfl, ?_⟩) ?_ ?_;rotate_left
                ·intro w'
                 go_simp;with_reducible rfl
                rotate_left
                ·simp only [Act.put, Zs1, Zs2, Zs3, ze, zf]
                 rfl
                refine zb3 (i := 3) (N := some 36) (v := ?_) (a' := ?_) #[true, true, true, true, false, false, false, false, false, false, false, false, false, false, false, false, false, false, false, false, false, false, false, false, false, false, false, false, false, false, false, false, false, false, false, false] rfl rfl (zbf HT_.out HW_.out (by kernel_rfl)) (fun _ _ _ h => h) (Or.inl ⟨by rfl, ?_⟩) hHeld ?_ ?_;rotate_left
                ·rintro w' ⟨s0, s1, s2, s3, s4, s5, s6⟩
                 go_simp;with_reducible rfl
                rotate_left
                ·simp only [Act.put, Zs1, Zs2, Zs3, ze, zf]
                 rfl
                refine zi (i := 4) (N := some 37) (v := ?_) (a' := ?_) #[true, true, true, true, true, false, false, false, false, false, false, false, false, false, false, false, false, false, false, false, false, false, false, false, false, false, false, false, false, false, false, false, false, false, false, false] rfl rfl (zb HT_.out (by kernel_rfl)) (fun _ _ _ h => h) (Or.inl ⟨by rfl, ?_⟩) ?_ ?_;rotate_left
                ·intro w'
                 go_simp;with_reducible rfl
                rotate_left
                ·simp only [Act.put, Zs1, Zs2, Zs3, ze, zf]
                 rfl
                refine zi (i := 5) (N := some 38) (v := ?_) (a' := ?_) #[true, true, true, true, true, true, false, false, false, false, false, false, false, false, false, false, false, false, false, false, false, false, false, false, false, false, false, false, false, false, false, false, false, false, false, false] rfl rfl (zb HT_.out (by kernel_rfl)) (fun _ _ _ h => h) (Or.inl ⟨by rfl, ?_⟩) ?_ ?_;rotate_left
                ·intro w'
                 go_simp;with_reducible rfl
                rotate_left
                ·simp only [Act.put, Zs1, Zs2, Zs3, ze, zf]
                 rfl
                refine zi (i := 6) (N := some 39) (v := ?_) (a' := ?_) #[true, true, true, true, true, true, true, false, false, false, false, false, false, false, false, false, false, false, false, false, false, false, false, false, false, false, false, false, false, false, false, false, false, false, false, false] rfl rfl (zb HT_.out (by kernel_rfl)) (fun _ _ _ h => h) (Or.inl ⟨by rfl, ?_⟩) ?_ ?_;rotate_left
                ·intro w'
                 go_simp;with_reducible rfl
                rotate_left
                ·simp only [Act.put, Zs1, Zs2, Zs3, ze, zf]
                 rfl
                refine zi (i := 7) (N := some 40) (v := ?_) (a' := ?_) #[true, true, true, true, true, true, true, true, false, false, false, false, false, false, false, false, false, false, false, false, false, false, false, false, false, false, false, false, false, false, false, false, false, false, false, false] rfl rfl (zb HT_.out (by kernel_rfl)) (fun _ _ _ h => h) (Or.inl ⟨by rfl, ?_⟩) ?_ ?_;rotate_left
                ·intro w'
                 go_simp;with_reducible rfl
                rotate_left
                ·simp only [Act.put, Zs1, Zs2, Zs3, ze, zf]
                 rfl
                refine zi (i := 8) (N := some 41) (v := ?_) (a' := ?_) #[true, true, true, true, true, true, true, true, true, false, false, false, false, false, false, false, false, false, false, false, false, false, false, false, false, false, false, false, false, false, false, false, false, false, false, false] rfl rfl (zb HT_.out (by kernel_rfl)) (fun _ _ _ h => h) (Or.inl ⟨by rfl, ?_⟩) ?_ ?_;rotate_left
                ·intro w'
                 go_simp;with_reducible rfl
                rotate_left
                ·simp only [Act.put, Zs1, Zs2, Zs3, ze, zf]
                 rfl
                refine zi (i := 9) (N := some 42) (v := ?_) (a' := ?_) #[true, true, true, true, true, true, true, true, true, true, false, false, false, false, false, false, false, false, false, false, false, false, false, false, false, false, false, false, false, false, false, false, false, false, false, false] rfl rfl (zb HT_.out (by kernel_rfl)) (fun _ _ _ h => h) (Or.inl ⟨by rfl, ?_⟩) ?_ ?_;rotate_left
                ·intro w'
                 go_simp;with_reducible rfl
                rotate_left
                ·simp only [Act.put, Zs1, Zs2, Zs3, ze, zf]
                 rfl
                refine zi (i := 13) (N := some 46) (v := ?_) (a' := ?_) #[true, true, true, true, true, true, true, true, true, true, false, false, false, true, false, false, false, false, false, false, false, false, false, false, false, false, false, false, false, false, false, false, false, false, false, false] rfl rfl (zb HT_.out (by kernel_rfl)) (fun _ _ _ h => h) (Or.inl ⟨by rfl, ?_⟩) ?_ ?_;rotate_left
                ·intro w'
                 go_simp;with_reducible rfl
                rotate_left
                ·simp only [Act.put, Zs1, Zs2, Zs3, ze, zf]
                 rfl
                refine zi (i := 14) (N := some 47) (v := ?_) (a' := ?_) #[true, true, true, true, true, true, true, true, true, true, false, false, false, true, true, false, false, false, false, false, false, false, false, false, false, false, false, false, false, false, false, false, false, false, false, false] rfl rfl (zb HT_.out (by kernel_rfl)) (fun _ _ _ h => h) (Or.inl ⟨by rfl, ?_⟩) ?_ ?_;rotate_left
                ·intro w'
                 go_simp;with_reducible rfl
                rotate_left
                ·simp only [Act.put, Zs1, Zs2, Zs3, ze, zf]
                 rfl
                refine zi (i := 15) (N := some 48) (v := ?_) (a' := ?_) #[true, true, true, true, true, true, true, true, true, true, false, false, false, true, true, true, false, false, false, false, false, false, false, false, false, false, false, false, false, false, false, false, false, false, false, false] rfl rfl (zb HT_.out (by kernel_rfl)) (fun _ _ _ h => h) (Or.inl ⟨by rfl, ?_⟩) ?_ ?_;rotate_left
                ·intro w'
                 go_simp;with_reducible rfl
                rotate_left
                ·simp only [Act.put, Zs1, Zs2, Zs3, ze, zf]
                 rfl
                refine zb3 (i := 10) (N := some 43) (v := ?_) (a' := ?_) #[true, true, true, true, true, true, true, true, true, true, true, false, false, true, true, true, false, false, false, false, false, false, false, false, false, false, false, false, false, false, false, false, false, false, false, false] rfl rfl (zbf HT_.out HW_.out (by kernel_rfl)) (fun _ _ _ h => h) (Or.inl ⟨by rfl, ?_⟩) hHeld ?_ ?_;rotate_left
                ·rintro w' ⟨s0, s1, s2, s3, s4, s5, s6⟩
                 go_simp;with_reducible rfl
                rotate_left
                ·simp only [Act.put, Zs1, Zs2, Zs3, ze, zf]
                 rfl
                refine zi (i := 11) (N := some 44) (v := ?_) (a' := ?_) #[true, true, true, true, true, true, true, true, true, true, true, true, false, true, true, true, false, false, false, false, false, false, false, false, false, false, false, false, false, false, false, false, false, false, false, false] rfl rfl (zb HT_.out (by kernel_rfl)) (fun _ _ _ h => h) (Or.inl ⟨by rfl, ?_⟩) ?_ ?_;rotate_left
                ·intro w'
                 go_simp;with_reducible rfl
                rotate_left
                ·simp only [Act.put, Zs1, Zs2, Zs3, ze, zf]
                 rfl
                refine zb3 (i := 12) (N := some 45) (v := ?_) (a' := ?_) #[true, true, true, true, true, true, true, true, true, true, true, true, true, true, true, true, false, false, false, false, false, false, false, false, false, false, false, false, false, false, false, false, false, false, false, false] rfl rfl (zbf HT_.out HW_.out (by kernel_rfl)) (fun _ _ _ h => h) (Or.inl ⟨by rfl, ?_⟩) hHeld ?_ ?_;rotate_left
                ·rintro w' ⟨s0, s1, s2, s3, s4, s5, s6⟩
                 go_simp;with_reducible rfl
                rotate_left
                ·simp only [Act.put, Zs1, Zs2, Zs3, ze, zf]
                 rfl
                refine one_ (i := 16) (N := some 49) #[true, true, true, true, true, true, true, true, true, true, true, true, true, true, true, true, true, false, false, false, false, false, false, false, false, false, false, false, false, false, false, false, false, false, false, false] rfl rfl (zdb HT_.out (by kernel_rfl)) (by decide) (fun K hK => ?_);refine ze4 Try.func39 (by kernel_rfl) rfl #[.int .i64 (rd (zh l1 x6_3) 1), .int .i64 0, .int .i64 (wrap64 ((l0.length : Int) - 1))] (by rfl) rfl rfl Zmt ?_;with_reducible refine (zcb.calls (rd (zh l1 x6_3) 1) 0 (wrap64 ((l0.length : Int) - 1)) true _ A14.out).mono ?_
                rintro e w' ⟨rfl, ⟨nd, rfl⟩⟩;refine ⟨_, rfl, ?_⟩;refine hK.out _ _ ⟨((HB.out.cell (World.block_lt_of_cell? w _ hw212_0)).trans hw212_0), ((HB.out.cell (World.block_lt_of_cell? w _ hw213_0)).trans hw213_0), ((HB.out.cell (World.block_lt_of_cell? w _ hw214_0)).trans hw214_0), ((HB.out.cell (World.block_lt_of_cell? w _ hw216_0)).trans hw216_0), ((HB.out.cell (World.block_lt_of_cell? w _ hw217_0)).trans hw217_0), ((HB.out.cell (World.block_lt_of_cell? w _ hw218_0)).trans hw218_0), ((HB.out.cell (World.block_lt_of_cell? w _ hw219_0)).trans hw219_0)⟩ (fun hHeld => ?_);clear hK K;refine zeu (a' := ?_) ?_ ?_;rotate_left
                ·show Act.put _ (some 49) _ = _
                 simp only [Act.put, Zs1, Zs2, Zs3, ze, zf];rfl
                refine zi (i := 17) (N := some 50) (v := ?_) (a' := ?_) #[true, true, true, true, true, true, true, true, true, true, true, true, true, true, true, true, true, true, false, false, false, false, false, false, false, false, false, false, false, false, false, false, false, false, false, false] rfl rfl (zb HT_.out (by kernel_rfl)) (fun _ _ _ h => h) (Or.inl ⟨by rfl, ?_⟩) ?_ ?_;rotate_left
                ·intro w'
                 go_simp;with_reducible rfl
                rotate_left
                ·simp only [Act.put, Zs1, Zs2, Zs3, ze, zf]
                 rfl
                refine zi (i := 18) (N := some 51) (v := ?_) (a' := ?_) #[true, true, true, true, true, true, true, true, true, true, true, true, true, true, true, true, true, true, true, false, false, false, false, false, false, false, false, false, false, false, false, false, false, false, false, false] rfl rfl (zb HT_.out (by kernel_rfl)) (fun _ _ _ h => h) (Or.inl ⟨by rfl, ?_⟩) ?_ ?_;rotate_left
                ·intro w'
                 go_simp;with_reducible rfl
                rotate_left
                ·simp only [Act.put, Zs1, Zs2, Zs3, ze, zf]
                 rfl
                refine zi (i := 19) (N := some 52) (v := ?_) (a' := ?_) #[true, true, true, true, true, true, true, true, true, true, true, true, true, true, true, true, true, true, true, true, false, false, false, false, false, false, false, false, false, false, false, false, false, false, false, false] rfl rfl (zb HT_.out (by kernel_rfl)) (fun _ _ _ h => h) (Or.inl ⟨by rfl, ?_⟩) ?_ ?_;rotate_left
                ·intro w'
                 go_simp;with_reducible rfl
                rotate_left
                ·simp only [Act.put, Zs1, Zs2, Zs3, ze, zf]
                 rfl
                refine zi (i := 20) (N := some 53) (v := ?_) (a' := ?_) #[true, true, true, true, true, true, true, true, true, true, true, true, true, true, true, true, true, true, true, true, true, false, false, false, false, false, false, false, false, false, false, false, false, false, false, false] rfl rfl (zb HT_.out (by kernel_rfl)) (fun _ _ _ h => h) (Or.inl ⟨by rfl, ?_⟩) ?_ ?_;rotate_left
                ·intro w'
                 go_simp;with_reducible rfl
                rotate_left
                ·simp only [Act.put, Zs1, Zs2, Zs3, ze, zf]
                 rfl
                refine zi (i := 21) (N := some 54) (v := ?_) (a' := ?_) #[true, true, true, true, true, true, true, true, true, true, true, true, true, true, true, true, true, true, true, true, true, true, false, false, false, false, false, false, false, false, false, false, false, false, false, false] rfl rfl (zb HT_.out (by kernel_rfl)) (fun _ _ _ h => h) (Or.inl ⟨by rfl, ?_⟩) ?_ ?_;rotate_left
                ·intro w'
                 go_simp;with_reducible rfl
                rotate_left
                ·simp only [Act.put, Zs1, Zs2, Zs3, ze, zf]
                 rfl
                refine zi (i := 22) (N := some 55) (v := ?_) (a' := ?_) #[true, true, true, true, true, true, true, true, true, true, true, true, true, true, true, true, true, true, true, true, true, true, true, false, false, false, false, false, false, false, false, false, false, false, false, false] rfl rfl (zb HT_.out (by kernel_rfl)) (fun _ _ _ h => h) (Or.inl ⟨by rfl, ?_⟩) ?_ ?_;rotate_left
                ·intro w'
                 go_simp;with_reducible rfl
                rotate_left
                ·simp only [Act.put, Zs1, Zs2, Zs3, ze, zf]
                 rfl
                refine zi (i := 26) (N := some 59) (v := ?_) (a' := ?_) #[true, true, true, true, true, true, true, true, true, true, true, true, true, true, true, true, true, true, true, true, true, true, true, false, false, false, true, false, false, false, false, false, false, false, false, false] rfl rfl (zb HT_.out (by kernel_rfl)) (fun _ _ _ h => h) (Or.inl ⟨by rfl, ?_⟩) ?_ ?_;rotate_left
                ·intro w'
                 go_simp;with_reducible rfl
                rotate_left
                ·simp only [Act.put, Zs1, Zs2, Zs3, ze, zf]
                 rfl
                refine zi (i := 27) (N := some 60) (v := ?_) (a' := ?_) #[true, true, true, true, true, true, true, true, true, true, true, true, true, true, true, true, true, true, true, true, true, true, true, false, false, false, true, true, false, false, false, false, false, false, false, false] rfl rfl (zb HT_.out (by kernel_rfl)) (fun _ _ _ h => h) (Or.inl ⟨by rfl, ?_⟩) ?_ ?_;rotate_left
                ·intro w'
                 go_simp;with_reducible rfl
                rotate_left
                ·simp only [Act.put, Zs1, Zs2, Zs3, ze, zf]
                 rfl
                refine zi (i := 28) (N := some 61) (v := ?_) (a' := ?_) #[true, true, true, true, true, true, true, true, true, true, true, true, true, true, true, true, true, true, true, true, true, true, true, false, false, false, true, true, true, false, false, false, false, false, false, false] rfl rfl (zb HT_.out (by kernel_rfl)) (fun _ _ _ h => h) (Or.inl ⟨by rfl, ?_⟩) ?_ ?_;rotate_left
                ·intro w'
                 go_simp;with_reducible rfl
                rotate_left
                ·simp only [Act.put, Zs1, Zs2, Zs3, ze, zf]
                 rfl
                refine zb3 (i := 23) (N := some 56) (v := ?_) (a' := ?_) #[true, true, true, true, true, true, true, true, true, true, true, true, true, true, true, true, true, true, true, true, true, true, true, true, false, false, true, true, true, false, false, false, false, false, false, false] rfl rfl (zbf HT_.out HW_.out (by kernel_rfl)) (fun _ _ _ h => h) (Or.inl ⟨by rfl, ?_⟩) hHeld ?_ ?_;rotate_left
                ·rintro w' ⟨s0, s1, s2, s3, s4, s5, s6⟩
                 go_simp;with_reducible rfl
                rotate_left
                ·simp only [Act.put, Zs1, Zs2, Zs3, ze, zf]
                 rfl
                refine zi (i := 24) (N := some 57) (v := ?_) (a' := ?_) #[true, true, true, true, true, true, true, true, true, true, true, true, true, true, true, true, true, true, true, true, true, true, true, true, true, false, true, true, true, false, false, false, false, false, false, false] rfl rfl (zb HT_.out (by kernel_rfl)) (fun _ _ _ h => h) (Or.inl ⟨by rfl, ?_⟩) ?_ ?_;rotate_left
                ·intro w'
                 go_simp;with_reducible rfl
                rotate_left
                ·simp only [Act.put, Zs1, Zs2, Zs3, ze, zf]
                 rfl
                refine zb3 (i := 25) (N := some 58) (v := ?_) (a' := ?_) #[true, true, true, true, true, true, true, true, true, true, true, true, true, true, true, true, true, true, true, true, true, true, true, true, true, true, true, true, true, false, false, false, false, false, false, false] rfl rfl (zbf HT_.out HW_.out (by kernel_rfl)) (fun _ _ _ h => h) (Or.inl ⟨by rfl, ?_⟩) hHeld ?_ ?_;rotate_left
                ·rintro w' ⟨s0, s1, s2, s3, s4, s5, s6⟩
                 go_simp;with_reducible rfl
                rotate_left
                ·simp only [Act.put, Zs1, Zs2, Zs3, ze, zf]
                 rfl
                refine zb3 (i := 29) (N := some 62) (v := ?_) (a' := ?_) #[true, true, true, true, true, true, true, true, true, true, true, true, true, true, true, true, true, true, true, true, true, true, true, true, true, true, true, true, true, true, false, false, false, false, false, false] rfl rfl (zbf HT_.out HW_.out (by kernel_rfl)) (fun _ _ _ h => h) (Or.inl ⟨by rfl, ?_⟩) hHeld ?_ ?_;rotate_left
                ·rintro w' ⟨s0, s1, s2, s3, s4, s5, s6⟩
                 go_simp;with_reducible rfl
                rotate_left
                ·simp only [Act.put, Zs1, Zs2, Zs3, ze, zf]
                 rfl
                refine zi (i := 30) (N := some 63) (v := ?_) (a' := ?_) #[true, true, true, true, true, true, true, true, true, true, true, true, true, true, true, true, true, true, true, true, true, true, true, true, true, true, true, true, true, true, true, false, false, false, false, false] rfl rfl (zb HT_.out (by kernel_rfl)) (fun _ _ _ h => h) (Or.inl ⟨by rfl, ?_⟩) ?_ ?_;rotate_left
                ·intro w'
                 go_simp;with_reducible rfl
                rotate_left
                ·simp only [Act.put, Zs1, Zs2, Zs3, ze, zf]
                 rfl
                refine zb3 (i := 31) (N := some 64) (v := ?_) (a' := ?_) #[true, true, true, true, true, true, true, true, true, true, true, true, true, true, true, true, true, true, true, true, true, true, true, true, true, true, true, true, true, true, true, true, false, false, false, false] rfl rfl (zbf HT_.out HW_.out (by kernel_rfl)) (fun _ _ _ h => h) (Or.inl ⟨by rfl, ?_⟩) hHeld ?_ ?_;rotate_left
                ·rintro w' ⟨s0, s1, s2, s3, s4, s5, s6⟩
                 go_simp;with_reducible rfl
                rotate_left
                ·simp only [Act.put, Zs1, Zs2, Zs3, ze, zf]
                 rfl
                refine zi (i := 32) (N := some 65) (v := ?_) (a' := ?_) #[true, true, true, true, true, true, true, true, true, true, true, true, true, true, true, true, true, true, true, true, true, true, true, true, true, true, true, true, true, true, true, true, true, false, false, false] rfl rfl (zb HT_.out (by kernel_rfl)) (fun _ _ _ h => h) (Or.inl ⟨by rfl, ?_⟩) ?_ ?_;rotate_left
                ·intro w'
                 go_simp;with_reducible rfl
                rotate_left
                ·simp only [Act.put, Zs1, Zs2, Zs3, ze, zf]
                 rfl
                refine one_ (i := 33) (N := some 66) #[true, true, true, true, true, true, true, true, true, true, true, true, true, true, true, true, true, true, true, true, true, true, true, true, true, true, true, true, true, true, true, true, true, true, false, false] rfl rfl (zdb HT_.out (by kernel_rfl)) (by decide) (fun K hK => ?_);refine ze4 Try.func39 (by kernel_rfl) rfl #[.int .i64 (rd (zh l1 x6_3) 0), .int .i64 0, .int .i64 (wrap64 ((rd (zh l1 x6_3) 1) - 1))] (by rfl) rfl rfl Zmt ?_;with_reducible refine (zcb.calls (rd (zh l1 x6_3) 0) 0 (wrap64 ((rd (zh l1 x6_3) 1) - 1)) false _ A17.out).mono ?_
                rintro e w' ⟨rfl, ⟨nd, rfl⟩⟩;refine ⟨_, rfl, ?_⟩;refine hK.out _ _ ⟨((HB.out.cell (World.block_lt_of_cell? w _ hw212_0)).trans hw212_0), ((HB.out.cell (World.block_lt_of_cell? w _ hw213_0)).trans hw213_0), ((HB.out.cell (World.block_lt_of_cell? w _ hw214_0)).trans hw214_0), ((HB.out.cell (World.block_lt_of_cell? w _ hw216_0)).trans hw216_0), ((HB.out.cell (World.block_lt_of_cell? w _ hw217_0)).trans hw217_0), ((HB.out.cell (World.block_lt_of_cell? w _ hw218_0)).trans hw218_0), ((HB.out.cell (World.block_lt_of_cell? w _ hw219_0)).trans hw219_0)⟩ (fun hHeld => ?_);clear hK K;refine zeu (a' := ?_) ?_ ?_;rotate_left
                ·show Act.put _ (some 66) _ = _
                 simp only [Act.put, Zs1, Zs2, Zs3, ze, zf];rfl
                refine zi (i := 34) (N := some 67) (v := ?_) (a' := ?_) #[true, true, true, true, true, true, true, true, true, true, true, true, true, true, true, true, true, true, true, true, true, true, true, true, true, true, true, true, true, true, true, true, true, true, true, false] rfl rfl (zb HT_.out (by kernel_rfl)) (fun _ _ _ h => h) (Or.inl ⟨by rfl, ?_⟩) ?_ ?_;rotate_left
                ·intro w'
                 go_simp;with_reducible rfl
                rotate_left
                ·simp only [Act.put, Zs1, Zs2, Zs3, ze, zf]
                 rfl
                refine zi (i := 35) (N := some 68) (v := ?_) (a' := ?_) #[true, true, true, true, true, true, true, true, true, true, true, true, true, true, true, true, true, true, true, true, true, true, true, true, true, true, true, true, true, true, true, true, true, true, true, true] rfl rfl (zb HT_.out (by kernel_rfl)) (fun _ _ _ h => h) (Or.inl ⟨by rfl, ?_⟩) ?_ ?_;rotate_left
                ·intro w'
                 go_simp;with_reducible rfl
                rotate_left
                ·simp only [Act.put, Zs1, Zs2, Zs3, ze, zf]
                 rfl
                refine zeg (zct HT_.out (by kernel_rfl)) ?_
                try go_wp2
                go_ret;exact ⟨by first | rfl | (simp [zq, zt] <;> rfl) | (simp [*, zq, zt] <;> rfl), Zq1 HB⟩
              ·rw [if_neg c16] at H
               exact absurd H (by simp)
             ·replace c15 := Bool.eq_false_iff.mpr c15
              subst c15;have H1 : (some false) = some r := by rw [if_neg (show ¬ (false = true) by decide)] at H; exact H
              clear H;have H := H1;clear H1;obtain rfl := Option.some.inj H
              try go_wp2
              have n0_ := za.mk (zbr HB.out);clear HB;have HB := n0_;clear n0_;have p212 : 0 ≤ (x6_3 : Int) := of_decide_eq_true Zas;have q212 : x6_3 < (l1.length : Int) := of_decide_eq_true Zas;obtain ⟨ad212, A212_0, c212_0, e212, hx212_0, hl212_0, hi212_0⟩ := zc6 HR1.out x6_3 p212 q212;have hw212_0 := hx212_0
              cases e212
              replace hx212_0 := (HB.out.cell (World.block_lt_of_cell? w _ hx212_0)).trans hx212_0;have HR212_0 := za.mk hi212_0;have HC212_0 := za.mk hl212_0;clear hi212_0 hl212_0;replace p212 := eq_true p212;replace q212 := eq_true q212;have p213 : 0 ≤ (x6_3 : Int) := of_decide_eq_true Zas;have q213 : x6_3 < (l1.length : Int) := of_decide_eq_true Zas;obtain ⟨ad213, A213_0, c213_0, e213, hx213_0, hl213_0, hi213_0⟩ := zc6 HR1.out x6_3 p213 q213;have hw213_0 := hx213_0;obtain rfl : ad212 = ad213 := (by injection e213);replace hx213_0 := (HB.out.cell (World.block_lt_of_cell? w _ hx213_0)).trans hx213_0;have HR213_0 := za.mk hi213_0;have HC213_0 := za.mk hl213_0;clear hi213_0 hl213_0;replace p213 := eq_true p213;replace q213 := eq_true q213;have ea_ := Option.some.inj (hx212_0.symm.trans hx213_0);injection ea_ with ea_ en_ ec_;subst ea_;subst ec_;clear en_;have p214 : 0 ≤ (1 : Int) := (by omega);have q214 : 1 < ((zh l1 x6_3).length : Int) := of_decide_eq_true Zas;obtain ⟨ad214, e214, hx214_0⟩ := Kd.zbq HR213_0.out 1 p214 q214;have hw214_0 := hx214_0;(try rw [show ((1 : Int)).toNat = 1 from rfl] at hw214_0);(try rw [show 1 * 1 = 1 from rfl] at hw214_0);(try simp only [Nat.reduceMul, Nat.reduceEqDiff, Go.Addr.add, ↓reduceIte] at hw214_0)
              cases e214
              (try simp only [show (1 : Int).toNat = 1 from rfl, Nat.reduceMul, Nat.reduceEqDiff, Go.Addr.add, ↓reduceIte] at hx214_0);have qi214 : (1 < (zh l1 x6_3).length) = True := eq_true (by omega);(try rw [show ((1 : Int)).toNat = 1 from rfl] at hx214_0);replace hx214_0 := (HB.out.cell (World.block_lt_of_cell? w _ hx214_0)).trans hx214_0;replace p214 := eq_true p214;replace q214 := eq_true q214;refine zdl (n := 36) (S := fun w' => w'.cell? (ad212.add (x6_3).toNat) = some (.slice (some ad214) (zh l1 x6_3).length c212_0) ∧ w'.cell? (ad212.add (x6_3).toNat) = some (.slice (some ad214) (zh l1 x6_3).length c212_0) ∧ w'.cell? ⟨ad214.block, ad214.off + 1, none⟩ = some (.int .i64 (rd (zh l1 x6_3) 1))) (ds := []) #[false, false, false, false, false, false, false, false, false, false, false, false, false, false, false, false, false, false, false, false, false, false, false, false, false, false, false, false, false, false, false, false, false, false, false, false] (by kernel_rfl) rfl rfl ⟨((HB.out.cell (World.block_lt_of_cell? w _ hw212_0)).trans hw212_0), ((HB.out.cell (World.block_lt_of_cell? w _ hw213_0)).trans hw213_0), ((HB.out.cell (World.block_lt_of_cell? w _ hw214_0)).trans hw214_0)⟩ (fun hHeld => ?_); refine zb9 zk.tab11 zk.bits11 (fun HT_ HW_ => ?_);generalize wr.drew = w21 at HB HR212_0 HR213_0 hx212_0 hx213_0 hx214_0 hHeld ⊢;refine zi (i := 0) (N := some 33) (v := ?_) (a' := ?_) #[true, false, false, false, false, false, false, false, false, false, false, false, false, false, false, false, false, false, false, false, false, false, false, false, false, false, false, false, false, false, false, false, false, false, false, false] rfl rfl (zb HT_.out (by kernel_rfl)) (fun _ _ _ h => h) (Or.inl ⟨by rfl, ?_⟩) ?_ ?_;rotate_left
              ·intro w'
               go_simp;with_reducible rfl
              rotate_left
              ·simp only [Act.put, Zs1, Zs2, Zs3, ze, zf]
               rfl
              refine zi (i := 1) (N := some 34) (v := ?_) (a' := ?_) #[true, true, false, false, false, false, false, false, false, false, false, false, false, false, false, false, false, false, false, false, false, false, false, false, false, false, false, false, false, false, false, false, false, false, false, false] rfl rfl (zb HT_.out (by kernel_rfl)) (fun _ _ _ h => h) (Or.inl ⟨by rfl, ?_⟩) ?_ ?_;rotate_left
              ·intro w'
               go_simp;with_reducible rfl
              rotate_left
              ·simp only [Act.put, Zs1, Zs2, Zs3, ze, zf]
               rfl
              refine zi (i := 2) (N := some 35) (v := ?_) (a' := ?_) #[true, true, true, false, false, false, false, false, false, false, false, false, false, false, false, false, false, false, false, false, false, false, false, false, false, false, false, false, false, false, false, false, false, false, false, false] rfl rfl (zb HT_.out (by kernel_rfl)) (fun _ _ _ h => h) (Or.inl ⟨by rfl, ?_⟩) ?_ ?_;rotate_left
              ·intro w'
               go_simp;with_reducible rfl
              rotate_left
              ·simp only [Act.put, Zs1, Zs2, Zs3, ze, zf]
               rfl
              refine zb3 (i := 3) (N := some 36) (v := ?_) (a' := ?_) #[true, true, true, true, false, false, false, false, false, false, false, false, false, false, false, false, false, false, false, false, false, false, false, false, false, false, false, false, false, false, false, false, false, false, false, false] rfl rfl (zbf HT_.out HW_.out (by kernel_rfl)) (fun _ _ _ h => h) (Or.inl ⟨by rfl, ?_⟩) hHeld ?_ ?_;rotate_left
              ·rintro w' ⟨s0, s1, s2⟩
               go_simp;with_reducible rfl
              rotate_left
              ·simp only [Act.put, Zs1, Zs2, Zs3, ze, zf]
               rfl
              refine zi (i := 4) (N := some 37) (v := ?_) (a' := ?_) #[true, true, true, true, true, false, false, false, false, false, false, false, false, false, false, false, false, false, false, false, false, false, false, false, false, false, false, false, false, false, false, false, false, false, false, false] rfl rfl (zb HT_.out (by kernel_rfl)) (fun _ _ _ h => h) (Or.inl ⟨by rfl, ?_⟩) ?_ ?_;rotate_left
              ·intro w'
               go_simp;with_reducible rfl
              rotate_left
              ·simp only [Act.put, Zs1, Zs2, Zs3, ze, zf]
               rfl
              refine zi (i := 5) (N := some 38) (v := ?_) (a' := ?_) #[true, true, true, true, true, true, false, false, false, false, false, false, false, false, false, false, false, false, false, false, false, false, false, false, false, false, false, false, false, false, false, false, false, false, false, false] rfl rfl (zb HT_.out (by kernel_rfl)) (fun _ _ _ h => h) (Or.inl ⟨by rfl, ?_⟩) ?_ ?_;rotate_left
              ·intro w'
               go_simp;with_reducible rfl
              rotate_left
              ·simp only [Act.put, Zs1, Zs2, Zs3, ze, zf]
               rfl
              refine zi (i := 6) (N := some 39) (v := ?_) (a' := ?_) #[true, true, true, true, true, true, true, false, false, false, false, false, false, false, false, false, false, false, false, false, false, false, false, false, false, false, false, false, false, false, false, false, false, false, false, false] rfl rfl (zb HT_.out (by kernel_rfl)) (fun _ _ _ h => h) (Or.inl ⟨by rfl, ?_⟩) ?_ ?_;rotate_left
              ·intro w'
               go_simp;with_reducible rfl
              rotate_left
              ·simp only [Act.put, Zs1, Zs2, Zs3, ze, zf]
               rfl
              refine zi (i := 7) (N := some 40) (v := ?_) (a' := ?_) #[true, true, true, true, true, true, true, true, false, false, false, false, false, false, false, false, false, false, false, false, false, false, false, false, false, false, false, false, false, false, false, false, false, false, false, false] rfl rfl (zb HT_.out (by kernel_rfl)) (fun _ _ _ h => h) (Or.inl ⟨by rfl, ?_⟩) ?_ ?_;rotate_left
              ·intro w'
               go_simp;with_reducible rfl
              rotate_left
              ·simp only [Act.put, Zs1, Zs2, Zs3, ze, zf]
               rfl
              refine zi (i := 8) (N := some 41) (v := ?_) (a' := ?_) #[true, true, true, true, true, true, true, true, true, false, false, false, false, false, false, false, false, false, false, false, false, false, false, false, false, false, false, false, false, false, false, false, false, false, false, false] rfl rfl (zb HT_.out (by kernel_rfl)) (fun _ _ _ h => h) (Or.inl ⟨by rfl, ?_⟩) ?_ ?_;rotate_left
              ·intro w'
               go_simp;with_reducible rfl
              rotate_left
              ·simp only [Act.put, Zs1, Zs2, Zs3, ze, zf]
               rfl
              refine zi (i := 9) (N := some 42) (v := ?_) (a' := ?_) #[true, true, true, true, true, true, true, true, true, true, false, false, false, false, false, false, false, false, false, false, false, false, false, false, false, false, false, false, false, false, false, false, false, false, false, false] rfl rfl (zb HT_.out (by kernel_rfl)) (fun _ _ _ h => h) (Or.inl ⟨by rfl, ?_⟩) ?_ ?_;rotate_left
              ·intro w'
               go_simp;with_reducible rfl
              rotate_left
              ·simp only [Act.put, Zs1, Zs2, Zs3, ze, zf]
               rfl
              refine zi (i := 13) (N := some 46) (v := ?_) (a' := ?_) #[true, true, true, true, true, true, true, true, true, true, false, false, false, true, false, false, false, false, false, false, false, false, false, false, false, false, false, false, false, false, false, false, false, false, false, false] rfl rfl (zb HT_.out (by kernel_rfl)) (fun _ _ _ h => h) (Or.inl ⟨by rfl, ?_⟩) ?_ ?_;rotate_left
              ·intro w'
               go_simp;with_reducible rfl
              rotate_left
              ·simp only [Act.put, Zs1, Zs2, Zs3, ze, zf]
               rfl
              refine zi (i := 14) (N := some 47) (v := ?_) (a' := ?_) #[true, true, true, true, true, true, true, true, true, true, false, false, false, true, true, false, false, false, false, false, false, false, false, false, false, false, false, false, false, false, false, false, false, false, false, false] rfl rfl (zb HT_.out (by kernel_rfl)) (fun _ _ _ h => h) (Or.inl ⟨by rfl, ?_⟩) ?_ ?_;rotate_left
              ·intro w'
               go_simp;with_reducible rfl
              rotate_left
              ·simp only [Act.put, Zs1, Zs2, Zs3, ze, zf]
               rfl
              refine zi (i := 15) (N := some 48) (v := ?_) (a' := ?_) #[true, true, true, true, true, true, true, true, true, true, false, false, false, true, true, true, false, false, false, false, false, false, false, false, false, false, false, false, false, false, false, false, false, false, false, false] rfl rfl (zb HT_.out (by kernel_rfl)) (fun _ _ _ h => h) (Or.inl ⟨by rfl, ?_⟩) ?_ ?_;rotate_left
              ·intro w'
               go_simp;with_reducible rfl
              rotate_left
              ·simp only [Act.put, Zs1, Zs2, Zs3, ze, zf]
               rfl
              refine zb3 (i := 10) (N := some 43) (v := ?_) (a' := ?_) #[true, true, true, true, true, true, true, true, true, true, true, false, false, true, true, true, false, false, false, false, false, false, false, false, false, false, false, false, false, false, false, false, false, false, false, false] rfl rfl (zbf HT_.out HW_.out (by kernel_rfl)) (fun _ _ _ h => h) (Or.inl ⟨by rfl, ?_⟩) hHeld ?_ ?_;rotate_left
              ·rintro w' ⟨s0, s1, s2⟩
               go_simp;with_reducible rfl
              rotate_left
              ·simp only [Act.put, Zs1, Zs2, Zs3, ze, zf]
               rfl
              refine zi (i := 11) (N := some 44) (v := ?_) (a' := ?_) #[true, true, true, true, true, true, true, true, true, true, true, true, false, true, true, true, false, false, false, false, false, false, false, false, false, false, false, false, false, false, false, false, false, false, false, false] rfl rfl (zb HT_.out (by kernel_rfl)) (fun _ _ _ h => h) (Or.inl ⟨by rfl, ?_⟩) ?_ ?_;rotate_left
              ·intro w'
               go_simp;with_reducible rfl
              rotate_left
              ·simp only [Act.put, Zs1, Zs2, Zs3, ze, zf]
               rfl
              refine zb3 (i := 12) (N := some 45) (v := ?_) (a' := ?_) #[true, true, true, true, true, true, true, true, true, true, true, true, true, true, true, true, false, false, false, false, false, false, false, false, false, false, false, false, false, false, false, false, false, false, false, false] rfl rfl (zbf HT_.out HW_.out (by kernel_rfl)) (fun _ _ _ h => h) (Or.inl ⟨by rfl, ?_⟩) hHeld ?_ ?_;rotate_left
              ·rintro w' ⟨s0, s1, s2⟩
               go_simp;with_reducible rfl
              rotate_left
              ·simp only [Act.put, Zs1, Zs2, Zs3, ze, zf]
               rfl
              refine one_ (i := 16) (N := some 49) #[true, true, true, true, true, true, true, true, true, true, true, true, true, true, true, true, true, false, false, false, false, false, false, false, false, false, false, false, false, false, false, false, false, false, false, false] rfl rfl (zdb HT_.out (by kernel_rfl)) (by decide) (fun K hK => ?_);refine ze4 Try.func39 (by kernel_rfl) rfl #[.int .i64 (rd (zh l1 x6_3) 1), .int .i64 0, .int .i64 (wrap64 ((l0.length : Int) - 1))] (by rfl) rfl rfl Zmt ?_;with_reducible refine (zcb.calls (rd (zh l1 x6_3) 1) 0 (wrap64 ((l0.length : Int) - 1)) false _ A14.out).mono ?_
              rintro e w' ⟨rfl, ⟨nd, rfl⟩⟩;refine ⟨_, rfl, ?_⟩;refine hK.out _ _ ⟨((HB.out.cell (World.block_lt_of_cell? w _ hw212_0)).trans hw212_0), ((HB.out.cell (World.block_lt_of_cell? w _ hw213_0)).trans hw213_0), ((HB.out.cell (World.block_lt_of_cell? w _ hw214_0)).trans hw214_0)⟩ (fun hHeld => ?_);clear hK K;refine zeu (a' := ?_) ?_ ?_;rotate_left
              ·show Act.put _ (some 49) _ = _
               simp only [Act.put, Zs1, Zs2, Zs3, ze, zf];rfl
              refine zi (i := 17) (N := some 50) (v := ?_) (a' := ?_) #[true, true, true, true, true, true, true, true, true, true, true, true, true, true, true, true, true, true, false, false, false, false, false, false, false, false, false, false, false, false, false, false, false, false, false, false] rfl rfl (zb HT_.out (by kernel_rfl)) (fun _ _ _ h => h) (Or.inl ⟨by rfl, ?_⟩) ?_ ?_;rotate_left
              ·intro w'
               go_simp;with_reducible rfl
              rotate_left
              ·simp only [Act.put, Zs1, Zs2, Zs3, ze, zf]
               rfl
              refine zi (i := 18) (N := some 51) (v := ?_) (a' := ?_) #[true, true, true, true, true, true, true, true, true, true, true, true, true, true, true, true, true, true, true, false, false, false, false, false, false, false, false, false, false, false, false, false, false, false, false, false] rfl rfl (zb HT_.out (by kernel_rfl)) (fun _ _ _ h => h) (Or.inl ⟨by rfl, ?_⟩) ?_ ?_;rotate_left
              ·intro w'
               go_simp;with_reducible rfl
              rotate_left
              ·simp only [Act.put, Zs1, Zs2, Zs3, ze, zf]
               rfl
              refine zi (i := 19) (N := some 52) (v := ?_) (a' := ?_) #[true, true, true, true, true, true, true, true, true, true, true, true, true, true, true, true, true, true, true, true, false, false, false, false, false, false, false, false, false, false, false, false, false, false, false, false] rfl rfl (zb HT_.out (by kernel_rfl)) (fun _ _ _ h => h) (Or.inl ⟨by rfl, ?_⟩) ?_ ?_;rotate_left
              ·intro w'
               go_simp;with_reducible rfl
              rotate_left
              ·simp only [Act.put, Zs1, Zs2, Zs3, ze, zf]
               rfl
              refine zi (i := 20) (N := some 53) (v := undef) (a' := ?_) #[true, true, true, true, true, true, true, true, true, true, true, true, true, true, true, true, true, true, true, true, true, false, false, false, false, false, false, false, false, false, false, false, false, false, false, false] rfl rfl (zb HT_.out (by kernel_rfl)) (fun _ _ _ h => h) (Or.inr ⟨by rfl, rfl⟩) ?_ ?_;rotate_left
              ·simp only [Act.put, Zs1, Zs2, Zs3, ze, zf]
               rfl
              refine zi (i := 21) (N := some 54) (v := undef) (a' := ?_) #[true, true, true, true, true, true, true, true, true, true, true, true, true, true, true, true, true, true, true, true, true, true, false, false, false, false, false, false, false, false, false, false, false, false, false, false] rfl rfl (zb HT_.out (by kernel_rfl)) (fun _ _ _ h => h) (Or.inr ⟨by rfl, rfl⟩) ?_ ?_;rotate_left
              ·simp only [Act.put, Zs1, Zs2, Zs3, ze, zf]
               rfl
              refine zi (i := 22) (N := some 55) (v := undef) (a' := ?_) #[true, true, true, true, true, true, true, true, true, true, true, true, true, true, true, true, true, true, true, true, true, true, true, false, false, false, false, false, false, false, false, false, false, false, false, false] rfl rfl (zb HT_.out (by kernel_rfl)) (fun _ _ _ h => h) (Or.inr ⟨by rfl, rfl⟩) ?_ ?_;rotate_left
              ·simp only [Act.put, Zs1, Zs2, Zs3, ze, zf]
               rfl
              refine zi (i := 23) (N := some 56) (v := undef) (a' := ?_) #[true, true, true, true, true, true, true, true, true, true, true, true, true, true, true, true, true, true, true, true, true, true, true, true, false, false, false, false, false, false, false, false, false, false, false, false] rfl rfl (zb HT_.out (by kernel_rfl)) (fun _ _ _ h => h) (Or.inr ⟨by rfl, rfl⟩) ?_ ?_;rotate_left
              ·simp only [Act.put, Zs1, Zs2, Zs3, ze, zf]
               rfl
              refine zi (i := 24) (N := some 57) (v := undef) (a' := ?_) #[true, true, true, true, true, true, true, true, true, true, true, true, true, true, true, true, true, true, true, true, true, true, true, true, true, false, false, false, false, false, false, false, false, false, false, false] rfl rfl (zb HT_.out (by kernel_rfl)) (fun _ _ _ h => h) (Or.inr ⟨by rfl, rfl⟩) ?_ ?_;rotate_left
              ·simp only [Act.put, Zs1, Zs2, Zs3, ze, zf]
               rfl
              refine zi (i := 25) (N := some 58) (v := undef) (a' := ?_) #[true, true, true, true, true, true, true, true, true, true, true, true, true, true, true, true, true, true, true, true, true, true, true, true, true, true, false, false, false, false, false, false, false, false, false, false] rfl rfl (zb HT_.out (by kernel_rfl)) (fun _ _ _ h => h) (Or.inr ⟨by rfl, rfl⟩) ?_ ?_;rotate_left
              ·simp only [Act.put, Zs1, Zs2, Zs3, ze, zf]
               rfl
              refine zi (i := 26) (N := some 59) (v := undef) (a' := ?_) #[true, true, true, true, true, true, true, true, true, true, true, true, true, true, true, true, true, true, true, true, true, true, true, true, true, true, true, false, false, false, false, false, false, false, false, false] rfl rfl (zb HT_.out (by kernel_rfl)) (fun _ _ _ h => h) (Or.inr ⟨by rfl, rfl⟩) ?_ ?_;rotate_left
              ·simp only [Act.put, Zs1, Zs2, Zs3, ze, zf]
               rfl
              refine zi (i := 27) (N := some 60) (v := undef) (a' := ?_) #[true, true, true, true, true, true, true, true, true, true, true, true, true, true, true, true, true, true, true, true, true, true, true, true, true, true, true, true, false, false, false, false, false, false, false, false] rfl rfl (zb HT_.out (by kernel_rfl)) (fun _ _ _ h => h) (Or.inr ⟨by rfl, rfl⟩) ?_ ?_;rotate_left
              ·simp only [Act.put, Zs1, Zs2, Zs3, ze, zf]
               rfl
              refine zi (i := 28) (N := some 61) (v := undef) (a' := ?_) #[true, true, true, true, true, true, true, true, true, true, true, true, true, true, true, true, true, true, true, true, true, true, true, true, true, true, true, true, true, false, false, false, false, false, false, false] rfl rfl (zb HT_.out (by kernel_rfl)) (fun _ _ _ h => h) (Or.inr ⟨by rfl, rfl⟩) ?_ ?_;rotate_left
              ·simp only [Act.put, Zs1, Zs2, Zs3, ze, zf]
               rfl
              refine zi (i := 29) (N := some 62) (v := undef) (a' := ?_) #[true, true, true, true, true, true, true, true, true, true, true, true, true, true, true, true, true, true, true, true, true, true, true, true, true, true, true, true, true, true, false, false, false, false, false, false] rfl rfl (zb HT_.out (by kernel_rfl)) (fun _ _ _ h => h) (Or.inr ⟨by rfl, rfl⟩) ?_ ?_;rotate_left
              ·simp only [Act.put, Zs1, Zs2, Zs3, ze, zf]
               rfl
              refine zi (i := 30) (N := some 63) (v := undef) (a' := ?_) #[true, true, true, true, true, true, true, true, true, true, true, true, true, true, true, true, true, true, true, true, true, true, true, true, true, true, true, true, true, true, true, false, false, false, false, false] rfl rfl (zb HT_.out (by kernel_rfl)) (fun _ _ _ h => h) (Or.inr ⟨by rfl, rfl⟩) ?_ ?_;rotate_left
              ·simp only [Act.put, Zs1, Zs2, Zs3, ze, zf]
               rfl
              refine zi (i := 31) (N := some 64) (v := undef) (a' := ?_) #[true, true, true, true, true, true, true, true, true, true, true, true, true, true, true, true, true, true, true, true, true, true, true, true, true, true, true, true, true, true, true, true, false, false, false, false] rfl rfl (zb HT_.out (by kernel_rfl)) (fun _ _ _ h => h) (Or.inr ⟨by rfl, rfl⟩) ?_ ?_;rotate_left
              ·simp only [Act.put, Zs1, Zs2, Zs3, ze, zf]
               rfl
              refine zi (i := 32) (N := some 65) (v := undef) (a' := ?_) #[true, true, true, true, true, true, true, true, true, true, true, true, true, true, true, true, true, true, true, true, true, true, true, true, true, true, true, true, true, true, true, true, true, false, false, false] rfl rfl (zb HT_.out (by kernel_rfl)) (fun _ _ _ h => h) (Or.inr ⟨by rfl, rfl⟩) ?_ ?_;rotate_left
              ·simp only [Act.put, Zs1, Zs2, Zs3, ze, zf]
               rfl
              refine zi (i := 33) (N := some 66) (v := undef) (a' := ?_) #[true, true, true, true, true, true, true, true, true, true, true, true, true, true, true, true, true, true, true, true, true, true, true, true, true, true, true, true, true, true, true, true, true, true, false, false] rfl rfl (zb HT_.out (by kernel_rfl)) (fun _ _ _ h => h) (Or.inr ⟨by rfl, rfl⟩) ?_ ?_;rotate_left
              ·simp only [Act.put, Zs1, Zs2, Zs3, ze, zf]
               rfl
              refine zi (i := 34) (N := some 67) (v := undef) (a' := ?_) #[true, true, true, true, true, true, true, true, true, true, true, true, true, true, true, true, true, true, true, true, true, true, true, true, true, true, true, true, true, true, true, true, true, true, true, false] rfl rfl (zb HT_.out (by kernel_rfl)) (fun _ _ _ h => h) (Or.inr ⟨by rfl, rfl⟩) ?_ ?_;rotate_left
              ·simp only [Act.put, Zs1, Zs2, Zs3, ze, zf]
               rfl
              refine zi (i := 35) (N := some 68) (v := ?_) (a' := ?_) #[true, true, true, true, true, true, true, true, true, true, true, true, true, true, true, true, true, true, true, true, true, true, true, true, true, true, true, true, true, true, true, true, true, true, true, true] rfl rfl (zb HT_.out (by kernel_rfl)) (fun _ _ _ h => h) (Or.inl ⟨by rfl, ?_⟩) ?_ ?_;rotate_left
              ·intro w'
               go_simp;with_reducible rfl
              rotate_left
              ·simp only [Act.put, Zs1, Zs2, Zs3, ze, zf]
               rfl
              refine zeg (zct HT_.out (by kernel_rfl)) ?_
              try go_wp2
              go_ret;exact ⟨by first | rfl | (simp [zq, zt] <;> rfl) | (simp [*, zq, zt] <;> rfl), Zq1 HB⟩
            ·rw [if_neg c13] at H
             exact absurd H (by simp)
           ·rw [if_neg c12] at H
            have c12b0 : (((zh l1 x6_3).length : Int) == 2) = false := beq_eq_false_iff_ne.mpr c12;have c12b1 : (((zh l1 x6_3).length : Int) != 2) = true := bne_iff_ne.mpr c12;obtain rfl := Option.some.inj H
            try go_wp2
            have n0_ := za.mk (zbr HB.out);clear HB;have HB := n0_;clear n0_;have p212 : 0 ≤ (x6_3 : Int) := of_decide_eq_true Zas;have q212 : x6_3 < (l1.length : Int) := of_decide_eq_true Zas;obtain ⟨ad212, A212_0, c212_0, e212, hx212_0, hl212_0, hi212_0⟩ := zc6 HR1.out x6_3 p212 q212;have hw212_0 := hx212_0
            cases e212
            replace hx212_0 := (HB.out.cell (World.block_lt_of_cell? w _ hx212_0)).trans hx212_0;have HR212_0 := za.mk hi212_0;have HC212_0 := za.mk hl212_0;clear hi212_0 hl212_0;replace p212 := eq_true p212;replace q212 := eq_true q212;refine zdl (n := 36) (S := fun w' => w'.cell? (ad212.add (x6_3).toNat) = some (.slice A212_0 (zh l1 x6_3).length c212_0)) (ds := []) #[false, false, false, false, false, false, false, false, false, false, false, false, false, false, false, false, false, false, false, false, false, false, false, false, false, false, false, false, false, false, false, false, false, false, false, false] (by kernel_rfl) rfl rfl (((HB.out.cell (World.block_lt_of_cell? w _ hw212_0)).trans hw212_0)) (fun hHeld => ?_); refine zb9 zk.tab11 zk.bits11 (fun HT_ HW_ => ?_);generalize wr.drew = w22 at HB HR212_0 hx212_0 hHeld ⊢;refine zi (i := 0) (N := some 33) (v := ?_) (a' := ?_) #[true, false, false, false, false, false, false, false, false, false, false, false, false, false, false, false, false, false, false, false, false, false, false, false, false, false, false, false, false, false, false, false, false, false, false, false] rfl rfl (zb HT_.out (by kernel_rfl)) (fun _ _ _ h => h) (Or.inl ⟨by rfl, ?_⟩) ?_ ?_;rotate_left
            ·intro w'
             go_simp;with_reducible rfl
            rotate_left
            ·simp only [Act.put, Zs1, Zs2, Zs3, ze, zf]
             rfl
            refine zi (i := 1) (N := some 34) (v := ?_) (a' := ?_) #[true, true, false, false, false, false, false, false, false, false, false, false, false, false, false, false, false, false, false, false, false, false, false, false, false, false, false, false, false, false, false, false, false, false, false, false] rfl rfl (zb HT_.out (by kernel_rfl)) (fun _ _ _ h => h) (Or.inl ⟨by rfl, ?_⟩) ?_ ?_;rotate_left
            ·intro w'
             go_simp;with_reducible rfl
            rotate_left
            ·simp only [Act.put, Zs1, Zs2, Zs3, ze, zf]
             rfl
            refine zi (i := 2) (N := some 35) (v := ?_) (a' := ?_) #[true, true, true, false, false, false, false, false, false, false, false, false, false, false, false, false, false, false, false, false, false, false, false, false, false, false, false, false, false, false, false, false, false, false, false, false] rfl rfl (zb HT_.out (by kernel_rfl)) (fun _ _ _ h => h) (Or.inl ⟨by rfl, ?_⟩) ?_ ?_;rotate_left
            ·intro w'
             go_simp;with_reducible rfl
            rotate_left
            ·simp only [Act.put, Zs1, Zs2, Zs3, ze, zf]
             rfl
            refine zb3 (i := 3) (N := some 36) (v := ?_) (a' := ?_) #[true, true, true, true, false, false, false, false, false, false, false, false, false, false, false, false, false, false, false, false, false, false, false, false, false, false, false, false, false, false, false, false, false, false, false, false] rfl rfl (zbf HT_.out HW_.out (by kernel_rfl)) (fun _ _ _ h => h) (Or.inl ⟨by rfl, ?_⟩) hHeld ?_ ?_;rotate_left
            ·intro w' s0
             go_simp;with_reducible rfl
            rotate_left
            ·simp only [Act.put, Zs1, Zs2, Zs3, ze, zf]
             rfl
            refine zi (i := 4) (N := some 37) (v := ?_) (a' := ?_) #[true, true, true, true, true, false, false, false, false, false, false, false, false, false, false, false, false, false, false, false, false, false, false, false, false, false, false, false, false, false, false, false, false, false, false, false] rfl rfl (zb HT_.out (by kernel_rfl)) (fun _ _ _ h => h) (Or.inl ⟨by rfl, ?_⟩) ?_ ?_;rotate_left
            ·intro w'
             go_simp;with_reducible rfl
            rotate_left
            ·simp only [Act.put, Zs1, Zs2, Zs3, ze, zf]
             rfl
            refine zi (i := 5) (N := some 38) (v := ?_) (a' := ?_) #[true, true, true, true, true, true, false, false, false, false, false, false, false, false, false, false, false, false, false, false, false, false, false, false, false, false, false, false, false, false, false, false, false, false, false, false] rfl rfl (zb HT_.out (by kernel_rfl)) (fun _ _ _ h => h) (Or.inl ⟨by rfl, ?_⟩) ?_ ?_;rotate_left
            ·intro w'
             go_simp;with_reducible rfl
            rotate_left
            ·simp only [Act.put, Zs1, Zs2, Zs3, ze, zf]
             rfl
            refine zi (i := 6) (N := some 39) (v := ?_) (a' := ?_) #[true, true, true, true, true, true, true, false, false, false, false, false, false, false, false, false, false, false, false, false, false, false, false, false, false, false, false, false, false, false, false, false, false, false, false, false] rfl rfl (zb HT_.out (by kernel_rfl)) (fun _ _ _ h => h) (Or.inl ⟨by rfl, ?_⟩) ?_ ?_;rotate_left
            ·intro w'
             go_simp;with_reducible rfl
            rotate_left
            ·simp only [Act.put, Zs1, Zs2, Zs3, ze, zf]
             rfl
            refine zi (i := 7) (N := some 40) (v := undef) (a' := ?_) #[true, true, true, true, true, true, true, true, false, false, false, false, false, false, false, false, false, false, false, false, false, false, false, false, false, false, false, false, false, false, false, false, false, false, false, false] rfl rfl (zb HT_.out (by kernel_rfl)) (fun _ _ _ h => h) (Or.inr ⟨by rfl, rfl⟩) ?_ ?_;rotate_left
            ·simp only [Act.put, Zs1, Zs2, Zs3, ze, zf]
             rfl
            refine zi (i := 8) (N := some 41) (v := undef) (a' := ?_) #[true, true, true, true, true, true, true, true, true, false, false, false, false, false, false, false, false, false, false, false, false, false, false, false, false, false, false, false, false, false, false, false, false, false, false, false] rfl rfl (zb HT_.out (by kernel_rfl)) (fun _ _ _ h => h) (Or.inr ⟨by rfl, rfl⟩) ?_ ?_;rotate_left
            ·simp only [Act.put, Zs1, Zs2, Zs3, ze, zf]
             rfl
            refine zi (i := 9) (N := some 42) (v := undef) (a' := ?_) #[true, true, true, true, true, true, true, true, true, true, false, false, false, false, false, false, false, false, false, false, false, false, false, false, false, false, false, false, false, false, false, false, false, false, false, false] rfl rfl (zb HT_.out (by kernel_rfl)) (fun _ _ _ h => h) (Or.inr ⟨by rfl, rfl⟩) ?_ ?_;rotate_left
            ·simp only [Act.put, Zs1, Zs2, Zs3, ze, zf]
             rfl
            refine zi (i := 10) (N := some 43) (v := undef) (a' := ?_) #[true, true, true, true, true, true, true, true, true, true, true, false, false, false, false, false, false, false, false, false, false, false, false, false, false, false, false, false, false, false, false, false, false, false, false, false] rfl rfl (zb HT_.out (by kernel_rfl)) (fun _ _ _ h => h) (Or.inr ⟨by rfl, rfl⟩) ?_ ?_;rotate_left
            ·simp only [Act.put, Zs1, Zs2, Zs3, ze, zf]
             rfl
            refine zi (i := 11) (N := some 44) (v := undef) (a' := ?_) #[true, true, true, true, true, true, true, true, true, true, true, true, false, false, false, false, false, false, false, false, false, false, false, false, false, false, false, false, false, false, false, false, false, false, false, false] rfl rfl (zb HT_.out (by kernel_rfl)) (fun _ _ _ h => h) (Or.inr ⟨by rfl, rfl⟩) ?_ ?_;rotate_left
            ·simp only [Act.put, Zs1, Zs2, Zs3, ze, zf]
             rfl
            refine zi (i := 12) (N := some 45) (v := undef) (a' := ?_) #[true, true, true, true, true, true, true, true, true, true, true, true, true, false, false, false, false, false, false, false, false, false, false, false, false, false, false, false, false, false, false, false, false, false, false, false] rfl rfl (zb HT_.out (by kernel_rfl)) (fun _ _ _ h => h) (Or.inr ⟨by rfl, rfl⟩) ?_ ?_;rotate_left
            ·simp only [Act.put, Zs1, Zs2, Zs3, ze, zf]
             rfl
            refine zi (i := 13) (N := some 46) (v := undef) (a' := ?_) #[true, true, true, true, true, true, true, true, true, true, true, true, true, true, false, false, false, false, false, false, false, false, false, false, false, false, false, false, false, false, false, false, false, false, false, false] rfl rfl (zb HT_.out (by kernel_rfl)) (fun _ _ _ h => h) (Or.inr ⟨by rfl, rfl⟩) ?_ ?_;rotate_left
            ·simp only [Act.put, Zs1, Zs2, Zs3, ze, zf]
             rfl
            refine zi (i := 14) (N := some 47) (v := undef) (a' := ?_) #[true, true, true, true, true, true, true, true, true, true, true, true, true, true, true, false, false, false, false, false, false, false, false, false, false, false, false, false, false, false, false, false, false, false, false, false] rfl rfl (zb HT_.out (by kernel_rfl)) (fun _ _ _ h => h) (Or.inr ⟨by rfl, rfl⟩) ?_ ?_;rotate_left
            ·simp only [Act.put, Zs1, Zs2, Zs3, ze, zf]
             rfl
            refine zi (i := 15) (N := some 48) (v := undef) (a' := ?_) #[true, true, true, true, true, true, true, true, true, true, true, true, true, true, true, true, false, false, false, false, false, false, false, false, false, false, false, false, false, false, false, false, false, false, false, false] rfl rfl (zb HT_.out (by kernel_rfl)) (fun _ _ _ h => h) (Or.inr ⟨by rfl, rfl⟩) ?_ ?_;rotate_left
            ·simp only [Act.put, Zs1, Zs2, Zs3, ze, zf]
             rfl
            refine zi (i := 16) (N := some 49) (v := undef) (a' := ?_) #[true, true, true, true, true, true, true, true, true, true, true, true, true, true, true, true, true, false, false, false, false, false, false, false, false, false, false, false, false, false, false, false, false, false, false, false] rfl rfl (zb HT_.out (by kernel_rfl)) (fun _ _ _ h => h) (Or.inr ⟨by rfl, rfl⟩) ?_ ?_;rotate_left
            ·simp only [Act.put, Zs1, Zs2, Zs3, ze, zf]
             rfl
            refine zi (i := 17) (N := some 50) (v := undef) (a' := ?_) #[true, true, true, true, true, true, true, true, true, true, true, true, true, true, true, true, true, true, false, false, false, false, false, false, false, false, false, false, false, false, false, false, false, false, false, false] rfl rfl (zb HT_.out (by kernel_rfl)) (fun _ _ _ h => h) (Or.inr ⟨by rfl, rfl⟩) ?_ ?_;rotate_left
            ·simp only [Act.put, Zs1, Zs2, Zs3, ze, zf]
             rfl
            refine zi (i := 18) (N := some 51) (v := ?_) (a' := ?_) #[true, true, true, true, true, true, true, true, true, true, true, true, true, true, true, true, true, true, true, false, false, false, false, false, false, false, false, false, false, false, false, false, false, false, false, false] rfl rfl (zb HT_.out (by kernel_rfl)) (fun _ _ _ h => h) (Or.inl ⟨by rfl, ?_⟩) ?_ ?_;rotate_left
            ·intro w'
             go_simp;with_reducible rfl
            rotate_left
            ·simp only [Act.put, Zs1, Zs2, Zs3, ze, zf]
             rfl
            refine zi (i := 19) (N := some 52) (v := ?_) (a' := ?_) #[true, true, true, true, true, true, true, true, true, true, true, true, true, true, true, true, true, true, true, true, false, false, false, false, false, false, false, false, false, false, false, false, false, false, false, false] rfl rfl (zb HT_.out (by kernel_rfl)) (fun _ _ _ h => h) (Or.inl ⟨by rfl, ?_⟩) ?_ ?_;rotate_left
            ·intro w'
             go_simp;with_reducible rfl
            rotate_left
            ·simp only [Act.put, Zs1, Zs2, Zs3, ze, zf]
             rfl
            refine zi (i := 20) (N := some 53) (v := undef) (a' := ?_) #[true, true, true, true, true, true, true, true, true, true, true, true, true, true, true, true, true, true, true, true, true, false, false, false, false, false, false, false, false, false, false, false, false, false, false, false] rfl rfl (zb HT_.out (by kernel_rfl)) (fun _ _ _ h => h) (Or.inr ⟨by rfl, rfl⟩) ?_ ?_;rotate_left
            ·simp only [Act.put, Zs1, Zs2, Zs3, ze, zf]
             rfl
            refine zi (i := 21) (N := some 54) (v := undef) (a' := ?_) #[true, true, true, true, true, true, true, true, true, true, true, true, true, true, true, true, true, true, true, true, true, true, false, false, false, false, false, false, false, false, false, false, false, false, false, false] rfl rfl (zb HT_.out (by kernel_rfl)) (fun _ _ _ h => h) (Or.inr ⟨by rfl, rfl⟩) ?_ ?_;rotate_left
            ·simp only [Act.put, Zs1, Zs2, Zs3, ze, zf]
             rfl
            refine zi (i := 22) (N := some 55) (v := undef) (a' := ?_) #[true, true, true, true, true, true, true, true, true, true, true, true, true, true, true, true, true, true, true, true, true, true, true, false, false, false, false, false, false, false, false, false, false, false, false, false] rfl rfl (zb HT_.out (by kernel_rfl)) (fun _ _ _ h => h) (Or.inr ⟨by rfl, rfl⟩) ?_ ?_;rotate_left
            ·simp only [Act.put, Zs1, Zs2, Zs3, ze, zf]
             rfl
            refine zi (i := 23) (N := some 56) (v := undef) (a' := ?_) #[true, true, true, true, true, true, true, true, true, true, true, true, true, true, true, true, true, true, true, true, true, true, true, true, false, false, false, false, false, false, false, false, false, false, false, false] rfl rfl (zb HT_.out (by kernel_rfl)) (fun _ _ _ h => h) (Or.inr ⟨by rfl, rfl⟩) ?_ ?_;rotate_left
            ·simp only [Act.put, Zs1, Zs2, Zs3, ze, zf]
             rfl
            refine zi (i := 24) (N := some 57) (v := undef) (a' := ?_) #[true, true, true, true, true, true, true, true, true, true, true, true, true, true, true, true, true, true, true, true, true, true, true, true, true, false, false, false, false, false, false, false, false, false, false, false] rfl rfl (zb HT_.out (by kernel_rfl)) (fun _ _ _ h => h) (Or.inr ⟨by rfl, rfl⟩) ?_ ?_;rotate_left
            ·simp only [Act.put, Zs1, Zs2, Zs3, ze, zf]
             rfl
            refine zi (i := 25) (N := some 58) (v := undef) (a' := ?_) #[true, true, true, true, true, true, true, true, true, true, true, true, true, true, true, true, true, true, true, true, true, true, true, true, true, true, false, false, false, false, false, false, false, false, false, false] rfl rfl (zb HT_.out (by kernel_rfl)) (fun _ _ _ h => h) (Or.inr ⟨by rfl, rfl⟩) ?_ ?_;rotate_left
            ·simp only [Act.put, Zs1, Zs2, Zs3, ze, zf]
             rfl
            refine zi (i := 26) (N := some 59) (v := undef) (a' := ?_) #[true, true, true, true, true, true, true, true, true, true, true, true, true, true, true, true, true, true, true, true, true, true, true, true, true, true, true, false, false, false, false, false, false, false, false, false] rfl rfl (zb HT_.out (by kernel_rfl)) (fun _ _ _ h => h) (Or.inr ⟨by rfl, rfl⟩) ?_ ?_;rotate_left
            ·simp only [Act.put, Zs1, Zs2, Zs3, ze, zf]
             rfl
            refine zi (i := 27) (N := some 60) (v := undef) (a' := ?_) #[true, true, true, true, true, true, true, true, true, true, true, true, true, true, true, true, true, true, true, true, true, true, true, true, true, true, true, true, false, false, false, false, false, false, false, false] rfl rfl (zb HT_.out (by kernel_rfl)) (fun _ _ _ h => h) (Or.inr ⟨by rfl, rfl⟩) ?_ ?_;rotate_left
            ·simp only [Act.put, Zs1, Zs2, Zs3, ze, zf]
             rfl
            refine zi (i := 28) (N := some 61) (v := undef) (a' := ?_) #[true, true, true, true, true, true, true, true, true, true, true, true, true, true, true, true, true, true, true, true, true, true, true, true, true, true, true, true, true, false, false, false, false, false, false, false] rfl rfl (zb HT_.out (by kernel_rfl)) (fun _ _ _ h => h) (Or.inr ⟨by rfl, rfl⟩) ?_ ?_;rotate_left
            ·simp only [Act.put, Zs1, Zs2, Zs3, ze, zf]
             rfl
            refine zi (i := 29) (N := some 62) (v := undef) (a' := ?_) #[true, true, true, true, true, true, true, true, true, true, true, true, true, true, true, true, true, true, true, true, true, true, true, true, true, true, true, true, true, true, false, false, false, false, false, false] rfl rfl (zb HT_.out (by kernel_rfl)) (fun _ _ _ h => h) (Or.inr ⟨by rfl, rfl⟩) ?_ ?_;rotate_left
            ·simp only [Act.put, Zs1, Zs2, Zs3, ze, zf]
             rfl
            refine zi (i := 30) (N := some 63) (v := undef) (a' := ?_) #[true, true, true, true, true, true, true, true, true, true, true, true, true, true, true, true, true, true, true, true, true, true, true, true, true, true, true, true, true, true, true, false, false, false, false, false] rfl rfl (zb HT_.out (by kernel_rfl)) (fun _ _ _ h => h) (Or.inr ⟨by rfl, rfl⟩) ?_ ?_;rotate_left
            ·simp only [Act.put, Zs1, Zs2, Zs3, ze, zf]
             rfl
            refine zi (i := 31) (N := some 64) (v := undef) (a' := ?_) #[true, true, true, true, true, true, true, true, true, true, true, true, true, true, true, true, true, true, true, true, true, true, true, true, true, true, true, true, true, true, true, true, false, false, false, false] rfl rfl (zb HT_.out (by kernel_rfl)) (fun _ _ _ h => h) (Or.inr ⟨by rfl, rfl⟩) ?_ ?_;rotate_left
            ·simp only [Act.put, Zs1, Zs2, Zs3, ze, zf]
             rfl
            refine zi (i := 32) (N := some 65) (v := undef) (a' := ?_) #[true, true, true, true, true, true, true, true, true, true, true, true, true, true, true, true, true, true, true, true, true, true, true, true, true, true, true, true, true, true, true, true, true, false, false, false] rfl rfl (zb HT_.out (by kernel_rfl)) (fun _ _ _ h => h) (Or.inr ⟨by rfl, rfl⟩) ?_ ?_;rotate_left
            ·simp only [Act.put, Zs1, Zs2, Zs3, ze, zf]
             rfl
            refine zi (i := 33) (N := some 66) (v := undef) (a' := ?_) #[true, true, true, true, true, true, true, true, true, true, true, true, true, true, true, true, true, true, true, true, true, true, true, true, true, true, true, true, true, true, true, true, true, true, false, false] rfl rfl (zb HT_.out (by kernel_rfl)) (fun _ _ _ h => h) (Or.inr ⟨by rfl, rfl⟩) ?_ ?_;rotate_left
            ·simp only [Act.put, Zs1, Zs2, Zs3, ze, zf]
             rfl
            refine zi (i := 34) (N := some 67) (v := undef) (a' := ?_) #[true, true, true, true, true, true, true, true, true, true, true, true, true, true, true, true, true, true, true, true, true, true, true, true, true, true, true, true, true, true, true, true, true, true, true, false] rfl rfl (zb HT_.out (by kernel_rfl)) (fun _ _ _ h => h) (Or.inr ⟨by rfl, rfl⟩) ?_ ?_;rotate_left
            ·simp only [Act.put, Zs1, Zs2, Zs3, ze, zf]
             rfl
            refine zi (i := 35) (N := some 68) (v := ?_) (a' := ?_) #[true, true, true, true, true, true, true, true, true, true, true, true, true, true, true, true, true, true, true, true, true, true, true, true, true, true, true, true, true, true, true, true, true, true, true, true] rfl rfl (zb HT_.out (by kernel_rfl)) (fun _ _ _ h => h) (Or.inl ⟨by rfl, ?_⟩) ?_ ?_;rotate_left
            ·intro w'
             go_simp;with_reducible rfl
            rotate_left
            ·simp only [Act.put, Zs1, Zs2, Zs3, ze, zf]
             rfl
            refine zeg (zct HT_.out (by kernel_rfl)) ?_
            try go_wp2
            go_ret;exact ⟨by first | rfl | (simp [zq, zt] <;> rfl) | (simp [*, zq, zt] <;> rfl), Zq1 HB⟩
          ·rw [if_neg c11] at H
           exact absurd H (by simp)
         ·rw [if_neg c10] at H
          have c10b0 : decide (x6_3 < (l1.length : Int)) = false := decide_eq_false c10;clear c10;obtain rfl := Option.some.inj H;go_wp2;go_ret;exact ⟨by first | rfl | (simp [zq, zt] <;> rfl) | (simp [*, zq, zt] <;> rfl), Zq1 HB⟩
def zbp.l0 : Nat → List Int → List (List Int) → Int → Int → Option (Bool)
 | 0, _, _, _, _ => none
 | k + 1, x0, x1, x2, x7 => if x7 < (x1.length : Int) then (if 0 ≤ x7 then (if 1 < ((zh x1 x7).length : Int) then (if (rd (zh x1 x7) 1) = x2 then (if 0 < ((zh x1 x7).length : Int) then (if 0 ≤ (rd (zh x1 x7) 0) then (if (rd (zh x1 x7) 0) < (x0.length : Int) then (if (rd x0 (rd (zh x1 x7) 0)) > 0 then (some false) else (zbp.l0 k x0 x1 x2 (wrap64 (x7 + 1)))) else (none)) else (none)) else (none)) else (zbp.l0 k x0 x1 x2 (wrap64 (x7 + 1)))) else (none)) else (none)) else (some true)
def zbp.f (k : Nat) (l0 : List Int) (l1 : List (List Int)) (a2 : Int) : Option (Bool) := if 0 ≤ a2 then (if a2 < (l0.length : Int) then (if (rd l0 a2) = 0 then (some false) else (zbp.l0 k l0 l1 a2 0)) else (none)) else (none)
set_option maxHeartbeats 8000000 in
theorem zbp.calls (k : Nat) (A0 : Option Addr) (c0 : Nat) (l0 : List Int) (A1 : Option Addr) (c1 : Nat) (l1 : List (List Int)) (a2 : Int) (r : Bool) (w : World) (hr0 : Kd.C (Kd.int .i64) w A0 l0.length l0) (hc0 : l0.length ≤ c0) (hr1 : Kd.C (Kd.slice 3 (Kd.int .i64)) w A1 l1.length l1) (hc1 : l1.length ≤ c1) (h : zbp.f k l0 l1 a2 = some r) :
  Calls Try.prog 40 #[.slice A0 l0.length c0, .slice A1 l1.length c1, .int .i64 a2] w fun e w' => e = .returned (.bool r) ∧ zbj w w' := by
 have HR0 := za.mk hr0
 have HC0 := za.mk hc0
 clear hr0 hc0
 have HR1 := za.mk hr1
 have HC1 := za.mk hc1
 clear hr1 hc1
 have H : (if 0 ≤ a2 then (if a2 < (l0.length : Int) then (if (rd l0 a2) = 0 then (some false) else (zbp.l0 k l0 l1 a2 0)) else (none)) else (none)) = some r := h
 clear h
 by_cases c4 : 0 ≤ a2
 ·rw [if_pos c4] at H
  have c4b0 : decide (0 ≤ a2) = true := decide_eq_true c4;clear c4;by_cases c5 : a2 < (l0.length : Int)
  ·rw [if_pos c5] at H
   have c5b0 : decide (a2 < (l0.length : Int)) = true := decide_eq_true c5;clear c5;by_cases c6 : (rd l0 a2) = 0
   ·rw [if_pos c6] at H
    have c6b0 : ((rd l0 a2) == 0) = true := beq_iff_eq.mpr c6;have c6b1 : ((rd l0 a2) != 0) = false := bne_eq_false_iff_eq.mpr c6;clear c6;obtain rfl := Option.some.inj H;have p221 : 0 ≤ (a2 : Int) := of_decide_eq_true Zas;have q221 : a2 < (l0.length : Int) := of_decide_eq_true Zas;obtain ⟨ad221, e221, hx221_0⟩ := Kd.zbq HR0.out a2 p221 q221
    cases e221
    replace p221 := eq_true p221;replace q221 := eq_true q221;go_enter Try.func40, Try.ntmps40;go_wp2;go_ret;exact ⟨by first | rfl | (simp; done) | (simp [*]; done), by repeat (first | exact zbj.refl _ | apply zbj.step)⟩
   ·rw [if_neg c6] at H
    have c6b0 : ((rd l0 a2) == 0) = false := beq_eq_false_iff_ne.mpr c6;have c6b1 : ((rd l0 a2) != 0) = true := bne_iff_ne.mpr c6;have H' := za.mk H;clear H;have p221 : 0 ≤ (a2 : Int) := of_decide_eq_true Zas;have q221 : a2 < (l0.length : Int) := of_decide_eq_true Zas;obtain ⟨ad221, e221, hx221_0⟩ := Kd.zbq HR0.out a2 p221 q221
    cases e221
    replace p221 := eq_true p221;replace q221 := eq_true q221;go_enter Try.func40, Try.ntmps40;go_wp2
    go_loopg [7] k (fun kq v7 w' => ∃ (x7_1 : Int), v7 = .int .i64 x7_1 ∧ za (zbp.l0 kq l0 l1 a2 x7_1 = some r) ∧ za (kq ≤ k) ∧ zbj w w')
    case atStart => exact ⟨(0), Zrs, H', ⟨Nat.le_refl _⟩, by repeat (first | exact zbj.refl _ | apply zbj.step)⟩
    case round =>
     clear H'
     (try clear c1);(try clear p2);(try clear q2);(try clear hx2);(try clear c4);(try clear c4b0);(try clear c5);(try clear c5b0);(try clear c6);(try clear c6b0);(try clear c6b1);(try clear hx221_0);(try clear p221);(try clear q221)
     obtain ⟨x7_1, rfl, HA, HK1, ⟨m1, rfl⟩⟩ := hrel
     cases gk with
     | zero => exact absurd HA.out (by simp [zbp.l0])
     | succ k1 =>
      have H := HA.out;clear HA;simp only [zbp.l0] at H;by_cases c7 : x7_1 < (l1.length : Int)
      ·rw [if_pos c7] at H
       have c7b0 : decide (x7_1 < (l1.length : Int)) = true := decide_eq_true c7;clear c7;by_cases c8 : 0 ≤ x7_1
       ·rw [if_pos c8] at H
        have c8b0 : decide (0 ≤ x7_1) = true := decide_eq_true c8;clear c8;by_cases c9 : 1 < ((zh l1 x7_1).length : Int)
        ·rw [if_pos c9] at H
         have c9b0 : decide (1 < ((zh l1 x7_1).length : Int)) = true := decide_eq_true c9;have c9b1 : decide (1 < (zh l1 x7_1).length) = true := decide_eq_true (by omega);clear c9;by_cases c10 : (rd (zh l1 x7_1) 1) = a2
         ·rw [if_pos c10] at H
          have c10b0 : ((rd (zh l1 x7_1) 1) == a2) = true := beq_iff_eq.mpr c10;have c10b1 : ((rd (zh l1 x7_1) 1) != a2) = false := bne_eq_false_iff_eq.mpr c10;clear c10;by_cases c11 : 0 < ((zh l1 x7_1).length : Int)
          ·rw [if_pos c11] at H
           have c11b0 : decide (0 < ((zh l1 x7_1).length : Int)) = true := decide_eq_true c11;have c11b1 : decide (0 < (zh l1 x7_1).length) = true := decide_eq_true (by omega);clear c11;by_cases c12 : 0 ≤ (rd (zh l1 x7_1) 0)
           ·rw [if_pos c12] at H
            have c12b0 : decide (0 ≤ (rd (zh l1 x7_1) 0)) = true := decide_eq_true c12;clear c12;by_cases c13 : (rd (zh l1 x7_1) 0) < (l0.length : Int)
            ·rw [if_pos c13] at H
             have c13b0 : decide ((rd (zh l1 x7_1) 0) < (l0.length : Int)) = true := decide_eq_true c13;clear c13;by_cases c14 : (rd l0 (rd (zh l1 x7_1) 0)) > 0
             ·rw [if_pos c14] at H
              have c14b0 : decide (0 < (rd l0 (rd (zh l1 x7_1) 0))) = true := decide_eq_true c14;clear c14;obtain rfl := Option.some.inj H;have p222 : 0 ≤ (x7_1 : Int) := of_decide_eq_true Zas;have q222 : x7_1 < (l1.length : Int) := of_decide_eq_true Zas;obtain ⟨ad222, A222_0, c222_0, e222, hx222_0, hl222_0, hi222_0⟩ := zc6 HR1.out x7_1 p222 q222
              cases e222
              have HR222_0 := za.mk hi222_0;have HC222_0 := za.mk hl222_0;clear hi222_0 hl222_0;replace p222 := eq_true p222;replace q222 := eq_true q222;have p223 : 0 ≤ (1 : Int) := (by omega);have q223 : 1 < ((zh l1 x7_1).length : Int) := of_decide_eq_true Zas;obtain ⟨ad223, e223, hx223_0⟩ := Kd.zbq HR222_0.out 1 p223 q223
              cases e223
              (try simp only [show (1 : Int).toNat = 1 from rfl, Nat.reduceMul, Nat.reduceEqDiff, Go.Addr.add, ↓reduceIte] at hx223_0);have qi223 : (1 < (zh l1 x7_1).length) = True := eq_true (by omega);(try rw [show ((1 : Int)).toNat = 1 from rfl] at hx223_0);replace p223 := eq_true p223;replace q223 := eq_true q223;have p224 : 0 ≤ (x7_1 : Int) := of_decide_eq_true Zas;have q224 : x7_1 < (l1.length : Int) := of_decide_eq_true Zas;obtain ⟨ad224, A224_0, c224_0, e224, hx224_0, hl224_0, hi224_0⟩ := zc6 HR1.out x7_1 p224 q224;obtain rfl : ad222 = ad224 := (by injection e224);have HR224_0 := za.mk hi224_0;have HC224_0 := za.mk hl224_0;clear hi224_0 hl224_0;replace p224 := eq_true p224;replace q224 := eq_true q224;have ea_ := Option.some.inj (hx222_0.symm.trans hx224_0);injection ea_ with ea_ en_ ec_;subst ea_;subst ec_;clear en_;have p225 : 0 ≤ (0 : Int) := (by omega);have q225 : 0 < ((zh l1 x7_1).length : Int) := of_decide_eq_true Zas;obtain ⟨ad225, e225, hx225_0⟩ := Kd.zbq HR224_0.out 0 p225 q225
              cases e225
              have qi225 : (0 < (zh l1 x7_1).length) = True := eq_true (by omega);(try rw [show ((0 : Int)).toNat = 0 from rfl] at hx225_0);(try rw [Addr.add_zero'] at hx225_0);replace p225 := eq_true p225;replace q225 := eq_true q225;have p226 : 0 ≤ ((rd (zh l1 x7_1) 0) : Int) := of_decide_eq_true Zas;have q226 : (rd (zh l1 x7_1) 0) < (l0.length : Int) := of_decide_eq_true Zas;obtain ⟨ad226, e226, hx226_0⟩ := Kd.zbq HR0.out (rd (zh l1 x7_1) 0) p226 q226;obtain rfl : ad221 = ad226 := (by injection e226);replace p226 := eq_true p226;replace q226 := eq_true q226;go_wp2;go_ret;exact ⟨by first | rfl | (simp; done) | (simp [*]; done), by repeat (first | exact zbj.refl _ | apply zbj.step)⟩
             ·rw [if_neg c14] at H
              have c14b0 : decide (0 < (rd l0 (rd (zh l1 x7_1) 0))) = false := decide_eq_false c14;clear c14;have H' := za.mk H;clear H;have p222 : 0 ≤ (x7_1 : Int) := of_decide_eq_true Zas;have q222 : x7_1 < (l1.length : Int) := of_decide_eq_true Zas;obtain ⟨ad222, A222_0, c222_0, e222, hx222_0, hl222_0, hi222_0⟩ := zc6 HR1.out x7_1 p222 q222
              cases e222
              have HR222_0 := za.mk hi222_0;have HC222_0 := za.mk hl222_0;clear hi222_0 hl222_0;replace p222 := eq_true p222;replace q222 := eq_true q222;have p223 : 0 ≤ (1 : Int) := (by omega);have q223 : 1 < ((zh l1 x7_1).length : Int) := of_decide_eq_true Zas;obtain ⟨ad223, e223, hx223_0⟩ := Kd.zbq HR222_0.out 1 p223 q223
              cases e223
              (try simp only [show (1 : Int).toNat = 1 from rfl, Nat.reduceMul, Nat.reduceEqDiff, Go.Addr.add, ↓reduceIte] at hx223_0);have qi223 : (1 < (zh l1 x7_1).length) = True := eq_true (by omega);(try rw [show ((1 : Int)).toNat = 1 from rfl] at hx223_0);replace p223 := eq_true p223;replace q223 := eq_true q223;have p224 : 0 ≤ (x7_1 : Int) := of_decide_eq_true Zas;have q224 : x7_1 < (l1.length : Int) := of_decide_eq_true Zas;obtain ⟨ad224, A224_0, c224_0, e224, hx224_0, hl224_0, hi224_0⟩ := zc6 HR1.out x7_1 p224 q224;obtain rfl : ad222 = ad224 := (by injection e224);have HR224_0 := za.mk hi224_0;have HC224_0 := za.mk hl224_0;clear hi224_0 hl224_0;replace p224 := eq_true p224;replace q224 := eq_true q224;have ea_ := Option.some.inj (hx222_0.symm.trans hx224_0);injection ea_ with ea_ en_ ec_;subst ea_;subst ec_;clear en_;have p225 : 0 ≤ (0 : Int) := (by omega);have q225 : 0 < ((zh l1 x7_1).length : Int) := of_decide_eq_true Zas;obtain ⟨ad225, e225, hx225_0⟩ := Kd.zbq HR224_0.out 0 p225 q225
              cases e225
              have qi225 : (0 < (zh l1 x7_1).length) = True := eq_true (by omega);(try rw [show ((0 : Int)).toNat = 0 from rfl] at hx225_0);(try rw [Addr.add_zero'] at hx225_0);replace p225 := eq_true p225;replace q225 := eq_true q225;have p226 : 0 ≤ ((rd (zh l1 x7_1) 0) : Int) := of_decide_eq_true Zas;have q226 : (rd (zh l1 x7_1) 0) < (l0.length : Int) := of_decide_eq_true Zas;obtain ⟨ad226, e226, hx226_0⟩ := Kd.zbq HR0.out (rd (zh l1 x7_1) 0) p226 q226;obtain rfl : ad221 = ad226 := (by injection e226);replace p226 := eq_true p226;replace q226 := eq_true q226;go_wp2;go_roundg k1
              case measure => have := HK1.out; omega
              case rel => exact ⟨(wrap64 (x7_1 + 1)), Zrs, H', ⟨by have := HK1.out; omega⟩, by repeat (first | exact zbj.refl _ | apply zbj.step)⟩
            ·rw [if_neg c13] at H
             exact absurd H (by simp)
           ·rw [if_neg c12] at H
            exact absurd H (by simp)
          ·rw [if_neg c11] at H
           exact absurd H (by simp)
         ·rw [if_neg c10] at H
          have c10b0 : ((rd (zh l1 x7_1) 1) == a2) = false := beq_eq_false_iff_ne.mpr c10;have c10b1 : ((rd (zh l1 x7_1) 1) != a2) = true := bne_iff_ne.mpr c10;have H' := za.mk H;clear H;have p222 : 0 ≤ (x7_1 : Int) := of_decide_eq_true Zas;have q222 : x7_1 < (l1.length : Int) := of_decide_eq_true Zas;obtain ⟨ad222, A222_0, c222_0, e222, hx222_0, hl222_0, hi222_0⟩ := zc6 HR1.out x7_1 p222 q222
          cases e222
          have HR222_0 := za.mk hi222_0;have HC222_0 := za.mk hl222_0;clear hi222_0 hl222_0;replace p222 := eq_true p222;replace q222 := eq_true q222;have p223 : 0 ≤ (1 : Int) := (by omega);have q223 : 1 < ((zh l1 x7_1).length : Int) := of_decide_eq_true Zas;obtain ⟨ad223, e223, hx223_0⟩ := Kd.zbq HR222_0.out 1 p223 q223
          cases e223
          (try simp only [show (1 : Int).toNat = 1 from rfl, Nat.reduceMul, Nat.reduceEqDiff, Go.Addr.add, ↓reduceIte] at hx223_0);have qi223 : (1 < (zh l1 x7_1).length) = True := eq_true (by omega);(try rw [show ((1 : Int)).toNat = 1 from rfl] at hx223_0);replace p223 := eq_true p223;replace q223 := eq_true q223;go_wp2;go_roundg k1
          case measure => have := HK1.out; omega
          case rel => exact ⟨(wrap64 (x7_1 + 1)), Zrs, H', ⟨by have := HK1.out; omega⟩, by repeat (first | exact zbj.refl _ | apply zbj.step)⟩
        ·rw [if_neg c9] at H
         exact absurd H (by simp)
       ·rw [if_neg c8] at H
        exact absurd H (by simp)
      ·rw [if_neg c7] at H
       have c7b0 : decide (x7_1 < (l1.length : Int)) = false := decide_eq_false c7;clear c7;obtain rfl := Option.some.inj H;go_wp2;go_ret;exact ⟨by first | rfl | (simp; done) | (simp [*]; done), by repeat (first | exact zbj.refl _ | apply zbj.step)⟩
  ·rw [if_neg c5] at H
   exact absurd H (by simp)
 ·rw [if_neg c4] at H
  exact absurd H (by simp)
def zl.l1 (k : Nat) (es : List (List Int)) (m : Int) (left : List Int) (n : Nat) : Nat → Nat → List Int → Option (List Int)
  | 0, _, _ => none
  | d + 1, i, run => if i < n then (if (run.length : Int) < m then ((zbp.f k left es (i : Int)).bind fun t => (zl.l1 k es m left n d (i + 1) (if t = true then run ++ [(i : Int)] else run))) else (some run)) else (some run)
def zdq (now : Int) (p : List Int × List Int × Int) (i : Int) : List Int × List Int × Int := (p.1.set i.toNat (wrap64 (rd p.1 i - 1)), if wrap64 (rd p.1 i - 1) = 0 then (p.2.1.set i.toNat (wrap64 (now + 1)), wrap64 (p.2.2 + 1)) else (p.2.1, p.2.2))
def zl.l0 (c : List Int) (es : List (List Int)) (m : Int) : Nat → Int → Int → List Int → List Int → List (List Int) → Option (List (List Int) × List Int)
  | 0, _, _, _, _, _ => none
  | k + 1, done, now, left, fin, rows => if done < (c.length : Int) then (if rows.length < 1000000 then ((zl.l1 k es m left c.length (c.length + 1) 0 []).bind fun run => (if (∀ x ∈ run, 0 ≤ x ∧ x < (c.length : Int)) then (zl.l0 c es m k (run.foldl (zdq now) (left, fin, done)).2.2 (wrap64 (now + 1)) (run.foldl (zdq now) (left, fin, done)).1 (run.foldl (zdq now) (left, fin, done)).2.1 (rows ++ [run])) else (none))) else (none)) else (some (rows, fin))
def zl.f (k : Nat) (l0 : List Int) (l1 : List (List Int)) (a2 : Int) : Option (List (List Int) × List Int) := (zk.f k l0 l1).bind fun t => (if t = true then ((zcb.f a2 1 5).bind fun u => (if u = true then (if l0.length ≤ 1000 then (zl.l0 l0 l1 a2 k 0 0 l0 (List.replicate l0.length 0) []) else (none)) else (some ([], [])))) else (some ([], [])))
structure GsW (w : World) (n go : Nat) (L F : Option Addr) (cl cf : Nat) (vr : Value) (left fin : List Int) (rows : List (List Int)) (W : World) : Prop where
  o0 : W.cell? ⟨go, 0, none⟩ = some vr
  f0 : W.frozen? ⟨go, 0, none⟩ = false
  o1 : W.cell? ⟨go, 1, none⟩ = some (.slice F n cf)
  lR : Kd.R (Kd.int .i64) 3 W w.heap.size (fun k => some k = (Value.slice L n cl).ownBlock) (.slice L n cl) left
  fR : Kd.R (Kd.int .i64) 3 W w.heap.size (fun k => some k = (Value.slice F n cf).ownBlock) (.slice F n cf) fin
  rR : Kd.R (Kd.slice 3 (Kd.int .i64)) 23 W w.heap.size (fun k => k ≠ go ∧ some k ≠ (Value.slice L n cl).ownBlock ∧ some k ≠ (Value.slice F n cf).ownBlock) vr rows
  bel : Below w.heap.size w W
structure GsNe (w : World) (n go : Nat) (L F : Option Addr) (cl cf : Nat) : Prop where
  gon : w.heap.size ≤ go
  gL : ∀ k, (Value.slice L n cl).ownBlock = some k → w.heap.size ≤ k ∧ k ≠ go
  gF : ∀ k, (Value.slice F n cf).ownBlock = some k → w.heap.size ≤ k ∧ k ≠ go
  LF : ∀ k, (Value.slice L n cl).ownBlock = some k → some k ≠ (Value.slice F n cf).ownBlock
section
variable {w W W1 : World} {n go : Nat} {L F : Option Addr} {cl cf : Nat} {vr : Value} {left fin : List Int} {rows : List (List Int)}
theorem GsW.below (h : GsW w n go L F cl cf vr left fin rows W) (hb : Below W.heap.size W W1) : GsW w n go L F cl cf vr left fin rows W1 :=
  ⟨(hb.cell (World.block_lt_of_cell? _ _ h.o0)).trans h.o0, (hb.frozen (World.block_lt_of_cell? _ _ h.o0)).trans h.f0, (hb.cell (World.block_lt_of_cell? _ _ h.o1)).trans h.o1,
   Kd.zc3 h.lR hb, Kd.zc3 h.fR hb, Kd.zc3 h.rR hb, zbi h.bel hb⟩
theorem GsW.zhi {g : Nat} (h : GsW w n go (some ⟨g, 0, none⟩) F cl cf vr left fin rows W) (ne : GsNe w n go (some ⟨g, 0, none⟩) F cl cf) (i : Nat) (x : Int) :
    GsW w n go (some ⟨g, 0, none⟩) F cl cf vr (left.set i x) fin rows (W.setCell ⟨g, i, none⟩ (.int .i64 x)) := by
  have ho : (Value.slice (some ⟨g, 0, none⟩) n cl).ownBlock = some g := rfl
  have hg := ne.gL g ho
  have h1 := (Kd.zfr h.lR (i : Int) x).1
  rw [Int.toNat_natCast] at h1
  refine ⟨?_, by rw [World.frozen?_setCell]; exact h.f0, ?_, h1, Kd.zdo h.fR (fun k hk e => ne.LF g ho (by rw [← hk]; exact congrArg some e.symm)) _, Kd.zdo h.rR (fun k hk e => hk.2.1 (by rw [ho]; exact congrArg some e)) _, h.bel.setCell hg.1 _⟩
  · rw [World.cell?_setCell_far _ _ _ _ hg.2]; exact h.o0
  · rw [World.cell?_setCell_far _ _ _ _ hg.2]; exact h.o1
theorem GsW.setFin {g : Nat} (h : GsW w n go L (some ⟨g, 0, none⟩) cl cf vr left fin rows W) (ne : GsNe w n go L (some ⟨g, 0, none⟩) cl cf) (i : Nat) (x : Int) :
    GsW w n go L (some ⟨g, 0, none⟩) cl cf vr left (fin.set i x) rows (W.setCell ⟨g, i, none⟩ (.int .i64 x)) := by
  have ho : (Value.slice (some ⟨g, 0, none⟩) n cf).ownBlock = some g := rfl
  have hg := ne.gF g ho
  have h1 := (Kd.zfr h.fR (i : Int) x).1
  rw [Int.toNat_natCast] at h1
  refine ⟨?_, by rw [World.frozen?_setCell]; exact h.f0, ?_, Kd.zdo h.lR (fun k hk e => ne.LF k hk.symm (by rw [ho]; exact congrArg some e)) _, h1, Kd.zdo h.rR (fun k hk e => hk.2.2 (by rw [ho]; exact congrArg some e)) _, h.bel.setCell hg.1 _⟩
  · rw [World.cell?_setCell_far _ _ _ _ hg.2]; exact h.o0
  · rw [World.cell?_setCell_far _ _ _ _ hg.2]; exact h.o1
end
theorem GsW.setRows {w W W1 : World} {n go : Nat} {L F : Option Addr} {cl cf : Nat} {vr v1 : Value} {left fin : List Int} {rows rows1 : List (List Int)} (h : GsW w n go L F cl cf vr left fin rows W) (ne : GsNe w n go L F cl cf) (hg : W.grownBy W1 vr.ownBlock) (hb : Below w.heap.size w W1)
    (hr : Kd.R (Kd.slice 3 (Kd.int .i64)) 23 W1 w.heap.size (fun k => k ≠ go ∧ some k ≠ (Value.slice L n cl).ownBlock ∧ some k ≠ (Value.slice F n cf).ownBlock) v1 rows1) : GsW w n go L F cl cf v1 left fin rows1 (W1.setCell ⟨go, 0, none⟩ v1) := by
  have hv := h.rR.1
  have hgo : some go ≠ vr.ownBlock := fun e => (hv go e.symm).1 rfl
  have c0 := hg.cell h.o0 hgo
  have c1 := hg.cell h.o1 hgo
  have fz : W1.frozen? ⟨go, 0, none⟩ = false := (World.frozen?_of_block (hg.block go (World.block_lt_of_cell? _ _ h.o0) hgo)).trans h.f0
  refine ⟨World.cell?_setCell_same _ _ _ c0, by rw [World.frozen?_setCell]; exact fz, ?_, ?_, ?_, Kd.zdo hr (fun k hk e => hk.1 e) _, hb.setCell ne.gon _⟩
  · rw [World.cell?_setCell_other _ _ _ _ (by simp)]; exact c1
  · exact Kd.zdo (Kd.zg3 h.lR hg (fun k hk e => (hv k e.symm).2.1 hk)) (fun k hk e => (ne.gL k hk.symm).2 e) _
  · exact Kd.zdo (Kd.zg3 h.fR hg (fun k hk e => (hv k e.symm).2.2 hk)) (fun k hk e => (ne.gF k hk.symm).2 e) _
theorem sl1_len (k : Nat) (es : List (List Int)) (m : Int) (left : List Int) (n : Nat) : ∀ d i run rr, zl.l1 k es m left n d i run = some rr → run.length ≤ i → i ≤ n → rr.length ≤ n
  | 0, _, _, _, h, _, _ => by simp [zl.l1] at h
  | d + 1, i, run, rr, h, hl, hi => by
    rw [zl.l1] at h
    split at h
    · split at h
      · cases ht : zbp.f k left es (i : Int) with
        | none => rw [ht] at h; simp at h
        | some t =>
          rw [ht] at h
          simp only [Option.bind_some] at h
          exact sl1_len k es m left n d (i + 1) _ rr h (by split <;> (try rw [List.length_append, List.length_singleton]) <;> omega) (by omega)
      · have := Option.some.inj h
        subst this; omega
    · have := Option.some.inj h
      subst this; omega
theorem zeh (now : Int) : ∀ (l : List Int) (p : List Int × List Int × Int), (l.foldl (zdq now) p).1.length = p.1.length ∧ (l.foldl (zdq now) p).2.1.length = p.2.1.length := by
  intro l
  induction l with
  | nil => intro p; exact ⟨rfl, rfl⟩
  | cons a l ih =>
    intro p
    have := ih (zdq now p a)
    rw [List.foldl_cons, this.1, this.2]
    unfold zdq
    refine ⟨by simp, ?_⟩
    simp only
    split <;> simp
def zl.T19 : Bool × List (List Nat × List Nat) := (true, [([], []), ([], []), ([], []), ([1, 2], [1, 2]), ([3], [3]), ([], []), ([], []), ([], []), ([6, 7], [6, 7]), ([8], [8]), ([5, 9], [5, 9]), ([10], [10]), ([11], [11]), ([0, 4, 0, 1, 2, 3, 4, 5, 6, 7, 8, 9, 10, 11, 12], [0, 4]), ([13, 12, 0, 1, 2, 3, 4, 5, 6, 7, 8, 9, 10, 11, 12], [12, 13])])
def zl.B19 : List Nat := [0, 0, 0, 6, 14, 0, 0, 0, 192, 448, 992, 2016, 4064, 8191, 16383]
theorem zl.tab19 : rtab .any (opsOf Try.f10 19) = zl.T19 := by kernel_rfl
theorem zl.bits19 : zdw zl.T19.2 zl.B19 = true := by kernel_rfl
def zl.T21 : Bool × List (List Nat × List Nat) := (true, [([], []), ([0], [0]), ([], []), ([], []), ([2, 3], [2, 3]), ([4], [4]), ([], []), ([6], [6]), ([1, 5, 0, 1, 2, 3, 4, 5, 6, 7], [1, 5]), ([8, 7, 0, 1, 2, 3, 4, 5, 6, 7], [7, 8])])
def zl.B21 : List Nat := [0, 1, 0, 0, 12, 28, 0, 64, 255, 511]
theorem zl.tab21 : rtab .any (opsOf Try.f10 21) = zl.T21 := by kernel_rfl
theorem zl.bits21 : zdw zl.T21.2 zl.B21 = true := by kernel_rfl
set_option maxHeartbeats 16000000 in
theorem zl.calls (k : Nat) (A0 : Option Addr) (c0 : Nat) (l0 : List Int) (A1 : Option Addr) (c1 : Nat) (l1 : List (List Int)) (a2 : Int) (r1 : List (List Int)) (r2 : List Int) (w : World) (hr0 : Kd.C (Kd.int .i64) w A0 l0.length l0) (hc0 : l0.length ≤ c0) (hr1 : Kd.C (Kd.slice 3 (Kd.int .i64)) w A1 l1.length l1) (hc1 : l1.length ≤ c1) (h : zl.f k l0 l1 a2 = some (r1, r2)) :
    Calls Try.prog 10 #[.slice A0 l0.length c0, .slice A1 l1.length c1, .int .i64 a2] w fun e w' => ∃ v0_ v1_ : Value, e = .returned (.agg #[v0_, v1_]) ∧ Kd.Qc (Kd.cut 3 (Kd.int .i64)) 23 w' w.heap.size (fun k_ => some k_ ≠ (v1_ : Value).ownBlock) v0_ r1 ∧ Kd.Qc (Kd.int .i64) 3 w' w.heap.size (fun k_ => some k_ ≠ (v0_ : Value).ownBlock) v1_ r2 ∧ Below w.heap.size w w' := by
  unfold zl.f at h
  have B0 := za.mk (zbo (Below.refl w.heap.size w) (.cells #[.slice none 0 0, .slice none 0 0] 28))
  have K0 := za.mk (zdi w (.cells #[.slice none 0 0, .slice none 0 0] 28))
  have S0 := za.mk (show (w.alloc (.cells #[.slice none 0 0, .slice none 0 0] 28)).heap.size = w.heap.size + 1 by simp)
  generalize hW0 : w.alloc (.cells #[.slice none 0 0, .slice none 0 0] 28) = W0 at B0 K0 S0
  have K1 := za.mk (show (W0.alloc (.cells #[.slice none 0 0, .slice none 0 0] 28)).heap[w.heap.size + 1]? = some (.cells #[.slice none 0 0, .slice none 0 0] 28 (0, 0)) by rw [← S0.out]; exact zdi W0 _)
  have B1 := za.mk (zbo (Below.refl W0.heap.size W0) (.cells #[.slice none 0 0, .slice none 0 0] 28))
  have K01 := za.mk (zb0 K0.out (.cells #[.slice none 0 0, .slice none 0 0] 28))
  have S1 := za.mk (show (W0.alloc (.cells #[.slice none 0 0, .slice none 0 0] 28)).heap.size = w.heap.size + 2 by rw [World.size_alloc, S0.out])
  generalize hW1 : W0.alloc (.cells #[.slice none 0 0, .slice none 0 0] 28) = W1 at K1 B1 K01 S1
  have HW := za.mk hW0
  have HW1 := za.mk hW1
  have HE := za.mk (Kd.zci hr1 B0.out)
  have HR0 := za.mk (Kd.zci hr0 (zcq B0.out B0.out.size B1.out))
  have HC0 := za.mk hc0
  have HR1 := za.mk (Kd.zci hr1 (zcq B0.out B0.out.size B1.out))
  have HC1 := za.mk hc1
  clear hr0 hc0 hr1 hc1 hW0 hW1
  cases hs : zk.f k l0 l1 with
  | none => rw [hs] at h; simp at h
  | some t =>
    rw [hs] at h
    have HS := za.mk hs
    clear hs
    cases t with
    | false =>
      simp at h
      obtain ⟨rfl, rfl⟩ := h
      go_enter Try.func10, Try.ntmps10
      go_wp2_with (go_at_call 13; (try rw [HW.out]); (try rw [HW1.out]); refine (zk.calls k A0 c0 l0 A1 c1 l1 false _ HR0.out HC0.out HR1.out HC1.out HS.out).mono ?_; rintro e w1 ⟨rfl, hb⟩; have BK1 := zb1 K01.out hb; have r0 := (z8 BK1 0); have r1 := (z8 BK1 1); have f0 := zy BK1 0; have f1 := zy BK1 1; have BG1 := zb1 K1.out hb; have g0 := (z8 BG1 0); have g1 := (z8 BG1 1); have BK := za.mk BK1; have HB := za.mk (zcq (zcq B0.out B0.out.size B1.out) (Nat.le_trans B0.out.size B1.out.size) hb); clear hb BK1 BG1)
      refine bodyPost_ret (results_cell_row rfl _ _ w.heap.size 28 #[.slice none 0 0, .slice none 0 0] (0, 0) _ rfl (by refine zcr (cs := #[.slice none 0 0, .slice none 0 0]) ?_ 1 _ rfl; refine zcr (cs := #[.slice none 0 0, .slice none 0 0]) ?_ 0 _ rfl; exact BK.out) Try.underlying28 rfl (by kernel_rfl)) rfl ?_
      exact ⟨_, _, rfl, Kd.ze2 _ _ _ _ _, Kd.ze2 _ _ _ _ _, (HB.out.setCell (Nat.le_refl _) _).setCell (Nat.le_refl _) _⟩
    | true =>
      simp only [Option.bind_some, if_true] at h
      cases hu : zcb.f a2 1 5 with
      | none => rw [hu] at h; simp at h
      | some u =>
        rw [hu] at h
        have HU := za.mk hu
        clear hu
        cases u with
        | false =>
          simp at h
          obtain ⟨rfl, rfl⟩ := h
          go_enter Try.func10, Try.ntmps10
          go_wp2_with (first
            | (go_at_call 13; (try rw [HW.out]); (try rw [HW1.out]); refine (zk.calls k A0 c0 l0 A1 c1 l1 true _ HR0.out HC0.out HR1.out HC1.out HS.out).mono ?_; rintro e w1 ⟨rfl, hb⟩; have BK1 := zb1 K01.out hb; have r0 := (z8 BK1 0); have r1 := (z8 BK1 1); have f0 := zy BK1 0; have f1 := zy BK1 1; have BG1 := zb1 K1.out hb; have g0 := (z8 BG1 0); have g1 := (z8 BG1 1); have BK := za.mk BK1; have HB := za.mk (zcq (zcq B0.out B0.out.size B1.out) (Nat.le_trans B0.out.size B1.out.size) hb); clear hb BK1 BG1)
            | (go_at_call 39; refine (zcb.calls a2 1 5 false _ HU.out).mono ?_; rintro e w2 ⟨rfl, ⟨q2, rfl⟩⟩))
          refine bodyPost_ret (results_cell_row rfl _ _ w.heap.size 28 #[.slice none 0 0, .slice none 0 0] (0, 0) _ rfl (by refine zcr (cs := #[.slice none 0 0, .slice none 0 0]) ?_ 1 _ rfl; refine zcr (cs := #[.slice none 0 0, .slice none 0 0]) ?_ 0 _ rfl; exact zbw BK.out _) Try.underlying28 rfl (by kernel_rfl)) rfl ?_
          exact ⟨_, _, rfl, Kd.ze2 _ _ _ _ _, Kd.ze2 _ _ _ _ _, ((zbk HB.out _).setCell (Nat.le_refl _) _).setCell (Nat.le_refl _) _⟩
        | true =>
          simp only [Option.bind_some, if_true] at h
          by_cases hh : l0.length ≤ 1000
          · rw [if_pos hh] at h
            have HN := za.mk hh
            have H := za.mk h
            clear hh h
            go_enter Try.func10, Try.ntmps10
            go_wp2_with (first
              | (go_at_call 13; (try rw [HW.out]); (try rw [HW1.out]); refine (zk.calls k A0 c0 l0 A1 c1 l1 true _ HR0.out HC0.out HR1.out HC1.out HS.out).mono ?_; rintro e w1 ⟨rfl, hb⟩; have HB1 := za.mk hb; have BK := za.mk (zb1 K01.out hb); have BG := za.mk (zb1 K1.out hb); clear hb)
              | (go_at_call 39; refine (zcb.calls a2 1 5 true _ HU.out).mono ?_; rintro e w2 ⟨rfl, ⟨q2, rfl⟩⟩)
              | ((with_reducible refine zb8 (N := 25) rfl ?_); refine Kd.zft (Kd.int .i64) _ 3 ?hg (N := 25) ?hd (xs := ([] : List Int)) (inner := []) (ok := fun _ => True) (okp := fun _ => True) ?hr ?hp (fun _ hk => hk) trivial (Below.refl _ _) (Nat.le_refl _) (by simp) ?_; (case hd => rfl); (case hg => rfl); (case hr => first | (go_simp; done) | (go_simp; rfl)); (case hp => exact (Reps.none _ _)); intro v4 w4 ho4 hb4 hg_ hnew_; have R4 := za.mk ho4; have B4 := za.mk hb4; clear hg_ hnew_ ho4 hb4)
              | ((with_reducible refine zb4 (b := .append) (xs := #[.tmp 25, .tmp 26]) rfl ?_); at_builtin; refine Kd.ze9 (Kd.int .i64) (w0 := w1.drewN q2) (w1.drewN q2).heap.size rfl (.tmp 25) (.tmp 26) 23 3 (.int .i64 0) 8 rfl Try.underlying23 info3 rfl (by decide) (by omega) v4 ([] : List Int) l0 _ _ _ (fun _ => True) (fun _ => False) rfl rfl ?aO ?aR (fun _ _ h => h) (fun _ h => h.elim) ?aF ?aB ?aS ?aL ?_; (case aR => exact Kd.zci (Kd.zdc (Kd.zci HR0.out HB1.out) _) B4.out); (case aB => exact B4.out); (case aF => exact (fun _ _ => trivial)); (case aO => exact R4.out); (case aS => exact B4.out.size); (case aL => have := HN.out; simp; omega); intro v5 w5 ho5 hb5 hg5 hat5; rw [List.nil_append] at ho5; obtain ⟨L, cl, eL⟩ := Kd.zce ho5; subst eL; have R5 := za.mk ho5; have B5 := za.mk hb5; clear ho5 hb5 hg5 hat5)
              | ((with_reducible refine zb8 (N := 30) rfl ?_); refine Kd.R_make (Kd.int .i64) _ 3 rfl (N := 30) rfl 23 _ _ rfl (l0.length : Int) rfl rfl Try.underlying23 (.int .i64 0) 8 info3 rfl (by decide) (by omega) 0 (ok := fun _ => True) (okp := fun _ => True) rfl (fun _ hk => hk) trivial (by omega) (by have := HN.out; rw [Int.toNat_natCast]; omega) (Below.refl _ _) (Nat.le_refl _) ?_; intro v6 w6 ho hb hg_ hnew_; rw [Int.toNat_natCast] at ho; obtain ⟨F, cf, ev⟩ := Kd.zce ho; rw [List.length_replicate] at ev; subst ev; have RF := za.mk ho; have B6 := za.mk hb; have BG6 := zb1 (zb1 (zbw BG.out q2) B5.out) hb; have cg1 := (z8 BG6 1).trans rfl; have fg1 := zy BG6 1; have BGG := za.mk BG6; clear ho hb hg_ hnew_ BG6))
            obtain ⟨go, hgo⟩ : ∃ go, go = w.heap.size + 1 := ⟨_, rfl⟩
            have s0 := S0.out
            have s1 := S1.out
            have s2 : W1.heap.size ≤ w1.heap.size := HB1.out.size
            have s3 : w1.heap.size ≤ w5.heap.size := B5.out.size
            have s4 := B6.out.size
            have s5 : (w1.drewN q2).heap.size = w1.heap.size := rfl
            have NE := za.mk (show GsNe W0 l0.length go L F cl cf from ⟨by omega, fun k hk => by
              have h1 := Kd.zd5 R5.out k hk
              omega, fun k hk => by
              have h1 := Kd.zd5 RF.out k hk
              omega, fun k hk e => by
              have h1 := Kd.R_lt R5.out k hk
              have h2 := Kd.zd5 RF.out k e.symm
              omega⟩)
            have GW := za.mk (show GsW W0 l0.length go L F cl cf (.slice none 0 0) l0 (List.replicate l0.length 0) [] (w6.setCell ⟨w.heap.size + 1, 1, none⟩ (.slice F l0.length cf)) from ⟨by
                rw [hgo, World.cell?_setCell_other _ _ _ _ (by simp)]; exact (z8 BGG.out 0).trans rfl,
              by rw [World.frozen?_setCell, hgo]; exact zy BGG.out 0,
              by rw [hgo]; exact World.cell?_setCell_same _ _ _ cg1,
              Kd.zdo (Kd.zew rfl (Kd.zcg (Kd.zc3 R5.out B6.out) (by omega))) (fun k hk e => by have := NE.out.gL k hk.symm; simp only at e; omega) _,
              Kd.zdo (Kd.zew rfl (Kd.zcg RF.out (by omega))) (fun k hk e => by have := NE.out.gF k hk.symm; simp only at e; omega) _,
              Kd.R_nil _ _ _ _ _,
              (zbi (zbi (zbk (zbi B1.out HB1.out) _) B5.out) B6.out).setCell (by simp only; omega) _⟩)
            clear s0 s1 s2 s3 s4 s5 cg1 fg1
            clear BGG RF R5 R4 B4 B5 B6 BG BK HB1
            generalize w6.setCell ⟨w.heap.size + 1, 1, none⟩ (.slice F l0.length cf) = W6 at GW ⊢
            rw [← hgo]
            have HGO := za.mk hgo
            clear hgo
            go_loopg [9, 10] k (fun gg v9 v10 wr => ∃ (k2 : Nat) (done now : Int) (left fin : List Int) (rows : List (List Int)) (vr : Value), v9 = .int .i64 done ∧ v10 = .int .i64 now ∧ k2 ≤ gg ∧ k2 ≤ k ∧ left.length = l0.length ∧ fin.length = l0.length ∧ za (zl.l0 l0 l1 a2 k2 done now left fin rows = some (r1, r2)) ∧ za (GsW W0 l0.length go L F cl cf vr left fin rows wr))
            case atStart => exact ⟨k, 0, 0, l0, List.replicate l0.length 0, [], .slice none 0 0, rfl, rfl, Nat.le_refl _, Nat.le_refl _, rfl, List.length_replicate, H, GW⟩
            case round =>
              obtain ⟨k2, done, now, left, fin, rows, vr, rfl, rfl, hg, hk2, hll, hfl, HL, GR⟩ := hrel
              clear GW H
              cases k2 with
              | zero => exact absurd HL.out (by simp [zl.l0])
              | succ k3 =>
                have hL := HL.out
                rw [zl.l0] at hL
                clear HL
                by_cases hd : done < (l0.length : Int)
                · rw [if_pos hd] at hL
                  by_cases hrl : rows.length < 1000000
                  · rw [if_pos hrl] at hL
                    cases hrun : zl.l1 k3 l1 a2 left l0.length (l0.length + 1) 0 [] with
                    | none => rw [hrun] at hL; simp at hL
                    | some run =>
                      rw [hrun] at hL
                      simp only [Option.bind_some] at hL
                      by_cases hrm : ∀ x ∈ run, 0 ≤ x ∧ x < (l0.length : Int)
                      · rw [if_pos hrm] at hL
                        have HL := za.mk hL
                        have HRL := za.mk hrl
                        have HRUN := za.mk hrun
                        have HRM := za.mk hrm
                        have HRLEN := za.mk (sl1_len k3 l1 a2 left l0.length (l0.length + 1) 0 [] run hrun (Nat.le_refl _) (Nat.zero_le _))
                        have HLL := za.mk hll
                        have HFL := za.mk hfl
                        clear hL hrl hrun hrm hll hfl
                        generalize wr = w7 at GR ⊢
                        go_wp2_with ((with_reducible refine zb8 (N := 38) rfl ?_); refine Kd.zft (Kd.int .i64) _ 3 ?hg (N := 38) ?hd (xs := ([] : List Int)) (inner := []) (ok := fun _ => True) (okp := fun _ => True) ?hr ?hp (fun _ hk => hk) trivial (Below.refl _ _) (Nat.le_refl _) (by simp) ?_; (case hd => rfl); (case hg => rfl); (case hr => first | (go_simp; done) | (go_simp; rfl)); (case hp => exact (Reps.none _ _)); intro v8 w8 ho8 hb8 hg_ hnew_; have R8 := za.mk ho8; have B8 := za.mk hb8; clear hg_ hnew_ ho8 hb8)
                        go_loopg [11, 12] l0.length (fun gg v11 v12 wr => ∃ (i d : Nat) (rn : List Int), v12 = .int .i64 i ∧ i ≤ l0.length ∧ l0.length - i ≤ gg ∧ rn.length ≤ i ∧ za (zl.l1 k3 l1 a2 left l0.length d i rn = some run) ∧ za (Kd.R (Kd.int .i64) 3 wr w7.heap.size (fun _ => True) v11 rn) ∧ za (Below w7.heap.size w7 wr))
                        case atStart => exact ⟨0, l0.length + 1, [], by go_num, Nat.zero_le _, by omega, Nat.le_refl _, HRUN, R8, B8⟩
                        case round =>
                          obtain ⟨i, d, rn, rfl, hil, hgi, hri, H1, RP, BP⟩ := hrel
                          clear R8 B8 HRUN
                          obtain ⟨P, cp, eP⟩ := Kd.zce RP.out
                          subst eP
                          have hN := HN.out
                          cases d with
                          | zero => exact absurd H1.out (by simp [zl.l1])
                          | succ d =>
                            have h1 := H1.out
                            rw [zl.l1] at h1
                            clear H1
                            by_cases hi : i < l0.length
                            · have hiz : (i : Int) < (l0.length : Int) := by omega
                              rw [if_pos hi] at h1
                              by_cases hm : (rn.length : Int) < a2
                              · rw [if_pos hm] at h1
                                cases ht : zbp.f k3 left l1 (i : Int) with
                                | none => rw [ht] at h1; simp at h1
                                | some t =>
                                  rw [ht] at h1
                                  simp only [Option.bind_some] at h1
                                  have GI := za.mk (GR.out.below BP.out)
                                  have hcon := zbp.calls k3 L cl left A1 c1 l1 (i : Int) t wr (Kd.zcj GI.out.lR).2.2 (by have := (Kd.zcj GI.out.lR).2.1; rw [HLL.out]; exact this) (Kd.zci HE.out GI.out.bel) HC1.out ht
                                  rw [HLL.out] at hcon
                                  have HCON := za.mk hcon
                                  have H1 := za.mk h1
                                  clear hcon h1 ht
                                  cases t with
                                  | true =>
                                    go_wp2_with (first | (go_at_call 40; refine HCON.out.mono ?_; rintro e w9 ⟨rfl, ⟨q9, rfl⟩⟩; have R9 := za.mk (Kd.zdv RP.out q9); have B9 := za.mk (zbk BP.out q9)) | ((with_reducible refine zb4 (b := .append) (xs := #[.tmp 55, .tmp 57]) rfl ?_); at_builtin; refine Kd.zds (Kd.int .i64) (w0 := w7) w7.heap.size rfl (.tmp 55) (.tmp 57) 23 3 (.int .i64 0) 8 rfl Try.underlying23 info3 rfl (by decide) (by omega) (.slice P rn.length cp) rn (i : Int) [.int .i64 (i : Int)] (fun _ => True) (fun _ => False) rfl rfl ?aP (fun _ hk => hk.elim) ?aF ?aO ?aB ?aS ?aL ?_; (case aP => exact rfl); (case aB => exact B9.out); (case aF => exact (fun _ _ => trivial)); (case aO => exact R9.out); (case aS => exact B9.out.size); (case aL => omega); intro v10 w10 ho hb hg hat; have R10 := za.mk ho; have B10 := za.mk hb; clear ho hb hg hat))
                                    go_roundg (l0.length - (i + 1))
                                    case measure => omega
                                    case rel => exact ⟨i + 1, d, rn ++ [(i : Int)], by go_num, by omega, by omega, by rw [List.length_append, List.length_singleton]; omega, H1, R10, B10⟩
                                  | false =>
                                    go_wp2_with (go_at_call 40; refine HCON.out.mono ?_; rintro e w9 ⟨rfl, ⟨q9, rfl⟩⟩; have R9 := za.mk (Kd.zdv RP.out q9); have B9 := za.mk (zbk BP.out q9))
                                    go_roundg (l0.length - (i + 1))
                                    case measure => omega
                                    case rel => exact ⟨i + 1, d, rn, by go_num, by omega, by omega, by omega, H1, R9, B9⟩
                              · rw [if_neg hm] at h1
                                have HX := za.mk (show rn = run from Option.some.inj h1)
                                clear h1
                                obtain ⟨pl, hpl⟩ : ∃ pl, run = pl := ⟨_, rfl⟩
                                rw [hpl] at HX HL HRM HRLEN
                                have hx := HX.out
                                subst hx
                                clear hpl
                                have hrl3 := HRLEN.out
                                have GLT := za.mk (show go < w7.heap.size from World.block_lt_of_cell? _ _ GR.out.o0)
                                have LLT := za.mk (fun k hk => Kd.R_lt GR.out.lR k hk)
                                have FLT := za.mk (fun k hk => Kd.R_lt GR.out.fR k hk)
                                obtain ⟨X, cr, ev⟩ := Kd.zce GR.out.rR
                                subst ev
                                have XLT := za.mk (fun k hk => Kd.R_lt GR.out.rR k hk)
                                have W7S := za.mk BP.out.size
                                have GI0 := za.mk (show W0.heap.size ≤ w7.heap.size from GR.out.bel.size)
                                have GI := za.mk (GR.out.below BP.out)
                                have RP1 := za.mk (Kd.zbz (Kd.zc2 RP.out) (ok' := fun k => w7.heap.size ≤ k) (fun _ hk => hk.2.1))
                                clear RP BP GR
                                go_wp2
                                go_loopg [9, 13] rn.length (fun gg v9 v13 wr => ∃ j : Nat, v13 = .int .i64 j ∧ j ≤ rn.length ∧ rn.length - j ≤ gg ∧ v9 = .int .i64 ((rn.take j).foldl (zdq now) (left, fin, done)).2.2 ∧ za (w7.heap.size ≤ wr.heap.size) ∧ za (GsW W0 l0.length go L F cl cf (.slice X rows.length cr) ((rn.take j).foldl (zdq now) (left, fin, done)).1 ((rn.take j).foldl (zdq now) (left, fin, done)).2.1 rows wr) ∧ za (Kd.R (Kd.int .i64) 3 wr w7.heap.size (fun k => w7.heap.size ≤ k) (.slice P rn.length cp) rn))
                                case atStart => exact ⟨0, by go_num, Nat.zero_le _, by omega, rfl, W7S, GI, RP1⟩
                                case round =>
                                  obtain ⟨j, rfl, hjl, hgj, rfl, WS, GJ, RJ⟩ := hrel
                                  clear GI RP1
                                  by_cases hlt : j < rn.length
                                  · have hltz : (j : Int) < (rn.length : Int) := by omega
                                    obtain ⟨adp, eap, hxp⟩ := Kd.zbq (Kd.zcj RJ.out).2.2 (j : Int) (by omega) hltz
                                    cases eap
                                    rw [Int.toNat_natCast] at hxp
                                    have hrr := HRM.out rn[j] (List.getElem_mem hlt)
                                    obtain ⟨a, ha⟩ : ∃ a : Nat, rn[j] = (a : Int) := ⟨rn[j].toNat, by omega⟩
                                    rw [ha] at hrr
                                    rw [show rd rn (j : Int) = (a : Int) by rw [rd, List.getD_eq_getElem?_getD, Int.toNat_natCast, List.getElem?_eq_getElem hlt]; exact ha] at hxp
                                    have HRJ := za.mk (show rd rn (j : Int) = (a : Int) by rw [rd, List.getD_eq_getElem?_getD, Int.toNat_natCast, List.getElem?_eq_getElem hlt]; exact ha)
                                    have haz : (a : Int) < (l0.length : Int) := hrr.2
                                    have hsl := zeh now (rn.take j) (left, fin, done)
                                    obtain ⟨gL, capL, eL, _⟩ := Kd.zf4 GJ.out.lR (by rw [hsl.1]; have := HLL.out; simp only; omega)
                                    injection eL with eL1 eL2 eL3
                                    subst eL1
                                    clear eL2 eL3
                                    obtain ⟨gF, capF, eF, _⟩ := Kd.zf4 GJ.out.fR (by rw [hsl.2]; have := HFL.out; simp only; omega)
                                    injection eF with eF1 eF2 eF3
                                    subst eF1
                                    clear eF2 eF3 hsl
                                    obtain ⟨p, hp⟩ : ∃ p, (rn.take j).foldl (zdq now) (left, fin, done) = p := ⟨_, rfl⟩
                                    rw [hp] at GJ ⊢
                                    obtain ⟨x, hx⟩ : ∃ x, rd p.1 (a : Int) = x := ⟨_, rfl⟩
                                    have hstep : (rn.take (j + 1)).foldl (zdq now) (left, fin, done) = (p.1.set a (wrap64 (x - 1)), if wrap64 (x - 1) = 0 then (p.2.1.set a (wrap64 (now + 1)), wrap64 (p.2.2 + 1)) else (p.2.1, p.2.2)) := by
                                      rw [List.take_succ_eq_append_getElem hlt, List.foldl_append, hp, ha]
                                      show zdq now p (a : Int) = _
                                      unfold zdq
                                      rw [hx, Int.toNat_natCast]
                                    obtain ⟨cd, fd⟩ := Kd.zeb 0 GJ.out.lR (a : Int) (by omega) haz
                                    rw [Int.toNat_natCast] at cd fd
                                    rw [show rdOf 0 p.1 (a : Int) = x from hx] at cd
                                    have HST := za.mk hstep
                                    have HXX := za.mk hx
                                    have HPP := za.mk hp
                                    clear hstep hx hp ha hrr
                                    have hjz : (0 : Int) ≤ (j : Int) := by omega
                                    have haz0 : (0 : Int) ≤ (a : Int) := by omega
                                    go_wp2_with fail
                                    refine zdl (n := 15) (S := fun w' => w'.cell? (adp.add j) = some (.int .i64 (a : Int)) ∧ w'.cell? ⟨gL, a, none⟩ = some (.int .i64 x)) (ds := [14]) #[false, false, false, false, false, false, false, false, false, false, false, false, false, false, false] (by kernel_rfl) rfl rfl ⟨hxp, cd⟩ (fun hHeld => ?_); refine zb9 zl.tab19 zl.bits19 (fun HT_ HW_ => ?_)
                                    refine zi (i := 0) (N := some 65) (v := ?_) (a' := ?_) #[true, false, false, false, false, false, false, false, false, false, false, false, false, false, false] rfl rfl (zb HT_.out (by kernel_rfl)) (fun _ _ _ h => h) (Or.inl ⟨by rfl, ?_⟩) ?_ ?_
                                    rotate_left
                                    · intro w'
                                      go_simp
                                      with_reducible rfl
                                    rotate_left
                                    · simp only [Act.put, List.setIfInBounds_toArray, List.set_cons_zero, List.set_cons_succ, ze, zf]
                                      rfl
                                    refine zi (i := 1) (N := some 66) (v := ?_) (a' := ?_) #[true, true, false, false, false, false, false, false, false, false, false, false, false, false, false] rfl rfl (zb HT_.out (by kernel_rfl)) (fun _ _ _ h => h) (Or.inl ⟨by rfl, ?_⟩) ?_ ?_
                                    rotate_left
                                    · intro w'
                                      go_simp
                                      with_reducible rfl
                                    rotate_left
                                    · simp only [Act.put, List.setIfInBounds_toArray, List.set_cons_zero, List.set_cons_succ, ze, zf]
                                      rfl
                                    refine zi (i := 2) (N := some 67) (v := ?_) (a' := ?_) #[true, true, true, false, false, false, false, false, false, false, false, false, false, false, false] rfl rfl (zb HT_.out (by kernel_rfl)) (fun _ _ _ h => h) (Or.inl ⟨by rfl, ?_⟩) ?_ ?_
                                    rotate_left
                                    · intro w'
                                      go_simp
                                      with_reducible rfl
                                    rotate_left
                                    · simp only [Act.put, List.setIfInBounds_toArray, List.set_cons_zero, List.set_cons_succ, ze, zf]
                                      rfl
                                    refine zi (i := 3) (N := some 68) (v := ?_) (a' := ?_) #[true, true, true, true, false, false, false, false, false, false, false, false, false, false, false] rfl rfl (zb HT_.out (by kernel_rfl)) (fun _ _ _ h => h) (Or.inl ⟨by rfl, ?_⟩) ?_ ?_
                                    rotate_left
                                    · intro w'
                                      go_simp
                                      with_reducible rfl
                                    rotate_left
                                    · simp only [Act.put, List.setIfInBounds_toArray, List.set_cons_zero, List.set_cons_succ, ze, zf]
                                      rfl
                                    refine zi (i := 5) (N := some 70) (v := ?_) (a' := ?_) #[true, true, true, true, false, true, false, false, false, false, false, false, false, false, false] rfl rfl (zb HT_.out (by kernel_rfl)) (fun _ _ _ h => h) (Or.inl ⟨by rfl, ?_⟩) ?_ ?_
                                    rotate_left
                                    · intro w'
                                      go_simp
                                      with_reducible rfl
                                    rotate_left
                                    · simp only [Act.put, List.setIfInBounds_toArray, List.set_cons_zero, List.set_cons_succ, ze, zf]
                                      rfl
                                    refine zi (i := 6) (N := some 71) (v := ?_) (a' := ?_) #[true, true, true, true, false, true, true, false, false, false, false, false, false, false, false] rfl rfl (zb HT_.out (by kernel_rfl)) (fun _ _ _ h => h) (Or.inl ⟨by rfl, ?_⟩) ?_ ?_
                                    rotate_left
                                    · intro w'
                                      go_simp
                                      with_reducible rfl
                                    rotate_left
                                    · simp only [Act.put, List.setIfInBounds_toArray, List.set_cons_zero, List.set_cons_succ, ze, zf]
                                      rfl
                                    refine zi (i := 7) (N := some 72) (v := ?_) (a' := ?_) #[true, true, true, true, false, true, true, true, false, false, false, false, false, false, false] rfl rfl (zb HT_.out (by kernel_rfl)) (fun _ _ _ h => h) (Or.inl ⟨by rfl, ?_⟩) ?_ ?_
                                    rotate_left
                                    · intro w'
                                      go_simp
                                      with_reducible rfl
                                    rotate_left
                                    · simp only [Act.put, List.setIfInBounds_toArray, List.set_cons_zero, List.set_cons_succ, ze, zf]
                                      rfl
                                    refine zi (i := 8) (N := some 73) (v := ?_) (a' := ?_) #[true, true, true, true, false, true, true, true, true, false, false, false, false, false, false] rfl rfl (zb HT_.out (by kernel_rfl)) (fun _ _ _ h => h) (Or.inl ⟨by rfl, ?_⟩) ?_ ?_
                                    rotate_left
                                    · intro w'
                                      go_simp
                                      with_reducible rfl
                                    rotate_left
                                    · simp only [Act.put, List.setIfInBounds_toArray, List.set_cons_zero, List.set_cons_succ, ze, zf]
                                      rfl
                                    refine zb3 (i := 4) (N := some 69) (v := ?_) (a' := ?_) #[true, true, true, true, true, true, true, true, true, false, false, false, false, false, false] rfl rfl (zbf HT_.out HW_.out (by kernel_rfl)) (fun _ _ _ h => h) (Or.inl ⟨by rfl, ?_⟩) hHeld ?_ ?_
                                    rotate_left
                                    · rintro w' ⟨s0, s1⟩
                                      go_simp
                                      with_reducible rfl
                                    rotate_left
                                    · simp only [Act.put, List.setIfInBounds_toArray, List.set_cons_zero, List.set_cons_succ, ze, zf]
                                      rfl
                                    refine zb3 (i := 9) (N := some 74) (v := ?_) (a' := ?_) #[true, true, true, true, true, true, true, true, true, true, false, false, false, false, false] rfl rfl (zbf HT_.out HW_.out (by kernel_rfl)) (fun _ _ _ h => h) (Or.inl ⟨by rfl, ?_⟩) hHeld ?_ ?_
                                    rotate_left
                                    · rintro w' ⟨s0, s1⟩
                                      go_simp
                                      with_reducible rfl
                                    rotate_left
                                    · simp only [Act.put, List.setIfInBounds_toArray, List.set_cons_zero, List.set_cons_succ, ze, zf]
                                      rfl
                                    refine zi (i := 10) (N := some 75) (v := ?_) (a' := ?_) #[true, true, true, true, true, true, true, true, true, true, true, false, false, false, false] rfl rfl (zb HT_.out (by kernel_rfl)) (fun _ _ _ h => h) (Or.inl ⟨by rfl, ?_⟩) ?_ ?_
                                    rotate_left
                                    · intro w'
                                      go_simp
                                      with_reducible rfl
                                    rotate_left
                                    · simp only [Act.put, List.setIfInBounds_toArray, List.set_cons_zero, List.set_cons_succ, ze, zf]
                                      rfl
                                    refine zb3 (i := 11) (N := some 76) (v := ?_) (a' := ?_) #[true, true, true, true, true, true, true, true, true, true, true, true, false, false, false] rfl rfl (zbf HT_.out HW_.out (by kernel_rfl)) (fun _ _ _ h => h) (Or.inl ⟨by rfl, ?_⟩) hHeld ?_ ?_
                                    rotate_left
                                    · rintro w' ⟨s0, s1⟩
                                      go_simp
                                      with_reducible rfl
                                    rotate_left
                                    · simp only [Act.put, List.setIfInBounds_toArray, List.set_cons_zero, List.set_cons_succ, ze, zf]
                                      rfl
                                    refine zi (i := 12) (N := some 77) (v := ?_) (a' := ?_) #[true, true, true, true, true, true, true, true, true, true, true, true, true, false, false] rfl rfl (zb HT_.out (by kernel_rfl)) (fun _ _ _ h => h) (Or.inl ⟨by rfl, ?_⟩) ?_ ?_
                                    rotate_left
                                    · intro w'
                                      go_simp
                                      with_reducible rfl
                                    rotate_left
                                    · simp only [Act.put, List.setIfInBounds_toArray, List.set_cons_zero, List.set_cons_succ, ze, zf]
                                      rfl
                                    refine zi (i := 13) (N := some 78) (v := ?_) (a' := ?_) #[true, true, true, true, true, true, true, true, true, true, true, true, true, true, false] rfl rfl (zb HT_.out (by kernel_rfl)) (fun _ _ _ h => h) (Or.inl ⟨by rfl, ?_⟩) ?_ ?_
                                    rotate_left
                                    · intro w'
                                      go_simp
                                      with_reducible rfl
                                    rotate_left
                                    · simp only [Act.put, List.setIfInBounds_toArray, List.set_cons_zero, List.set_cons_succ, ze, zf]
                                      rfl
                                    refine last_ (i := 14) (N := none) #[true, true, true, true, true, true, true, true, true, true, true, true, true, true, true] rfl rfl (zdb HT_.out (by kernel_rfl)) (by decide) (fun K hK => ?_)
                                    refine skip_ (w1 := ?_) (by rfl) rfl ?_ ?_
                                    rotate_left
                                    · go_simp
                                      rfl
                                    refine hK.out _ _ ?_
                                    clear hK K
                                    refine zeg (zct HT_.out (by kernel_rfl)) ?_
                                    have G7 := za.mk ((GJ.out.zhi NE.out a (wrap64 (x - 1))).below (zbr (Below.refl _ _)))
                                    have R7 := za.mk (Kd.zd8 (Kd.zdo (p := ⟨gL, a, none⟩) RJ.out (fun k hk e => by have := LLT.out gL rfl; simp only at e; omega) (.int .i64 (wrap64 (x - 1)))))
                                    have cd7 : (wr.setCell ⟨gL, a, none⟩ (.int .i64 (wrap64 (x - 1)))).drew.cell? ⟨gL, a, none⟩ = some (.int .i64 (wrap64 (x - 1))) := World.cell?_setCell_same wr ⟨gL, a, none⟩ (.int .i64 (wrap64 (x - 1))) cd
                                    have WS7 := za.mk (show w7.heap.size ≤ (wr.setCell ⟨gL, a, none⟩ (.int .i64 (wrap64 (x - 1)))).drew.heap.size by simpa using WS.out)
                                    clear GJ RJ WS cd fd hxp
                                    generalize (wr.setCell ⟨gL, a, none⟩ (.int .i64 (wrap64 (x - 1)))).drew = w10 at G7 R7 cd7 WS7 ⊢
                                    obtain ⟨adp2, eap2, hxp7⟩ := Kd.zbq (Kd.zcj R7.out).2.2 (j : Int) (by omega) hltz
                                    obtain rfl : adp = adp2 := by injection eap2
                                    rw [Int.toNat_natCast, show rd rn (j : Int) = (a : Int) from HRJ.out] at hxp7
                                    have o17 := G7.out.o1
                                    obtain ⟨cf7, ff7⟩ := Kd.zeb 0 G7.out.fR (a : Int) (by omega) haz
                                    rw [Int.toNat_natCast] at cf7 ff7
                                    by_cases hq : wrap64 (x - 1) = 0
                                    · have hq2 : (wrap64 (x - 1) == 0) = true := by simpa using hq
                                      rw [if_pos hq] at HST
                                      have G8 := za.mk ((G7.out.setFin NE.out a (wrap64 (now + 1))).below (zbr (Below.refl _ _)))
                                      have R8 := za.mk (Kd.zd8 (Kd.zdo (p := ⟨gF, a, none⟩) R7.out (fun k hk e => by have := FLT.out gF rfl; simp only at e; omega) (.int .i64 (wrap64 (now + 1)))))
                                      have HQ := za.mk hq
                                      clear hq
                                      go_wp2_with fail
                                      refine zdl (n := 10) (S := fun w' => w'.cell? ⟨go, 1, none⟩ = some (.slice (some ⟨gF, 0, none⟩) l0.length cf) ∧ w'.cell? (adp.add j) = some (.int .i64 (a : Int))) (ds := [9]) #[false, false, false, false, false, false, false, false, false, false] (by kernel_rfl) rfl rfl ⟨o17, hxp7⟩ (fun hHeld => ?_); refine zb9 zl.tab21 zl.bits21 (fun HT_ HW_ => ?_)
                                      refine zi (i := 0) (N := some 87) (v := ?_) (a' := ?_) #[true, false, false, false, false, false, false, false, false, false] rfl rfl (zb HT_.out (by kernel_rfl)) (fun _ _ _ h => h) (Or.inl ⟨by rfl, ?_⟩) ?_ ?_
                                      rotate_left
                                      · intro w'
                                        go_simp
                                        with_reducible rfl
                                      rotate_left
                                      · simp only [Act.put, List.setIfInBounds_toArray, List.set_cons_zero, List.set_cons_succ, ze, zf]
                                        rfl
                                      refine zi (i := 2) (N := some 89) (v := ?_) (a' := ?_) #[true, false, true, false, false, false, false, false, false, false] rfl rfl (zb HT_.out (by kernel_rfl)) (fun _ _ _ h => h) (Or.inl ⟨by rfl, ?_⟩) ?_ ?_
                                      rotate_left
                                      · intro w'
                                        go_simp
                                        with_reducible rfl
                                      rotate_left
                                      · simp only [Act.put, List.setIfInBounds_toArray, List.set_cons_zero, List.set_cons_succ, ze, zf]
                                        rfl
                                      refine zi (i := 3) (N := some 90) (v := ?_) (a' := ?_) #[true, false, true, true, false, false, false, false, false, false] rfl rfl (zb HT_.out (by kernel_rfl)) (fun _ _ _ h => h) (Or.inl ⟨by rfl, ?_⟩) ?_ ?_
                                      rotate_left
                                      · intro w'
                                        go_simp
                                        with_reducible rfl
                                      rotate_left
                                      · simp only [Act.put, List.setIfInBounds_toArray, List.set_cons_zero, List.set_cons_succ, ze, zf]
                                        rfl
                                      refine zi (i := 4) (N := some 91) (v := ?_) (a' := ?_) #[true, false, true, true, true, false, false, false, false, false] rfl rfl (zb HT_.out (by kernel_rfl)) (fun _ _ _ h => h) (Or.inl ⟨by rfl, ?_⟩) ?_ ?_
                                      rotate_left
                                      · intro w'
                                        go_simp
                                        with_reducible rfl
                                      rotate_left
                                      · simp only [Act.put, List.setIfInBounds_toArray, List.set_cons_zero, List.set_cons_succ, ze, zf]
                                        rfl
                                      refine zi (i := 6) (N := some 93) (v := ?_) (a' := ?_) #[true, false, true, true, true, false, true, false, false, false] rfl rfl (zb HT_.out (by kernel_rfl)) (fun _ _ _ h => h) (Or.inl ⟨by rfl, ?_⟩) ?_ ?_
                                      rotate_left
                                      · intro w'
                                        go_simp
                                        with_reducible rfl
                                      rotate_left
                                      · simp only [Act.put, List.setIfInBounds_toArray, List.set_cons_zero, List.set_cons_succ, ze, zf]
                                        rfl
                                      refine zi (i := 7) (N := some 94) (v := ?_) (a' := ?_) #[true, false, true, true, true, false, true, true, false, false] rfl rfl (zb HT_.out (by kernel_rfl)) (fun _ _ _ h => h) (Or.inl ⟨by rfl, ?_⟩) ?_ ?_
                                      rotate_left
                                      · intro w'
                                        go_simp
                                        with_reducible rfl
                                      rotate_left
                                      · simp only [Act.put, List.setIfInBounds_toArray, List.set_cons_zero, List.set_cons_succ, ze, zf]
                                        rfl
                                      refine zb3 (i := 1) (N := some 88) (v := ?_) (a' := ?_) #[true, true, true, true, true, false, true, true, false, false] rfl rfl (zbf HT_.out HW_.out (by kernel_rfl)) (fun _ _ _ h => h) (Or.inl ⟨by rfl, ?_⟩) hHeld ?_ ?_
                                      rotate_left
                                      · rintro w' ⟨s0, s1⟩
                                        go_simp
                                        with_reducible rfl
                                      rotate_left
                                      · simp only [Act.put, List.setIfInBounds_toArray, List.set_cons_zero, List.set_cons_succ, ze, zf]
                                        rfl
                                      refine zb3 (i := 5) (N := some 92) (v := ?_) (a' := ?_) #[true, true, true, true, true, true, true, true, false, false] rfl rfl (zbf HT_.out HW_.out (by kernel_rfl)) (fun _ _ _ h => h) (Or.inl ⟨by rfl, ?_⟩) hHeld ?_ ?_
                                      rotate_left
                                      · rintro w' ⟨s0, s1⟩
                                        go_simp
                                        with_reducible rfl
                                      rotate_left
                                      · simp only [Act.put, List.setIfInBounds_toArray, List.set_cons_zero, List.set_cons_succ, ze, zf]
                                        rfl
                                      refine zi (i := 8) (N := some 95) (v := ?_) (a' := ?_) #[true, true, true, true, true, true, true, true, true, false] rfl rfl (zb HT_.out (by kernel_rfl)) (fun _ _ _ h => h) (Or.inl ⟨by rfl, ?_⟩) ?_ ?_
                                      rotate_left
                                      · intro w'
                                        go_simp
                                        with_reducible rfl
                                      rotate_left
                                      · simp only [Act.put, List.setIfInBounds_toArray, List.set_cons_zero, List.set_cons_succ, ze, zf]
                                        rfl
                                      refine last_ (i := 9) (N := none) #[true, true, true, true, true, true, true, true, true, true] rfl rfl (zdb HT_.out (by kernel_rfl)) (by decide) (fun K hK => ?_)
                                      refine skip_ (w1 := ?_) (by rfl) rfl ?_ ?_
                                      rotate_left
                                      · go_simp
                                        rfl
                                      refine hK.out _ _ ?_
                                      clear hK K
                                      refine zeg (zct HT_.out (by kernel_rfl)) ?_
                                      have WS8 := za.mk (show w7.heap.size ≤ (w10.setCell ⟨gF, a, none⟩ (.int .i64 (wrap64 (now + 1)))).drew.heap.size by simpa using WS7.out)
                                      generalize (w10.setCell ⟨gF, a, none⟩ (.int .i64 (wrap64 (now + 1)))).drew = w11 at G8 R8 WS8 ⊢
                                      go_wp2
                                      go_roundg (rn.length - (j + 1))
                                      case measure => omega
                                      case rel => exact ⟨j + 1, by have := HN.out; go_num, by omega, by omega, by rw [HST.out], WS8, ⟨by rw [HST.out]; exact G8.out⟩, R8⟩
                                    · have hq2 : (wrap64 (x - 1) == 0) = false := by simpa using hq
                                      rw [if_neg hq] at HST
                                      have HQ := za.mk hq
                                      clear hq
                                      go_wp2
                                      go_roundg (rn.length - (j + 1))
                                      case measure => omega
                                      case rel => exact ⟨j + 1, by have := HN.out; go_num, by omega, by omega, by rw [HST.out], WS7, ⟨by rw [HST.out]; exact G7.out⟩, R7⟩
                                  · have hltz : ¬ (j : Int) < (rn.length : Int) := by omega
                                    obtain rfl : j = rn.length := by omega
                                    rw [List.take_length] at GJ ⊢
                                    have cO0 := GJ.out.o0
                                    have fO0 := GJ.out.f0
                                    go_wp2_with ((with_reducible refine zb4 (b := .append) (xs := #[.tmp 99, .tmp 101]) rfl ?_); at_builtin; refine Kd.zds (Kd.slice 3 (Kd.int .i64)) (w0 := W0) W0.heap.size rfl (.tmp 99) (.tmp 101) 24 23 (.slice none 0 0) 24 rfl Try.underlying24 zgb rfl (by decide) (by omega) (.slice X rows.length cr) rows rn [.slice P rn.length cp] (fun k => k ≠ go ∧ some k ≠ (Value.slice L l0.length cl).ownBlock ∧ some k ≠ (Value.slice F l0.length cf).ownBlock) (fun k => w7.heap.size ≤ k) rfl rfl ?aP ?aH ?aF ?aO ?aB ?aS ?aL ?_; (case aP => exact ⟨_, rfl, Kd.zcg RJ.out (by have := GI0.out; omega)⟩); (case aH => exact fun k hk => ⟨⟨by have := GLT.out; omega, fun e => by have := LLT.out k e.symm; omega, fun e => by have := FLT.out k e.symm; omega⟩, fun e => by have := XLT.out k e.symm; omega⟩); (case aF => exact fun k hk => ⟨by have := GLT.out; have := WS.out; omega, fun e => by have := LLT.out k e.symm; have := WS.out; omega, fun e => by have := FLT.out k e.symm; have := WS.out; omega⟩); (case aO => exact GJ.out.rR); (case aB => exact GJ.out.bel); (case aS => exact GJ.out.bel.size); (case aL => have := HRL.out; omega); intro v12 w12 ho12 hb12 hg12 hat12; obtain ⟨V, cv, ev⟩ := Kd.zce ho12; obtain ⟨nv, hnv⟩ : ∃ n, n = (rows ++ [rn]).length := ⟨_, rfl⟩; rw [← hnv] at ev; subst ev; clear hnv; have G12 := za.mk (GJ.out.setRows NE.out hg12 hb12 ho12); have c12 := hg12.cell GJ.out.o0 (fun e => (GJ.out.rR.1 go e.symm).1 rfl); have z12 : w12.frozen? ⟨go, 0, none⟩ = false := (World.frozen?_of_block (hg12.block go (World.block_lt_of_cell? _ _ GJ.out.o0) (fun e => (GJ.out.rR.1 go e.symm).1 rfl))).trans GJ.out.f0; clear ho12 hb12 hg12 hat12)
                                    go_wp2
                                    go_roundg k3
                                    case measure => omega
                                    case rel => exact ⟨k3, _, _, _, _, _, _, rfl, rfl, Nat.le_refl _, by omega, by rw [(zeh now rn (left, fin, done)).1]; exact HLL.out, by rw [(zeh now rn (left, fin, done)).2]; exact HFL.out, HL, G12⟩
                            · have hiz : ¬ (i : Int) < (l0.length : Int) := by omega
                              rw [if_neg hi] at h1
                              have HX := za.mk (show rn = run from Option.some.inj h1)
                              clear h1
                              obtain ⟨pl, hpl⟩ : ∃ pl, run = pl := ⟨_, rfl⟩
                              rw [hpl] at HX HL HRM HRLEN
                              have hx := HX.out
                              subst hx
                              clear hpl
                              have hrl3 := HRLEN.out
                              have GLT := za.mk (show go < w7.heap.size from World.block_lt_of_cell? _ _ GR.out.o0)
                              have LLT := za.mk (fun k hk => Kd.R_lt GR.out.lR k hk)
                              have FLT := za.mk (fun k hk => Kd.R_lt GR.out.fR k hk)
                              obtain ⟨X, cr, ev⟩ := Kd.zce GR.out.rR
                              subst ev
                              have XLT := za.mk (fun k hk => Kd.R_lt GR.out.rR k hk)
                              have W7S := za.mk BP.out.size
                              have GI0 := za.mk (show W0.heap.size ≤ w7.heap.size from GR.out.bel.size)
                              have GI := za.mk (GR.out.below BP.out)
                              have RP1 := za.mk (Kd.zbz (Kd.zc2 RP.out) (ok' := fun k => w7.heap.size ≤ k) (fun _ hk => hk.2.1))
                              clear RP BP GR
                              go_wp2
                              go_loopg [9, 13] rn.length (fun gg v9 v13 wr => ∃ j : Nat, v13 = .int .i64 j ∧ j ≤ rn.length ∧ rn.length - j ≤ gg ∧ v9 = .int .i64 ((rn.take j).foldl (zdq now) (left, fin, done)).2.2 ∧ za (w7.heap.size ≤ wr.heap.size) ∧ za (GsW W0 l0.length go L F cl cf (.slice X rows.length cr) ((rn.take j).foldl (zdq now) (left, fin, done)).1 ((rn.take j).foldl (zdq now) (left, fin, done)).2.1 rows wr) ∧ za (Kd.R (Kd.int .i64) 3 wr w7.heap.size (fun k => w7.heap.size ≤ k) (.slice P rn.length cp) rn))
                              case atStart => exact ⟨0, by go_num, Nat.zero_le _, by omega, rfl, W7S, GI, RP1⟩
                              case round =>
                                obtain ⟨j, rfl, hjl, hgj, rfl, WS, GJ, RJ⟩ := hrel
                                clear GI RP1
                                by_cases hlt : j < rn.length
                                · have hltz : (j : Int) < (rn.length : Int) := by omega
                                  obtain ⟨adp, eap, hxp⟩ := Kd.zbq (Kd.zcj RJ.out).2.2 (j : Int) (by omega) hltz
                                  cases eap
                                  rw [Int.toNat_natCast] at hxp
                                  have hrr := HRM.out rn[j] (List.getElem_mem hlt)
                                  obtain ⟨a, ha⟩ : ∃ a : Nat, rn[j] = (a : Int) := ⟨rn[j].toNat, by omega⟩
                                  rw [ha] at hrr
                                  rw [show rd rn (j : Int) = (a : Int) by rw [rd, List.getD_eq_getElem?_getD, Int.toNat_natCast, List.getElem?_eq_getElem hlt]; exact ha] at hxp
                                  have HRJ := za.mk (show rd rn (j : Int) = (a : Int) by rw [rd, List.getD_eq_getElem?_getD, Int.toNat_natCast, List.getElem?_eq_getElem hlt]; exact ha)
                                  have haz : (a : Int) < (l0.length : Int) := hrr.2
                                  have hsl := zeh now (rn.take j) (left, fin, done)
                                  obtain ⟨gL, capL, eL, _⟩ := Kd.zf4 GJ.out.lR (by rw [hsl.1]; have := HLL.out; simp only; omega)
                                  injection eL with eL1 eL2 eL3
                                  subst eL1
                                  clear eL2 eL3
                                  obtain ⟨gF, capF, eF, _⟩ := Kd.zf4 GJ.out.fR (by rw [hsl.2]; have := HFL.out; simp only; omega)
                                  injection eF with eF1 eF2 eF3
                                  subst eF1
                                  clear eF2 eF3 hsl
                                  obtain ⟨p, hp⟩ : ∃ p, (rn.take j).foldl (zdq now) (left, fin, done) = p := ⟨_, rfl⟩
                                  rw [hp] at GJ ⊢
                                  obtain ⟨x, hx⟩ : ∃ x, rd p.1 (a : Int) = x := ⟨_, rfl⟩
                                  have hstep : (rn.take (j + 1)).foldl (zdq now) (left, fin, done) = (p.1.set a (wrap64 (x - 1)), if wrap64 (x - 1) = 0 then (p.2.1.set a (wrap64 (now + 1)), wrap64 (p.2.2 + 1)) else (p.2.1, p.2.2)) := by
                                    rw [List.take_succ_eq_append_getElem hlt, List.foldl_append, hp, ha]
                                    show zdq now p (a : Int) = _
                                    unfold zdq
                                    rw [hx, Int.toNat_natCast]
                                  obtain ⟨cd, fd⟩ := Kd.zeb 0 GJ.out.lR (a : Int) (by omega) haz
                                  rw [Int.toNat_natCast] at cd fd
                                  rw [show rdOf 0 p.1 (a : Int) = x from hx] at cd
                                  have HST := za.mk hstep
                                  have HXX := za.mk hx
                                  have HPP := za.mk hp
                                  clear hstep hx hp ha hrr
                                  have hjz : (0 : Int) ≤ (j : Int) := by omega
                                  have haz0 : (0 : Int) ≤ (a : Int) := by omega
                                  go_wp2_with fail
                                  refine zdl (n := 15) (S := fun w' => w'.cell? (adp.add j) = some (.int .i64 (a : Int)) ∧ w'.cell? ⟨gL, a, none⟩ = some (.int .i64 x)) (ds := [14]) #[false, false, false, false, false, false, false, false, false, false, false, false, false, false, false] (by kernel_rfl) rfl rfl ⟨hxp, cd⟩ (fun hHeld => ?_); refine zb9 zl.tab19 zl.bits19 (fun HT_ HW_ => ?_)
                                  refine zi (i := 0) (N := some 65) (v := ?_) (a' := ?_) #[true, false, false, false, false, false, false, false, false, false, false, false, false, false, false] rfl rfl (zb HT_.out (by kernel_rfl)) (fun _ _ _ h => h) (Or.inl ⟨by rfl, ?_⟩) ?_ ?_
                                  rotate_left
                                  · intro w'
                                    go_simp
                                    with_reducible rfl
                                  rotate_left
                                  · simp only [Act.put, List.setIfInBounds_toArray, List.set_cons_zero, List.set_cons_succ, ze, zf]
                                    rfl
                                  refine zi (i := 1) (N := some 66) (v := ?_) (a' := ?_) #[true, true, false, false, false, false, false, false, false, false, false, false, false, false, false] rfl rfl (zb HT_.out (by kernel_rfl)) (fun _ _ _ h => h) (Or.inl ⟨by rfl, ?_⟩) ?_ ?_
                                  rotate_left
                                  · intro w'
                                    go_simp
                                    with_reducible rfl
                                  rotate_left
                                  · simp only [Act.put, List.setIfInBounds_toArray, List.set_cons_zero, List.set_cons_succ, ze, zf]
                                    rfl
                                  refine zi (i := 2) (N := some 67) (v := ?_) (a' := ?_) #[true, true, true, false, false, false, false, false, false, false, false, false, false, false, false] rfl rfl (zb HT_.out (by kernel_rfl)) (fun _ _ _ h => h) (Or.inl ⟨by rfl, ?_⟩) ?_ ?_
                                  rotate_left
                                  · intro w'
                                    go_simp
                                    with_reducible rfl
                                  rotate_left
                                  · simp only [Act.put, List.setIfInBounds_toArray, List.set_cons_zero, List.set_cons_succ, ze, zf]
                                    rfl
                                  refine zi (i := 3) (N := some 68) (v := ?_) (a' := ?_) #[true, true, true, true, false, false, false, false, false, false, false, false, false, false, false] rfl rfl (zb HT_.out (by kernel_rfl)) (fun _ _ _ h => h) (Or.inl ⟨by rfl, ?_⟩) ?_ ?_
                                  rotate_left
                                  · intro w'
                                    go_simp
                                    with_reducible rfl
                                  rotate_left
                                  · simp only [Act.put, List.setIfInBounds_toArray, List.set_cons_zero, List.set_cons_succ, ze, zf]
                                    rfl
                                  refine zi (i := 5) (N := some 70) (v := ?_) (a' := ?_) #[true, true, true, true, false, true, false, false, false, false, false, false, false, false, false] rfl rfl (zb HT_.out (by kernel_rfl)) (fun _ _ _ h => h) (Or.inl ⟨by rfl, ?_⟩) ?_ ?_
                                  rotate_left
                                  · intro w'
                                    go_simp
                                    with_reducible rfl
                                  rotate_left
                                  · simp only [Act.put, List.setIfInBounds_toArray, List.set_cons_zero, List.set_cons_succ, ze, zf]
                                    rfl
                                  refine zi (i := 6) (N := some 71) (v := ?_) (a' := ?_) #[true, true, true, true, false, true, true, false, false, false, false, false, false, false, false] rfl rfl (zb HT_.out (by kernel_rfl)) (fun _ _ _ h => h) (Or.inl ⟨by rfl, ?_⟩) ?_ ?_
                                  rotate_left
                                  · intro w'
                                    go_simp
                                    with_reducible rfl
                                  rotate_left
                                  · simp only [Act.put, List.setIfInBounds_toArray, List.set_cons_zero, List.set_cons_succ, ze, zf]
                                    rfl
                                  refine zi (i := 7) (N := some 72) (v := ?_) (a' := ?_) #[true, true, true, true, false, true, true, true, false, false, false, false, false, false, false] rfl rfl (zb HT_.out (by kernel_rfl)) (fun _ _ _ h => h) (Or.inl ⟨by rfl, ?_⟩) ?_ ?_
                                  rotate_left
                                  · intro w'
                                    go_simp
                                    with_reducible rfl
                                  rotate_left
                                  · simp only [Act.put, List.setIfInBounds_toArray, List.set_cons_zero, List.set_cons_succ, ze, zf]
                                    rfl
                                  refine zi (i := 8) (N := some 73) (v := ?_) (a' := ?_) #[true, true, true, true, false, true, true, true, true, false, false, false, false, false, false] rfl rfl (zb HT_.out (by kernel_rfl)) (fun _ _ _ h => h) (Or.inl ⟨by rfl, ?_⟩) ?_ ?_
                                  rotate_left
                                  · intro w'
                                    go_simp
                                    with_reducible rfl
                                  rotate_left
                                  · simp only [Act.put, List.setIfInBounds_toArray, List.set_cons_zero, List.set_cons_succ, ze, zf]
                                    rfl
                                  refine zb3 (i := 4) (N := some 69) (v := ?_) (a' := ?_) #[true, true, true, true, true, true, true, true, true, false, false, false, false, false, false] rfl rfl (zbf HT_.out HW_.out (by kernel_rfl)) (fun _ _ _ h => h) (Or.inl ⟨by rfl, ?_⟩) hHeld ?_ ?_
                                  rotate_left
                                  · rintro w' ⟨s0, s1⟩
                                    go_simp
                                    with_reducible rfl
                                  rotate_left
                                  · simp only [Act.put, List.setIfInBounds_toArray, List.set_cons_zero, List.set_cons_succ, ze, zf]
                                    rfl
                                  refine zb3 (i := 9) (N := some 74) (v := ?_) (a' := ?_) #[true, true, true, true, true, true, true, true, true, true, false, false, false, false, false] rfl rfl (zbf HT_.out HW_.out (by kernel_rfl)) (fun _ _ _ h => h) (Or.inl ⟨by rfl, ?_⟩) hHeld ?_ ?_
                                  rotate_left
                                  · rintro w' ⟨s0, s1⟩
                                    go_simp
                                    with_reducible rfl
                                  rotate_left
                                  · simp only [Act.put, List.setIfInBounds_toArray, List.set_cons_zero, List.set_cons_succ, ze, zf]
                                    rfl
                                  refine zi (i := 10) (N := some 75) (v := ?_) (a' := ?_) #[true, true, true, true, true, true, true, true, true, true, true, false, false, false, false] rfl rfl (zb HT_.out (by kernel_rfl)) (fun _ _ _ h => h) (Or.inl ⟨by rfl, ?_⟩) ?_ ?_
                                  rotate_left
                                  · intro w'
                                    go_simp
                                    with_reducible rfl
                                  rotate_left
                                  · simp only [Act.put, List.setIfInBounds_toArray, List.set_cons_zero, List.set_cons_succ, ze, zf]
                                    rfl
                                  refine zb3 (i := 11) (N := some 76) (v := ?_) (a' := ?_) #[true, true, true, true, true, true, true, true, true, true, true, true, false, false, false] rfl rfl (zbf HT_.out HW_.out (by kernel_rfl)) (fun _ _ _ h => h) (Or.inl ⟨by rfl, ?_⟩) hHeld ?_ ?_
                                  rotate_left
                                  · rintro w' ⟨s0, s1⟩
                                    go_simp
                                    with_reducible rfl
                                  rotate_left
                                  · simp only [Act.put, List.setIfInBounds_toArray, List.set_cons_zero, List.set_cons_succ, ze, zf]
                                    rfl
                                  refine zi (i := 12) (N := some 77) (v := ?_) (a' := ?_) #[true, true, true, true, true, true, true, true, true, true, true, true, true, false, false] rfl rfl (zb HT_.out (by kernel_rfl)) (fun _ _ _ h => h) (Or.inl ⟨by rfl, ?_⟩) ?_ ?_
                                  rotate_left
                                  · intro w'
                                    go_simp
                                    with_reducible rfl
                                  rotate_left
                                  · simp only [Act.put, List.setIfInBounds_toArray, List.set_cons_zero, List.set_cons_succ, ze, zf]
                                    rfl
                                  refine zi (i := 13) (N := some 78) (v := ?_) (a' := ?_) #[true, true, true, true, true, true, true, true, true, true, true, true, true, true, false] rfl rfl (zb HT_.out (by kernel_rfl)) (fun _ _ _ h => h) (Or.inl ⟨by rfl, ?_⟩) ?_ ?_
                                  rotate_left
                                  · intro w'
                                    go_simp
                                    with_reducible rfl
                                  rotate_left
                                  · simp only [Act.put, List.setIfInBounds_toArray, List.set_cons_zero, List.set_cons_succ, ze, zf]
                                    rfl
                                  refine last_ (i := 14) (N := none) #[true, true, true, true, true, true, true, true, true, true, true, true, true, true, true] rfl rfl (zdb HT_.out (by kernel_rfl)) (by decide) (fun K hK => ?_)
                                  refine skip_ (w1 := ?_) (by rfl) rfl ?_ ?_
                                  rotate_left
                                  · go_simp
                                    rfl
                                  refine hK.out _ _ ?_
                                  clear hK K
                                  refine zeg (zct HT_.out (by kernel_rfl)) ?_
                                  have G7 := za.mk ((GJ.out.zhi NE.out a (wrap64 (x - 1))).below (zbr (Below.refl _ _)))
                                  have R7 := za.mk (Kd.zd8 (Kd.zdo (p := ⟨gL, a, none⟩) RJ.out (fun k hk e => by have := LLT.out gL rfl; simp only at e; omega) (.int .i64 (wrap64 (x - 1)))))
                                  have cd7 : (wr.setCell ⟨gL, a, none⟩ (.int .i64 (wrap64 (x - 1)))).drew.cell? ⟨gL, a, none⟩ = some (.int .i64 (wrap64 (x - 1))) := World.cell?_setCell_same wr ⟨gL, a, none⟩ (.int .i64 (wrap64 (x - 1))) cd
                                  have WS7 := za.mk (show w7.heap.size ≤ (wr.setCell ⟨gL, a, none⟩ (.int .i64 (wrap64 (x - 1)))).drew.heap.size by simpa using WS.out)
                                  clear GJ RJ WS cd fd hxp
                                  generalize (wr.setCell ⟨gL, a, none⟩ (.int .i64 (wrap64 (x - 1)))).drew = w10 at G7 R7 cd7 WS7 ⊢
                                  obtain ⟨adp2, eap2, hxp7⟩ := Kd.zbq (Kd.zcj R7.out).2.2 (j : Int) (by omega) hltz
                                  obtain rfl : adp = adp2 := by injection eap2
                                  rw [Int.toNat_natCast, show rd rn (j : Int) = (a : Int) from HRJ.out] at hxp7
                                  have o17 := G7.out.o1
                                  obtain ⟨cf7, ff7⟩ := Kd.zeb 0 G7.out.fR (a : Int) (by omega) haz
                                  rw [Int.toNat_natCast] at cf7 ff7
                                  by_cases hq : wrap64 (x - 1) = 0
                                  · have hq2 : (wrap64 (x - 1) == 0) = true := by simpa using hq
                                    rw [if_pos hq] at HST
                                    have G8 := za.mk ((G7.out.setFin NE.out a (wrap64 (now + 1))).below (zbr (Below.refl _ _)))
                                    have R8 := za.mk (Kd.zd8 (Kd.zdo (p := ⟨gF, a, none⟩) R7.out (fun k hk e => by have := FLT.out gF rfl; simp only at e; omega) (.int .i64 (wrap64 (now + 1)))))
                                    have HQ := za.mk hq
                                    clear hq
                                    go_wp2_with fail
                                    refine zdl (n := 10) (S := fun w' => w'.cell? ⟨go, 1, none⟩ = some (.slice (some ⟨gF, 0, none⟩) l0.length cf) ∧ w'.cell? (adp.add j) = some (.int .i64 (a : Int))) (ds := [9]) #[false, false, false, false, false, false, false, false, false, false] (by kernel_rfl) rfl rfl ⟨o17, hxp7⟩ (fun hHeld => ?_); refine zb9 zl.tab21 zl.bits21 (fun HT_ HW_ => ?_)
                                    refine zi (i := 0) (N := some 87) (v := ?_) (a' := ?_) #[true, false, false, false, false, false, false, false, false, false] rfl rfl (zb HT_.out (by kernel_rfl)) (fun _ _ _ h => h) (Or.inl ⟨by rfl, ?_⟩) ?_ ?_
                                    rotate_left
                                    · intro w'
                                      go_simp
                                      with_reducible rfl
                                    rotate_left
                                    · simp only [Act.put, List.setIfInBounds_toArray, List.set_cons_zero, List.set_cons_succ, ze, zf]
                                      rfl
                                    refine zi (i := 2) (N := some 89) (v := ?_) (a' := ?_) #[true, false, true, false, false, false, false, false, false, false] rfl rfl (zb HT_.out (by kernel_rfl)) (fun _ _ _ h => h) (Or.inl ⟨by rfl, ?_⟩) ?_ ?_
                                    rotate_left
                                    · intro w'
                                      go_simp
                                      with_reducible rfl
                                    rotate_left
                                    · simp only [Act.put, List.setIfInBounds_toArray, List.set_cons_zero, List.set_cons_succ, ze, zf]
                                      rfl
                                    refine zi (i := 3) (N := some 90) (v := ?_) (a' := ?_) #[true, false, true, true, false, false, false, false, false, false] rfl rfl (zb HT_.out (by kernel_rfl)) (fun _ _ _ h => h) (Or.inl ⟨by rfl, ?_⟩) ?_ ?_
                                    rotate_left
                                    · intro w'
                                      go_simp
                                      with_reducible rfl
                                    rotate_left
                                    · simp only [Act.put, List.setIfInBounds_toArray, List.set_cons_zero, List.set_cons_succ, ze, zf]
                                      rfl
                                    refine zi (i := 4) (N := some 91) (v := ?_) (a' := ?_) #[true, false, true, true, true, false, false, false, false, false] rfl rfl (zb HT_.out (by kernel_rfl)) (fun _ _ _ h => h) (Or.inl ⟨by rfl, ?_⟩) ?_ ?_
                                    rotate_left
                                    · intro w'
                                      go_simp
                                      with_reducible rfl
                                    rotate_left
                                    · simp only [Act.put, List.setIfInBounds_toArray, List.set_cons_zero, List.set_cons_succ, ze, zf]
                                      rfl
                                    refine zi (i := 6) (N := some 93) (v := ?_) (a' := ?_) #[true, false, true, true, true, false, true, false, false, false] rfl rfl (zb HT_.out (by kernel_rfl)) (fun _ _ _ h => h) (Or.inl ⟨by rfl, ?_⟩) ?_ ?_
                                    rotate_left
                                    · intro w'
                                      go_simp
                                      with_reducible rfl
                                    rotate_left
                                    · simp only [Act.put, List.setIfInBounds_toArray, List.set_cons_zero, List.set_cons_succ, ze, zf]
                                      rfl
                                    refine zi (i := 7) (N := some 94) (v := ?_) (a' := ?_) #[true, false, true, true, true, false, true, true, false, false] rfl rfl (zb HT_.out (by kernel_rfl)) (fun _ _ _ h => h) (Or.inl ⟨by rfl, ?_⟩) ?_ ?_
                                    rotate_left
                                    · intro w'
                                      go_simp
                                      with_reducible rfl
                                    rotate_left
                                    · simp only [Act.put, List.setIfInBounds_toArray, List.set_cons_zero, List.set_cons_succ, ze, zf]
                                      rfl
                                    refine zb3 (i := 1) (N := some 88) (v := ?_) (a' := ?_) #[true, true, true, true, true, false, true, true, false, false] rfl rfl (zbf HT_.out HW_.out (by kernel_rfl)) (fun _ _ _ h => h) (Or.inl ⟨by rfl, ?_⟩) hHeld ?_ ?_
                                    rotate_left
                                    · rintro w' ⟨s0, s1⟩
                                      go_simp
                                      with_reducible rfl
                                    rotate_left
                                    · simp only [Act.put, List.setIfInBounds_toArray, List.set_cons_zero, List.set_cons_succ, ze, zf]
                                      rfl
                                    refine zb3 (i := 5) (N := some 92) (v := ?_) (a' := ?_) #[true, true, true, true, true, true, true, true, false, false] rfl rfl (zbf HT_.out HW_.out (by kernel_rfl)) (fun _ _ _ h => h) (Or.inl ⟨by rfl, ?_⟩) hHeld ?_ ?_
                                    rotate_left
                                    · rintro w' ⟨s0, s1⟩
                                      go_simp
                                      with_reducible rfl
                                    rotate_left
                                    · simp only [Act.put, List.setIfInBounds_toArray, List.set_cons_zero, List.set_cons_succ, ze, zf]
                                      rfl
                                    refine zi (i := 8) (N := some 95) (v := ?_) (a' := ?_) #[true, true, true, true, true, true, true, true, true, false] rfl rfl (zb HT_.out (by kernel_rfl)) (fun _ _ _ h => h) (Or.inl ⟨by rfl, ?_⟩) ?_ ?_
                                    rotate_left
                                    · intro w'
                                      go_simp
                                      with_reducible rfl
                                    rotate_left
                                    · simp only [Act.put, List.setIfInBounds_toArray, List.set_cons_zero, List.set_cons_succ, ze, zf]
                                      rfl
                                    refine last_ (i := 9) (N := none) #[true, true, true, true, true, true, true, true, true, true] rfl rfl (zdb HT_.out (by kernel_rfl)) (by decide) (fun K hK => ?_)
                                    refine skip_ (w1 := ?_) (by rfl) rfl ?_ ?_
                                    rotate_left
                                    · go_simp
                                      rfl
                                    refine hK.out _ _ ?_
                                    clear hK K
                                    refine zeg (zct HT_.out (by kernel_rfl)) ?_
                                    have WS8 := za.mk (show w7.heap.size ≤ (w10.setCell ⟨gF, a, none⟩ (.int .i64 (wrap64 (now + 1)))).drew.heap.size by simpa using WS7.out)
                                    generalize (w10.setCell ⟨gF, a, none⟩ (.int .i64 (wrap64 (now + 1)))).drew = w11 at G8 R8 WS8 ⊢
                                    go_wp2
                                    go_roundg (rn.length - (j + 1))
                                    case measure => omega
                                    case rel => exact ⟨j + 1, by have := HN.out; go_num, by omega, by omega, by rw [HST.out], WS8, ⟨by rw [HST.out]; exact G8.out⟩, R8⟩
                                  · have hq2 : (wrap64 (x - 1) == 0) = false := by simpa using hq
                                    rw [if_neg hq] at HST
                                    have HQ := za.mk hq
                                    clear hq
                                    go_wp2
                                    go_roundg (rn.length - (j + 1))
                                    case measure => omega
                                    case rel => exact ⟨j + 1, by have := HN.out; go_num, by omega, by omega, by rw [HST.out], WS7, ⟨by rw [HST.out]; exact G7.out⟩, R7⟩
                                · have hltz : ¬ (j : Int) < (rn.length : Int) := by omega
                                  obtain rfl : j = rn.length := by omega
                                  rw [List.take_length] at GJ ⊢
                                  have cO0 := GJ.out.o0
                                  have fO0 := GJ.out.f0
                                  go_wp2_with ((with_reducible refine zb4 (b := .append) (xs := #[.tmp 99, .tmp 101]) rfl ?_); at_builtin; refine Kd.zds (Kd.slice 3 (Kd.int .i64)) (w0 := W0) W0.heap.size rfl (.tmp 99) (.tmp 101) 24 23 (.slice none 0 0) 24 rfl Try.underlying24 zgb rfl (by decide) (by omega) (.slice X rows.length cr) rows rn [.slice P rn.length cp] (fun k => k ≠ go ∧ some k ≠ (Value.slice L l0.length cl).ownBlock ∧ some k ≠ (Value.slice F l0.length cf).ownBlock) (fun k => w7.heap.size ≤ k) rfl rfl ?aP ?aH ?aF ?aO ?aB ?aS ?aL ?_; (case aP => exact ⟨_, rfl, Kd.zcg RJ.out (by have := GI0.out; omega)⟩); (case aH => exact fun k hk => ⟨⟨by have := GLT.out; omega, fun e => by have := LLT.out k e.symm; omega, fun e => by have := FLT.out k e.symm; omega⟩, fun e => by have := XLT.out k e.symm; omega⟩); (case aF => exact fun k hk => ⟨by have := GLT.out; have := WS.out; omega, fun e => by have := LLT.out k e.symm; have := WS.out; omega, fun e => by have := FLT.out k e.symm; have := WS.out; omega⟩); (case aO => exact GJ.out.rR); (case aB => exact GJ.out.bel); (case aS => exact GJ.out.bel.size); (case aL => have := HRL.out; omega); intro v12 w12 ho12 hb12 hg12 hat12; obtain ⟨V, cv, ev⟩ := Kd.zce ho12; obtain ⟨nv, hnv⟩ : ∃ n, n = (rows ++ [rn]).length := ⟨_, rfl⟩; rw [← hnv] at ev; subst ev; clear hnv; have G12 := za.mk (GJ.out.setRows NE.out hg12 hb12 ho12); have c12 := hg12.cell GJ.out.o0 (fun e => (GJ.out.rR.1 go e.symm).1 rfl); have z12 : w12.frozen? ⟨go, 0, none⟩ = false := (World.frozen?_of_block (hg12.block go (World.block_lt_of_cell? _ _ GJ.out.o0) (fun e => (GJ.out.rR.1 go e.symm).1 rfl))).trans GJ.out.f0; clear ho12 hb12 hg12 hat12)
                                  go_wp2
                                  go_roundg k3
                                  case measure => omega
                                  case rel => exact ⟨k3, _, _, _, _, _, _, rfl, rfl, Nat.le_refl _, by omega, by rw [(zeh now rn (left, fin, done)).1]; exact HLL.out, by rw [(zeh now rn (left, fin, done)).2]; exact HFL.out, HL, G12⟩
                      · rw [if_neg hrm] at hL
                        simp at hL
                  · rw [if_neg hrl] at hL
                    simp at hL
                · rw [if_neg hd] at hL
                  obtain ⟨rfl, rfl⟩ := Prod.mk.inj (Option.some.inj hL)
                  obtain ⟨X, cr, ev⟩ := Kd.zce GR.out.rR
                  subst ev
                  have cO0 := GR.out.o0
                  have fO0 := GR.out.f0
                  have cO1 := GR.out.o1
                  have hs0 := S0.out
                  have BKr : wr.heap[w.heap.size]? = some (.cells #[.slice none 0 0, .slice none 0 0] 28 (0, 0)) := (GR.out.bel.block w.heap.size (by omega)).trans K0.out
                  have d0 : wr.cell? ⟨w.heap.size, 0, none⟩ = some (.slice none 0 0) := (z8 BKr 0).trans rfl
                  have d1 : wr.cell? ⟨w.heap.size, 1, none⟩ = some (.slice none 0 0) := (z8 BKr 1).trans rfl
                  have f0 := zy BKr 0
                  have f1 := zy BKr 1
                  have BK := za.mk BKr
                  clear BKr hs0
                  go_wp2
                  refine bodyPost_ret (results_cell_row rfl _ _ w.heap.size 28 #[.slice X rows.length cr, .slice F l0.length cf] (0, 0) _ rfl (by refine zcr (cs := #[.slice X rows.length cr, .slice none 0 0]) ?_ 1 _ rfl; refine zcr (cs := #[.slice none 0 0, .slice none 0 0]) ?_ 0 _ rfl; exact BK.out) Try.underlying28 rfl (by kernel_rfl)) rfl ?_
                  have hs0 := S0.out
                  have hfb : ∀ k, (Value.slice F l0.length cf).ownBlock = some k → W0.heap.size ≤ k ∧ k ≠ go := NE.out.gF
                  have hxb := GR.out.rR.1
                  refine ⟨_, _, rfl, ?_, ?_, ?_⟩
                  · exact Kd.zgc (Kd.cut_of (Kd.zbz (Kd.zcg (Kd.zdo (Kd.zdo (Kd.zbz (Kd.zc2 GR.out.rR) (ok' := fun k => (k ≠ go ∧ some k ≠ (Value.slice L l0.length cl).ownBlock ∧ some k ≠ (Value.slice F l0.length cf).ownBlock) ∧ W0.heap.size ≤ k) (fun k hk => ⟨hk.1, hk.2.1⟩)) (fun k hk e => by simp only at e; omega) _) (fun k hk e => by simp only at e; omega) _) (by omega)) (fun k hk => hk.1.2.2)))
                  · exact Kd.zgc (Kd.zbz (Kd.zcg (Kd.zdo (Kd.zdo GR.out.fR (fun k hk e => by have := hfb k hk.symm; simp only at e; omega) _) (fun k hk e => by have := hfb k hk.symm; simp only at e; omega) _) (by omega)) (fun k hk e => (hxb k e.symm).2.2 hk))
                  · exact ((zcq B0.out B0.out.size GR.out.bel).setCell (Nat.le_refl _) _).setCell (Nat.le_refl _) _
          · rw [if_neg hh] at h
            simp at h
def zbe.l0 : Nat → List Int → List Int → Int → Option (Bool)
 | 0, _, _, _ => none
 | k + 1, x0, x1, x5 => if x5 < (x0.length : Int) then (if 0 ≤ x5 then (if x5 < (x1.length : Int) then (if (rd x0 x5) = (rd x1 x5) then (zbe.l0 k x0 x1 (wrap64 (x5 + 1))) else (some false)) else (none)) else (none)) else (some true)
def zbe.f (k : Nat) (l0 : List Int) (l1 : List Int) : Option (Bool) := if (l0.length : Int) = (l1.length : Int) then (zbe.l0 k l0 l1 0) else (some false)
set_option maxHeartbeats 8000000 in
theorem zbe.calls (k : Nat) (A0 : Option Addr) (c0 : Nat) (l0 : List Int) (A1 : Option Addr) (c1 : Nat) (l1 : List Int) (r : Bool) (w : World) (hr0 : Kd.C (Kd.int .i64) w A0 l0.length l0) (hc0 : l0.length ≤ c0) (hr1 : Kd.C (Kd.int .i64) w A1 l1.length l1) (hc1 : l1.length ≤ c1) (h : zbe.f k l0 l1 = some r) :
  Calls Try.prog 12 #[.slice A0 l0.length c0, .slice A1 l1.length c1] w fun e w' => e = .returned (.bool r) ∧ zbj w w' := by
 have HR0 := za.mk hr0
 have HC0 := za.mk hc0
 clear hr0 hc0
 have HR1 := za.mk hr1
 have HC1 := za.mk hc1
 clear hr1 hc1
 have H : (if (l0.length : Int) = (l1.length : Int) then (zbe.l0 k l0 l1 0) else (some false)) = some r := h
 clear h
 by_cases c3 : (l0.length : Int) = (l1.length : Int)
 ·rw [if_pos c3] at H
  have c3b0 : ((l0.length : Int) == (l1.length : Int)) = true := beq_iff_eq.mpr c3;have c3b1 : ((l0.length : Int) != (l1.length : Int)) = false := bne_eq_false_iff_eq.mpr c3;have c3b2 : (l0.length == l1.length) = true := by first | simpa using c3 | (simp at c3 ⊢; omega)
  clear c3;have H' := za.mk H;clear H;go_enter Try.func12, Try.ntmps12;go_wp2
  repeat (go_quiet (fail); try go_wp2)
  go_loopg [5] k (fun kq v5 w' => ∃ (x5_1 : Int), v5 = .int .i64 x5_1 ∧ za (zbe.l0 kq l0 l1 x5_1 = some r) ∧ za (kq ≤ k) ∧ zbj w w')
  case atStart => exact ⟨(0), Zrs, H', ⟨Nat.le_refl _⟩, by repeat (first | exact zbj.refl _ | apply zbj.step)⟩
  case round =>
   clear H'
   (try clear c1);(try clear p2);(try clear c3);(try clear c3b0);(try clear c3b1);(try clear c3b2)
   obtain ⟨x5_1, rfl, HA, HK1, ⟨m1, rfl⟩⟩ := hrel
   cases gk with
   | zero => exact absurd HA.out (by simp [zbe.l0])
   | succ k1 =>
    have H := HA.out;clear HA;simp only [zbe.l0] at H;by_cases c4 : x5_1 < (l0.length : Int)
    ·rw [if_pos c4] at H
     have c4b0 : decide (x5_1 < (l0.length : Int)) = true := decide_eq_true c4;clear c4;by_cases c5 : 0 ≤ x5_1
     ·rw [if_pos c5] at H
      have c5b0 : decide (0 ≤ x5_1) = true := decide_eq_true c5;clear c5;by_cases c6 : x5_1 < (l1.length : Int)
      ·rw [if_pos c6] at H
       have c6b0 : decide (x5_1 < (l1.length : Int)) = true := decide_eq_true c6;clear c6;by_cases c7 : (rd l0 x5_1) = (rd l1 x5_1)
       ·rw [if_pos c7] at H
        have c7b0 : ((rd l0 x5_1) == (rd l1 x5_1)) = true := beq_iff_eq.mpr c7;have c7b1 : ((rd l0 x5_1) != (rd l1 x5_1)) = false := bne_eq_false_iff_eq.mpr c7;clear c7;have H' := za.mk H;clear H;have p258 : 0 ≤ (x5_1 : Int) := of_decide_eq_true Zas;have q258 : x5_1 < (l0.length : Int) := of_decide_eq_true Zas;obtain ⟨ad258, e258, hx258_0⟩ := Kd.zbq HR0.out x5_1 p258 q258
        cases e258
        replace p258 := eq_true p258;replace q258 := eq_true q258;have p259 : 0 ≤ (x5_1 : Int) := of_decide_eq_true Zas;have q259 : x5_1 < (l1.length : Int) := of_decide_eq_true Zas;obtain ⟨ad259, e259, hx259_0⟩ := Kd.zbq HR1.out x5_1 p259 q259
        cases e259
        replace p259 := eq_true p259;replace q259 := eq_true q259;go_wp2
        repeat (go_quiet (fail); try go_wp2)
        go_roundg k1
        case measure => have := HK1.out; omega
        case rel => exact ⟨(wrap64 (x5_1 + 1)), Zrs, H', ⟨by have := HK1.out; omega⟩, by repeat (first | exact zbj.refl _ | apply zbj.step)⟩
       ·rw [if_neg c7] at H
        have c7b0 : ((rd l0 x5_1) == (rd l1 x5_1)) = false := beq_eq_false_iff_ne.mpr c7;have c7b1 : ((rd l0 x5_1) != (rd l1 x5_1)) = true := bne_iff_ne.mpr c7;obtain rfl := Option.some.inj H;have p258 : 0 ≤ (x5_1 : Int) := of_decide_eq_true Zas;have q258 : x5_1 < (l0.length : Int) := of_decide_eq_true Zas;obtain ⟨ad258, e258, hx258_0⟩ := Kd.zbq HR0.out x5_1 p258 q258
        cases e258
        replace p258 := eq_true p258;replace q258 := eq_true q258;have p259 : 0 ≤ (x5_1 : Int) := of_decide_eq_true Zas;have q259 : x5_1 < (l1.length : Int) := of_decide_eq_true Zas;obtain ⟨ad259, e259, hx259_0⟩ := Kd.zbq HR1.out x5_1 p259 q259
        cases e259
        replace p259 := eq_true p259;replace q259 := eq_true q259;go_wp2
        repeat (go_quiet (fail); try go_wp2)
        go_ret;exact ⟨by first | rfl | (simp; done) | (simp [*]; done), by repeat (first | exact zbj.refl _ | apply zbj.step)⟩
      ·rw [if_neg c6] at H
       exact absurd H (by simp)
     ·rw [if_neg c5] at H
      exact absurd H (by simp)
    ·rw [if_neg c4] at H
     have c4b0 : decide (x5_1 < (l0.length : Int)) = false := decide_eq_false c4;clear c4;obtain rfl := Option.some.inj H;go_wp2
     repeat (go_quiet (fail); try go_wp2)
     go_ret;exact ⟨by first | rfl | (simp; done) | (simp [*]; done), by repeat (first | exact zbj.refl _ | apply zbj.step)⟩
 ·rw [if_neg c3] at H
  have c3b0 : ((l0.length : Int) == (l1.length : Int)) = false := beq_eq_false_iff_ne.mpr c3;have c3b1 : ((l0.length : Int) != (l1.length : Int)) = true := bne_iff_ne.mpr c3;have c3b2 : (l0.length == l1.length) = false := by first | simpa using c3 | (simp at c3 ⊢; omega)
  obtain rfl := Option.some.inj H;go_enter Try.func12, Try.ntmps12;go_wp2
  repeat (go_quiet (fail); try go_wp2)
  go_ret;exact ⟨by first | rfl | (simp; done) | (simp [*]; done), by repeat (first | exact zbj.refl _ | apply zbj.step)⟩
def zbn.l0 : Nat → List (List Int) → List (List Int) → Int → Option (Bool)
 | 0, _, _, _ => none
 | k + 1, x0, x1, x5 => if x5 < (x0.length : Int) then (if 0 ≤ x5 then (if x5 < (x1.length : Int) then ((zbe.f k (zh x0 x5) (zh x1 x5)).bind fun t262 => (if t262 = true then (zbn.l0 k x0 x1 (wrap64 (x5 + 1))) else (some false))) else (none)) else (none)) else (some true)
def zbn.f (k : Nat) (l0 : List (List Int)) (l1 : List (List Int)) : Option (Bool) := if (l0.length : Int) = (l1.length : Int) then (zbn.l0 k l0 l1 0) else (some false)
set_option maxHeartbeats 8000000 in
theorem zbn.calls (k : Nat) (A0 : Option Addr) (c0 : Nat) (l0 : List (List Int)) (A1 : Option Addr) (c1 : Nat) (l1 : List (List Int)) (r : Bool) (w : World) (hr0 : Kd.C (Kd.slice 3 (Kd.int .i64)) w A0 l0.length l0) (hc0 : l0.length ≤ c0) (hr1 : Kd.C (Kd.slice 3 (Kd.int .i64)) w A1 l1.length l1) (hc1 : l1.length ≤ c1) (h : zbn.f k l0 l1 = some r) :
  Calls Try.prog 11 #[.slice A0 l0.length c0, .slice A1 l1.length c1] w fun e w' => e = .returned (.bool r) ∧ zbj w w' := by
 have HR0 := za.mk hr0
 have HC0 := za.mk hc0
 clear hr0 hc0
 have HR1 := za.mk hr1
 have HC1 := za.mk hc1
 clear hr1 hc1
 have H : (if (l0.length : Int) = (l1.length : Int) then (zbn.l0 k l0 l1 0) else (some false)) = some r := h
 clear h
 by_cases c3 : (l0.length : Int) = (l1.length : Int)
 ·rw [if_pos c3] at H
  have c3b0 : ((l0.length : Int) == (l1.length : Int)) = true := beq_iff_eq.mpr c3;have c3b1 : ((l0.length : Int) != (l1.length : Int)) = false := bne_eq_false_iff_eq.mpr c3;have c3b2 : (l0.length == l1.length) = true := by first | simpa using c3 | (simp at c3 ⊢; omega)
  clear c3;have H' := za.mk H;clear H;go_enter Try.func11, Try.ntmps11;go_wp2
  repeat (go_quiet (fail); try go_wp2)
  go_loopg [5] k (fun kq v5 w' => ∃ (x5_1 : Int), v5 = .int .i64 x5_1 ∧ za (zbn.l0 kq l0 l1 x5_1 = some r) ∧ za (kq ≤ k) ∧ zbj w w')
  case atStart => exact ⟨(0), Zrs, H', ⟨Nat.le_refl _⟩, by repeat (first | exact zbj.refl _ | apply zbj.step)⟩
  case round =>
   clear H'
   (try clear c1);(try clear p2);(try clear c3);(try clear c3b0);(try clear c3b1);(try clear c3b2)
   obtain ⟨x5_1, rfl, HA, HK1, ⟨m1, rfl⟩⟩ := hrel
   cases gk with
   | zero => exact absurd HA.out (by simp [zbn.l0])
   | succ k1 =>
    have H := HA.out;clear HA;simp only [zbn.l0] at H;by_cases c4 : x5_1 < (l0.length : Int)
    ·rw [if_pos c4] at H
     have c4b0 : decide (x5_1 < (l0.length : Int)) = true := decide_eq_true c4;clear c4;by_cases c5 : 0 ≤ x5_1
     ·rw [if_pos c5] at H
      have c5b0 : decide (0 ≤ x5_1) = true := decide_eq_true c5;clear c5;by_cases c6 : x5_1 < (l1.length : Int)
      ·rw [if_pos c6] at H
       have c6b0 : decide (x5_1 < (l1.length : Int)) = true := decide_eq_true c6;clear c6;replace H := Option.bind_eq_some_iff.mp H;obtain ⟨t262, A70, H⟩ := H;replace H : (if t262 = true then (zbn.l0 k1 l0 l1 (wrap64 (x5_1 + 1))) else (some false)) = some r := H;have A7 := za.mk A70;clear A70;by_cases c8 : t262 = true
       ·subst c8
        have H1 : (zbn.l0 k1 l0 l1 (wrap64 (x5_1 + 1))) = some r := by rw [if_pos rfl] at H; exact H
        clear H;have H := H1;clear H1;have H' := za.mk H;clear H;have p260 : 0 ≤ (x5_1 : Int) := of_decide_eq_true Zas;have q260 : x5_1 < (l0.length : Int) := of_decide_eq_true Zas;obtain ⟨ad260, A260_0, c260_0, e260, hx260_0, hl260_0, hi260_0⟩ := zc6 HR0.out x5_1 p260 q260
        cases e260
        have HR260_0 := za.mk hi260_0;have HC260_0 := za.mk hl260_0;clear hi260_0 hl260_0;replace p260 := eq_true p260;replace q260 := eq_true q260;have p261 : 0 ≤ (x5_1 : Int) := of_decide_eq_true Zas;have q261 : x5_1 < (l1.length : Int) := of_decide_eq_true Zas;obtain ⟨ad261, A261_0, c261_0, e261, hx261_0, hl261_0, hi261_0⟩ := zc6 HR1.out x5_1 p261 q261
        cases e261
        have HR261_0 := za.mk hi261_0;have HC261_0 := za.mk hl261_0;clear hi261_0 hl261_0;replace p261 := eq_true p261;replace q261 := eq_true q261;go_wp2_with (first | (go_at_call 12; (with_reducible refine (zbe.calls k1 _ _ (zh l0 x5_1) _ _ (zh l1 x5_1) true _ ?side1 ?side2 ?side3 ?side4 A7.out).mono ?_); (case side1 => exact Zq11 HR260_0); (case side2 => exact HC260_0.out); (case side3 => exact Zq11 HR261_0); (case side4 => exact HC261_0.out); rintro e w' ⟨rfl, ⟨nd, rfl⟩⟩; (try first | exact ⟨rfl, _, World.drewN_drewN _ _ _⟩ | exact ⟨rfl, _, Eq.trans (World.drewN_drewN _ _ _) (congrArg (World.drewN _) (Nat.add_assoc _ _ _))⟩)))
        repeat (go_quiet (first | (go_at_call 12; (with_reducible refine (zbe.calls k1 _ _ (zh l0 x5_1) _ _ (zh l1 x5_1) true _ ?side1 ?side2 ?side3 ?side4 A7.out).mono ?_); (case side1 => exact Zq11 HR260_0); (case side2 => exact HC260_0.out); (case side3 => exact Zq11 HR261_0); (case side4 => exact HC261_0.out); rintro e w' ⟨rfl, ⟨nd, rfl⟩⟩; (try first | exact ⟨rfl, _, World.drewN_drewN _ _ _⟩ | exact ⟨rfl, _, Eq.trans (World.drewN_drewN _ _ _) (congrArg (World.drewN _) (Nat.add_assoc _ _ _))⟩))); try go_wp2_with (first | (go_at_call 12; (with_reducible refine (zbe.calls k1 _ _ (zh l0 x5_1) _ _ (zh l1 x5_1) true _ ?side1 ?side2 ?side3 ?side4 A7.out).mono ?_); (case side1 => exact Zq11 HR260_0); (case side2 => exact HC260_0.out); (case side3 => exact Zq11 HR261_0); (case side4 => exact HC261_0.out); rintro e w' ⟨rfl, ⟨nd, rfl⟩⟩; (try first | exact ⟨rfl, _, World.drewN_drewN _ _ _⟩ | exact ⟨rfl, _, Eq.trans (World.drewN_drewN _ _ _) (congrArg (World.drewN _) (Nat.add_assoc _ _ _))⟩))))
        go_roundg k1
        case measure => have := HK1.out; omega
        case rel => exact ⟨(wrap64 (x5_1 + 1)), Zrs, H', ⟨by have := HK1.out; omega⟩, by repeat (first | exact zbj.refl _ | apply zbj.step)⟩
       ·replace c8 := Bool.eq_false_iff.mpr c8
        subst c8;have H1 : (some false) = some r := by rw [if_neg (show ¬ (false = true) by decide)] at H; exact H
        clear H;have H := H1;clear H1;obtain rfl := Option.some.inj H;have p260 : 0 ≤ (x5_1 : Int) := of_decide_eq_true Zas;have q260 : x5_1 < (l0.length : Int) := of_decide_eq_true Zas;obtain ⟨ad260, A260_0, c260_0, e260, hx260_0, hl260_0, hi260_0⟩ := zc6 HR0.out x5_1 p260 q260
        cases e260
        have HR260_0 := za.mk hi260_0;have HC260_0 := za.mk hl260_0;clear hi260_0 hl260_0;replace p260 := eq_true p260;replace q260 := eq_true q260;have p261 : 0 ≤ (x5_1 : Int) := of_decide_eq_true Zas;have q261 : x5_1 < (l1.length : Int) := of_decide_eq_true Zas;obtain ⟨ad261, A261_0, c261_0, e261, hx261_0, hl261_0, hi261_0⟩ := zc6 HR1.out x5_1 p261 q261
        cases e261
        have HR261_0 := za.mk hi261_0;have HC261_0 := za.mk hl261_0;clear hi261_0 hl261_0;replace p261 := eq_true p261;replace q261 := eq_true q261;go_wp2_with (first | (go_at_call 12; (with_reducible refine (zbe.calls k1 _ _ (zh l0 x5_1) _ _ (zh l1 x5_1) false _ ?side1 ?side2 ?side3 ?side4 A7.out).mono ?_); (case side1 => exact Zq11 HR260_0); (case side2 => exact HC260_0.out); (case side3 => exact Zq11 HR261_0); (case side4 => exact HC261_0.out); rintro e w' ⟨rfl, ⟨nd, rfl⟩⟩; (try first | exact ⟨rfl, _, World.drewN_drewN _ _ _⟩ | exact ⟨rfl, _, Eq.trans (World.drewN_drewN _ _ _) (congrArg (World.drewN _) (Nat.add_assoc _ _ _))⟩)))
        repeat (go_quiet (first | (go_at_call 12; (with_reducible refine (zbe.calls k1 _ _ (zh l0 x5_1) _ _ (zh l1 x5_1) false _ ?side1 ?side2 ?side3 ?side4 A7.out).mono ?_); (case side1 => exact Zq11 HR260_0); (case side2 => exact HC260_0.out); (case side3 => exact Zq11 HR261_0); (case side4 => exact HC261_0.out); rintro e w' ⟨rfl, ⟨nd, rfl⟩⟩; (try first | exact ⟨rfl, _, World.drewN_drewN _ _ _⟩ | exact ⟨rfl, _, Eq.trans (World.drewN_drewN _ _ _) (congrArg (World.drewN _) (Nat.add_assoc _ _ _))⟩))); try go_wp2_with (first | (go_at_call 12; (with_reducible refine (zbe.calls k1 _ _ (zh l0 x5_1) _ _ (zh l1 x5_1) false _ ?side1 ?side2 ?side3 ?side4 A7.out).mono ?_); (case side1 => exact Zq11 HR260_0); (case side2 => exact HC260_0.out); (case side3 => exact Zq11 HR261_0); (case side4 => exact HC261_0.out); rintro e w' ⟨rfl, ⟨nd, rfl⟩⟩; (try first | exact ⟨rfl, _, World.drewN_drewN _ _ _⟩ | exact ⟨rfl, _, Eq.trans (World.drewN_drewN _ _ _) (congrArg (World.drewN _) (Nat.add_assoc _ _ _))⟩))))
        go_ret;exact ⟨by first | rfl | (simp; done) | (simp [*]; done), by repeat (first | exact zbj.refl _ | apply zbj.step)⟩
      ·rw [if_neg c6] at H
       exact absurd H (by simp)
     ·rw [if_neg c5] at H
      exact absurd H (by simp)
    ·rw [if_neg c4] at H
     have c4b0 : decide (x5_1 < (l0.length : Int)) = false := decide_eq_false c4;clear c4;obtain rfl := Option.some.inj H;go_wp2
     repeat (go_quiet (fail); try go_wp2)
     go_ret;exact ⟨by first | rfl | (simp; done) | (simp [*]; done), by repeat (first | exact zbj.refl _ | apply zbj.step)⟩
 ·rw [if_neg c3] at H
  have c3b0 : ((l0.length : Int) == (l1.length : Int)) = false := beq_eq_false_iff_ne.mpr c3;have c3b1 : ((l0.length : Int) != (l1.length : Int)) = true := bne_iff_ne.mpr c3;have c3b2 : (l0.length == l1.length) = false := by first | simpa using c3 | (simp at c3 ⊢; omega)
  obtain rfl := Option.some.inj H;go_enter Try.func11, Try.ntmps11;go_wp2
  repeat (go_quiet (fail); try go_wp2)
  go_ret;exact ⟨by first | rfl | (simp; done) | (simp [*]; done), by repeat (first | exact zbj.refl _ | apply zbj.step)⟩
def zcn.f (a0_0 : Int) (a0_1 : Int) (a0_2 : Int) : Option (Bool) := (zb5.f a0_0 1 8).bind fun t264 => (if t264 = true then ((zb5.f a0_1 a0_0 a0_2).bind fun t265 => (if t265 = true then (some (decide (a0_2 ≤ 12))) else (some false))) else (some false))
set_option maxHeartbeats 8000000 in
theorem zcn.calls (a0_0 : Int) (a0_1 : Int) (a0_2 : Int) (r : Bool) (w : World) (h : zcn.f a0_0 a0_1 a0_2 = some r) :
  Calls Try.prog 41 #[.agg #[.int .i64 a0_0, .int .i64 a0_1, .int .i64 a0_2]] w fun e w' => e = .returned (.bool r) ∧ Below w.heap.size w w' := by
 have hu52 := Try.underlying52
 have HB := za.mk (Below.refl w.heap.size w)
 have H : ((zb5.f a0_0 1 8).bind fun t264 => (if t264 = true then ((zb5.f a0_1 a0_0 a0_2).bind fun t265 => (if t265 = true then (some (decide (a0_2 ≤ 12))) else (some false))) else (some false))) = some r := h
 clear h
 replace H := Option.bind_eq_some_iff.mp H
 obtain ⟨t264, A20, H⟩ := H
 replace H : (if t264 = true then ((zb5.f a0_1 a0_0 a0_2).bind fun t265 => (if t265 = true then (some (decide (a0_2 ≤ 12))) else (some false))) else (some false)) = some r := H
 have A2 := za.mk A20
 clear A20
 by_cases c3 : t264 = true
 ·subst c3
  have H1 : ((zb5.f a0_1 a0_0 a0_2).bind fun t265 => (if t265 = true then (some (decide (a0_2 ≤ 12))) else (some false))) = some r := by rw [if_pos rfl] at H; exact H
  clear H;have H := H1;clear H1;replace H := Option.bind_eq_some_iff.mp H;obtain ⟨t265, A40, H⟩ := H;replace H : (if t265 = true then (some (decide (a0_2 ≤ 12))) else (some false)) = some r := H;have A4 := za.mk A40;clear A40;by_cases c5 : t265 = true
  ·subst c5
   have H1 : (some (decide (a0_2 ≤ 12))) = some r := by rw [if_pos rfl] at H; exact H
   clear H;have H := H1;clear H1;obtain rfl := Option.some.inj H;go_enter Try.func41, Try.ntmps41;go_wp2_with (first | ((with_reducible refine zb8 (N := 1) rfl ?_); refine zdu ?hg (N := 1) ?hd (cs := #[.int .i64 a0_0, .int .i64 a0_1, .int .i64 a0_2]) (t := 52) ?hr ?_; (case hd => rfl); (case hg => rfl); (case hr => first | (go_simp; done) | (go_simp; rfl)); intro gb263 hg w6 hbox hb; have n0_ := za.mk (zbi (Zq1 HB) hb); have n1_ := za.mk (hbox); have n2_ := za.mk ((by rw [hg]; exact (zbs (Zq1 HB)) : w.heap.size ≤ gb263)); have n3_ := za.mk ((by rw [hg]; exact (zbs (Zq1 HB)) : w.heap.size ≤ gb263)); clear HB; have HB := n0_; have BK263 := n1_; have GW263 := n2_; have GE263 := n3_; clear n0_ n1_ n2_ n3_; clear hb hbox hg; have hcz7_0 : w6.cell? ⟨gb263, 0, none⟩ = some (.int .i64 a0_0) := (z8 BK263.out 0).trans rfl; have hcz7_1 : w6.cell? ⟨gb263, 1, none⟩ = some (.int .i64 a0_1) := (z8 BK263.out 1).trans rfl; have hcz7_2 : w6.cell? ⟨gb263, 2, none⟩ = some (.int .i64 a0_2) := (z8 BK263.out 2).trans rfl; have hfz7_0 := zy BK263.out 0; have hfz7_1 := zy BK263.out 1; have hfz7_2 := zy BK263.out 2) | ((with_reducible refine zbd (f := 52) rfl ?_); refine zb7 (some 5) rfl rfl Try.func52 (by kernel_rfl) rfl #[.int .i64 a0_0, .int .i64 1, .int .i64 8] rfl Zmt ?_; (with_reducible refine (zb5.calls a0_0 1 8 true _ A2.out).mono ?_); rintro e w' ⟨rfl, ⟨nd, rfl⟩⟩; refine ⟨_, rfl, ?_⟩) | (go_at_call 52; (with_reducible refine (zb5.calls a0_1 a0_0 a0_2 true _ A4.out).mono ?_); rintro e w' ⟨rfl, ⟨nd, rfl⟩⟩));go_ret;exact ⟨by first | rfl | (simp [zq, zt] <;> rfl) | (simp [*, zq, zt] <;> rfl), Zq3 HB GE263⟩
  ·replace c5 := Bool.eq_false_iff.mpr c5
   subst c5;have H1 : (some false) = some r := by rw [if_neg (show ¬ (false = true) by decide)] at H; exact H
   clear H;have H := H1;clear H1;obtain rfl := Option.some.inj H;go_enter Try.func41, Try.ntmps41;go_wp2_with (first | ((with_reducible refine zb8 (N := 1) rfl ?_); refine zdu ?hg (N := 1) ?hd (cs := #[.int .i64 a0_0, .int .i64 a0_1, .int .i64 a0_2]) (t := 52) ?hr ?_; (case hd => rfl); (case hg => rfl); (case hr => first | (go_simp; done) | (go_simp; rfl)); intro gb263 hg w8 hbox hb; have n0_ := za.mk (zbi (Zq1 HB) hb); have n1_ := za.mk (hbox); have n2_ := za.mk ((by rw [hg]; exact (zbs (Zq1 HB)) : w.heap.size ≤ gb263)); have n3_ := za.mk ((by rw [hg]; exact (zbs (Zq1 HB)) : w.heap.size ≤ gb263)); clear HB; have HB := n0_; have BK263 := n1_; have GW263 := n2_; have GE263 := n3_; clear n0_ n1_ n2_ n3_; clear hb hbox hg; have hcz9_0 : w8.cell? ⟨gb263, 0, none⟩ = some (.int .i64 a0_0) := (z8 BK263.out 0).trans rfl; have hcz9_1 : w8.cell? ⟨gb263, 1, none⟩ = some (.int .i64 a0_1) := (z8 BK263.out 1).trans rfl; have hcz9_2 : w8.cell? ⟨gb263, 2, none⟩ = some (.int .i64 a0_2) := (z8 BK263.out 2).trans rfl; have hfz9_0 := zy BK263.out 0; have hfz9_1 := zy BK263.out 1; have hfz9_2 := zy BK263.out 2) | ((with_reducible refine zbd (f := 52) rfl ?_); refine zb7 (some 5) rfl rfl Try.func52 (by kernel_rfl) rfl #[.int .i64 a0_0, .int .i64 1, .int .i64 8] rfl Zmt ?_; (with_reducible refine (zb5.calls a0_0 1 8 true _ A2.out).mono ?_); rintro e w' ⟨rfl, ⟨nd, rfl⟩⟩; refine ⟨_, rfl, ?_⟩) | (go_at_call 52; (with_reducible refine (zb5.calls a0_1 a0_0 a0_2 false _ A4.out).mono ?_); rintro e w' ⟨rfl, ⟨nd, rfl⟩⟩));go_ret;exact ⟨by first | rfl | (simp [zq, zt] <;> rfl) | (simp [*, zq, zt] <;> rfl), Zq3 HB GE263⟩
 ·replace c3 := Bool.eq_false_iff.mpr c3
  subst c3;have H1 : (some false) = some r := by rw [if_neg (show ¬ (false = true) by decide)] at H; exact H
  clear H;have H := H1;clear H1;obtain rfl := Option.some.inj H;go_enter Try.func41, Try.ntmps41;go_wp2_with (first | ((with_reducible refine zb8 (N := 1) rfl ?_); refine zdu ?hg (N := 1) ?hd (cs := #[.int .i64 a0_0, .int .i64 a0_1, .int .i64 a0_2]) (t := 52) ?hr ?_; (case hd => rfl); (case hg => rfl); (case hr => first | (go_simp; done) | (go_simp; rfl)); intro gb263 hg w10 hbox hb; have n0_ := za.mk (zbi (Zq1 HB) hb); have n1_ := za.mk (hbox); have n2_ := za.mk ((by rw [hg]; exact (zbs (Zq1 HB)) : w.heap.size ≤ gb263)); have n3_ := za.mk ((by rw [hg]; exact (zbs (Zq1 HB)) : w.heap.size ≤ gb263)); clear HB; have HB := n0_; have BK263 := n1_; have GW263 := n2_; have GE263 := n3_; clear n0_ n1_ n2_ n3_; clear hb hbox hg; have hcz11_0 : w10.cell? ⟨gb263, 0, none⟩ = some (.int .i64 a0_0) := (z8 BK263.out 0).trans rfl; have hcz11_1 : w10.cell? ⟨gb263, 1, none⟩ = some (.int .i64 a0_1) := (z8 BK263.out 1).trans rfl; have hcz11_2 : w10.cell? ⟨gb263, 2, none⟩ = some (.int .i64 a0_2) := (z8 BK263.out 2).trans rfl; have hfz11_0 := zy BK263.out 0; have hfz11_1 := zy BK263.out 1; have hfz11_2 := zy BK263.out 2) | ((with_reducible refine zbd (f := 52) rfl ?_); refine zb7 (some 5) rfl rfl Try.func52 (by kernel_rfl) rfl #[.int .i64 a0_0, .int .i64 1, .int .i64 8] rfl Zmt ?_; (with_reducible refine (zb5.calls a0_0 1 8 false _ A2.out).mono ?_); rintro e w' ⟨rfl, ⟨nd, rfl⟩⟩; refine ⟨_, rfl, ?_⟩));go_ret;exact ⟨by first | rfl | (simp [zq, zt] <;> rfl) | (simp [*, zq, zt] <;> rfl), Zq3 HB GE263⟩
def zdr.f  : Option (Bool) := (zcn.f 1 1 1).bind fun t266 => (some t266)
set_option maxHeartbeats 8000000 in
theorem zdr.calls  (r : Bool) (w : World) (h : zdr.f  = some r) :
  Calls Try.prog 14 #[] w fun e w' => e = .returned (.bool r) ∧ Below w.heap.size w w' := by
 have hu52 := Try.underlying52
 have HB := za.mk (Below.refl w.heap.size w)
 have H : ((zcn.f 1 1 1).bind fun t266 => (some t266)) = some r := h
 clear h
 replace H := Option.bind_eq_some_iff.mp H
 obtain ⟨t266, A10, H⟩ := H
 replace H : (some t266) = some r := H
 have A1 := za.mk A10
 clear A10
 obtain rfl := Option.some.inj H
 go_enter Try.func14, Try.ntmps14
 go_wp2_with (first | ((with_reducible refine zbd (f := 41) rfl ?_); refine zb7 (some 2) rfl rfl Try.func41 (by kernel_rfl) rfl #[.agg #[.int .i64 1, .int .i64 1, .int .i64 1]] rfl Zmt ?_; (with_reducible refine (zcn.calls 1 1 1 t266 _ A1.out).mono ?_); rintro e w2 ⟨rfl, hb⟩; refine ⟨_, rfl, ?_⟩; have n0_ := za.mk (zbi (Zq1 HB) hb); clear HB; have HB := n0_; clear n0_; (try clear hb); (try clear hb2); (try clear hk); (try clear hi)))
 go_ret
 exact ⟨by first | rfl | (simp [zq, zt] <;> rfl) | (simp [*, zq, zt] <;> rfl), Zq1 HB⟩
def zb2.l0 : Nat → Int → List Int → Int → Int → Option (Int)
 | 0, _, _, _, _ => none
 | k + 1, x3, x6, x7, x8 => if x8 < x7 then (if 0 ≤ x8 then (if x8 < (x6.length : Int) then (zb2.l0 k (wrap64 (x3 + (rd x6 x8))) x6 x7 (wrap64 (x8 + 1))) else (none)) else (none)) else (some x3)
def zb2.f (k : Nat) (l0 : List Int) : Option (Int) := zb2.l0 k 0 l0 (l0.length : Int) 0
set_option maxHeartbeats 8000000 in
theorem zb2.calls (k : Nat) (A0 : Option Addr) (c0 : Nat) (l0 : List Int) (r : Int) (w : World) (hr0 : Kd.C (Kd.int .i64) w A0 l0.length l0) (hc0 : l0.length ≤ c0) (h : zb2.f k l0 = some r) :
  Calls Try.prog 42 #[.slice A0 l0.length c0] w fun e w' => e = .returned (.int .i64 r) ∧ zbj w w' := by
 have HR0 := za.mk hr0
 have HC0 := za.mk hc0
 clear hr0 hc0
 have H : (zb2.l0 k 0 l0 (l0.length : Int) 0) = some r := h
 clear h
 have H' := za.mk H
 clear H
 go_enter Try.func42, Try.ntmps42
 go_wp2
 go_loopg [3, 8] k (fun kq v3 v8 w' => ∃ (x3_1 : Int) (x8_1 : Int), v3 = .int .i64 x3_1 ∧ v8 = .int .i64 x8_1 ∧ za (zb2.l0 kq x3_1 l0 (l0.length : Int) x8_1 = some r) ∧ za (kq ≤ k) ∧ zbj w w')
 case atStart => exact ⟨(0), (0), Zrs, Zrs, H', ⟨Nat.le_refl _⟩, by repeat (first | exact zbj.refl _ | apply zbj.step)⟩
 case round =>
  clear H';obtain ⟨x3_1, x8_1, rfl, rfl, HA, HK1, ⟨m1, rfl⟩⟩ := hrel
  cases gk with
  | zero => exact absurd HA.out (by simp [zb2.l0])
  | succ k1 =>
   have H := HA.out;clear HA;simp only [zb2.l0] at H;by_cases c2 : x8_1 < (l0.length : Int)
   ·rw [if_pos c2] at H
    have c2b0 : decide (x8_1 < (l0.length : Int)) = true := decide_eq_true c2;clear c2;by_cases c3 : 0 ≤ x8_1
    ·rw [if_pos c3] at H
     have c3b0 : decide (0 ≤ x8_1) = true := decide_eq_true c3;clear c3;by_cases c4 : x8_1 < (l0.length : Int)
     ·rw [if_pos c4] at H
      have c4b0 : decide (x8_1 < (l0.length : Int)) = true := decide_eq_true c4;clear c4;have H' := za.mk H;clear H;have p267 : 0 ≤ (x8_1 : Int) := of_decide_eq_true Zas;have q267 : x8_1 < (l0.length : Int) := of_decide_eq_true Zas;obtain ⟨ad267, e267, hx267_0⟩ := Kd.zbq HR0.out x8_1 p267 q267
      cases e267
      replace p267 := eq_true p267;replace q267 := eq_true q267;go_wp2;go_roundg k1
      case measure => have := HK1.out; omega
      case rel => exact ⟨(wrap64 (x3_1 + (rd l0 x8_1))), (wrap64 (x8_1 + 1)), Zrs, Zrs, H', ⟨by have := HK1.out; omega⟩, by repeat (first | exact zbj.refl _ | apply zbj.step)⟩
     ·rw [if_neg c4] at H
      exact absurd H (by simp)
    ·rw [if_neg c3] at H
     exact absurd H (by simp)
   ·rw [if_neg c2] at H
    have c2b0 : decide (x8_1 < (l0.length : Int)) = false := decide_eq_false c2;clear c2;obtain rfl := Option.some.inj H;go_wp2;go_ret;exact ⟨by first | rfl | (simp; done) | (simp [*]; done), by repeat (first | exact zbj.refl _ | apply zbj.step)⟩
def zco.f (k : Nat) (l0 : List Int) (l1 : List (List Int)) : Option (Int) := (zm.f k l0 l1).bind fun t268 => (if t268 = true then ((zb2.f k l0).bind fun t269 => (some t269)) else (some (-1)))
set_option maxHeartbeats 8000000 in
theorem zco.calls (k : Nat) (A0 : Option Addr) (c0 : Nat) (l0 : List Int) (A1 : Option Addr) (c1 : Nat) (l1 : List (List Int)) (r : Int) (w : World) (hr0 : Kd.C (Kd.int .i64) w A0 l0.length l0) (hc0 : l0.length ≤ c0) (hr1 : Kd.C (Kd.slice 3 (Kd.int .i64)) w A1 l1.length l1) (hc1 : l1.length ≤ c1) (h : zco.f k l0 l1 = some r) :
  Calls Try.prog 15 #[.slice A0 l0.length c0, .slice A1 l1.length c1] w fun e w' => e = .returned (.int .i64 r) ∧ Below w.heap.size w w' := by
 have HR0 := za.mk hr0
 have HC0 := za.mk hc0
 clear hr0 hc0
 have HR1 := za.mk hr1
 have HC1 := za.mk hc1
 clear hr1 hc1
 have HB := za.mk (Below.refl w.heap.size w)
 have H : ((zm.f k l0 l1).bind fun t268 => (if t268 = true then ((zb2.f k l0).bind fun t269 => (some t269)) else (some (-1)))) = some r := h
 clear h
 replace H := Option.bind_eq_some_iff.mp H
 obtain ⟨t268, A30, H⟩ := H
 replace H : (if t268 = true then ((zb2.f k l0).bind fun t269 => (some t269)) else (some (-1))) = some r := H
 have A3 := za.mk A30
 clear A30
 by_cases c4 : t268 = true
 ·subst c4
  have H1 : ((zb2.f k l0).bind fun t269 => (some t269)) = some r := by rw [if_pos rfl] at H; exact H
  clear H;have H := H1;clear H1;replace H := Option.bind_eq_some_iff.mp H;obtain ⟨t269, A50, H⟩ := H;replace H : (some t269) = some r := H;have A5 := za.mk A50;clear A50;obtain rfl := Option.some.inj H;go_enter Try.func15, Try.ntmps15;go_wp2_with (first | ((with_reducible refine zbd (f := 30) rfl ?_); refine zb7 (some 7) rfl rfl Try.func30 (by kernel_rfl) rfl #[.slice A0 l0.length c0, .slice A1 l1.length c1] rfl Zmt ?_; (with_reducible refine (zm.calls k _ _ l0 _ _ l1 true _ ?side1 ?side2 ?side3 ?side4 A3.out).mono ?_); (case side1 => exact Zq11 HR0); (case side2 => exact HC0.out); (case side3 => exact Zq11 HR1); (case side4 => exact HC1.out); rintro e w6 ⟨rfl, hb⟩; refine ⟨_, rfl, ?_⟩; have n0_ := za.mk (zbi (Zq1 HB) hb); clear HB; have HB := n0_; clear n0_; (try clear hb); (try clear hb2); (try clear hk); (try clear hi)) | ((with_reducible refine zbd (f := 42) rfl ?_); refine zb7 (some 10) rfl rfl Try.func42 (by kernel_rfl) rfl #[.slice A0 l0.length c0] rfl Zmt ?_; (with_reducible refine (zb2.calls k _ _ l0 t269 _ ?side1 ?side2 A5.out).mono ?_); (case side1 => exact Zq12 (Kd.zci HR0.out HB.out)); (case side2 => exact HC0.out); rintro e w' ⟨rfl, ⟨nd, rfl⟩⟩; refine ⟨_, rfl, ?_⟩));go_ret;exact ⟨by first | rfl | (simp [zq, zt] <;> rfl) | (simp [*, zq, zt] <;> rfl), Zq1 HB⟩
 ·replace c4 := Bool.eq_false_iff.mpr c4
  subst c4;have H1 : (some (-1)) = some r := by rw [if_neg (show ¬ (false = true) by decide)] at H; exact H
  clear H;have H := H1;clear H1;obtain rfl := Option.some.inj H;go_enter Try.func15, Try.ntmps15;go_wp2_with (first | ((with_reducible refine zbd (f := 30) rfl ?_); refine zb7 (some 7) rfl rfl Try.func30 (by kernel_rfl) rfl #[.slice A0 l0.length c0, .slice A1 l1.length c1] rfl Zmt ?_; (with_reducible refine (zm.calls k _ _ l0 _ _ l1 false _ ?side1 ?side2 ?side3 ?side4 A3.out).mono ?_); (case side1 => exact Zq11 HR0); (case side2 => exact HC0.out); (case side3 => exact Zq11 HR1); (case side4 => exact HC1.out); rintro e w7 ⟨rfl, hb⟩; refine ⟨_, rfl, ?_⟩; have n0_ := za.mk (zbi (Zq1 HB) hb); clear HB; have HB := n0_; clear n0_; (try clear hb); (try clear hb2); (try clear hk); (try clear hi)));go_ret;exact ⟨by first | rfl | (simp [zq, zt] <;> rfl) | (simp [*, zq, zt] <;> rfl), Zq1 HB⟩
end Go.Proofs.Ytebgfobjhlcopaa.P
