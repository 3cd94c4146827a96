/- The law FnGraphWide for every input, part 3 of its proof: what the program's functions answer, and the plain law. No condition. -/
import Derived.Test.YtebgfobjhlcopaaMFnGraphWide1
import Derived.Test.YtebgfobjhlcopaaMFnGraphWide2
import Derived.Laws.BitsLemmas
set_option maxRecDepth 100000
namespace Go.Proofs.Ytebgfobjhlcopaa.P
open Go.RowKit Go.Proofs.YtebgfobjhlcopaaW.PrintWords Go.Proofs.YtebgfobjhlcopaaW.PrintLast Go.Proofs.YtebgfobjhlcopaaW.PrintMore
attribute [local go_sem] zgg zgh zhy zhz zfe zff zgi zgj
set_option linter.unusedVariables false
set_option linter.unusedSimpArgs false
def zu.j0 : Nat → List Int → List (List Int) → Int → Bool → Option (Int)
 | 0, _, _, _, _ => none
 | k + 1, x0, x1, x2, x16 => if x16 = true then (some (-1)) else ((zq.f k x0 x1).bind fun t299 => ((zbt.f k x0).bind fun t300 => (if x2 = 0 then (none) else (some (wrap64 (t299 + (wrap64 (Int.tdiv (wrap64 (t300 - t299)) x2))))))))
def zu.f (k : Nat) (l0 : List Int) (l1 : List (List Int)) (a2 : Int) : Option (Int) := (zi.f k l0 l1).bind fun t297 => (if t297 = true then ((zbx.f a2).bind fun t298 => (zu.j0 k l0 l1 a2 (!t298))) else (zu.j0 k l0 l1 a2 true))
set_option maxHeartbeats 8000000 in
theorem zu.calls (k : Nat) (A0 : Option Addr) (c0 : Nat) (l0 : List Int) (A1 : Option Addr) (c1 : Nat) (l1 : List (List Int)) (a2 : Int) (r : Int) (w : World) (hr0 : Kd.C (Kd.int .i64) w A0 l0.length l0) (hc0 : l0.length ≤ c0) (hr1 : Kd.C (Kd.slice 3 (Kd.int .i64)) w A1 l1.length l1) (hc1 : l1.length ≤ c1) (h : zu.f k l0 l1 a2 = some r) :
  Calls Try.prog 17 #[.slice A0 l0.length c0, .slice A1 l1.length c1, .int .i64 a2] w fun e w' => e = .returned (.int .i64 r) ∧ Below w.heap.size w w' := by
 have HR0 := za.mk hr0
 have HC0 := za.mk hc0
 clear hr0 hc0
 have HR1 := za.mk hr1
 have HC1 := za.mk hc1
 clear hr1 hc1
 have HB := za.mk (Below.refl w.heap.size w)
 have H : ((zi.f k l0 l1).bind fun t297 => (if t297 = true then ((zbx.f a2).bind fun t298 => (zu.j0 k l0 l1 a2 (!t298))) else (zu.j0 k l0 l1 a2 true))) = some r := h
 clear h
 have HC4 := za.mk H
 clear H
 go_enter Try.func17, Try.ntmps17
 go_upto_region 1 with (fail)
 go_cut [16] (fun v16 wc => ∃ (kq : Nat) (x16_3 : Bool), v16 = .bool x16_3 ∧ za (zu.j0 kq l0 l1 a2 x16_3 = some r) ∧ za (kq ≤ k) ∧ za (Below w.heap.size w wc))
 case first =>
  have H := HC4.out;clear HC4;replace H := Option.bind_eq_some_iff.mp H;obtain ⟨t297, A50, H⟩ := H;replace H : (if t297 = true then ((zbx.f a2).bind fun t298 => (zu.j0 k l0 l1 a2 (!t298))) else (zu.j0 k l0 l1 a2 true)) = some r := H;have A5 := za.mk A50;clear A50;by_cases c6 : t297 = true
  ·subst c6
   have H1 : ((zbx.f a2).bind fun t298 => (zu.j0 k l0 l1 a2 (!t298))) = some r := by rw [if_pos rfl] at H; exact H
   clear H;have H := H1;clear H1;replace H := Option.bind_eq_some_iff.mp H;obtain ⟨t298, A70, H⟩ := H;replace H : (zu.j0 k l0 l1 a2 (!t298)) = some r := H;have A7 := za.mk A70;clear A70;have H' := za.mk H;clear H;go_wp2_with (first | ((with_reducible refine zw (f := 30) rfl ?_); refine zbn (some 10) rfl rfl Try.func30 (by kernel_rfl) rfl #[.slice A0 l0.length c0, .slice A1 l1.length c1] rfl Zmt ?_; (with_reducible refine (zi.calls k _ _ l0 _ _ l1 true _ ?side1 ?side2 ?side3 ?side4 A5.out).mono ?_); (case side1 => exact Zq11 (Kd.zbv HR0.out HB.out)); (case side2 => exact HC0.out); (case side3 => exact Zq11 (Kd.zbv HR1.out HB.out)); (case side4 => exact HC1.out); rintro e w8 ⟨rfl, hb⟩; refine ⟨_, rfl, ?_⟩; have n0_ := za.mk (z8 (Zq1 HB) hb); clear HB; have HB := n0_; clear n0_; (try clear hb); (try clear hb2); (try clear hk); (try clear hi)) | (go_at_call 31; (with_reducible refine (zbx.calls a2 t298 _ A7.out).mono ?_); rintro e w' ⟨rfl, ⟨nd, rfl⟩⟩));go_meet
   case rel => exact ⟨_, (!t298), Zrs, H', ⟨by first | omega | exact Nat.le_refl _⟩, ⟨Zq1 HB⟩⟩
  ·replace c6 := Bool.eq_false_iff.mpr c6
   subst c6;have H1 : (zu.j0 k l0 l1 a2 true) = some r := by rw [if_neg (show ¬ (false = true) by decide)] at H; exact H
   clear H;have H := H1;clear H1;have H' := za.mk H;clear H;go_wp2_with (first | ((with_reducible refine zw (f := 30) rfl ?_); refine zbn (some 10) rfl rfl Try.func30 (by kernel_rfl) rfl #[.slice A0 l0.length c0, .slice A1 l1.length c1] rfl Zmt ?_; (with_reducible refine (zi.calls k _ _ l0 _ _ l1 false _ ?side1 ?side2 ?side3 ?side4 A5.out).mono ?_); (case side1 => exact Zq11 (Kd.zbv HR0.out HB.out)); (case side2 => exact HC0.out); (case side3 => exact Zq11 (Kd.zbv HR1.out HB.out)); (case side4 => exact HC1.out); rintro e w9 ⟨rfl, hb⟩; refine ⟨_, rfl, ?_⟩; have n0_ := za.mk (z8 (Zq1 HB) hb); clear HB; have HB := n0_; clear n0_; (try clear hb); (try clear hb2); (try clear hk); (try clear hi)));go_meet
   case rel => exact ⟨_, (true), Zrs, H', ⟨by first | omega | exact Nat.le_refl _⟩, ⟨Zq1 HB⟩⟩
 case rest =>
  clear HC4
  (try clear c1);(try clear p2);(try clear c3);(try clear c6)
  obtain ⟨kq, x16_3, rfl, HA, HJ3, HB⟩ := hcut
  cases kq with
  | zero => exact absurd HA.out (by simp [zu.j0])
  | succ kj3 =>
   have H := HA.out;clear HA;simp only [zu.j0] at H;by_cases c10 : x16_3 = true
   ·subst c10
    have H1 : (some (-1)) = some r := by rw [if_pos rfl] at H; exact H
    clear H;have H := H1;clear H1;obtain rfl := Option.some.inj H;go_wp2;go_ret;exact ⟨by first | rfl | (simp [zl, zm] <;> rfl) | (simp [*, zl, zm] <;> rfl), Zq1 HB⟩
   ·replace c10 := Bool.eq_false_iff.mpr c10
    subst c10;have H1 : ((zq.f kj3 l0 l1).bind fun t299 => ((zbt.f kj3 l0).bind fun t300 => (if a2 = 0 then (none) else (some (wrap64 (t299 + (wrap64 (Int.tdiv (wrap64 (t300 - t299)) a2)))))))) = some r := by rw [if_neg (show ¬ (false = true) by decide)] at H; exact H
    clear H;have H := H1;clear H1;replace H := Option.bind_eq_some_iff.mp H;obtain ⟨t299, A110, H⟩ := H;replace H : ((zbt.f kj3 l0).bind fun t300 => (if a2 = 0 then (none) else (some (wrap64 (t299 + (wrap64 (Int.tdiv (wrap64 (t300 - t299)) a2))))))) = some r := H;have A11 := za.mk A110;clear A110;replace H := Option.bind_eq_some_iff.mp H;obtain ⟨t300, A120, H⟩ := H;replace H : (if a2 = 0 then (none) else (some (wrap64 (t299 + (wrap64 (Int.tdiv (wrap64 (t300 - t299)) a2)))))) = some r := H;have A12 := za.mk A120;clear A120;by_cases c13 : a2 = 0
    ·rw [if_pos c13] at H
     exact absurd H (by simp)
    ·rw [if_neg c13] at H
     have c13b0 : (a2 == 0) = false := beq_eq_false_iff_ne.mpr c13;have c13b1 : (a2 != 0) = true := bne_iff_ne.mpr c13;obtain rfl := Option.some.inj H;go_wp2_with (first | ((with_reducible refine zw (f := 46) rfl ?_); refine zbn (some 19) rfl rfl Try.func46 (by kernel_rfl) rfl #[.slice A0 l0.length c0, .slice A1 l1.length c1] rfl Zmt ?_; (with_reducible refine (zq.calls kj3 _ _ l0 _ _ l1 t299 _ ?side1 ?side2 ?side3 ?side4 A11.out).mono ?_); (case side1 => exact Zq11 (Kd.zbv HR0.out HB.out)); (case side2 => exact HC0.out); (case side3 => exact Zq11 (Kd.zbv HR1.out HB.out)); (case side4 => exact HC1.out); rintro e w14 ⟨rfl, hb⟩; refine ⟨_, rfl, ?_⟩; have n0_ := za.mk (z8 (Zq1 HB) hb); clear HB; have HB := n0_; clear n0_; (try clear hb); (try clear hb2); (try clear hk); (try clear hi)) | ((with_reducible refine zw (f := 42) rfl ?_); refine zbn (some 22) rfl rfl Try.func42 (by kernel_rfl) rfl #[.slice A0 l0.length c0] rfl Zmt ?_; (with_reducible refine (zbt.calls kj3 _ _ l0 t300 _ ?side1 ?side2 A12.out).mono ?_); (case side1 => exact Zq11 (Kd.zbv HR0.out HB.out)); (case side2 => exact HC0.out); rintro e w' ⟨rfl, ⟨nd, rfl⟩⟩; refine ⟨_, rfl, ?_⟩));go_ret;exact ⟨by first | rfl | (simp [zl, zm] <;> rfl) | (simp [*, zl, zm] <;> rfl), Zq1 HB⟩
def zby.f (a0 : Int) (a1 : Int) (a2 : Int) : Option (Bool) := if a0 ≥ a1 then (some (decide (a0 ≤ a2))) else (some false)
set_option maxHeartbeats 8000000 in
theorem zby.calls (a0 : Int) (a1 : Int) (a2 : Int) (r : Bool) (w : World) (h : zby.f a0 a1 a2 = some r) :
  Calls Try.prog 39 #[.int .i64 a0, .int .i64 a1, .int .i64 a2] w fun e w' => e = .returned (.bool r) ∧ zbh w w' := by
 have H : (if a0 ≥ a1 then (some (decide (a0 ≤ a2))) else (some false)) = some r := h
 clear h
 by_cases c4 : a0 ≥ a1
 ·rw [if_pos c4] at H
  have c4b0 : decide (a1 ≤ a0) = true := decide_eq_true c4;clear c4;obtain rfl := Option.some.inj H;go_enter Try.func39, Try.ntmps39;go_wp2;go_ret;exact ⟨by first | rfl | (simp; done) | (simp [*]; done), by repeat (first | exact zbh.refl _ | apply zbh.step)⟩
 ·rw [if_neg c4] at H
  have c4b0 : decide (a1 ≤ a0) = false := decide_eq_false c4;clear c4;obtain rfl := Option.some.inj H;go_enter Try.func39, Try.ntmps39;go_wp2;go_ret;exact ⟨by first | rfl | (simp; done) | (simp [*]; done), by repeat (first | exact zbh.refl _ | apply zbh.step)⟩
mutual
def ze.j0 : Nat → List Int → List (List Int) → Bool → Option (Bool)
 | 0, _, _, _ => none
 | k + 1, x0, x1, x14 => if x14 = true then (some false) else (ze.l0 k x0 x1 0)
def ze.l0 : Nat → List Int → List (List Int) → Int → Option (Bool)
 | 0, _, _, _ => none
 | k + 1, x0, x1, x5 => if x5 < (x0.length : Int) then (if 0 ≤ x5 then ((zby.f (rd x0 x5) 1 8).bind fun t218 => (if t218 = true then (ze.l0 k x0 x1 (wrap64 (x5 + 1))) else (some false))) else (none)) else (ze.l1 k x0 x1 0)
def ze.l1 : Nat → List Int → List (List Int) → Int → Option (Bool)
 | 0, _, _, _ => none
 | k + 1, x0, x1, x6 => if x6 < (x1.length : Int) then (if 0 ≤ x6 then (if ((zo x1 x6).length : Int) = 2 then (if 1 < ((zo x1 x6).length : Int) then ((zby.f (rd (zo x1 x6) 1) 0 (wrap64 ((x0.length : Int) - 1))).bind fun t222 => (if t222 = true then (if 0 < ((zo x1 x6).length : Int) then ((zby.f (rd (zo x1 x6) 0) 0 (wrap64 ((rd (zo x1 x6) 1) - 1))).bind fun t227 => (if t227 = true then (ze.l1 k x0 x1 (wrap64 (x6 + 1))) else (some false))) else (none)) else (some false))) else (none)) else (some false)) else (none)) else (some true)
end
def ze.f (k : Nat) (l0 : List Int) (l1 : List (List Int)) : Option (Bool) := if (l0.length : Int) > 8 then (ze.j0 k l0 l1 true) else (ze.j0 k l0 l1 (decide ((l1.length : Int) > 64)))
def ze.T11 : Bool × List (List Nat × List Nat) := (true, [([], []), ([], []), ([0, 1], [0, 1]), ([2], [2]), ([3], [3]), ([4], [4]), ([5], [5]), ([6], [6]), ([6], [6]), ([7, 8, 6], [6, 7, 8]), ([9, 6], [6, 9]), ([10, 6], [6, 10]), ([11, 6], [6, 11]), ([6], [6]), ([13, 6], [6, 13]), ([14, 6], [6, 14]), ([12, 15, 6, 6], [6, 12, 15]), ([16, 6], [6, 16]), ([6, 17], [6, 17]), ([18, 16], [18]), ([19], [19]), ([19], [19]), ([20, 21, 19], [19, 20, 21]), ([22, 19], [19, 22]), ([23, 19], [19, 23]), ([24, 19], [19, 24]), ([19], [19]), ([19], [19]), ([26, 27, 19], [19, 26, 27]), ([28, 19], [19, 28]), ([29, 19], [19, 29]), ([30, 19], [19, 30]), ([31, 19], [19, 31]), ([25, 32, 19, 19], [19, 25, 32]), ([33, 19], [19, 33]), ([19, 34], [19, 34])])
def ze.B11 : List Nat := [0, 0, 3, 7, 15, 31, 63, 127, 127, 511, 1023, 2047, 4095, 127, 8319, 24703, 65535, 131071, 262143, 524287, 1048575, 1048575, 4194303, 8388607, 16777215, 33554431, 1048575, 1048575, 202375167, 470810623, 1007681535, 2081423359, 4228907007, 8589934591, 17179869183, 34359738367]
theorem ze.tab11 : rtab .any (opsOf Try.f13 11) = ze.T11 := by kernel_rfl
theorem ze.bits11 : zd2 ze.T11.2 ze.B11 = true := by kernel_rfl
set_option maxHeartbeats 8000000 in
theorem ze.calls (k : Nat) (A0 : Option Addr) (c0 : Nat) (l0 : List Int) (A1 : Option Addr) (c1 : Nat) (l1 : List (List Int)) (r : Bool) (w : World) (hr0 : Kd.C (Kd.int .i64) w A0 l0.length l0) (hc0 : l0.length ≤ c0) (hr1 : Kd.C (Kd.slice 3 (Kd.int .i64)) w A1 l1.length l1) (hc1 : l1.length ≤ c1) (h : ze.f k l0 l1 = some r) :
  Calls Try.prog 13 #[.slice A0 l0.length c0, .slice A1 l1.length c1] w fun e w' => e = .returned (.bool r) ∧ Below w.heap.size w w' := by
 have HR0 := za.mk hr0
 have HC0 := za.mk hc0
 clear hr0 hc0
 have HR1 := za.mk hr1
 have HC1 := za.mk hc1
 clear hr1 hc1
 have HB := za.mk (Below.refl w.heap.size w)
 have H : (if (l0.length : Int) > 8 then (ze.j0 k l0 l1 true) else (ze.j0 k l0 l1 (decide ((l1.length : Int) > 64)))) = some r := h
 clear h
 have HC3 := za.mk H
 clear H
 go_enter Try.func13, Try.ntmps13
 go_upto_region 1 with (fail)
 go_cut [14] (fun v14 wc => ∃ (kq : Nat) (x14_2 : Bool), v14 = .bool x14_2 ∧ za (ze.j0 kq l0 l1 x14_2 = some r) ∧ za (kq ≤ k) ∧ za (Below w.heap.size w wc))
 case first =>
  have H := HC3.out;clear HC3;by_cases c4 : (l0.length : Int) > 8
  ·rw [if_pos c4] at H
   have c4b0 : decide (8 < (l0.length : Int)) = true := decide_eq_true c4;have c4b1 : decide (8 < l0.length) = true := decide_eq_true (by omega);clear c4;(first | rw [c4b0] | (simp only [zg, zh]; rw [c4b0]) | skip);have H' := za.mk H;clear H;go_wp2;go_meet
   case rel => exact ⟨_, (true), Zrs, H', ⟨by first | omega | exact Nat.le_refl _⟩, ⟨Zq1 HB⟩⟩
  ·rw [if_neg c4] at H
   have c4b0 : decide (8 < (l0.length : Int)) = false := decide_eq_false c4;have c4b1 : decide (8 < l0.length) = false := decide_eq_false (by omega);clear c4;(first | rw [c4b0] | (simp only [zg, zh]; rw [c4b0]) | skip);have H' := za.mk H;clear H;go_wp2;go_meet
   case rel => exact ⟨_, (decide ((l1.length : Int) > 64)), Zrs, H', ⟨by first | omega | exact Nat.le_refl _⟩, ⟨Zq1 HB⟩⟩
 case rest =>
  clear HC3
  (try clear c1);(try clear p2);(try clear c4);(try clear c4b0);(try clear c4b1)
  obtain ⟨kq, x14_2, rfl, HA, HJ2, HB⟩ := hcut
  cases kq with
  | zero => exact absurd HA.out (by simp [ze.j0])
  | succ kj2 =>
   have H := HA.out;clear HA;simp only [ze.j0] at H;by_cases c5 : x14_2 = true
   ·subst c5
    have H1 : (some false) = some r := by rw [if_pos rfl] at H; exact H
    clear H;have H := H1;clear H1;obtain rfl := Option.some.inj H;go_wp2;go_ret;exact ⟨by first | rfl | (simp [zl, zm] <;> rfl) | (simp [*, zl, zm] <;> rfl), Zq1 HB⟩
   ·replace c5 := Bool.eq_false_iff.mpr c5
    subst c5;have H1 : (ze.l0 kj2 l0 l1 0) = some r := by rw [if_neg (show ¬ (false = true) by decide)] at H; exact H
    clear H;have H := H1;clear H1;have H' := za.mk H;clear H;go_wp2
    go_loopg [5] kj2 (fun kq v5 w' => ∃ (x5_2 : Int), v5 = .int .i64 x5_2 ∧ za (ze.l0 kq l0 l1 x5_2 = some r) ∧ za (kq ≤ kj2) ∧ za (Below w.heap.size w w'))
    case atStart => exact ⟨(0), Zrs, H', ⟨Nat.le_refl _⟩, ⟨Zq1 HB⟩⟩
    case round =>
     clear H'
     (try clear c1);(try clear p2);(try clear c4);(try clear c4b0);(try clear c4b1);(try clear c5);(try clear p2)
     obtain ⟨x5_2, rfl, HA, HK2, HB⟩ := hrel
     cases gk with
     | zero => exact absurd HA.out (by simp [ze.l0])
     | succ k2 =>
      have H := HA.out;clear HA;simp only [ze.l0] at H;by_cases c6 : x5_2 < (l0.length : Int)
      ·rw [if_pos c6] at H
       have c6b0 : decide (x5_2 < (l0.length : Int)) = true := decide_eq_true c6;clear c6;by_cases c7 : 0 ≤ x5_2
       ·rw [if_pos c7] at H
        have c7b0 : decide (0 ≤ x5_2) = true := decide_eq_true c7;clear c7;replace H := Option.bind_eq_some_iff.mp H;obtain ⟨t218, A80, H⟩ := H;replace H : (if t218 = true then (ze.l0 k2 l0 l1 (wrap64 (x5_2 + 1))) else (some false)) = some r := H;have A8 := za.mk A80;clear A80;by_cases c9 : t218 = true
        ·subst c9
         have H1 : (ze.l0 k2 l0 l1 (wrap64 (x5_2 + 1))) = some r := by rw [if_pos rfl] at H; exact H
         clear H;have H := H1;clear H1;have H' := za.mk H;clear H;have p217 : 0 ≤ (x5_2 : Int) := of_decide_eq_true Zas;have q217 : x5_2 < (l0.length : Int) := of_decide_eq_true Zas;obtain ⟨ad217, e217, hx217_0⟩ := Kd.zbq HR0.out x5_2 p217 q217
         cases e217
         replace hx217_0 := (HB.out.cell (World.block_lt_of_cell? w _ hx217_0)).trans hx217_0;replace p217 := eq_true p217;replace q217 := eq_true q217;go_wp2_with (first | ((with_reducible refine zw (f := 39) rfl ?_); refine zbn (some 25) rfl rfl Try.func39 (by kernel_rfl) rfl #[.int .i64 (rd l0 x5_2), .int .i64 1, .int .i64 8] rfl Zmt ?_; (with_reducible refine (zby.calls (rd l0 x5_2) 1 8 true _ A8.out).mono ?_); rintro e w' ⟨rfl, ⟨nd, rfl⟩⟩; refine ⟨_, rfl, ?_⟩));go_roundg k2
         case measure => have := HJ2.out; have := HK2.out; omega
         case rel => exact ⟨(wrap64 (x5_2 + 1)), Zrs, H', ⟨by have := HJ2.out; have := HK2.out; omega⟩, ⟨Zq1 HB⟩⟩
        ·replace c9 := Bool.eq_false_iff.mpr c9
         subst c9;have H1 : (some false) = some r := by rw [if_neg (show ¬ (false = true) by decide)] at H; exact H
         clear H;have H := H1;clear H1;obtain rfl := Option.some.inj H;have p217 : 0 ≤ (x5_2 : Int) := of_decide_eq_true Zas;have q217 : x5_2 < (l0.length : Int) := of_decide_eq_true Zas;obtain ⟨ad217, e217, hx217_0⟩ := Kd.zbq HR0.out x5_2 p217 q217
         cases e217
         replace hx217_0 := (HB.out.cell (World.block_lt_of_cell? w _ hx217_0)).trans hx217_0;replace p217 := eq_true p217;replace q217 := eq_true q217;go_wp2_with (first | ((with_reducible refine zw (f := 39) rfl ?_); refine zbn (some 25) rfl rfl Try.func39 (by kernel_rfl) rfl #[.int .i64 (rd l0 x5_2), .int .i64 1, .int .i64 8] rfl Zmt ?_; (with_reducible refine (zby.calls (rd l0 x5_2) 1 8 false _ A8.out).mono ?_); rintro e w' ⟨rfl, ⟨nd, rfl⟩⟩; refine ⟨_, rfl, ?_⟩));go_ret;exact ⟨by first | rfl | (simp [zl, zm] <;> rfl) | (simp [*, zl, zm] <;> rfl), Zq1 HB⟩
       ·rw [if_neg c7] at H
        exact absurd H (by simp)
      ·rw [if_neg c6] at H
       have c6b0 : decide (x5_2 < (l0.length : Int)) = false := decide_eq_false c6;clear c6;have H' := za.mk H;clear H;go_wp2
       go_loopg [6] k2 (fun kq v6 w' => ∃ (x6_3 : Int), v6 = .int .i64 x6_3 ∧ za (ze.l1 kq l0 l1 x6_3 = some r) ∧ za (kq ≤ k2) ∧ za (Below w.heap.size w w'))
       case atStart => exact ⟨(0), Zrs, H', ⟨Nat.le_refl _⟩, ⟨Zq1 HB⟩⟩
       case round =>
        clear H'
        (try clear c1);(try clear p2);(try clear q2);(try clear hx2);(try clear c3);(try clear c4);(try clear c4b0);(try clear c4b1);(try clear c5);(try clear c6);(try clear c6b0);(try clear p6);(try clear c7);(try clear c7b0);(try clear c9);(try clear hx217_0);(try clear p2);(try clear p217);(try clear q217)
        obtain ⟨x6_3, rfl, HA, HK3, HB⟩ := hrel
        cases gk with
        | zero => exact absurd HA.out (by simp [ze.l1])
        | succ k3 =>
         have H := HA.out;clear HA;simp only [ze.l1] at H;by_cases c10 : x6_3 < (l1.length : Int)
         ·rw [if_pos c10] at H
          have c10b0 : decide (x6_3 < (l1.length : Int)) = true := decide_eq_true c10;clear c10;by_cases c11 : 0 ≤ x6_3
          ·rw [if_pos c11] at H
           have c11b0 : decide (0 ≤ x6_3) = true := decide_eq_true c11;clear c11;by_cases c12 : ((zo l1 x6_3).length : Int) = 2
           ·rw [if_pos c12] at H
            have c12b0 : (((zo l1 x6_3).length : Int) == 2) = true := beq_iff_eq.mpr c12;have c12b1 : (((zo l1 x6_3).length : Int) != 2) = false := bne_eq_false_iff_eq.mpr c12;clear c12;by_cases c13 : 1 < ((zo l1 x6_3).length : Int)
            ·rw [if_pos c13] at H
             have c13b0 : decide (1 < ((zo l1 x6_3).length : Int)) = true := decide_eq_true c13;have c13b1 : decide (1 < (zo l1 x6_3).length) = true := decide_eq_true (by omega);clear c13;replace H := Option.bind_eq_some_iff.mp H;obtain ⟨t222, A140, H⟩ := H;replace H : (if t222 = true then (if 0 < ((zo l1 x6_3).length : Int) then ((zby.f (rd (zo l1 x6_3) 0) 0 (wrap64 ((rd (zo l1 x6_3) 1) - 1))).bind fun t227 => (if t227 = true then (ze.l1 k3 l0 l1 (wrap64 (x6_3 + 1))) else (some false))) else (none)) else (some false)) = some r := H;have A14 := za.mk A140;clear A140;by_cases c15 : t222 = true
             ·subst c15
              have H1 : (if 0 < ((zo l1 x6_3).length : Int) then ((zby.f (rd (zo l1 x6_3) 0) 0 (wrap64 ((rd (zo l1 x6_3) 1) - 1))).bind fun t227 => (if t227 = true then (ze.l1 k3 l0 l1 (wrap64 (x6_3 + 1))) else (some false))) else (none)) = some r := by rw [if_pos rfl] at H; exact H
              clear H;have H := H1;clear H1;by_cases c16 : 0 < ((zo l1 x6_3).length : Int)
              ·rw [if_pos c16] at H
               have c16b0 : decide (0 < ((zo l1 x6_3).length : Int)) = true := decide_eq_true c16;have c16b1 : decide (0 < (zo l1 x6_3).length) = true := decide_eq_true (by omega);clear c16;replace H := Option.bind_eq_some_iff.mp H;obtain ⟨t227, A170, H⟩ := H;replace H : (if t227 = true then (ze.l1 k3 l0 l1 (wrap64 (x6_3 + 1))) else (some false)) = some r := H;have A17 := za.mk A170;clear A170;by_cases c18 : t227 = true
               ·subst c18
                have H1 : (ze.l1 k3 l0 l1 (wrap64 (x6_3 + 1))) = some r := by rw [if_pos rfl] at H; exact H
                clear H;have H := H1;clear H1;have H' := za.mk H;clear H
                try go_wp2
                have n0_ := za.mk (zbz HB.out);clear HB;have HB := n0_;clear n0_;have p219 : 0 ≤ (x6_3 : Int) := of_decide_eq_true Zas;have q219 : x6_3 < (l1.length : Int) := of_decide_eq_true Zas;obtain ⟨ad219, A219_0, c219_0, e219, hx219_0, hl219_0, hi219_0⟩ := zdk HR1.out x6_3 p219 q219;have hw219_0 := hx219_0
                cases e219
                replace hx219_0 := (HB.out.cell (World.block_lt_of_cell? w _ hx219_0)).trans hx219_0;have HR219_0 := za.mk hi219_0;have HC219_0 := za.mk hl219_0;clear hi219_0 hl219_0;replace p219 := eq_true p219;replace q219 := eq_true q219;have p220 : 0 ≤ (x6_3 : Int) := of_decide_eq_true Zas;have q220 : x6_3 < (l1.length : Int) := of_decide_eq_true Zas;obtain ⟨ad220, A220_0, c220_0, e220, hx220_0, hl220_0, hi220_0⟩ := zdk HR1.out x6_3 p220 q220;have hw220_0 := hx220_0;obtain rfl : ad219 = ad220 := (by injection e220);replace hx220_0 := (HB.out.cell (World.block_lt_of_cell? w _ hx220_0)).trans hx220_0;have HR220_0 := za.mk hi220_0;have HC220_0 := za.mk hl220_0;clear hi220_0 hl220_0;replace p220 := eq_true p220;replace q220 := eq_true q220;have ea_ := Option.some.inj (hx219_0.symm.trans hx220_0);injection ea_ with ea_ en_ ec_;subst ea_;subst ec_;clear en_;have p221 : 0 ≤ (1 : Int) := (by omega);have q221 : 1 < ((zo l1 x6_3).length : Int) := of_decide_eq_true Zas;obtain ⟨ad221, e221, hx221_0⟩ := Kd.zbq HR220_0.out 1 p221 q221;have hw221_0 := hx221_0;(try rw [show ((1 : Int)).toNat = 1 from rfl] at hw221_0);(try rw [show 1 * 1 = 1 from rfl] at hw221_0);(try simp only [Nat.reduceMul, Nat.reduceEqDiff, Go.Addr.add, ↓reduceIte] at hw221_0)
                cases e221
                (try simp only [show (1 : Int).toNat = 1 from rfl, Nat.reduceMul, Nat.reduceEqDiff, Go.Addr.add, ↓reduceIte] at hx221_0);have qi221 : (1 < (zo l1 x6_3).length) = True := eq_true (by omega);(try rw [show ((1 : Int)).toNat = 1 from rfl] at hx221_0);replace hx221_0 := (HB.out.cell (World.block_lt_of_cell? w _ hx221_0)).trans hx221_0;replace p221 := eq_true p221;replace q221 := eq_true q221;have p223 : 0 ≤ (x6_3 : Int) := of_decide_eq_true Zas;have q223 : x6_3 < (l1.length : Int) := of_decide_eq_true Zas;obtain ⟨ad223, A223_0, c223_0, e223, hx223_0, hl223_0, hi223_0⟩ := zdk HR1.out x6_3 p223 q223;have hw223_0 := hx223_0;obtain rfl : ad219 = ad223 := (by injection e223);replace hx223_0 := (HB.out.cell (World.block_lt_of_cell? w _ hx223_0)).trans hx223_0;have HR223_0 := za.mk hi223_0;have HC223_0 := za.mk hl223_0;clear hi223_0 hl223_0;replace p223 := eq_true p223;replace q223 := eq_true q223;have ea_ := Option.some.inj (hx219_0.symm.trans hx223_0);injection ea_ with ea_ en_ ec_;subst ea_;subst ec_;clear en_;have p224 : 0 ≤ (0 : Int) := (by omega);have q224 : 0 < ((zo l1 x6_3).length : Int) := of_decide_eq_true Zas;obtain ⟨ad224, e224, hx224_0⟩ := Kd.zbq HR223_0.out 0 p224 q224;have hw224_0 := hx224_0;(try rw [show ((0 : Int)).toNat = 0 from rfl] at hw224_0);(try rw [show 0 * 1 = 0 from rfl] at hw224_0);(try rw [Addr.add_zero'] at hw224_0)
                cases e224
                have qi224 : (0 < (zo l1 x6_3).length) = True := eq_true (by omega);(try rw [show ((0 : Int)).toNat = 0 from rfl] at hx224_0);(try rw [Addr.add_zero'] at hx224_0);replace hx224_0 := (HB.out.cell (World.block_lt_of_cell? w _ hx224_0)).trans hx224_0;replace p224 := eq_true p224;replace q224 := eq_true q224;have p225 : 0 ≤ (x6_3 : Int) := of_decide_eq_true Zas;have q225 : x6_3 < (l1.length : Int) := of_decide_eq_true Zas;obtain ⟨ad225, A225_0, c225_0, e225, hx225_0, hl225_0, hi225_0⟩ := zdk HR1.out x6_3 p225 q225;have hw225_0 := hx225_0;obtain rfl : ad219 = ad225 := (by injection e225);replace hx225_0 := (HB.out.cell (World.block_lt_of_cell? w _ hx225_0)).trans hx225_0;have HR225_0 := za.mk hi225_0;have HC225_0 := za.mk hl225_0;clear hi225_0 hl225_0;replace p225 := eq_true p225;replace q225 := eq_true q225;have ea_ := Option.some.inj (hx219_0.symm.trans hx225_0);injection ea_ with ea_ en_ ec_;subst ea_;subst ec_;clear en_;have p226 : 0 ≤ (1 : Int) := (by omega);have q226 : 1 < ((zo l1 x6_3).length : Int) := of_decide_eq_true Zas;obtain ⟨ad226, e226, hx226_0⟩ := Kd.zbq HR225_0.out 1 p226 q226;have hw226_0 := hx226_0;(try rw [show ((1 : Int)).toNat = 1 from rfl] at hw226_0);(try rw [show 1 * 1 = 1 from rfl] at hw226_0);(try simp only [Nat.reduceMul, Nat.reduceEqDiff, Go.Addr.add, ↓reduceIte] at hw226_0)
                cases e226
                (try simp only [show (1 : Int).toNat = 1 from rfl, Nat.reduceMul, Nat.reduceEqDiff, Go.Addr.add, ↓reduceIte] at hx226_0);have qi226 : (1 < (zo l1 x6_3).length) = True := eq_true (by omega);(try rw [show ((1 : Int)).toNat = 1 from rfl] at hx226_0);replace hx226_0 := (HB.out.cell (World.block_lt_of_cell? w _ hx226_0)).trans hx226_0;replace p226 := eq_true p226;replace q226 := eq_true q226;refine zd0 (n := 36) (S := fun w' => w'.cell? (ad219.add (x6_3).toNat) = some (.slice (some ad221) (zo l1 x6_3).length c219_0) ∧ w'.cell? (ad219.add (x6_3).toNat) = some (.slice (some ad221) (zo l1 x6_3).length c219_0) ∧ w'.cell? ⟨ad221.block, ad221.off + 1, none⟩ = some (.int .i64 (rd (zo l1 x6_3) 1)) ∧ w'.cell? (ad219.add (x6_3).toNat) = some (.slice (some ad221) (zo l1 x6_3).length c219_0) ∧ w'.cell? ad221 = some (.int .i64 (rd (zo l1 x6_3) 0)) ∧ w'.cell? (ad219.add (x6_3).toNat) = some (.slice (some ad221) (zo l1 x6_3).length c219_0) ∧ w'.cell? ⟨ad221.block, ad221.off + 1, none⟩ = some (.int .i64 (rd (zo l1 x6_3) 1))) (ds := []) #[false, false, false, false, false, false, false, false, false, false, false, false, false, false, false, false, false, false, false, false, false, false, false, false, false, false, false, false, false, false, false, false, false, false, false, false] (by kernel_rfl) rfl rfl ⟨((HB.out.cell (World.block_lt_of_cell? w _ hw219_0)).trans hw219_0), ((HB.out.cell (World.block_lt_of_cell? w _ hw220_0)).trans hw220_0), ((HB.out.cell (World.block_lt_of_cell? w _ hw221_0)).trans hw221_0), ((HB.out.cell (World.block_lt_of_cell? w _ hw223_0)).trans hw223_0), ((HB.out.cell (World.block_lt_of_cell? w _ hw224_0)).trans hw224_0), ((HB.out.cell (World.block_lt_of_cell? w _ hw225_0)).trans hw225_0), ((HB.out.cell (World.block_lt_of_cell? w _ hw226_0)).trans hw226_0)⟩ (fun hHeld => ?_); refine zcp ze.tab11 ze.bits11 (fun HT_ HW_ => ?_);generalize wr.drew = w19 at HB HR219_0 HR220_0 HR223_0 HR225_0 hx219_0 hx220_0 hx221_0 hx223_0 hx224_0 hx225_0 hx226_0 hHeld ⊢;refine zk (i := 0) (N := some 33) (v := ?_) (a' := ?_) #[true, false, false, false, false, false, false, false, false, false, false, false, false, false, false, false, false, false, false, false, false, false, false, false, false, false, false, false, false, false, false, false, false, false, false, false] rfl rfl (zf HT_.out (by kernel_rfl)) (fun _ _ _ h => h) (Or.inl ⟨by rfl, ?_⟩) ?_ ?_;rotate_left
                ·intro w'
                 go_simp;with_reducible rfl
                rotate_left
                ·simp only [Act.put, Zs1, Zs2, Zs3, zg, zh]
                 rfl
                refine zk (i := 1) (N := some 34) (v := ?_) (a' := ?_) #[true, true, false, false, false, false, false, false, false, false, false, false, false, false, false, false, false, false, false, false, false, false, false, false, false, false, false, false, false, false, false, false, false, false, false, false] rfl rfl (zf HT_.out (by kernel_rfl)) (fun _ _ _ h => h) (Or.inl ⟨by rfl, ?_⟩) ?_ ?_;rotate_left
                ·intro w'
                 go_simp;with_reducible rfl
                rotate_left
                ·simp only [Act.put, Zs1, Zs2, Zs3, zg, zh]
                 rfl
                refine zk (i := 2) (N := some 35) (v := ?_) (a' := ?_) #[true, true, true, false, false, false, false, false, false, false, false, false, false, false, false, false, false, false, false, false, false, false, false, false, false, false, false, false, false, false, false, false, false, false, false, false] rfl rfl (zf HT_.out (by kernel_rfl)) (fun _ _ _ h => h) (Or.inl ⟨by rfl, ?_⟩) ?_ ?_;rotate_left
                ·intro w'
                 go_simp;with_reducible rfl
                rotate_left
                ·simp only [Act.put, Zs1, Zs2, Zs3, zg, zh]
                 rfl
                refine zch (i := 3) (N := some 36) (v := ?_) (a' := ?_) #[true, true, true, true, false, false, false, false, false, false, false, false, false, false, false, false, false, false, false, false, false, false, false, false, false, false, false, false, false, false, false, false, false, false, false, false] rfl rfl (zbj HT_.out HW_.out (by kernel_rfl)) (fun _ _ _ h => h) (Or.inl ⟨by rfl, ?_⟩) hHeld ?_ ?_;rotate_left
                ·rintro w' ⟨s0, s1, s2, s3, s4, s5, s6⟩
                 go_simp;with_reducible rfl
                rotate_left
                ·simp only [Act.put, Zs1, Zs2, Zs3, zg, zh]
                 rfl
                refine zk (i := 4) (N := some 37) (v := ?_) (a' := ?_) #[true, true, true, true, true, false, false, false, false, false, false, false, false, false, false, false, false, false, false, false, false, false, false, false, false, false, false, false, false, false, false, false, false, false, false, false] rfl rfl (zf HT_.out (by kernel_rfl)) (fun _ _ _ h => h) (Or.inl ⟨by rfl, ?_⟩) ?_ ?_;rotate_left
                ·intro w'
                 go_simp;with_reducible rfl
                rotate_left
                ·simp only [Act.put, Zs1, Zs2, Zs3, zg, zh]
                 rfl
                refine zk (i := 5) (N := some 38) (v := ?_) (a' := ?_) #[true, true, true, true, true, true, false, false, false, false, false, false, false, false, false, false, false, false, false, false, false, false, false, false, false, false, false, false, false, false, false, false, false, false, false, false] rfl rfl (zf HT_.out (by kernel_rfl)) (fun _ _ _ h => h) (Or.inl ⟨by rfl, ?_⟩) ?_ ?_;rotate_left
                ·intro w'
                 go_simp;with_reducible rfl
                rotate_left
                ·simp only [Act.put, Zs1, Zs2, Zs3, zg, zh]
                 rfl
                refine zk (i := 6) (N := some 39) (v := ?_) (a' := ?_) #[true, true, true, true, true, true, true, false, false, false, false, false, false, false, false, false, false, false, false, false, false, false, false, false, false, false, false, false, false, false, false, false, false, false, false, false] rfl rfl (zf HT_.out (by kernel_rfl)) (fun _ _ _ h => h) (Or.inl ⟨by rfl, ?_⟩) ?_ ?_;rotate_left
                ·intro w'
                 go_simp;with_reducible rfl
                rotate_left
                ·simp only [Act.put, Zs1, Zs2, Zs3, zg, zh]
                 rfl
                refine zk (i := 7) (N := some 40) (v := ?_) (a' := ?_) #[true, true, true, true, true, true, true, true, false, false, false, false, false, false, false, false, false, false, false, false, false, false, false, false, false, false, false, false, false, false, false, false, false, false, false, false] rfl rfl (zf HT_.out (by kernel_rfl)) (fun _ _ _ h => h) (Or.inl ⟨by rfl, ?_⟩) ?_ ?_;rotate_left
                ·intro w'
                 go_simp;with_reducible rfl
                rotate_left
                ·simp only [Act.put, Zs1, Zs2, Zs3, zg, zh]
                 rfl
                refine zk (i := 8) (N := some 41) (v := ?_) (a' := ?_) #[true, true, true, true, true, true, true, true, true, false, false, false, false, false, false, false, false, false, false, false, false, false, false, false, false, false, false, false, false, false, false, false, false, false, false, false] rfl rfl (zf HT_.out (by kernel_rfl)) (fun _ _ _ h => h) (Or.inl ⟨by rfl, ?_⟩) ?_ ?_;rotate_left
                ·intro w'
                 go_simp;with_reducible rfl
                rotate_left
                ·simp only [Act.put, Zs1, Zs2, Zs3, zg, zh]
                 rfl
                refine zk (i := 9) (N := some 42) (v := ?_) (a' := ?_) #[true, true, true, true, true, true, true, true, true, true, false, false, false, false, false, false, false, false, false, false, false, false, false, false, false, false, false, false, false, false, false, false, false, false, false, false] rfl rfl (zf HT_.out (by kernel_rfl)) (fun _ _ _ h => h) (Or.inl ⟨by rfl, ?_⟩) ?_ ?_;rotate_left
                ·intro w'
                 go_simp;with_reducible rfl
                rotate_left
                ·simp only [Act.put, Zs1, Zs2, Zs3, zg, zh]
                 rfl
                refine zk (i := 13) (N := some 46) (v := ?_) (a' := ?_) #[true, true, true, true, true, true, true, true, true, true, false, false, false, true, false, false, false, false, false, false, false, false, false, false, false, false, false, false, false, false, false, false, false, false, false, false] rfl rfl (zf HT_.out (by kernel_rfl)) (fun _ _ _ h => h) (Or.inl ⟨by rfl, ?_⟩) ?_ ?_;rotate_left
                ·intro w'
                 go_simp;with_reducible rfl
                rotate_left
                ·simp only [Act.put, Zs1, Zs2, Zs3, zg, zh]
                 rfl
                refine zk (i := 14) (N := some 47) (v := ?_) (a' := ?_) #[true, true, true, true, true, true, true, true, true, true, false, false, false, true, true, false, false, false, false, false, false, false, false, false, false, false, false, false, false, false, false, false, false, false, false, false] rfl rfl (zf HT_.out (by kernel_rfl)) (fun _ _ _ h => h) (Or.inl ⟨by rfl, ?_⟩) ?_ ?_;rotate_left
                ·intro w'
                 go_simp;with_reducible rfl
                rotate_left
                ·simp only [Act.put, Zs1, Zs2, Zs3, zg, zh]
                 rfl
                refine zk (i := 15) (N := some 48) (v := ?_) (a' := ?_) #[true, true, true, true, true, true, true, true, true, true, false, false, false, true, true, true, false, false, false, false, false, false, false, false, false, false, false, false, false, false, false, false, false, false, false, false] rfl rfl (zf HT_.out (by kernel_rfl)) (fun _ _ _ h => h) (Or.inl ⟨by rfl, ?_⟩) ?_ ?_;rotate_left
                ·intro w'
                 go_simp;with_reducible rfl
                rotate_left
                ·simp only [Act.put, Zs1, Zs2, Zs3, zg, zh]
                 rfl
                refine zch (i := 10) (N := some 43) (v := ?_) (a' := ?_) #[true, true, true, true, true, true, true, true, true, true, true, false, false, true, true, true, false, false, false, false, false, false, false, false, false, false, false, false, false, false, false, false, false, false, false, false] rfl rfl (zbj HT_.out HW_.out (by kernel_rfl)) (fun _ _ _ h => h) (Or.inl ⟨by rfl, ?_⟩) hHeld ?_ ?_;rotate_left
                ·rintro w' ⟨s0, s1, s2, s3, s4, s5, s6⟩
                 go_simp;with_reducible rfl
                rotate_left
                ·simp only [Act.put, Zs1, Zs2, Zs3, zg, zh]
                 rfl
                refine zk (i := 11) (N := some 44) (v := ?_) (a' := ?_) #[true, true, true, true, true, true, true, true, true, true, true, true, false, true, true, true, false, false, false, false, false, false, false, false, false, false, false, false, false, false, false, false, false, false, false, false] rfl rfl (zf HT_.out (by kernel_rfl)) (fun _ _ _ h => h) (Or.inl ⟨by rfl, ?_⟩) ?_ ?_;rotate_left
                ·intro w'
                 go_simp;with_reducible rfl
                rotate_left
                ·simp only [Act.put, Zs1, Zs2, Zs3, zg, zh]
                 rfl
                refine zch (i := 12) (N := some 45) (v := ?_) (a' := ?_) #[true, true, true, true, true, true, true, true, true, true, true, true, true, true, true, true, false, false, false, false, false, false, false, false, false, false, false, false, false, false, false, false, false, false, false, false] rfl rfl (zbj HT_.out HW_.out (by kernel_rfl)) (fun _ _ _ h => h) (Or.inl ⟨by rfl, ?_⟩) hHeld ?_ ?_;rotate_left
                ·rintro w' ⟨s0, s1, s2, s3, s4, s5, s6⟩
                 go_simp;with_reducible rfl
                rotate_left
                ·simp only [Act.put, Zs1, Zs2, Zs3, zg, zh]
                 rfl
                refine one_ (i := 16) (N := some 49) #[true, true, true, true, true, true, true, true, true, true, true, true, true, true, true, true, true, false, false, false, false, false, false, false, false, false, false, false, false, false, false, false, false, false, false, false] rfl rfl (zcz HT_.out (by kernel_rfl)) (by decide) (fun K hK => ?_);refine zer Try.func39 (by kernel_rfl) rfl #[.int .i64 (rd (zo l1 x6_3) 1), .int .i64 0, .int .i64 (wrap64 ((l0.length : Int) - 1))] (by rfl) rfl rfl Zmt ?_;with_reducible refine (zby.calls (rd (zo l1 x6_3) 1) 0 (wrap64 ((l0.length : Int) - 1)) true _ A14.out).mono ?_
                rintro e w' ⟨rfl, ⟨nd, rfl⟩⟩;refine ⟨_, rfl, ?_⟩;refine hK.out _ _ ⟨((HB.out.cell (World.block_lt_of_cell? w _ hw219_0)).trans hw219_0), ((HB.out.cell (World.block_lt_of_cell? w _ hw220_0)).trans hw220_0), ((HB.out.cell (World.block_lt_of_cell? w _ hw221_0)).trans hw221_0), ((HB.out.cell (World.block_lt_of_cell? w _ hw223_0)).trans hw223_0), ((HB.out.cell (World.block_lt_of_cell? w _ hw224_0)).trans hw224_0), ((HB.out.cell (World.block_lt_of_cell? w _ hw225_0)).trans hw225_0), ((HB.out.cell (World.block_lt_of_cell? w _ hw226_0)).trans hw226_0)⟩ (fun hHeld => ?_);clear hK K;refine zec (a' := ?_) ?_ ?_;rotate_left
                ·show Act.put _ (some 49) _ = _
                 simp only [Act.put, Zs1, Zs2, Zs3, zg, zh];rfl
                refine zk (i := 17) (N := some 50) (v := ?_) (a' := ?_) #[true, true, true, true, true, true, true, true, true, true, true, true, true, true, true, true, true, true, false, false, false, false, false, false, false, false, false, false, false, false, false, false, false, false, false, false] rfl rfl (zf HT_.out (by kernel_rfl)) (fun _ _ _ h => h) (Or.inl ⟨by rfl, ?_⟩) ?_ ?_;rotate_left
                ·intro w'
                 go_simp;with_reducible rfl
                rotate_left
                ·simp only [Act.put, Zs1, Zs2, Zs3, zg, zh]
                 rfl
                refine zk (i := 18) (N := some 51) (v := ?_) (a' := ?_) #[true, true, true, true, true, true, true, true, true, true, true, true, true, true, true, true, true, true, true, false, false, false, false, false, false, false, false, false, false, false, false, false, false, false, false, false] rfl rfl (zf HT_.out (by kernel_rfl)) (fun _ _ _ h => h) (Or.inl ⟨by rfl, ?_⟩) ?_ ?_;rotate_left
                ·intro w'
                 go_simp;with_reducible rfl
                rotate_left
                ·simp only [Act.put, Zs1, Zs2, Zs3, zg, zh]
                 rfl
                refine zk (i := 19) (N := some 52) (v := ?_) (a' := ?_) #[true, true, true, true, true, true, true, true, true, true, true, true, true, true, true, true, true, true, true, true, false, false, false, false, false, false, false, false, false, false, false, false, false, false, false, false] rfl rfl (zf HT_.out (by kernel_rfl)) (fun _ _ _ h => h) (Or.inl ⟨by rfl, ?_⟩) ?_ ?_;rotate_left
                ·intro w'
                 go_simp;with_reducible rfl
                rotate_left
                ·simp only [Act.put, Zs1, Zs2, Zs3, zg, zh]
                 rfl
                refine zk (i := 20) (N := some 53) (v := ?_) (a' := ?_) #[true, true, true, true, true, true, true, true, true, true, true, true, true, true, true, true, true, true, true, true, true, false, false, false, false, false, false, false, false, false, false, false, false, false, false, false] rfl rfl (zf HT_.out (by kernel_rfl)) (fun _ _ _ h => h) (Or.inl ⟨by rfl, ?_⟩) ?_ ?_;rotate_left
                ·intro w'
                 go_simp;with_reducible rfl
                rotate_left
                ·simp only [Act.put, Zs1, Zs2, Zs3, zg, zh]
                 rfl
                refine zk (i := 21) (N := some 54) (v := ?_) (a' := ?_) #[true, true, true, true, true, true, true, true, true, true, true, true, true, true, true, true, true, true, true, true, true, true, false, false, false, false, false, false, false, false, false, false, false, false, false, false] rfl rfl (zf HT_.out (by kernel_rfl)) (fun _ _ _ h => h) (Or.inl ⟨by rfl, ?_⟩) ?_ ?_;rotate_left
                ·intro w'
                 go_simp;with_reducible rfl
                rotate_left
                ·simp only [Act.put, Zs1, Zs2, Zs3, zg, zh]
                 rfl
                refine zk (i := 22) (N := some 55) (v := ?_) (a' := ?_) #[true, true, true, true, true, true, true, true, true, true, true, true, true, true, true, true, true, true, true, true, true, true, true, false, false, false, false, false, false, false, false, false, false, false, false, false] rfl rfl (zf HT_.out (by kernel_rfl)) (fun _ _ _ h => h) (Or.inl ⟨by rfl, ?_⟩) ?_ ?_;rotate_left
                ·intro w'
                 go_simp;with_reducible rfl
                rotate_left
                ·simp only [Act.put, Zs1, Zs2, Zs3, zg, zh]
                 rfl
                refine zk (i := 26) (N := some 59) (v := ?_) (a' := ?_) #[true, true, true, true, true, true, true, true, true, true, true, true, true, true, true, true, true, true, true, true, true, true, true, false, false, false, true, false, false, false, false, false, false, false, false, false] rfl rfl (zf HT_.out (by kernel_rfl)) (fun _ _ _ h => h) (Or.inl ⟨by rfl, ?_⟩) ?_ ?_;rotate_left
                ·intro w'
                 go_simp;with_reducible rfl
                rotate_left
                ·simp only [Act.put, Zs1, Zs2, Zs3, zg, zh]
                 rfl
                refine zk (i := 27) (N := some 60) (v := ?_) (a' := ?_) #[true, true, true, true, true, true, true, true, true, true, true, true, true, true, true, true, true, true, true, true, true, true, true, false, false, false, true, true, false, false, false, false, false, false, false, false] rfl rfl (zf HT_.out (by kernel_rfl)) (fun _ _ _ h => h) (Or.inl ⟨by rfl, ?_⟩) ?_ ?_;rotate_left
                ·intro w'
                 go_simp;with_reducible rfl
                rotate_left
                ·simp only [Act.put, Zs1, Zs2, Zs3, zg, zh]
                 rfl
                refine zk (i := 28) (N := some 61) (v := ?_) (a' := ?_) #[true, true, true, true, true, true, true, true, true, true, true, true, true, true, true, true, true, true, true, true, true, true, true, false, false, false, true, true, true, false, false, false, false, false, false, false] rfl rfl (zf HT_.out (by kernel_rfl)) (fun _ _ _ h => h) (Or.inl ⟨by rfl, ?_⟩) ?_ ?_;rotate_left
                ·intro w'
                 go_simp;with_reducible rfl
                rotate_left
                ·simp only [Act.put, Zs1, Zs2, Zs3, zg, zh]
                 rfl
                refine zch (i := 23) (N := some 56) (v := ?_) (a' := ?_) #[true, true, true, true, true, true, true, true, true, true, true, true, true, true, true, true, true, true, true, true, true, true, true, true, false, false, true, true, true, false, false, false, false, false, false, false] rfl rfl (zbj HT_.out HW_.out (by kernel_rfl)) (fun _ _ _ h => h) (Or.inl ⟨by rfl, ?_⟩) hHeld ?_ ?_;rotate_left
                ·rintro w' ⟨s0, s1, s2, s3, s4, s5, s6⟩
                 go_simp;with_reducible rfl
                rotate_left
                ·simp only [Act.put, Zs1, Zs2, Zs3, zg, zh]
                 rfl
                refine zk (i := 24) (N := some 57) (v := ?_) (a' := ?_) #[true, true, true, true, true, true, true, true, true, true, true, true, true, true, true, true, true, true, true, true, true, true, true, true, true, false, true, true, true, false, false, false, false, false, false, false] rfl rfl (zf HT_.out (by kernel_rfl)) (fun _ _ _ h => h) (Or.inl ⟨by rfl, ?_⟩) ?_ ?_;rotate_left
                ·intro w'
                 go_simp;with_reducible rfl
                rotate_left
                ·simp only [Act.put, Zs1, Zs2, Zs3, zg, zh]
                 rfl
                refine zch (i := 25) (N := some 58) (v := ?_) (a' := ?_) #[true, true, true, true, true, true, true, true, true, true, true, true, true, true, true, true, true, true, true, true, true, true, true, true, true, true, true, true, true, false, false, false, false, false, false, false] rfl rfl (zbj HT_.out HW_.out (by kernel_rfl)) (fun _ _ _ h => h) (Or.inl ⟨by rfl, ?_⟩) hHeld ?_ ?_;rotate_left
                ·rintro w' ⟨s0, s1, s2, s3, s4, s5, s6⟩
                 go_simp;with_reducible rfl
                rotate_left
                ·simp only [Act.put, Zs1, Zs2, Zs3, zg, zh]
                 rfl
                refine zch (i := 29) (N := some 62) (v := ?_) (a' := ?_) #[true, true, true, true, true, true, true, true, true, true, true, true, true, true, true, true, true, true, true, true, true, true, true, true, true, true, true, true, true, true, false, false, false, false, false, false] rfl rfl (zbj HT_.out HW_.out (by kernel_rfl)) (fun _ _ _ h => h) (Or.inl ⟨by rfl, ?_⟩) hHeld ?_ ?_;rotate_left
                ·rintro w' ⟨s0, s1, s2, s3, s4, s5, s6⟩
                 go_simp;with_reducible rfl
                rotate_left
                ·simp only [Act.put, Zs1, Zs2, Zs3, zg, zh]
                 rfl
                refine zk (i := 30) (N := some 63) (v := ?_) (a' := ?_) #[true, true, true, true, true, true, true, true, true, true, true, true, true, true, true, true, true, true, true, true, true, true, true, true, true, true, true, true, true, true, true, false, false, false, false, false] rfl rfl (zf HT_.out (by kernel_rfl)) (fun _ _ _ h => h) (Or.inl ⟨by rfl, ?_⟩) ?_ ?_;rotate_left
                ·intro w'
                 go_simp;with_reducible rfl
                rotate_left
                ·simp only [Act.put, Zs1, Zs2, Zs3, zg, zh]
                 rfl
                refine zch (i := 31) (N := some 64) (v := ?_) (a' := ?_) #[true, true, true, true, true, true, true, true, true, true, true, true, true, true, true, true, true, true, true, true, true, true, true, true, true, true, true, true, true, true, true, true, false, false, false, false] rfl rfl (zbj HT_.out HW_.out (by kernel_rfl)) (fun _ _ _ h => h) (Or.inl ⟨by rfl, ?_⟩) hHeld ?_ ?_;rotate_left
                ·rintro w' ⟨s0, s1, s2, s3, s4, s5, s6⟩
                 go_simp;with_reducible rfl
                rotate_left
                ·simp only [Act.put, Zs1, Zs2, Zs3, zg, zh]
                 rfl
                refine zk (i := 32) (N := some 65) (v := ?_) (a' := ?_) #[true, true, true, true, true, true, true, true, true, true, true, true, true, true, true, true, true, true, true, true, true, true, true, true, true, true, true, true, true, true, true, true, true, false, false, false] rfl rfl (zf HT_.out (by kernel_rfl)) (fun _ _ _ h => h) (Or.inl ⟨by rfl, ?_⟩) ?_ ?_;rotate_left
                ·intro w'
                 go_simp;with_reducible rfl
                rotate_left
                ·simp only [Act.put, Zs1, Zs2, Zs3, zg, zh]
                 rfl
                refine one_ (i := 33) (N := some 66) #[true, true, true, true, true, true, true, true, true, true, true, true, true, true, true, true, true, true, true, true, true, true, true, true, true, true, true, true, true, true, true, true, true, true, false, false] rfl rfl (zcz HT_.out (by kernel_rfl)) (by decide) (fun K hK => ?_);refine zer Try.func39 (by kernel_rfl) rfl #[.int .i64 (rd (zo l1 x6_3) 0), .int .i64 0, .int .i64 (wrap64 ((rd (zo l1 x6_3) 1) - 1))] (by rfl) rfl rfl Zmt ?_;with_reducible refine (zby.calls (rd (zo l1 x6_3) 0) 0 (wrap64 ((rd (zo l1 x6_3) 1) - 1)) true _ A17.out).mono ?_
                rintro e w' ⟨rfl, ⟨nd, rfl⟩⟩;refine ⟨_, rfl, ?_⟩;refine hK.out _ _ ⟨((HB.out.cell (World.block_lt_of_cell? w _ hw219_0)).trans hw219_0), ((HB.out.cell (World.block_lt_of_cell? w _ hw220_0)).trans hw220_0), ((HB.out.cell (World.block_lt_of_cell? w _ hw221_0)).trans hw221_0), ((HB.out.cell (World.block_lt_of_cell? w _ hw223_0)).trans hw223_0), ((HB.out.cell (World.block_lt_of_cell? w _ hw224_0)).trans hw224_0), ((HB.out.cell (World.block_lt_of_cell? w _ hw225_0)).trans hw225_0), ((HB.out.cell (World.block_lt_of_cell? w _ hw226_0)).trans hw226_0)⟩ (fun hHeld => ?_);clear hK K;refine zec (a' := ?_) ?_ ?_;rotate_left
                ·show Act.put _ (some 66) _ = _
                 simp only [Act.put, Zs1, Zs2, Zs3, zg, zh];rfl
                refine zk (i := 34) (N := some 67) (v := ?_) (a' := ?_) #[true, true, true, true, true, true, true, true, true, true, true, true, true, true, true, true, true, true, true, true, true, true, true, true, true, true, true, true, true, true, true, true, true, true, true, false] rfl rfl (zf HT_.out (by kernel_rfl)) (fun _ _ _ h => h) (Or.inl ⟨by rfl, ?_⟩) ?_ ?_;rotate_left
                ·intro w'
                 go_simp;with_reducible rfl
                rotate_left
                ·simp only [Act.put, Zs1, Zs2, Zs3, zg, zh]
                 rfl
                refine zk (i := 35) (N := some 68) (v := ?_) (a' := ?_) #[true, true, true, true, true, true, true, true, true, true, true, true, true, true, true, true, true, true, true, true, true, true, true, true, true, true, true, true, true, true, true, true, true, true, true, true] rfl rfl (zf HT_.out (by kernel_rfl)) (fun _ _ _ h => h) (Or.inl ⟨by rfl, ?_⟩) ?_ ?_;rotate_left
                ·intro w'
                 go_simp;with_reducible rfl
                rotate_left
                ·simp only [Act.put, Zs1, Zs2, Zs3, zg, zh]
                 rfl
                refine zfc (zc8 HT_.out (by kernel_rfl)) ?_
                try go_wp2
                go_roundg k3
                case measure => have := HJ2.out; have := HK2.out; have := HK3.out; omega
                case rel => exact ⟨(wrap64 (x6_3 + 1)), Zrs, H', ⟨by have := HJ2.out; have := HK2.out; have := HK3.out; omega⟩, ⟨Zq1 HB⟩⟩
               ·replace c18 := Bool.eq_false_iff.mpr c18
                subst c18;have H1 : (some false) = some r := by rw [if_neg (show ¬ (false = true) by decide)] at H; exact H
                clear H;have H := H1;clear H1;obtain rfl := Option.some.inj H
                try go_wp2
                have n0_ := za.mk (zbz HB.out);clear HB;have HB := n0_;clear n0_;have p219 : 0 ≤ (x6_3 : Int) := of_decide_eq_true Zas;have q219 : x6_3 < (l1.length : Int) := of_decide_eq_true Zas;obtain ⟨ad219, A219_0, c219_0, e219, hx219_0, hl219_0, hi219_0⟩ := zdk HR1.out x6_3 p219 q219;have hw219_0 := hx219_0
                cases e219
                replace hx219_0 := (HB.out.cell (World.block_lt_of_cell? w _ hx219_0)).trans hx219_0;have HR219_0 := za.mk hi219_0;have HC219_0 := za.mk hl219_0;clear hi219_0 hl219_0;replace p219 := eq_true p219;replace q219 := eq_true q219;have p220 : 0 ≤ (x6_3 : Int) := of_decide_eq_true Zas;have q220 : x6_3 < (l1.length : Int) := of_decide_eq_true Zas;obtain ⟨ad220, A220_0, c220_0, e220, hx220_0, hl220_0, hi220_0⟩ := zdk HR1.out x6_3 p220 q220;have hw220_0 := hx220_0;obtain rfl : ad219 = ad220 := (by injection e220);replace hx220_0 := (HB.out.cell (World.block_lt_of_cell? w _ hx220_0)).trans hx220_0;have HR220_0 := za.mk hi220_0;have HC220_0 := za.mk hl220_0;clear hi220_0 hl220_0;replace p220 := eq_true p220;replace q220 := eq_true q220;have ea_ := Option.some.inj (hx219_0.symm.trans hx220_0);injection ea_ with ea_ en_ ec_;subst ea_;subst ec_;clear en_;have p221 : 0 ≤ (1 : Int) := (by omega);have q221 : 1 < ((zo l1 x6_3).length : Int) := of_decide_eq_true Zas;obtain ⟨ad221, e221, hx221_0⟩ := Kd.zbq HR220_0.out 1 p221 q221;have hw221_0 := hx221_0;(try rw [show ((1 : Int)).toNat = 1 from rfl] at hw221_0);(try rw [show 1 * 1 = 1 from rfl] at hw221_0);(try simp only [Nat.reduceMul, Nat.reduceEqDiff, Go.Addr.add, ↓reduceIte] at hw221_0)
                cases e221
                (try simp only [show (1 : Int).toNat = 1 from rfl, Nat.reduceMul, Nat.reduceEqDiff, Go.Addr.add, ↓reduceIte] at hx221_0);have qi221 : (1 < (zo l1 x6_3).length) = True := eq_true (by omega);(try rw [show ((1 : Int)).toNat = 1 from rfl] at hx221_0);replace hx221_0 := (HB.out.cell (World.block_lt_of_cell? w _ hx221_0)).trans hx221_0;replace p221 := eq_true p221;replace q221 := eq_true q221;have p223 : 0 ≤ (x6_3 : Int) := of_decide_eq_true Zas;have q223 : x6_3 < (l1.length : Int) := of_decide_eq_true Zas;obtain ⟨ad223, A223_0, c223_0, e223, hx223_0, hl223_0, hi223_0⟩ := zdk HR1.out x6_3 p223 q223;have hw223_0 := hx223_0;obtain rfl : ad219 = ad223 := (by injection e223);replace hx223_0 := (HB.out.cell (World.block_lt_of_cell? w _ hx223_0)).trans hx223_0;have HR223_0 := za.mk hi223_0;have HC223_0 := za.mk hl223_0;clear hi223_0 hl223_0;replace p223 := eq_true p223;replace q223 := eq_true q223;have ea_ := Option.some.inj (hx219_0.symm.trans hx223_0);injection ea_ with ea_ en_ ec_;subst ea_;subst ec_;clear en_;have p224 : 0 ≤ (0 : Int) := (by omega);have q224 : 0 < ((zo l1 x6_3).length : Int) := of_decide_eq_true Zas;obtain ⟨ad224, e224, hx224_0⟩ := Kd.zbq HR223_0.out 0 p224 q224;have hw224_0 := hx224_0;(try rw [show ((0 : Int)).toNat = 0 from rfl] at hw224_0);(try rw [show 0 * 1 = 0 from rfl] at hw224_0);(try rw [Addr.add_zero'] at hw224_0)
                cases e224
                have qi224 : (0 < (zo l1 x6_3).length) = True := eq_true (by omega);(try rw [show ((0 : Int)).toNat = 0 from rfl] at hx224_0);(try rw [Addr.add_zero'] at hx224_0);replace hx224_0 := (HB.out.cell (World.block_lt_of_cell? w _ hx224_0)).trans hx224_0;replace p224 := eq_true p224;replace q224 := eq_true q224;have p225 : 0 ≤ (x6_3 : Int) := of_decide_eq_true Zas;have q225 : x6_3 < (l1.length : Int) := of_decide_eq_true Zas;obtain ⟨ad225, A225_0, c225_0, e225, hx225_0, hl225_0, hi225_0⟩ := zdk HR1.out x6_3 p225 q225;have hw225_0 := hx225_0;obtain rfl : ad219 = ad225 := (by injection e225);replace hx225_0 := (HB.out.cell (World.block_lt_of_cell? w _ hx225_0)).trans hx225_0;have HR225_0 := za.mk hi225_0;have HC225_0 := za.mk hl225_0;clear hi225_0 hl225_0;replace p225 := eq_true p225;replace q225 := eq_true q225;have ea_ := Option.some.inj (hx219_0.symm.trans hx225_0);injection ea_ with ea_ en_ ec_;subst ea_;subst ec_;clear en_;have p226 : 0 ≤ (1 : Int) := (by omega);have q226 : 1 < ((zo l1 x6_3).length : Int) := of_decide_eq_true Zas;obtain ⟨ad226, e226, hx226_0⟩ := Kd.zbq HR225_0.out 1 p226 q226;have hw226_0 := hx226_0;(try rw [show ((1 : Int)).toNat = 1 from rfl] at hw226_0);(try rw [show 1 * 1 = 1 from rfl] at hw226_0);(try simp only [Nat.reduceMul, Nat.reduceEqDiff, Go.Addr.add, ↓reduceIte] at hw226_0)
                cases e226
                (try simp only [show (1 : Int).toNat = 1 from rfl, Nat.reduceMul, Nat.reduceEqDiff, Go.Addr.add, ↓reduceIte] at hx226_0);have qi226 : (1 < (zo l1 x6_3).length) = True := eq_true (by omega);(try rw [show ((1 : Int)).toNat = 1 from rfl] at hx226_0);replace hx226_0 := (HB.out.cell (World.block_lt_of_cell? w _ hx226_0)).trans hx226_0;replace p226 := eq_true p226;replace q226 := eq_true q226;refine zd0 (n := 36) (S := fun w' => w'.cell? (ad219.add (x6_3).toNat) = some (.slice (some ad221) (zo l1 x6_3).length c219_0) ∧ w'.cell? (ad219.add (x6_3).toNat) = some (.slice (some ad221) (zo l1 x6_3).length c219_0) ∧ w'.cell? ⟨ad221.block, ad221.off + 1, none⟩ = some (.int .i64 (rd (zo l1 x6_3) 1)) ∧ w'.cell? (ad219.add (x6_3).toNat) = some (.slice (some ad221) (zo l1 x6_3).length c219_0) ∧ w'.cell? ad221 = some (.int .i64 (rd (zo l1 x6_3) 0)) ∧ w'.cell? (ad219.add (x6_3).toNat) = some (.slice (some ad221) (zo l1 x6_3).length c219_0) ∧ w'.cell? ⟨ad221.block, ad221.off + 1, none⟩ = some (.int .i64 (rd (zo l1 x6_3) 1))) (ds := []) #[false, false, false, false, false, false, false, false, false, false, false, false, false, false, false, false, false, false, false, false, false, false, false, false, false, false, false, false, false, false, false, false, false, false, false, false] (by kernel_rfl) rfl rfl ⟨((HB.out.cell (World.block_lt_of_cell? w _ hw219_0)).trans hw219_0), ((HB.out.cell (World.block_lt_of_cell? w _ hw220_0)).trans hw220_0), ((HB.out.cell (World.block_lt_of_cell? w _ hw221_0)).trans hw221_0), ((HB.out.cell (World.block_lt_of_cell? w _ hw223_0)).trans hw223_0), ((HB.out.cell (World.block_lt_of_cell? w _ hw224_0)).trans hw224_0), ((HB.out.cell (World.block_lt_of_cell? w _ hw225_0)).trans hw225_0), ((HB.out.cell (World.block_lt_of_cell? w _ hw226_0)).trans hw226_0)⟩ (fun hHeld => ?_); refine zcp ze.tab11 ze.bits11 (fun HT_ HW_ => ?_);generalize wr.drew = w20 at HB HR219_0 HR220_0 HR223_0 HR225_0 hx219_0 hx220_0 hx221_0 hx223_0 hx224_0 hx225_0 hx226_0 hHeld ⊢;refine zk (i := 0) (N := some 33) (v := ?_) (a' := ?_) #[true, false, false, false, false, false, false, false, false, false, false, false, false, false, false, false, false, false, false, false, false, false, false, false, false, false, false, false, false, false, false, false, false, false, false, false] rfl rfl (zf HT_.out (by kernel_rfl)) (fun _ _ _ h => h) (Or.inl ⟨by rfl, ?_⟩) ?_ ?_;rotate_left
                ·intro w'
                 go_simp;with_reducible rfl
                rotate_left
                ·simp only [Act.put, Zs1, Zs2, Zs3, zg, zh]
                 rfl
                refine zk (i := 1) (N := some 34) (v := ?_) (a' := ?_) #[true, true, false, false, false, false, false, false, false, false, false, false, false, false, false, false, false, false, false, false, false, false, false, false, false, false, false, false, false, false, false, false, false, false, false, false] rfl rfl (zf HT_.out (by kernel_rfl)) (fun _ _ _ h => h) (Or.inl ⟨by rfl, ?_⟩) ?_ ?_;rotate_left
                ·intro w'
                 go_simp;with_reducible rfl
                rotate_left
                ·simp only [Act.put, Zs1, Zs2, Zs3, zg, zh]
                 rfl
                refine zk (i := 2) (N := some 35) (v := ?_) (a' := ?_) #[true, true, true, false, false, false, false, false, false, false, false, false, false, false, false, false, false, false, false, false, false, false, false, false, false, false, false, false, false, false, false, false, false, false, false, false] rfl rfl (zf HT_.out (by kernel_rfl)) (fun _ _ _ h => h) (Or.inl ⟨by rfl, ?_⟩) ?_ ?_;rotate_left
                ·intro w'
                 go_simp;with_reducible rfl
                rotate_left
                ·simp only [Act.put, Zs1, Zs2, Zs3, zg, zh]
                 rfl
                refine zch (i := 3) (N := some 36) (v := ?_) (a' := ?_) #[true, true, true, true, false, false, false, false, false, false, false, false, false, false, false, false, false, false, false, false, false, false, false, false, false, false, false, false, false, false, false, false, false, false, false, false] rfl rfl (zbj HT_.out HW_.out (by kernel_rfl)) (fun _ _ _ h => h) (Or.inl ⟨by rfl, ?_⟩) hHeld ?_ ?_;rotate_left
                ·rintro w' ⟨s0, s1, s2, s3, s4, s5, s6⟩
                 go_simp;with_reducible rfl
                rotate_left
                ·simp only [Act.put, Zs1, Zs2, Zs3, zg, zh]
                 rfl
                refine zk (i := 4) (N := some 37) (v := ?_) (a' := ?_) #[true, true, true, true, true, false, false, false, false, false, false, false, false, false, false, false, false, false, false, false, false, false, false, false, false, false, false, false, false, false, false, false, false, false, false, false] rfl rfl (zf HT_.out (by kernel_rfl)) (fun _ _ _ h => h) (Or.inl ⟨by rfl, ?_⟩) ?_ ?_;rotate_left
                ·intro w'
                 go_simp;with_reducible rfl
                rotate_left
                ·simp only [Act.put, Zs1, Zs2, Zs3, zg, zh]
                 rfl
                refine zk (i := 5) (N := some 38) (v := ?_) (a' := ?_) #[true, true, true, true, true, true, false, false, false, false, false, false, false, false, false, false, false, false, false, false, false, false, false, false, false, false, false, false, false, false, false, false, false, false, false, false] rfl rfl (zf HT_.out (by kernel_rfl)) (fun _ _ _ h => h) (Or.inl ⟨by rfl, ?_⟩) ?_ ?_;rotate_left
                ·intro w'
                 go_simp;with_reducible rfl
                rotate_left
                ·simp only [Act.put, Zs1, Zs2, Zs3, zg, zh]
                 rfl
                refine zk (i := 6) (N := some 39) (v := ?_) (a' := ?_) #[true, true, true, true, true, true, true, false, false, false, false, false, false, false, false, false, false, false, false, false, false, false, false, false, false, false, false, false, false, false, false, false, false, false, false, false] rfl rfl (zf HT_.out (by kernel_rfl)) (fun _ _ _ h => h) (Or.inl ⟨by rfl, ?_⟩) ?_ ?_;rotate_left
                ·intro w'
                 go_simp;with_reducible rfl
                rotate_left
                ·simp only [Act.put, Zs1, Zs2, Zs3, zg, zh]
                 rfl
                refine zk (i := 7) (N := some 40) (v := ?_) (a' := ?_) #[true, true, true, true, true, true, true, true, false, false, false, false, false, false, false, false, false, false, false, false, false, false, false, false, false, false, false, false, false, false, false, false, false, false, false, false] rfl rfl (zf HT_.out (by kernel_rfl)) (fun _ _ _ h => h) (Or.inl ⟨by rfl, ?_⟩) ?_ ?_;rotate_left
                ·intro w'
                 go_simp;with_reducible rfl
                rotate_left
                ·simp only [Act.put, Zs1, Zs2, Zs3, zg, zh]
                 rfl
                refine zk (i := 8) (N := some 41) (v := ?_) (a' := ?_) #[true, true, true, true, true, true, true, true, true, false, false, false, false, false, false, false, false, false, false, false, false, false, false, false, false, false, false, false, false, false, false, false, false, false, false, false] rfl rfl (zf HT_.out (by kernel_rfl)) (fun _ _ _ h => h) (Or.inl ⟨by rfl, ?_⟩) ?_ ?_;rotate_left
                ·intro w'
                 go_simp;with_reducible rfl
                rotate_left
                ·simp only [Act.put, Zs1, Zs2, Zs3, zg, zh]
                 rfl
                refine zk (i := 9) (N := some 42) (v := ?_) (a' := ?_) #[true, true, true, true, true, true, true, true, true, true, false, false, false, false, false, false, false, false, false, false, false, false, false, false, false, false, false, false, false, false, false, false, false, false, false, false] rfl rfl (zf HT_.out (by kernel_rfl)) (fun _ _ _ h => h) (Or.inl ⟨by rfl, ?_⟩) ?_ ?_;rotate_left
                ·intro w'
                 go_simp;with_reducible rfl
                rotate_left
                ·simp only [Act.put, Zs1, Zs2, Zs3, zg, zh]
                 rfl
                refine zk (i := 13) (N := some 46) (v := ?_) (a' := ?_) #[true, true, true, true, true, true, true, true, true, true, false, false, false, true, false, false, false, false, false, false, false, false, false, false, false, false, false, false, false, false, false, false, false, false, false, false] rfl rfl (zf HT_.out (by kernel_rfl)) (fun _ _ _ h => h) (Or.inl ⟨by rfl, ?_⟩) ?_ ?_;rotate_left
                ·intro w'
                 go_simp;with_reducible rfl
                rotate_left
                ·simp only [Act.put, Zs1, Zs2, Zs3, zg, zh]
                 rfl
                refine zk (i := 14) (N := some 47) (v := ?_) (a' := ?_) #[true, true, true, true, true, true, true, true, true, true, false, false, false, true, true, false, false, false, false, false, false, false, false, false, false, false, false, false, false, false, false, false, false, false, false, false] rfl rfl (zf HT_.out (by kernel_rfl)) (fun _ _ _ h => h) (Or.inl ⟨by rfl, ?_⟩) ?_ ?_;rotate_left
                ·intro w'
                 go_simp;with_reducible rfl
                rotate_left
                ·simp only [Act.put, Zs1, Zs2, Zs3, zg, zh]
                 rfl
                refine zk (i := 15) (N := some 48) (v := ?_) (a' := ?_) #[true, true, true, true, true, true, true, true, true, true, false, false, false, true, true, true, false, false, false, false, false, false, false, false, false, false, false, false, false, false, false, false, false, false, false, false] rfl rfl (zf HT_.out (by kernel_rfl)) (fun _ _ _ h => h) (Or.inl ⟨by rfl, ?_⟩) ?_ ?_;rotate_left
                ·intro w'
                 go_simp;with_reducible rfl
                rotate_left
                ·simp only [Act.put, Zs1, Zs2, Zs3, zg, zh]
                 rfl
                refine zch (i := 10) (N := some 43) (v := ?_) (a' := ?_) #[true, true, true, true, true, true, true, true, true, true, true, false, false, true, true, true, false, false, false, false, false, false, false, false, false, false, false, false, false, false, false, false, false, false, false, false] rfl rfl (zbj HT_.out HW_.out (by kernel_rfl)) (fun _ _ _ h => h) (Or.inl ⟨by rfl, ?_⟩) hHeld ?_ ?_;rotate_left
                ·rintro w' ⟨s0, s1, s2, s3, s4, s5, s6⟩
                 go_simp;with_reducible rfl
                rotate_left
                ·simp only [Act.put, Zs1, Zs2, Zs3, zg, zh]
                 rfl
                refine zk (i := 11) (N := some 44) (v := ?_) (a' := ?_) #[true, true, true, true, true, true, true, true, true, true, true, true, false, true, true, true, false, false, false, false, false, false, false, false, false, false, false, false, false, false, false, false, false, false, false, false] rfl rfl (zf HT_.out (by kernel_rfl)) (fun _ _ _ h => h) (Or.inl ⟨by rfl, ?_⟩) ?_ ?_;rotate_left
                ·intro w'
                 go_simp;with_reducible rfl
                rotate_left
                ·simp only [Act.put, Zs1, Zs2, Zs3, zg, zh]
                 rfl
                refine zch (i := 12) (N := some 45) (v := ?_) (a' := ?_) #[true, true, true, true, true, true, true, true, true, true, true, true, true, true, true, true, false, false, false, false, false, false, false, false, false, false, false, false, false, false, false, false, false, false, false, false] rfl rfl (zbj HT_.out HW_.out (by kernel_rfl)) (fun _ _ _ h => h) (Or.inl ⟨by rfl, ?_⟩) hHeld ?_ ?_;rotate_left
                ·rintro w' ⟨s0, s1, s2, s3, s4, s5, s6⟩
                 go_simp;with_reducible rfl
                rotate_left
                ·simp only [Act.put, Zs1, Zs2, Zs3, zg, zh]
                 rfl
                refine one_ (i := 16) (N := some 49) #[true, true, true, true, true, true, true, true, true, true, true, true, true, true, true, true, true, false, false, false, false, false, false, false, false, false, false, false, false, false, false, false, false, false, false, false] rfl rfl (zcz HT_.out (by kernel_rfl)) (by decide) (fun K hK => ?_);refine zer Try.func39 (by kernel_rfl) rfl #[.int .i64 (rd (zo l1 x6_3) 1), .int .i64 0, .int .i64 (wrap64 ((l0.length : Int) - 1))] (by rfl) rfl rfl Zmt ?_;with_reducible refine (zby.calls (rd (zo l1 x6_3) 1) 0 (wrap64 ((l0.length : Int) - 1)) true _ A14.out).mono ?_
                rintro e w' ⟨rfl, ⟨nd, rfl⟩⟩;refine ⟨_, rfl, ?_⟩;refine hK.out _ _ ⟨((HB.out.cell (World.block_lt_of_cell? w _ hw219_0)).trans hw219_0), ((HB.out.cell (World.block_lt_of_cell? w _ hw220_0)).trans hw220_0), ((HB.out.cell (World.block_lt_of_cell? w _ hw221_0)).trans hw221_0), ((HB.out.cell (World.block_lt_of_cell? w _ hw223_0)).trans hw223_0), ((HB.out.cell (World.block_lt_of_cell? w _ hw224_0)).trans hw224_0), ((HB.out.cell (World.block_lt_of_cell? w _ hw225_0)).trans hw225_0), ((HB.out.cell (World.block_lt_of_cell? w _ hw226_0)).trans hw226_0)⟩ (fun hHeld => ?_);clear hK K;refine zec (a' := ?_) ?_ ?_;rotate_left
                ·show Act.put _ (some 49) _ = _
                 simp only [Act.put, Zs1, Zs2, Zs3, zg, zh];rfl
                refine zk (i := 17) (N := some 50) (v := ?_) (a' := ?_) #[true, true, true, true, true, true, true, true, true, true, true, true, true, true, true, true, true, true, false, false, false, false, false, false, false, false, false, false, false, false, false, false, false, false, false, false] rfl rfl (zf HT_.out (by kernel_rfl)) (fun _ _ _ h => h) (Or.inl ⟨by rfl, ?_⟩) ?_ ?_;rotate_left
                ·intro w'
                 go_simp;with_reducible rfl
                rotate_left
                ·simp only [Act.put, Zs1, Zs2, Zs3, zg, zh]
                 rfl
                refine zk (i := 18) (N := some 51) (v := ?_) (a' := ?_) #[true, true, true, true, true, true, true, true, true, true, true, true, true, true, true, true, true, true, true, false, false, false, false, false, false, false, false, false, false, false, false, false, false, false, false, false] rfl rfl (zf HT_.out (by kernel_rfl)) (fun _ _ _ h => h) (Or.inl ⟨by rfl, ?_⟩) ?_ ?_;rotate_left
                ·intro w'
                 go_simp;with_reducible rfl
                rotate_left
                ·simp only [Act.put, Zs1, Zs2, Zs3, zg, zh]
                 rfl
                refine zk (i := 19) (N := some 52) (v := ?_) (a' := ?_) #[true, true, true, true, true, true, true, true, true, true, true, true, true, true, true, true, true, true, true, true, false, false, false, false, false, false, false, false, false, false, false, false, false, false, false, false] rfl rfl (zf HT_.out (by kernel_rfl)) (fun _ _ _ h => h) (Or.inl ⟨by rfl, ?_⟩) ?_ ?_;rotate_left
                ·intro w'
                 go_simp;with_reducible rfl
                rotate_left
                ·simp only [Act.put, Zs1, Zs2, Zs3, zg, zh]
                 rfl
                refine zk (i := 20) (N := some 53) (v := ?_) (a' := ?_) #[true, true, true, true, true, true, true, true, true, true, true, true, true, true, true, true, true, true, true, true, true, false, false, false, false, false, false, false, false, false, false, false, false, false, false, false] rfl rfl (zf HT_.out (by kernel_rfl)) (fun _ _ _ h => h) (Or.inl ⟨by rfl, ?_⟩) ?_ ?_;rotate_left
                ·intro w'
                 go_simp;with_reducible rfl
                rotate_left
                ·simp only [Act.put, Zs1, Zs2, Zs3, zg, zh]
                 rfl
                refine zk (i := 21) (N := some 54) (v := ?_) (a' := ?_) #[true, true, true, true, true, true, true, true, true, true, true, true, true, true, true, true, true, true, true, true, true, true, false, false, false, false, false, false, false, false, false, false, false, false, false, false] rfl rfl (zf HT_.out (by kernel_rfl)) (fun _ _ _ h => h) (Or.inl ⟨by rfl, ?_⟩) ?_ ?_;rotate_left
                ·intro w'
                 go_simp;with_reducible rfl
                rotate_left
                ·simp only [Act.put, Zs1, Zs2, Zs3, zg, zh]
                 rfl
                refine zk (i := 22) (N := some 55) (v := ?_) (a' := ?_) #[true, true, true, true, true, true, true, true, true, true, true, true, true, true, true, true, true, true, true, true, true, true, true, false, false, false, false, false, false, false, false, false, false, false, false, false] rfl rfl (zf HT_.out (by kernel_rfl)) (fun _ _ _ h => h) (Or.inl ⟨by rfl, ?_⟩) ?_ ?_;rotate_left
                ·intro w'
                 go_simp;with_reducible rfl
                rotate_left
                ·simp only [Act.put, Zs1, Zs2, Zs3, zg, zh]
                 rfl
                refine zk (i := 26) (N := some 59) (v := ?_) (a' := ?_) #[true, true, true, true, true, true, true, true, true, true, true, true, true, true, true, true, true, true, true, true, true, true, true, false, false, false, true, false, false, false, false, false, false, false, false, false] rfl rfl (zf HT_.out (by kernel_rfl)) (fun _ _ _ h => h) (Or.inl ⟨by rfl, ?_⟩) ?_ ?_;rotate_left
                ·intro w'
                 go_simp;with_reducible rfl
                rotate_left
                ·simp only [Act.put, Zs1, Zs2, Zs3, zg, zh]
                 rfl
                refine zk (i := 27) (N := some 60) (v := ?_) (a' := ?_) #[true, true, true, true, true, true, true, true, true, true, true, true, true, true, true, true, true, true, true, true, true, true, true, false, false, false, true, true, false, false, false, false, false, false, false, false] rfl rfl (zf HT_.out (by kernel_rfl)) (fun _ _ _ h => h) (Or.inl ⟨by rfl, ?_⟩) ?_ ?_;rotate_left
                ·intro w'
                 go_simp;with_reducible rfl
                rotate_left
                ·simp only [Act.put, Zs1, Zs2, Zs3, zg, zh]
                 rfl
                refine zk (i := 28) (N := some 61) (v := ?_) (a' := ?_) #[true, true, true, true, true, true, true, true, true, true, true, true, true, true, true, true, true, true, true, true, true, true, true, false, false, false, true, true, true, false, false, false, false, false, false, false] rfl rfl (zf HT_.out (by kernel_rfl)) (fun _ _ _ h => h) (Or.inl ⟨by rfl, ?_⟩) ?_ ?_;rotate_left
                ·intro w'
                 go_simp;with_reducible rfl
                rotate_left
                ·simp only [Act.put, Zs1, Zs2, Zs3, zg, zh]
                 rfl
                refine zch (i := 23) (N := some 56) (v := ?_) (a' := ?_) #[true, true, true, true, true, true, true, true, true, true, true, true, true, true, true, true, true, true, true, true, true, true, true, true, false, false, true, true, true, false, false, false, false, false, false, false] rfl rfl (zbj HT_.out HW_.out (by kernel_rfl)) (fun _ _ _ h => h) (Or.inl ⟨by rfl, ?_⟩) hHeld ?_ ?_;rotate_left
                ·rintro w' ⟨s0, s1, s2, s3, s4, s5, s6⟩
                 go_simp;with_reducible rfl
                rotate_left
                ·simp only [Act.put, Zs1, Zs2, Zs3, zg, zh]
                 rfl
                refine zk (i := 24) (N := some 57) (v := ?_) (a' := ?_) #[true, true, true, true, true, true, true, true, true, true, true, true, true, true, true, true, true, true, true, true, true, true, true, true, true, false, true, true, true, false, false, false, false, false, false, false] rfl rfl (zf HT_.out (by kernel_rfl)) (fun _ _ _ h => h) (Or.inl ⟨by rfl, ?_⟩) ?_ ?_;rotate_left
                ·intro w'
                 go_simp;with_reducible rfl
                rotate_left
                ·simp only [Act.put, Zs1, Zs2, Zs3, zg, zh]
                 rfl
                refine zch (i := 25) (N := some 58) (v := ?_) (a' := ?_) #[true, true, true, true, true, true, true, true, true, true, true, true, true, true, true, true, true, true, true, true, true, true, true, true, true, true, true, true, true, false, false, false, false, false, false, false] rfl rfl (zbj HT_.out HW_.out (by kernel_rfl)) (fun _ _ _ h => h) (Or.inl ⟨by rfl, ?_⟩) hHeld ?_ ?_;rotate_left
                ·rintro w' ⟨s0, s1, s2, s3, s4, s5, s6⟩
                 go_simp;with_reducible rfl
                rotate_left
                ·simp only [Act.put, Zs1, Zs2, Zs3, zg, zh]
                 rfl
                refine zch (i := 29) (N := some 62) (v := ?_) (a' := ?_) #[true, true, true, true, true, true, true, true, true, true, true, true, true, true, true, true, true, true, true, true, true, true, true, true, true, true, true, true, true, true, false, false, false, false, false, false] rfl rfl (zbj HT_.out HW_.out (by kernel_rfl)) (fun _ _ _ h => h) (Or.inl ⟨by rfl, ?_⟩) hHeld ?_ ?_;rotate_left
                ·rintro w' ⟨s0, s1, s2, s3, s4, s5, s6⟩
                 go_simp;with_reducible rfl
                rotate_left
                ·simp only [Act.put, Zs1, Zs2, Zs3, zg, zh]
                 rfl
                refine zk (i := 30) (N := some 63) (v := ?_) (a' := ?_) #[true, true, true, true, true, true, true, true, true, true, true, true, true, true, true, true, true, true, true, true, true, true, true, true, true, true, true, true, true, true, true, false, false, false, false, false] rfl rfl (zf HT_.out (by kernel_rfl)) (fun _ _ _ h => h) (Or.inl ⟨by rfl, ?_⟩) ?_ ?_;rotate_left
                ·intro w'
                 go_simp;with_reducible rfl
                rotate_left
                ·simp only [Act.put, Zs1, Zs2, Zs3, zg, zh]
                 rfl
                refine zch (i := 31) (N := some 64) (v := ?_) (a' := ?_) #[true, true, true, true, true, true, true, true, true, true, true, true, true, true, true, true, true, true, true, true, true, true, true, true, true, true, true, true, true, true, true, true, false, false, false, false] rfl rfl (zbj HT_.out HW_.out (by kernel_rfl)) (fun _ _ _ h => h) (Or.inl ⟨by rfl, ?_⟩) hHeld ?_ ?_;rotate_left
                ·rintro w' ⟨s0, s1, s2, s3, s4, s5, s6⟩
                 go_simp;with_reducible rfl
                rotate_left
                ·simp only [Act.put, Zs1, Zs2, Zs3, zg, zh]
                 rfl
                refine zk (i := 32) (N := some 65) (v := ?_) (a' := ?_) #[true, true, true, true, true, true, true, true, true, true, true, true, true, true, true, true, true, true, true, true, true, true, true, true, true, true, true, true, true, true, true, true, true, false, false, false] rfl rfl (zf HT_.out (by kernel_rfl)) (fun _ _ _ h => h) (Or.inl ⟨by rfl, ?_⟩) ?_ ?_;rotate_left
                ·intro w'
                 go_simp;with_reducible rfl
                rotate_left
                ·simp only [Act.put, Zs1, Zs2, Zs3, zg, zh]
                 rfl
                refine one_ (i := 33) (N := some 66) #[true, true, true, true, true, true, true, true, true, true, true, true, true, true, true, true, true, true, true, true, true, true, true, true, true, true, true, true, true, true, true, true, true, true, false, false] rfl rfl (zcz HT_.out (by kernel_rfl)) (by decide) (fun K hK => ?_);refine zer Try.func39 (by kernel_rfl) rfl #[.int .i64 (rd (zo l1 x6_3) 0), .int .i64 0, .int .i64 (wrap64 ((rd (zo l1 x6_3) 1) - 1))] (by rfl) rfl rfl Zmt ?_;with_reducible refine (zby.calls (rd (zo l1 x6_3) 0) 0 (wrap64 ((rd (zo l1 x6_3) 1) - 1)) false _ A17.out).mono ?_
                rintro e w' ⟨rfl, ⟨nd, rfl⟩⟩;refine ⟨_, rfl, ?_⟩;refine hK.out _ _ ⟨((HB.out.cell (World.block_lt_of_cell? w _ hw219_0)).trans hw219_0), ((HB.out.cell (World.block_lt_of_cell? w _ hw220_0)).trans hw220_0), ((HB.out.cell (World.block_lt_of_cell? w _ hw221_0)).trans hw221_0), ((HB.out.cell (World.block_lt_of_cell? w _ hw223_0)).trans hw223_0), ((HB.out.cell (World.block_lt_of_cell? w _ hw224_0)).trans hw224_0), ((HB.out.cell (World.block_lt_of_cell? w _ hw225_0)).trans hw225_0), ((HB.out.cell (World.block_lt_of_cell? w _ hw226_0)).trans hw226_0)⟩ (fun hHeld => ?_);clear hK K;refine zec (a' := ?_) ?_ ?_;rotate_left
                ·show Act.put _ (some 66) _ = _
                 simp only [Act.put, Zs1, Zs2, Zs3, zg, zh];rfl
                refine zk (i := 34) (N := some 67) (v := ?_) (a' := ?_) #[true, true, true, true, true, true, true, true, true, true, true, true, true, true, true, true, true, true, true, true, true, true, true, true, true, true, true, true, true, true, true, true, true, true, true, false] rfl rfl (zf HT_.out (by kernel_rfl)) (fun _ _ _ h => h) (Or.inl ⟨by rfl, ?_⟩) ?_ ?_;rotate_left
                ·intro w'
                 go_simp;with_reducible rfl
                rotate_left
                ·simp only [Act.put, Zs1, Zs2, Zs3, zg, zh]
                 rfl
                refine zk (i := 35) (N := some 68) (v := ?_) (a' := ?_) #[true, true, true, true, true, true, true, true, true, true, true, true, true, true, true, true, true, true, true, true, true, true, true, true, true, true, true, true, true, true, true, true, true, true, true, true] rfl rfl (zf HT_.out (by kernel_rfl)) (fun _ _ _ h => h) (Or.inl ⟨by rfl, ?_⟩) ?_ ?_;rotate_left
                ·intro w'
                 go_simp;with_reducible rfl
                rotate_left
                ·simp only [Act.put, Zs1, Zs2, Zs3, zg, zh]
                 rfl
                refine zfc (zc8 HT_.out (by kernel_rfl)) ?_
                try go_wp2
                go_ret;exact ⟨by first | rfl | (simp [zl, zm] <;> rfl) | (simp [*, zl, zm] <;> rfl), Zq1 HB⟩
              ·rw [if_neg c16] at H
               exact absurd H (by simp)
             ·replace c15 := Bool.eq_false_iff.mpr c15
              subst c15;have H1 : (some false) = some r := by rw [if_neg (show ¬ (false = true) by decide)] at H; exact H
              clear H;have H := H1;clear H1;obtain rfl := Option.some.inj H
              try go_wp2
              have n0_ := za.mk (zbz HB.out);clear HB;have HB := n0_;clear n0_;have p219 : 0 ≤ (x6_3 : Int) := of_decide_eq_true Zas;have q219 : x6_3 < (l1.length : Int) := of_decide_eq_true Zas;obtain ⟨ad219, A219_0, c219_0, e219, hx219_0, hl219_0, hi219_0⟩ := zdk HR1.out x6_3 p219 q219;have hw219_0 := hx219_0
              cases e219
              replace hx219_0 := (HB.out.cell (World.block_lt_of_cell? w _ hx219_0)).trans hx219_0;have HR219_0 := za.mk hi219_0;have HC219_0 := za.mk hl219_0;clear hi219_0 hl219_0;replace p219 := eq_true p219;replace q219 := eq_true q219;have p220 : 0 ≤ (x6_3 : Int) := of_decide_eq_true Zas;have q220 : x6_3 < (l1.length : Int) := of_decide_eq_true Zas;obtain ⟨ad220, A220_0, c220_0, e220, hx220_0, hl220_0, hi220_0⟩ := zdk HR1.out x6_3 p220 q220;have hw220_0 := hx220_0;obtain rfl : ad219 = ad220 := (by injection e220);replace hx220_0 := (HB.out.cell (World.block_lt_of_cell? w _ hx220_0)).trans hx220_0;have HR220_0 := za.mk hi220_0;have HC220_0 := za.mk hl220_0;clear hi220_0 hl220_0;replace p220 := eq_true p220;replace q220 := eq_true q220;have ea_ := Option.some.inj (hx219_0.symm.trans hx220_0);injection ea_ with ea_ en_ ec_;subst ea_;subst ec_;clear en_;have p221 : 0 ≤ (1 : Int) := (by omega);have q221 : 1 < ((zo l1 x6_3).length : Int) := of_decide_eq_true Zas;obtain ⟨ad221, e221, hx221_0⟩ := Kd.zbq HR220_0.out 1 p221 q221;have hw221_0 := hx221_0;(try rw [show ((1 : Int)).toNat = 1 from rfl] at hw221_0);(try rw [show 1 * 1 = 1 from rfl] at hw221_0);(try simp only [Nat.reduceMul, Nat.reduceEqDiff, Go.Addr.add, ↓reduceIte] at hw221_0)
              cases e221
              (try simp only [show (1 : Int).toNat = 1 from rfl, Nat.reduceMul, Nat.reduceEqDiff, Go.Addr.add, ↓reduceIte] at hx221_0);have qi221 : (1 < (zo l1 x6_3).length) = True := eq_true (by omega);(try rw [show ((1 : Int)).toNat = 1 from rfl] at hx221_0);replace hx221_0 := (HB.out.cell (World.block_lt_of_cell? w _ hx221_0)).trans hx221_0;replace p221 := eq_true p221;replace q221 := eq_true q221;refine zd0 (n := 36) (S := fun w' => w'.cell? (ad219.add (x6_3).toNat) = some (.slice (some ad221) (zo l1 x6_3).length c219_0) ∧ w'.cell? (ad219.add (x6_3).toNat) = some (.slice (some ad221) (zo l1 x6_3).length c219_0) ∧ w'.cell? ⟨ad221.block, ad221.off + 1, none⟩ = some (.int .i64 (rd (zo l1 x6_3) 1))) (ds := []) #[false, false, false, false, false, false, false, false, false, false, false, false, false, false, false, false, false, false, false, false, false, false, false, false, false, false, false, false, false, false, false, false, false, false, false, false] (by kernel_rfl) rfl rfl ⟨((HB.out.cell (World.block_lt_of_cell? w _ hw219_0)).trans hw219_0), ((HB.out.cell (World.block_lt_of_cell? w _ hw220_0)).trans hw220_0), ((HB.out.cell (World.block_lt_of_cell? w _ hw221_0)).trans hw221_0)⟩ (fun hHeld => ?_); refine zcp ze.tab11 ze.bits11 (fun HT_ HW_ => ?_);generalize wr.drew = w21 at HB HR219_0 HR220_0 hx219_0 hx220_0 hx221_0 hHeld ⊢;refine zk (i := 0) (N := some 33) (v := ?_) (a' := ?_) #[true, false, false, false, false, false, false, false, false, false, false, false, false, false, false, false, false, false, false, false, false, false, false, false, false, false, false, false, false, false, false, false, false, false, false, false] rfl rfl (zf HT_.out (by kernel_rfl)) (fun _ _ _ h => h) (Or.inl ⟨by rfl, ?_⟩) ?_ ?_;rotate_left
              ·intro w'
               go_simp;with_reducible rfl
              rotate_left
              ·simp only [Act.put, Zs1, Zs2, Zs3, zg, zh]
               rfl
              refine zk (i := 1) (N := some 34) (v := ?_) (a' := ?_) #[true, true, false, false, false, false, false, false, false, false, false, false, false, false, false, false, false, false, false, false, false, false, false, false, false, false, false, false, false, false, false, false, false, false, false, false] rfl rfl (zf HT_.out (by kernel_rfl)) (fun _ _ _ h => h) (Or.inl ⟨by rfl, ?_⟩) ?_ ?_;rotate_left
              ·intro w'
               go_simp;with_reducible rfl
              rotate_left
              ·simp only [Act.put, Zs1, Zs2, Zs3, zg, zh]
               rfl
              refine zk (i := 2) (N := some 35) (v := ?_) (a' := ?_) #[true, true, true, false, false, false, false, false, false, false, false, false, false, false, false, false, false, false, false, false, false, false, false, false, false, false, false, false, false, false, false, false, false, false, false, false] rfl rfl (zf HT_.out (by kernel_rfl)) (fun _ _ _ h => h) (Or.inl ⟨by rfl, ?_⟩) ?_ ?_;rotate_left
              ·intro w'
               go_simp;with_reducible rfl
              rotate_left
              ·simp only [Act.put, Zs1, Zs2, Zs3, zg, zh]
               rfl
              refine zch (i := 3) (N := some 36) (v := ?_) (a' := ?_) #[true, true, true, true, false, false, false, false, false, false, false, false, false, false, false, false, false, false, false, false, false, false, false, false, false, false, false, false, false, false, false, false, false, false, false, false] rfl rfl (zbj HT_.out HW_.out (by kernel_rfl)) (fun _ _ _ h => h) (Or.inl ⟨by rfl, ?_⟩) hHeld ?_ ?_;rotate_left
              ·rintro w' ⟨s0, s1, s2⟩
               go_simp;with_reducible rfl
              rotate_left
              ·simp only [Act.put, Zs1, Zs2, Zs3, zg, zh]
               rfl
              refine zk (i := 4) (N := some 37) (v := ?_) (a' := ?_) #[true, true, true, true, true, false, false, false, false, false, false, false, false, false, false, false, false, false, false, false, false, false, false, false, false, false, false, false, false, false, false, false, false, false, false, false] rfl rfl (zf HT_.out (by kernel_rfl)) (fun _ _ _ h => h) (Or.inl ⟨by rfl, ?_⟩) ?_ ?_;rotate_left
              ·intro w'
               go_simp;with_reducible rfl
              rotate_left
              ·simp only [Act.put, Zs1, Zs2, Zs3, zg, zh]
               rfl
              refine zk (i := 5) (N := some 38) (v := ?_) (a' := ?_) #[true, true, true, true, true, true, false, false, false, false, false, false, false, false, false, false, false, false, false, false, false, false, false, false, false, false, false, false, false, false, false, false, false, false, false, false] rfl rfl (zf HT_.out (by kernel_rfl)) (fun _ _ _ h => h) (Or.inl ⟨by rfl, ?_⟩) ?_ ?_;rotate_left
              ·intro w'
               go_simp;with_reducible rfl
              rotate_left
              ·simp only [Act.put, Zs1, Zs2, Zs3, zg, zh]
               rfl
              refine zk (i := 6) (N := some 39) (v := ?_) (a' := ?_) #[true, true, true, true, true, true, true, false, false, false, false, false, false, false, false, false, false, false, false, false, false, false, false, false, false, false, false, false, false, false, false, false, false, false, false, false] rfl rfl (zf HT_.out (by kernel_rfl)) (fun _ _ _ h => h) (Or.inl ⟨by rfl, ?_⟩) ?_ ?_;rotate_left
              ·intro w'
               go_simp;with_reducible rfl
              rotate_left
              ·simp only [Act.put, Zs1, Zs2, Zs3, zg, zh]
               rfl
              refine zk (i := 7) (N := some 40) (v := ?_) (a' := ?_) #[true, true, true, true, true, true, true, true, false, false, false, false, false, false, false, false, false, false, false, false, false, false, false, false, false, false, false, false, false, false, false, false, false, false, false, false] rfl rfl (zf HT_.out (by kernel_rfl)) (fun _ _ _ h => h) (Or.inl ⟨by rfl, ?_⟩) ?_ ?_;rotate_left
              ·intro w'
               go_simp;with_reducible rfl
              rotate_left
              ·simp only [Act.put, Zs1, Zs2, Zs3, zg, zh]
               rfl
              refine zk (i := 8) (N := some 41) (v := ?_) (a' := ?_) #[true, true, true, true, true, true, true, true, true, false, false, false, false, false, false, false, false, false, false, false, false, false, false, false, false, false, false, false, false, false, false, false, false, false, false, false] rfl rfl (zf HT_.out (by kernel_rfl)) (fun _ _ _ h => h) (Or.inl ⟨by rfl, ?_⟩) ?_ ?_;rotate_left
              ·intro w'
               go_simp;with_reducible rfl
              rotate_left
              ·simp only [Act.put, Zs1, Zs2, Zs3, zg, zh]
               rfl
              refine zk (i := 9) (N := some 42) (v := ?_) (a' := ?_) #[true, true, true, true, true, true, true, true, true, true, false, false, false, false, false, false, false, false, false, false, false, false, false, false, false, false, false, false, false, false, false, false, false, false, false, false] rfl rfl (zf HT_.out (by kernel_rfl)) (fun _ _ _ h => h) (Or.inl ⟨by rfl, ?_⟩) ?_ ?_;rotate_left
              ·intro w'
               go_simp;with_reducible rfl
              rotate_left
              ·simp only [Act.put, Zs1, Zs2, Zs3, zg, zh]
               rfl
              refine zk (i := 13) (N := some 46) (v := ?_) (a' := ?_) #[true, true, true, true, true, true, true, true, true, true, false, false, false, true, false, false, false, false, false, false, false, false, false, false, false, false, false, false, false, false, false, false, false, false, false, false] rfl rfl (zf HT_.out (by kernel_rfl)) (fun _ _ _ h => h) (Or.inl ⟨by rfl, ?_⟩) ?_ ?_;rotate_left
              ·intro w'
               go_simp;with_reducible rfl
              rotate_left
              ·simp only [Act.put, Zs1, Zs2, Zs3, zg, zh]
               rfl
              refine zk (i := 14) (N := some 47) (v := ?_) (a' := ?_) #[true, true, true, true, true, true, true, true, true, true, false, false, false, true, true, false, false, false, false, false, false, false, false, false, false, false, false, false, false, false, false, false, false, false, false, false] rfl rfl (zf HT_.out (by kernel_rfl)) (fun _ _ _ h => h) (Or.inl ⟨by rfl, ?_⟩) ?_ ?_;rotate_left
              ·intro w'
               go_simp;with_reducible rfl
              rotate_left
              ·simp only [Act.put, Zs1, Zs2, Zs3, zg, zh]
               rfl
              refine zk (i := 15) (N := some 48) (v := ?_) (a' := ?_) #[true, true, true, true, true, true, true, true, true, true, false, false, false, true, true, true, false, false, false, false, false, false, false, false, false, false, false, false, false, false, false, false, false, false, false, false] rfl rfl (zf HT_.out (by kernel_rfl)) (fun _ _ _ h => h) (Or.inl ⟨by rfl, ?_⟩) ?_ ?_;rotate_left
              ·intro w'
               go_simp;with_reducible rfl
              rotate_left
              ·simp only [Act.put, Zs1, Zs2, Zs3, zg, zh]
               rfl
              refine zch (i := 10) (N := some 43) (v := ?_) (a' := ?_) #[true, true, true, true, true, true, true, true, true, true, true, false, false, true, true, true, false, false, false, false, false, false, false, false, false, false, false, false, false, false, false, false, false, false, false, false] rfl rfl (zbj HT_.out HW_.out (by kernel_rfl)) (fun _ _ _ h => h) (Or.inl ⟨by rfl, ?_⟩) hHeld ?_ ?_;rotate_left
              ·rintro w' ⟨s0, s1, s2⟩
               go_simp;with_reducible rfl
              rotate_left
              ·simp only [Act.put, Zs1, Zs2, Zs3, zg, zh]
               rfl
              refine zk (i := 11) (N := some 44) (v := ?_) (a' := ?_) #[true, true, true, true, true, true, true, true, true, true, true, true, false, true, true, true, false, false, false, false, false, false, false, false, false, false, false, false, false, false, false, false, false, false, false, false] rfl rfl (zf HT_.out (by kernel_rfl)) (fun _ _ _ h => h) (Or.inl ⟨by rfl, ?_⟩) ?_ ?_;rotate_left
              ·intro w'
               go_simp;with_reducible rfl
              rotate_left
              ·simp only [Act.put, Zs1, Zs2, Zs3, zg, zh]
               rfl
              refine zch (i := 12) (N := some 45) (v := ?_) (a' := ?_) #[true, true, true, true, true, true, true, true, true, true, true, true, true, true, true, true, false, false, false, false, false, false, false, false, false, false, false, false, false, false, false, false, false, false, false, false] rfl rfl (zbj HT_.out HW_.out (by kernel_rfl)) (fun _ _ _ h => h) (Or.inl ⟨by rfl, ?_⟩) hHeld ?_ ?_;rotate_left
              ·rintro w' ⟨s0, s1, s2⟩
               go_simp;with_reducible rfl
              rotate_left
              ·simp only [Act.put, Zs1, Zs2, Zs3, zg, zh]
               rfl
              refine one_ (i := 16) (N := some 49) #[true, true, true, true, true, true, true, true, true, true, true, true, true, true, true, true, true, false, false, false, false, false, false, false, false, false, false, false, false, false, false, false, false, false, false, false] rfl rfl (zcz HT_.out (by kernel_rfl)) (by decide) (fun K hK => ?_);refine zer Try.func39 (by kernel_rfl) rfl #[.int .i64 (rd (zo l1 x6_3) 1), .int .i64 0, .int .i64 (wrap64 ((l0.length : Int) - 1))] (by rfl) rfl rfl Zmt ?_;with_reducible refine (zby.calls (rd (zo l1 x6_3) 1) 0 (wrap64 ((l0.length : Int) - 1)) false _ A14.out).mono ?_
              rintro e w' ⟨rfl, ⟨nd, rfl⟩⟩;refine ⟨_, rfl, ?_⟩;refine hK.out _ _ ⟨((HB.out.cell (World.block_lt_of_cell? w _ hw219_0)).trans hw219_0), ((HB.out.cell (World.block_lt_of_cell? w _ hw220_0)).trans hw220_0), ((HB.out.cell (World.block_lt_of_cell? w _ hw221_0)).trans hw221_0)⟩ (fun hHeld => ?_);clear hK K;refine zec (a' := ?_) ?_ ?_;rotate_left
              ·show Act.put _ (some 49) _ = _
               simp only [Act.put, Zs1, Zs2, Zs3, zg, zh];rfl
              refine zk (i := 17) (N := some 50) (v := ?_) (a' := ?_) #[true, true, true, true, true, true, true, true, true, true, true, true, true, true, true, true, true, true, false, false, false, false, false, false, false, false, false, false, false, false, false, false, false, false, false, false] rfl rfl (zf HT_.out (by kernel_rfl)) (fun _ _ _ h => h) (Or.inl ⟨by rfl, ?_⟩) ?_ ?_;rotate_left
              ·intro w'
               go_simp;with_reducible rfl
              rotate_left
              ·simp only [Act.put, Zs1, Zs2, Zs3, zg, zh]
               rfl
              refine zk (i := 18) (N := some 51) (v := ?_) (a' := ?_) #[true, true, true, true, true, true, true, true, true, true, true, true, true, true, true, true, true, true, true, false, false, false, false, false, false, false, false, false, false, false, false, false, false, false, false, false] rfl rfl (zf HT_.out (by kernel_rfl)) (fun _ _ _ h => h) (Or.inl ⟨by rfl, ?_⟩) ?_ ?_;rotate_left
              ·intro w'
               go_simp;with_reducible rfl
              rotate_left
              ·simp only [Act.put, Zs1, Zs2, Zs3, zg, zh]
               rfl
              refine zk (i := 19) (N := some 52) (v := ?_) (a' := ?_) #[true, true, true, true, true, true, true, true, true, true, true, true, true, true, true, true, true, true, true, true, false, false, false, false, false, false, false, false, false, false, false, false, false, false, false, false] rfl rfl (zf HT_.out (by kernel_rfl)) (fun _ _ _ h => h) (Or.inl ⟨by rfl, ?_⟩) ?_ ?_;rotate_left
              ·intro w'
               go_simp;with_reducible rfl
              rotate_left
              ·simp only [Act.put, Zs1, Zs2, Zs3, zg, zh]
               rfl
              refine zk (i := 20) (N := some 53) (v := undef) (a' := ?_) #[true, true, true, true, true, true, true, true, true, true, true, true, true, true, true, true, true, true, true, true, true, false, false, false, false, false, false, false, false, false, false, false, false, false, false, false] rfl rfl (zf HT_.out (by kernel_rfl)) (fun _ _ _ h => h) (Or.inr ⟨by rfl, rfl⟩) ?_ ?_;rotate_left
              ·simp only [Act.put, Zs1, Zs2, Zs3, zg, zh]
               rfl
              refine zk (i := 21) (N := some 54) (v := undef) (a' := ?_) #[true, true, true, true, true, true, true, true, true, true, true, true, true, true, true, true, true, true, true, true, true, true, false, false, false, false, false, false, false, false, false, false, false, false, false, false] rfl rfl (zf HT_.out (by kernel_rfl)) (fun _ _ _ h => h) (Or.inr ⟨by rfl, rfl⟩) ?_ ?_;rotate_left
              ·simp only [Act.put, Zs1, Zs2, Zs3, zg, zh]
               rfl
              refine zk (i := 22) (N := some 55) (v := undef) (a' := ?_) #[true, true, true, true, true, true, true, true, true, true, true, true, true, true, true, true, true, true, true, true, true, true, true, false, false, false, false, false, false, false, false, false, false, false, false, false] rfl rfl (zf HT_.out (by kernel_rfl)) (fun _ _ _ h => h) (Or.inr ⟨by rfl, rfl⟩) ?_ ?_;rotate_left
              ·simp only [Act.put, Zs1, Zs2, Zs3, zg, zh]
               rfl
              refine zk (i := 23) (N := some 56) (v := undef) (a' := ?_) #[true, true, true, true, true, true, true, true, true, true, true, true, true, true, true, true, true, true, true, true, true, true, true, true, false, false, false, false, false, false, false, false, false, false, false, false] rfl rfl (zf HT_.out (by kernel_rfl)) (fun _ _ _ h => h) (Or.inr ⟨by rfl, rfl⟩) ?_ ?_;rotate_left
              ·simp only [Act.put, Zs1, Zs2, Zs3, zg, zh]
               rfl
              refine zk (i := 24) (N := some 57) (v := undef) (a' := ?_) #[true, true, true, true, true, true, true, true, true, true, true, true, true, true, true, true, true, true, true, true, true, true, true, true, true, false, false, false, false, false, false, false, false, false, false, false] rfl rfl (zf HT_.out (by kernel_rfl)) (fun _ _ _ h => h) (Or.inr ⟨by rfl, rfl⟩) ?_ ?_;rotate_left
              ·simp only [Act.put, Zs1, Zs2, Zs3, zg, zh]
               rfl
              refine zk (i := 25) (N := some 58) (v := undef) (a' := ?_) #[true, true, true, true, true, true, true, true, true, true, true, true, true, true, true, true, true, true, true, true, true, true, true, true, true, true, false, false, false, false, false, false, false, false, false, false] rfl rfl (zf HT_.out (by kernel_rfl)) (fun _ _ _ h => h) (Or.inr ⟨by rfl, rfl⟩) ?_ ?_;rotate_left
              ·simp only [Act.put, Zs1, Zs2, Zs3, zg, zh]
               rfl
              refine zk (i := 26) (N := some 59) (v := undef) (a' := ?_) #[true, true, true, true, true, true, true, true, true, true, true, true, true, true, true, true, true, true, true, true, true, true, true, true, true, true, true, false, false, false, false, false, false, false, false, false] rfl rfl (zf HT_.out (by kernel_rfl)) (fun _ _ _ h => h) (Or.inr ⟨by rfl, rfl⟩) ?_ ?_;rotate_left
              ·simp only [Act.put, Zs1, Zs2, Zs3, zg, zh]
               rfl
              refine zk (i := 27) (N := some 60) (v := undef) (a' := ?_) #[true, true, true, true, true, true, true, true, true, true, true, true, true, true, true, true, true, true, true, true, true, true, true, true, true, true, true, true, false, false, false, false, false, false, false, false] rfl rfl (zf HT_.out (by kernel_rfl)) (fun _ _ _ h => h) (Or.inr ⟨by rfl, rfl⟩) ?_ ?_;rotate_left
              ·simp only [Act.put, Zs1, Zs2, Zs3, zg, zh]
               rfl
              refine zk (i := 28) (N := some 61) (v := undef) (a' := ?_) #[true, true, true, true, true, true, true, true, true, true, true, true, true, true, true, true, true, true, true, true, true, true, true, true, true, true, true, true, true, false, false, false, false, false, false, false] rfl rfl (zf HT_.out (by kernel_rfl)) (fun _ _ _ h => h) (Or.inr ⟨by rfl, rfl⟩) ?_ ?_;rotate_left
              ·simp only [Act.put, Zs1, Zs2, Zs3, zg, zh]
               rfl
              refine zk (i := 29) (N := some 62) (v := undef) (a' := ?_) #[true, true, true, true, true, true, true, true, true, true, true, true, true, true, true, true, true, true, true, true, true, true, true, true, true, true, true, true, true, true, false, false, false, false, false, false] rfl rfl (zf HT_.out (by kernel_rfl)) (fun _ _ _ h => h) (Or.inr ⟨by rfl, rfl⟩) ?_ ?_;rotate_left
              ·simp only [Act.put, Zs1, Zs2, Zs3, zg, zh]
               rfl
              refine zk (i := 30) (N := some 63) (v := undef) (a' := ?_) #[true, true, true, true, true, true, true, true, true, true, true, true, true, true, true, true, true, true, true, true, true, true, true, true, true, true, true, true, true, true, true, false, false, false, false, false] rfl rfl (zf HT_.out (by kernel_rfl)) (fun _ _ _ h => h) (Or.inr ⟨by rfl, rfl⟩) ?_ ?_;rotate_left
              ·simp only [Act.put, Zs1, Zs2, Zs3, zg, zh]
               rfl
              refine zk (i := 31) (N := some 64) (v := undef) (a' := ?_) #[true, true, true, true, true, true, true, true, true, true, true, true, true, true, true, true, true, true, true, true, true, true, true, true, true, true, true, true, true, true, true, true, false, false, false, false] rfl rfl (zf HT_.out (by kernel_rfl)) (fun _ _ _ h => h) (Or.inr ⟨by rfl, rfl⟩) ?_ ?_;rotate_left
              ·simp only [Act.put, Zs1, Zs2, Zs3, zg, zh]
               rfl
              refine zk (i := 32) (N := some 65) (v := undef) (a' := ?_) #[true, true, true, true, true, true, true, true, true, true, true, true, true, true, true, true, true, true, true, true, true, true, true, true, true, true, true, true, true, true, true, true, true, false, false, false] rfl rfl (zf HT_.out (by kernel_rfl)) (fun _ _ _ h => h) (Or.inr ⟨by rfl, rfl⟩) ?_ ?_;rotate_left
              ·simp only [Act.put, Zs1, Zs2, Zs3, zg, zh]
               rfl
              refine zk (i := 33) (N := some 66) (v := undef) (a' := ?_) #[true, true, true, true, true, true, true, true, true, true, true, true, true, true, true, true, true, true, true, true, true, true, true, true, true, true, true, true, true, true, true, true, true, true, false, false] rfl rfl (zf HT_.out (by kernel_rfl)) (fun _ _ _ h => h) (Or.inr ⟨by rfl, rfl⟩) ?_ ?_;rotate_left
              ·simp only [Act.put, Zs1, Zs2, Zs3, zg, zh]
               rfl
              refine zk (i := 34) (N := some 67) (v := undef) (a' := ?_) #[true, true, true, true, true, true, true, true, true, true, true, true, true, true, true, true, true, true, true, true, true, true, true, true, true, true, true, true, true, true, true, true, true, true, true, false] rfl rfl (zf HT_.out (by kernel_rfl)) (fun _ _ _ h => h) (Or.inr ⟨by rfl, rfl⟩) ?_ ?_;rotate_left
              ·simp only [Act.put, Zs1, Zs2, Zs3, zg, zh]
               rfl
              refine zk (i := 35) (N := some 68) (v := ?_) (a' := ?_) #[true, true, true, true, true, true, true, true, true, true, true, true, true, true, true, true, true, true, true, true, true, true, true, true, true, true, true, true, true, true, true, true, true, true, true, true] rfl rfl (zf HT_.out (by kernel_rfl)) (fun _ _ _ h => h) (Or.inl ⟨by rfl, ?_⟩) ?_ ?_;rotate_left
              ·intro w'
               go_simp;with_reducible rfl
              rotate_left
              ·simp only [Act.put, Zs1, Zs2, Zs3, zg, zh]
               rfl
              refine zfc (zc8 HT_.out (by kernel_rfl)) ?_
              try go_wp2
              go_ret;exact ⟨by first | rfl | (simp [zl, zm] <;> rfl) | (simp [*, zl, zm] <;> rfl), Zq1 HB⟩
            ·rw [if_neg c13] at H
             exact absurd H (by simp)
           ·rw [if_neg c12] at H
            have c12b0 : (((zo l1 x6_3).length : Int) == 2) = false := beq_eq_false_iff_ne.mpr c12;have c12b1 : (((zo l1 x6_3).length : Int) != 2) = true := bne_iff_ne.mpr c12;obtain rfl := Option.some.inj H
            try go_wp2
            have n0_ := za.mk (zbz HB.out);clear HB;have HB := n0_;clear n0_;have p219 : 0 ≤ (x6_3 : Int) := of_decide_eq_true Zas;have q219 : x6_3 < (l1.length : Int) := of_decide_eq_true Zas;obtain ⟨ad219, A219_0, c219_0, e219, hx219_0, hl219_0, hi219_0⟩ := zdk HR1.out x6_3 p219 q219;have hw219_0 := hx219_0
            cases e219
            replace hx219_0 := (HB.out.cell (World.block_lt_of_cell? w _ hx219_0)).trans hx219_0;have HR219_0 := za.mk hi219_0;have HC219_0 := za.mk hl219_0;clear hi219_0 hl219_0;replace p219 := eq_true p219;replace q219 := eq_true q219;refine zd0 (n := 36) (S := fun w' => w'.cell? (ad219.add (x6_3).toNat) = some (.slice A219_0 (zo l1 x6_3).length c219_0)) (ds := []) #[false, false, false, false, false, false, false, false, false, false, false, false, false, false, false, false, false, false, false, false, false, false, false, false, false, false, false, false, false, false, false, false, false, false, false, false] (by kernel_rfl) rfl rfl (((HB.out.cell (World.block_lt_of_cell? w _ hw219_0)).trans hw219_0)) (fun hHeld => ?_); refine zcp ze.tab11 ze.bits11 (fun HT_ HW_ => ?_);generalize wr.drew = w22 at HB HR219_0 hx219_0 hHeld ⊢;refine zk (i := 0) (N := some 33) (v := ?_) (a' := ?_) #[true, false, false, false, false, false, false, false, false, false, false, false, false, false, false, false, false, false, false, false, false, false, false, false, false, false, false, false, false, false, false, false, false, false, false, false] rfl rfl (zf HT_.out (by kernel_rfl)) (fun _ _ _ h => h) (Or.inl ⟨by rfl, ?_⟩) ?_ ?_;rotate_left
            ·intro w'
             go_simp;with_reducible rfl
            rotate_left
            ·simp only [Act.put, Zs1, Zs2, Zs3, zg, zh]
             rfl
            refine zk (i := 1) (N := some 34) (v := ?_) (a' := ?_) #[true, true, false, false, false, false, false, false, false, false, false, false, false, false, false, false, false, false, false, false, false, false, false, false, false, false, false, false, false, false, false, false, false, false, false, false] rfl rfl (zf HT_.out (by kernel_rfl)) (fun _ _ _ h => h) (Or.inl ⟨by rfl, ?_⟩) ?_ ?_;rotate_left
            ·intro w'
             go_simp;with_reducible rfl
            rotate_left
            ·simp only [Act.put, Zs1, Zs2, Zs3, zg, zh]
             rfl
            refine zk (i := 2) (N := some 35) (v := ?_) (a' := ?_) #[true, true, true, false, false, false, false, false, false, false, false, false, false, false, false, false, false, false, false, false, false, false, false, false, false, false, false, false, false, false, false, false, false, false, false, false] rfl rfl (zf HT_.out (by kernel_rfl)) (fun _ _ _ h => h) (Or.inl ⟨by rfl, ?_⟩) ?_ ?_;rotate_left
            ·intro w'
             go_simp;with_reducible rfl
            rotate_left
            ·simp only [Act.put, Zs1, Zs2, Zs3, zg, zh]
             rfl
            refine zch (i := 3) (N := some 36) (v := ?_) (a' := ?_) #[true, true, true, true, false, false, false, false, false, false, false, false, false, false, false, false, false, false, false, false, false, false, false, false, false, false, false, false, false, false, false, false, false, false, false, false] rfl rfl (zbj HT_.out HW_.out (by kernel_rfl)) (fun _ _ _ h => h) (Or.inl ⟨by rfl, ?_⟩) hHeld ?_ ?_;rotate_left
            ·intro w' s0
             go_simp;with_reducible rfl
            rotate_left
            ·simp only [Act.put, Zs1, Zs2, Zs3, zg, zh]
             rfl
            refine zk (i := 4) (N := some 37) (v := ?_) (a' := ?_) #[true, true, true, true, true, false, false, false, false, false, false, false, false, false, false, false, false, false, false, false, false, false, false, false, false, false, false, false, false, false, false, false, false, false, false, false] rfl rfl (zf HT_.out (by kernel_rfl)) (fun _ _ _ h => h) (Or.inl ⟨by rfl, ?_⟩) ?_ ?_;rotate_left
            ·intro w'
             go_simp;with_reducible rfl
            rotate_left
            ·simp only [Act.put, Zs1, Zs2, Zs3, zg, zh]
             rfl
            refine zk (i := 5) (N := some 38) (v := ?_) (a' := ?_) #[true, true, true, true, true, true, false, false, false, false, false, false, false, false, false, false, false, false, false, false, false, false, false, false, false, false, false, false, false, false, false, false, false, false, false, false] rfl rfl (zf HT_.out (by kernel_rfl)) (fun _ _ _ h => h) (Or.inl ⟨by rfl, ?_⟩) ?_ ?_;rotate_left
            ·intro w'
             go_simp;with_reducible rfl
            rotate_left
            ·simp only [Act.put, Zs1, Zs2, Zs3, zg, zh]
             rfl
            refine zk (i := 6) (N := some 39) (v := ?_) (a' := ?_) #[true, true, true, true, true, true, true, false, false, false, false, false, false, false, false, false, false, false, false, false, false, false, false, false, false, false, false, false, false, false, false, false, false, false, false, false] rfl rfl (zf HT_.out (by kernel_rfl)) (fun _ _ _ h => h) (Or.inl ⟨by rfl, ?_⟩) ?_ ?_;rotate_left
            ·intro w'
             go_simp;with_reducible rfl
            rotate_left
            ·simp only [Act.put, Zs1, Zs2, Zs3, zg, zh]
             rfl
            refine zk (i := 7) (N := some 40) (v := undef) (a' := ?_) #[true, true, true, true, true, true, true, true, false, false, false, false, false, false, false, false, false, false, false, false, false, false, false, false, false, false, false, false, false, false, false, false, false, false, false, false] rfl rfl (zf HT_.out (by kernel_rfl)) (fun _ _ _ h => h) (Or.inr ⟨by rfl, rfl⟩) ?_ ?_;rotate_left
            ·simp only [Act.put, Zs1, Zs2, Zs3, zg, zh]
             rfl
            refine zk (i := 8) (N := some 41) (v := undef) (a' := ?_) #[true, true, true, true, true, true, true, true, true, false, false, false, false, false, false, false, false, false, false, false, false, false, false, false, false, false, false, false, false, false, false, false, false, false, false, false] rfl rfl (zf HT_.out (by kernel_rfl)) (fun _ _ _ h => h) (Or.inr ⟨by rfl, rfl⟩) ?_ ?_;rotate_left
            ·simp only [Act.put, Zs1, Zs2, Zs3, zg, zh]
             rfl
            refine zk (i := 9) (N := some 42) (v := undef) (a' := ?_) #[true, true, true, true, true, true, true, true, true, true, false, false, false, false, false, false, false, false, false, false, false, false, false, false, false, false, false, false, false, false, false, false, false, false, false, false] rfl rfl (zf HT_.out (by kernel_rfl)) (fun _ _ _ h => h) (Or.inr ⟨by rfl, rfl⟩) ?_ ?_;rotate_left
            ·simp only [Act.put, Zs1, Zs2, Zs3, zg, zh]
             rfl
            refine zk (i := 10) (N := some 43) (v := undef) (a' := ?_) #[true, true, true, true, true, true, true, true, true, true, true, false, false, false, false, false, false, false, false, false, false, false, false, false, false, false, false, false, false, false, false, false, false, false, false, false] rfl rfl (zf HT_.out (by kernel_rfl)) (fun _ _ _ h => h) (Or.inr ⟨by rfl, rfl⟩) ?_ ?_;rotate_left
            ·simp only [Act.put, Zs1, Zs2, Zs3, zg, zh]
             rfl
            refine zk (i := 11) (N := some 44) (v := undef) (a' := ?_) #[true, true, true, true, true, true, true, true, true, true, true, true, false, false, false, false, false, false, false, false, false, false, false, false, false, false, false, false, false, false, false, false, false, false, false, false] rfl rfl (zf HT_.out (by kernel_rfl)) (fun _ _ _ h => h) (Or.inr ⟨by rfl, rfl⟩) ?_ ?_;rotate_left
            ·simp only [Act.put, Zs1, Zs2, Zs3, zg, zh]
             rfl
            refine zk (i := 12) (N := some 45) (v := undef) (a' := ?_) #[true, true, true, true, true, true, true, true, true, true, true, true, true, false, false, false, false, false, false, false, false, false, false, false, false, false, false, false, false, false, false, false, false, false, false, false] rfl rfl (zf HT_.out (by kernel_rfl)) (fun _ _ _ h => h) (Or.inr ⟨by rfl, rfl⟩) ?_ ?_;rotate_left
            ·simp only [Act.put, Zs1, Zs2, Zs3, zg, zh]
             rfl
            refine zk (i := 13) (N := some 46) (v := undef) (a' := ?_) #[true, true, true, true, true, true, true, true, true, true, true, true, true, true, false, false, false, false, false, false, false, false, false, false, false, false, false, false, false, false, false, false, false, false, false, false] rfl rfl (zf HT_.out (by kernel_rfl)) (fun _ _ _ h => h) (Or.inr ⟨by rfl, rfl⟩) ?_ ?_;rotate_left
            ·simp only [Act.put, Zs1, Zs2, Zs3, zg, zh]
             rfl
            refine zk (i := 14) (N := some 47) (v := undef) (a' := ?_) #[true, true, true, true, true, true, true, true, true, true, true, true, true, true, true, false, false, false, false, false, false, false, false, false, false, false, false, false, false, false, false, false, false, false, false, false] rfl rfl (zf HT_.out (by kernel_rfl)) (fun _ _ _ h => h) (Or.inr ⟨by rfl, rfl⟩) ?_ ?_;rotate_left
            ·simp only [Act.put, Zs1, Zs2, Zs3, zg, zh]
             rfl
            refine zk (i := 15) (N := some 48) (v := undef) (a' := ?_) #[true, true, true, true, true, true, true, true, true, true, true, true, true, true, true, true, false, false, false, false, false, false, false, false, false, false, false, false, false, false, false, false, false, false, false, false] rfl rfl (zf HT_.out (by kernel_rfl)) (fun _ _ _ h => h) (Or.inr ⟨by rfl, rfl⟩) ?_ ?_;rotate_left
            ·simp only [Act.put, Zs1, Zs2, Zs3, zg, zh]
             rfl
            refine zk (i := 16) (N := some 49) (v := undef) (a' := ?_) #[true, true, true, true, true, true, true, true, true, true, true, true, true, true, true, true, true, false, false, false, false, false, false, false, false, false, false, false, false, false, false, false, false, false, false, false] rfl rfl (zf HT_.out (by kernel_rfl)) (fun _ _ _ h => h) (Or.inr ⟨by rfl, rfl⟩) ?_ ?_;rotate_left
            ·simp only [Act.put, Zs1, Zs2, Zs3, zg, zh]
             rfl
            refine zk (i := 17) (N := some 50) (v := undef) (a' := ?_) #[true, true, true, true, true, true, true, true, true, true, true, true, true, true, true, true, true, true, false, false, false, false, false, false, false, false, false, false, false, false, false, false, false, false, false, false] rfl rfl (zf HT_.out (by kernel_rfl)) (fun _ _ _ h => h) (Or.inr ⟨by rfl, rfl⟩) ?_ ?_;rotate_left
            ·simp only [Act.put, Zs1, Zs2, Zs3, zg, zh]
             rfl
            refine zk (i := 18) (N := some 51) (v := ?_) (a' := ?_) #[true, true, true, true, true, true, true, true, true, true, true, true, true, true, true, true, true, true, true, false, false, false, false, false, false, false, false, false, false, false, false, false, false, false, false, false] rfl rfl (zf HT_.out (by kernel_rfl)) (fun _ _ _ h => h) (Or.inl ⟨by rfl, ?_⟩) ?_ ?_;rotate_left
            ·intro w'
             go_simp;with_reducible rfl
            rotate_left
            ·simp only [Act.put, Zs1, Zs2, Zs3, zg, zh]
             rfl
            refine zk (i := 19) (N := some 52) (v := ?_) (a' := ?_) #[true, true, true, true, true, true, true, true, true, true, true, true, true, true, true, true, true, true, true, true, false, false, false, false, false, false, false, false, false, false, false, false, false, false, false, false] rfl rfl (zf HT_.out (by kernel_rfl)) (fun _ _ _ h => h) (Or.inl ⟨by rfl, ?_⟩) ?_ ?_;rotate_left
            ·intro w'
             go_simp;with_reducible rfl
            rotate_left
            ·simp only [Act.put, Zs1, Zs2, Zs3, zg, zh]
             rfl
            refine zk (i := 20) (N := some 53) (v := undef) (a' := ?_) #[true, true, true, true, true, true, true, true, true, true, true, true, true, true, true, true, true, true, true, true, true, false, false, false, false, false, false, false, false, false, false, false, false, false, false, false] rfl rfl (zf HT_.out (by kernel_rfl)) (fun _ _ _ h => h) (Or.inr ⟨by rfl, rfl⟩) ?_ ?_;rotate_left
            ·simp only [Act.put, Zs1, Zs2, Zs3, zg, zh]
             rfl
            refine zk (i := 21) (N := some 54) (v := undef) (a' := ?_) #[true, true, true, true, true, true, true, true, true, true, true, true, true, true, true, true, true, true, true, true, true, true, false, false, false, false, false, false, false, false, false, false, false, false, false, false] rfl rfl (zf HT_.out (by kernel_rfl)) (fun _ _ _ h => h) (Or.inr ⟨by rfl, rfl⟩) ?_ ?_;rotate_left
            ·simp only [Act.put, Zs1, Zs2, Zs3, zg, zh]
             rfl
            refine zk (i := 22) (N := some 55) (v := undef) (a' := ?_) #[true, true, true, true, true, true, true, true, true, true, true, true, true, true, true, true, true, true, true, true, true, true, true, false, false, false, false, false, false, false, false, false, false, false, false, false] rfl rfl (zf HT_.out (by kernel_rfl)) (fun _ _ _ h => h) (Or.inr ⟨by rfl, rfl⟩) ?_ ?_;rotate_left
            ·simp only [Act.put, Zs1, Zs2, Zs3, zg, zh]
             rfl
            refine zk (i := 23) (N := some 56) (v := undef) (a' := ?_) #[true, true, true, true, true, true, true, true, true, true, true, true, true, true, true, true, true, true, true, true, true, true, true, true, false, false, false, false, false, false, false, false, false, false, false, false] rfl rfl (zf HT_.out (by kernel_rfl)) (fun _ _ _ h => h) (Or.inr ⟨by rfl, rfl⟩) ?_ ?_;rotate_left
            ·simp only [Act.put, Zs1, Zs2, Zs3, zg, zh]
             rfl
            refine zk (i := 24) (N := some 57) (v := undef) (a' := ?_) #[true, true, true, true, true, true, true, true, true, true, true, true, true, true, true, true, true, true, true, true, true, true, true, true, true, false, false, false, false, false, false, false, false, false, false, false] rfl rfl (zf HT_.out (by kernel_rfl)) (fun _ _ _ h => h) (Or.inr ⟨by rfl, rfl⟩) ?_ ?_;rotate_left
            ·simp only [Act.put, Zs1, Zs2, Zs3, zg, zh]
             rfl
            refine zk (i := 25) (N := some 58) (v := undef) (a' := ?_) #[true, true, true, true, true, true, true, true, true, true, true, true, true, true, true, true, true, true, true, true, true, true, true, true, true, true, false, false, false, false, false, false, false, false, false, false] rfl rfl (zf HT_.out (by kernel_rfl)) (fun _ _ _ h => h) (Or.inr ⟨by rfl, rfl⟩) ?_ ?_;rotate_left
            ·simp only [Act.put, Zs1, Zs2, Zs3, zg, zh]
             rfl
            refine zk (i := 26) (N := some 59) (v := undef) (a' := ?_) #[true, true, true, true, true, true, true, true, true, true, true, true, true, true, true, true, true, true, true, true, true, true, true, true, true, true, true, false, false, false, false, false, false, false, false, false] rfl rfl (zf HT_.out (by kernel_rfl)) (fun _ _ _ h => h) (Or.inr ⟨by rfl, rfl⟩) ?_ ?_;rotate_left
            ·simp only [Act.put, Zs1, Zs2, Zs3, zg, zh]
             rfl
            refine zk (i := 27) (N := some 60) (v := undef) (a' := ?_) #[true, true, true, true, true, true, true, true, true, true, true, true, true, true, true, true, true, true, true, true, true, true, true, true, true, true, true, true, false, false, false, false, false, false, false, false] rfl rfl (zf HT_.out (by kernel_rfl)) (fun _ _ _ h => h) (Or.inr ⟨by rfl, rfl⟩) ?_ ?_;rotate_left
            ·simp only [Act.put, Zs1, Zs2, Zs3, zg, zh]
             rfl
            refine zk (i := 28) (N := some 61) (v := undef) (a' := ?_) #[true, true, true, true, true, true, true, true, true, true, true, true, true, true, true, true, true, true, true, true, true, true, true, true, true, true, true, true, true, false, false, false, false, false, false, false] rfl rfl (zf HT_.out (by kernel_rfl)) (fun _ _ _ h => h) (Or.inr ⟨by rfl, rfl⟩) ?_ ?_;rotate_left
            ·simp only [Act.put, Zs1, Zs2, Zs3, zg, zh]
             rfl
            refine zk (i := 29) (N := some 62) (v := undef) (a' := ?_) #[true, true, true, true, true, true, true, true, true, true, true, true, true, true, true, true, true, true, true, true, true, true, true, true, true, true, true, true, true, true, false, false, false, false, false, false] rfl rfl (zf HT_.out (by kernel_rfl)) (fun _ _ _ h => h) (Or.inr ⟨by rfl, rfl⟩) ?_ ?_;rotate_left
            ·simp only [Act.put, Zs1, Zs2, Zs3, zg, zh]
             rfl
            refine zk (i := 30) (N := some 63) (v := undef) (a' := ?_) #[true, true, true, true, true, true, true, true, true, true, true, true, true, true, true, true, true, true, true, true, true, true, true, true, true, true, true, true, true, true, true, false, false, false, false, false] rfl rfl (zf HT_.out (by kernel_rfl)) (fun _ _ _ h => h) (Or.inr ⟨by rfl, rfl⟩) ?_ ?_;rotate_left
            ·simp only [Act.put, Zs1, Zs2, Zs3, zg, zh]
             rfl
            refine zk (i := 31) (N := some 64) (v := undef) (a' := ?_) #[true, true, true, true, true, true, true, true, true, true, true, true, true, true, true, true, true, true, true, true, true, true, true, true, true, true, true, true, true, true, true, true, false, false, false, false] rfl rfl (zf HT_.out (by kernel_rfl)) (fun _ _ _ h => h) (Or.inr ⟨by rfl, rfl⟩) ?_ ?_;rotate_left
            ·simp only [Act.put, Zs1, Zs2, Zs3, zg, zh]
             rfl
            refine zk (i := 32) (N := some 65) (v := undef) (a' := ?_) #[true, true, true, true, true, true, true, true, true, true, true, true, true, true, true, true, true, true, true, true, true, true, true, true, true, true, true, true, true, true, true, true, true, false, false, false] rfl rfl (zf HT_.out (by kernel_rfl)) (fun _ _ _ h => h) (Or.inr ⟨by rfl, rfl⟩) ?_ ?_;rotate_left
            ·simp only [Act.put, Zs1, Zs2, Zs3, zg, zh]
             rfl
            refine zk (i := 33) (N := some 66) (v := undef) (a' := ?_) #[true, true, true, true, true, true, true, true, true, true, true, true, true, true, true, true, true, true, true, true, true, true, true, true, true, true, true, true, true, true, true, true, true, true, false, false] rfl rfl (zf HT_.out (by kernel_rfl)) (fun _ _ _ h => h) (Or.inr ⟨by rfl, rfl⟩) ?_ ?_;rotate_left
            ·simp only [Act.put, Zs1, Zs2, Zs3, zg, zh]
             rfl
            refine zk (i := 34) (N := some 67) (v := undef) (a' := ?_) #[true, true, true, true, true, true, true, true, true, true, true, true, true, true, true, true, true, true, true, true, true, true, true, true, true, true, true, true, true, true, true, true, true, true, true, false] rfl rfl (zf HT_.out (by kernel_rfl)) (fun _ _ _ h => h) (Or.inr ⟨by rfl, rfl⟩) ?_ ?_;rotate_left
            ·simp only [Act.put, Zs1, Zs2, Zs3, zg, zh]
             rfl
            refine zk (i := 35) (N := some 68) (v := ?_) (a' := ?_) #[true, true, true, true, true, true, true, true, true, true, true, true, true, true, true, true, true, true, true, true, true, true, true, true, true, true, true, true, true, true, true, true, true, true, true, true] rfl rfl (zf HT_.out (by kernel_rfl)) (fun _ _ _ h => h) (Or.inl ⟨by rfl, ?_⟩) ?_ ?_;rotate_left
            ·intro w'
             go_simp;with_reducible rfl
            rotate_left
            ·simp only [Act.put, Zs1, Zs2, Zs3, zg, zh]
             rfl
            refine zfc (zc8 HT_.out (by kernel_rfl)) ?_
            try go_wp2
            go_ret;exact ⟨by first | rfl | (simp [zl, zm] <;> rfl) | (simp [*, zl, zm] <;> rfl), Zq1 HB⟩
          ·rw [if_neg c11] at H
           exact absurd H (by simp)
         ·rw [if_neg c10] at H
          have c10b0 : decide (x6_3 < (l1.length : Int)) = false := decide_eq_false c10;clear c10;obtain rfl := Option.some.inj H;go_wp2;go_ret;exact ⟨by first | rfl | (simp [zl, zm] <;> rfl) | (simp [*, zl, zm] <;> rfl), Zq1 HB⟩
mutual
def zbc.l0 : Nat → List Int → List (List Int) → List Int → Int → Option (List Int)
 | 0, _, _, _, _ => none
 | k + 1, x0, x1, x5, x6 => if x6 < (x0.length : Int) then (zbc.l1 k x0 x1 x5 x6 0 0) else (some x5)
def zbc.l1 : Nat → List Int → List (List Int) → List Int → Int → Int → Int → Option (List Int)
 | 0, _, _, _, _, _, _ => none
 | k + 1, x0, x1, x5, x6, x7, x8 => if x8 < (x1.length : Int) then (if 0 ≤ x8 then (if 1 < ((zo x1 x8).length : Int) then (if (rd (zo x1 x8) 1) = x6 then (if 0 < ((zo x1 x8).length : Int) then (if 0 ≤ (rd (zo x1 x8) 0) then (if (rd (zo x1 x8) 0) < (x5.length : Int) then (zbc.l1 k x0 x1 x5 x6 (mx x7 (rd x5 (rd (zo x1 x8) 0))) (wrap64 (x8 + 1))) else (none)) else (none)) else (none)) else (zbc.l1 k x0 x1 x5 x6 x7 (wrap64 (x8 + 1)))) else (none)) else (none)) else (if 0 ≤ x6 then (if x6 < (x0.length : Int) then (if x5.length < 17592186044416 then (zbc.l0 k x0 x1 (x5 ++ [wrap64 (x7 + (rd x0 x6))]) (wrap64 (x6 + 1))) else (none)) else (none)) else (none))
end
def zbc.f (k : Nat) (l0 : List Int) (l1 : List (List Int)) : Option (List Int) := zbc.l0 k l0 l1 (([] : List Int)) 0
set_option maxHeartbeats 8000000 in
theorem zbc.calls (k : Nat) (A0 : Option Addr) (c0 : Nat) (l0 : List Int) (A1 : Option Addr) (c1 : Nat) (l1 : List (List Int)) (r : List Int) (w : World) (hr0 : Kd.C (Kd.int .i64) w A0 l0.length l0) (hc0 : l0.length ≤ c0) (hr1 : Kd.C (Kd.slice 3 (Kd.int .i64)) w A1 l1.length l1) (hc1 : l1.length ≤ c1) (h : zbc.f k l0 l1 = some r) :
  Calls Try.prog 61 #[.slice A0 l0.length c0, .slice A1 l1.length c1] w fun e w' => ∃ v0_ : Value, e = .returned (v0_) ∧ Kd.R (Kd.int .i64) 3 w' w.heap.size (fun _ => True) v0_ r ∧ Below w.heap.size w w' := by
 have HR0 := za.mk hr0
 have HC0 := za.mk hc0
 clear hr0 hc0
 have HR1 := za.mk hr1
 have HC1 := za.mk hc1
 clear hr1 hc1
 have HB := za.mk (Below.refl w.heap.size w)
 have H : (zbc.l0 k l0 l1 (([] : List Int)) 0) = some r := h
 clear h
 obtain ⟨y301, hy301⟩ : ∃ y_ : List Int, y_ = (([] : List Int)) := ⟨_, rfl⟩
 replace H : (zbc.l0 k l0 l1 y301 0) = some r := by first | (rw [hy301]; with_reducible exact H) | (have H2_ := (Option.bind_some _ _).symm.trans H; rw [hy301]; with_reducible exact H2_) | (have H2_ := (Option.bind_some _ _).symm.trans H; with_reducible exact H2_) | with_reducible exact H | (rw [hy301]; exact H) | exact H
 have Ny301 := za.mk hy301
 clear hy301
 have H' := za.mk H
 clear H
 go_enter Try.func61, Try.ntmps61
 go_wp2_with (first | ((with_reducible refine zb2 (N := 9) rfl ?_); refine Kd.ze3 (Kd.int .i64) _ 3 ?hg (N := 9) ?hd (xs := ([] : List Int)) (inner := []) (ok := fun _ => True) (okp := fun _ => True) ?hr ?hp (fun _ hk => hk) trivial (Below.refl _ _) (Nat.le_refl _) (by simp) ?_; (case hd => rfl); (case hg => rfl); (case hr => first | (go_simp; done) | (go_simp; rfl)); (case hp => exact (Reps.none _ _)); intro v302 w3 ho4 hb hg_ hnew_; clear hg_ hnew_; (first | rw [← Ny301.out] at ho4 | (simp only [Int.reduceToNat] at ho4; rw [← Ny301.out] at ho4)); have n0_ := za.mk (Kd.zca ho4 (zbp (Zq1 HB))); have n1_ := za.mk (z8 (Zq1 HB) hb); clear HB; have HO303 := n0_; have HB := n1_; clear n0_ n1_; clear hb ho4))
 go_loopg [5, 6] k (fun kq v5 v6 w' => ∃ (x5_1 : List Int) (x6_1 : Int), v6 = .int .i64 x6_1 ∧ za (zbc.l0 kq l0 l1 x5_1 x6_1 = some r) ∧ za (kq ≤ k) ∧ za (Kd.R (Kd.int .i64) 3 w' w.heap.size (fun _ => True) v5 x5_1) ∧ za (Below w.heap.size w w'))
 case atStart => exact ⟨(y301), (0), Zrs, H', ⟨Nat.le_refl _⟩, ⟨Zq9 HO303⟩, ⟨Zq1 HB⟩⟩
 case round =>
  clear H'
  (try clear c1);(try clear p2)
  obtain ⟨x5_1, x6_1, rfl, HA, HK1, HO_5, HB⟩ := hrel
  cases gk with
  | zero => exact absurd HA.out (by simp [zbc.l0])
  | succ k1 =>
   have H := HA.out;clear HA;simp only [zbc.l0] at H;by_cases c5 : x6_1 < (l0.length : Int)
   ·rw [if_pos c5] at H
    have c5b0 : decide (x6_1 < (l0.length : Int)) = true := decide_eq_true c5;clear c5;have H' := za.mk H;clear H;go_wp2
    go_loopg [7, 8] k1 (fun kq v7 v8 w' => ∃ (x7_2 : Int) (x8_2 : Int), v7 = .int .i64 x7_2 ∧ v8 = .int .i64 x8_2 ∧ za (zbc.l1 kq l0 l1 x5_1 x6_1 x7_2 x8_2 = some r) ∧ za (kq ≤ k1) ∧ za (Kd.R (Kd.int .i64) 3 w' w.heap.size (fun _ => True) u5 x5_1) ∧ za (Below w.heap.size w w'))
    case atStart => exact ⟨(0), (0), Zrs, Zrs, H', ⟨Nat.le_refl _⟩, ⟨Zq9 HO_5⟩, ⟨Zq1 HB⟩⟩
    case round =>
     clear H'
     (try clear c1);(try clear p2);(try clear c5);(try clear c5b0);(try clear p2)
     obtain ⟨x7_2, x8_2, rfl, rfl, HA, HK2, HO_5, HB⟩ := hrel
     cases gk with
     | zero => exact absurd HA.out (by simp [zbc.l1])
     | succ k2 =>
      have H := HA.out;clear HA;simp only [zbc.l1] at H;by_cases c6 : x8_2 < (l1.length : Int)
      ·rw [if_pos c6] at H
       have c6b0 : decide (x8_2 < (l1.length : Int)) = true := decide_eq_true c6;clear c6;by_cases c7 : 0 ≤ x8_2
       ·rw [if_pos c7] at H
        have c7b0 : decide (0 ≤ x8_2) = true := decide_eq_true c7;clear c7;by_cases c8 : 1 < ((zo l1 x8_2).length : Int)
        ·rw [if_pos c8] at H
         have c8b0 : decide (1 < ((zo l1 x8_2).length : Int)) = true := decide_eq_true c8;have c8b1 : decide (1 < (zo l1 x8_2).length) = true := decide_eq_true (by omega);clear c8;by_cases c9 : (rd (zo l1 x8_2) 1) = x6_1
         ·rw [if_pos c9] at H
          have c9b0 : ((rd (zo l1 x8_2) 1) == x6_1) = true := beq_iff_eq.mpr c9;have c9b1 : ((rd (zo l1 x8_2) 1) != x6_1) = false := bne_eq_false_iff_eq.mpr c9;clear c9;by_cases c10 : 0 < ((zo l1 x8_2).length : Int)
          ·rw [if_pos c10] at H
           have c10b0 : decide (0 < ((zo l1 x8_2).length : Int)) = true := decide_eq_true c10;have c10b1 : decide (0 < (zo l1 x8_2).length) = true := decide_eq_true (by omega);clear c10;by_cases c11 : 0 ≤ (rd (zo l1 x8_2) 0)
           ·rw [if_pos c11] at H
            have c11b0 : decide (0 ≤ (rd (zo l1 x8_2) 0)) = true := decide_eq_true c11;clear c11;by_cases c12 : (rd (zo l1 x8_2) 0) < (x5_1.length : Int)
            ·rw [if_pos c12] at H
             have c12b0 : decide ((rd (zo l1 x8_2) 0) < (x5_1.length : Int)) = true := decide_eq_true c12;clear c12;obtain ⟨ji13, hji13⟩ : ∃ j_ : Int, (mx x7_2 (rd x5_1 (rd (zo l1 x8_2) 0))) = j_ := ⟨_, rfl⟩;replace H : (zbc.l1 k2 l0 l1 x5_1 x6_1 ji13 (wrap64 (x8_2 + 1))) = some r := by first | (rw [hji13] at H; exact H) | (simp only [hji13] at H ⊢; exact H)
             have hji13_ : (if x7_2 < (rd x5_1 (rd (zo l1 x8_2) 0)) then (rd x5_1 (rd (zo l1 x8_2) 0)) else x7_2) = ji13 := hji13;have H' := za.mk H;clear H;have p304 : 0 ≤ (x8_2 : Int) := of_decide_eq_true Zas;have q304 : x8_2 < (l1.length : Int) := of_decide_eq_true Zas;obtain ⟨ad304, A304_0, c304_0, e304, hx304_0, hl304_0, hi304_0⟩ := zdk HR1.out x8_2 p304 q304
             cases e304
             replace hx304_0 := (HB.out.cell (World.block_lt_of_cell? w _ hx304_0)).trans hx304_0;have HR304_0 := za.mk hi304_0;have HC304_0 := za.mk hl304_0;clear hi304_0 hl304_0;replace p304 := eq_true p304;replace q304 := eq_true q304;have p305 : 0 ≤ (1 : Int) := (by omega);have q305 : 1 < ((zo l1 x8_2).length : Int) := of_decide_eq_true Zas;obtain ⟨ad305, e305, hx305_0⟩ := Kd.zbq HR304_0.out 1 p305 q305
             cases e305
             (try simp only [show (1 : Int).toNat = 1 from rfl, Nat.reduceMul, Nat.reduceEqDiff, Go.Addr.add, ↓reduceIte] at hx305_0);have qi305 : (1 < (zo l1 x8_2).length) = True := eq_true (by omega);(try rw [show ((1 : Int)).toNat = 1 from rfl] at hx305_0);replace hx305_0 := (HB.out.cell (World.block_lt_of_cell? w _ hx305_0)).trans hx305_0;replace p305 := eq_true p305;replace q305 := eq_true q305;have p306 : 0 ≤ (x8_2 : Int) := of_decide_eq_true Zas;have q306 : x8_2 < (l1.length : Int) := of_decide_eq_true Zas;obtain ⟨ad306, A306_0, c306_0, e306, hx306_0, hl306_0, hi306_0⟩ := zdk HR1.out x8_2 p306 q306;obtain rfl : ad304 = ad306 := (by injection e306);replace hx306_0 := (HB.out.cell (World.block_lt_of_cell? w _ hx306_0)).trans hx306_0;have HR306_0 := za.mk hi306_0;have HC306_0 := za.mk hl306_0;clear hi306_0 hl306_0;replace p306 := eq_true p306;replace q306 := eq_true q306;have ea_ := Option.some.inj (hx304_0.symm.trans hx306_0);injection ea_ with ea_ en_ ec_;subst ea_;subst ec_;clear en_;have p307 : 0 ≤ (0 : Int) := (by omega);have q307 : 0 < ((zo l1 x8_2).length : Int) := of_decide_eq_true Zas;obtain ⟨ad307, e307, hx307_0⟩ := Kd.zbq HR306_0.out 0 p307 q307
             cases e307
             have qi307 : (0 < (zo l1 x8_2).length) = True := eq_true (by omega);(try rw [show ((0 : Int)).toNat = 0 from rfl] at hx307_0);(try rw [Addr.add_zero'] at hx307_0);replace hx307_0 := (HB.out.cell (World.block_lt_of_cell? w _ hx307_0)).trans hx307_0;replace p307 := eq_true p307;replace q307 := eq_true q307;obtain ⟨Ao14, co14, eo14⟩ := Kd.zb3 HO_5.out;subst eo14;have p308 : 0 ≤ ((rd (zo l1 x8_2) 0) : Int) := of_decide_eq_true Zas;have q308 : (rd (zo l1 x8_2) 0) < (x5_1.length : Int) := of_decide_eq_true Zas;obtain ⟨ad308, e308, hx308_0⟩ := Kd.zbq (Kd.zbm HO_5.out).2.2 (rd (zo l1 x8_2) 0) p308 q308
             cases e308
             replace p308 := eq_true p308;replace q308 := eq_true q308;go_wp2;go_roundg k2
             case measure => have := HK1.out; have := HK2.out; omega
             case rel => exact ⟨(ji13), (wrap64 (x8_2 + 1)), (by first | rfl | (simp; done) | (simp only [← hji13] <;> (first | rfl | simp)) | (simp [*]; done)), Zrs, H', ⟨by have := HK1.out; have := HK2.out; omega⟩, ⟨Zq9 HO_5⟩, ⟨Zq1 HB⟩⟩
            ·rw [if_neg c12] at H
             exact absurd H (by simp)
           ·rw [if_neg c11] at H
            exact absurd H (by simp)
          ·rw [if_neg c10] at H
           exact absurd H (by simp)
         ·rw [if_neg c9] at H
          have c9b0 : ((rd (zo l1 x8_2) 1) == x6_1) = false := beq_eq_false_iff_ne.mpr c9;have c9b1 : ((rd (zo l1 x8_2) 1) != x6_1) = true := bne_iff_ne.mpr c9;have H' := za.mk H;clear H;have p304 : 0 ≤ (x8_2 : Int) := of_decide_eq_true Zas;have q304 : x8_2 < (l1.length : Int) := of_decide_eq_true Zas;obtain ⟨ad304, A304_0, c304_0, e304, hx304_0, hl304_0, hi304_0⟩ := zdk HR1.out x8_2 p304 q304
          cases e304
          replace hx304_0 := (HB.out.cell (World.block_lt_of_cell? w _ hx304_0)).trans hx304_0;have HR304_0 := za.mk hi304_0;have HC304_0 := za.mk hl304_0;clear hi304_0 hl304_0;replace p304 := eq_true p304;replace q304 := eq_true q304;have p305 : 0 ≤ (1 : Int) := (by omega);have q305 : 1 < ((zo l1 x8_2).length : Int) := of_decide_eq_true Zas;obtain ⟨ad305, e305, hx305_0⟩ := Kd.zbq HR304_0.out 1 p305 q305
          cases e305
          (try simp only [show (1 : Int).toNat = 1 from rfl, Nat.reduceMul, Nat.reduceEqDiff, Go.Addr.add, ↓reduceIte] at hx305_0);have qi305 : (1 < (zo l1 x8_2).length) = True := eq_true (by omega);(try rw [show ((1 : Int)).toNat = 1 from rfl] at hx305_0);replace hx305_0 := (HB.out.cell (World.block_lt_of_cell? w _ hx305_0)).trans hx305_0;replace p305 := eq_true p305;replace q305 := eq_true q305;go_wp2;go_roundg k2
          case measure => have := HK1.out; have := HK2.out; omega
          case rel => exact ⟨(x7_2), (wrap64 (x8_2 + 1)), Zrs, Zrs, H', ⟨by have := HK1.out; have := HK2.out; omega⟩, ⟨Zq9 HO_5⟩, ⟨Zq1 HB⟩⟩
        ·rw [if_neg c8] at H
         exact absurd H (by simp)
       ·rw [if_neg c7] at H
        exact absurd H (by simp)
      ·rw [if_neg c6] at H
       have c6b0 : decide (x8_2 < (l1.length : Int)) = false := decide_eq_false c6;clear c6;by_cases c15 : 0 ≤ x6_1
       ·rw [if_pos c15] at H
        have c15b0 : decide (0 ≤ x6_1) = true := decide_eq_true c15;clear c15;by_cases c16 : x6_1 < (l0.length : Int)
        ·rw [if_pos c16] at H
         have c16b0 : decide (x6_1 < (l0.length : Int)) = true := decide_eq_true c16;clear c16;by_cases c17 : x5_1.length < 17592186044416
         ·rw [if_pos c17] at H
          have LMc17 := za.mk c17;clear c17;obtain ⟨y310, hy310⟩ : ∃ y_ : List Int, y_ = (x5_1 ++ [wrap64 (x7_2 + (rd l0 x6_1))]) := ⟨_, rfl⟩;replace H : (zbc.l0 k2 l0 l1 y310 (wrap64 (x6_1 + 1))) = some r := by first | (rw [hy310]; with_reducible exact H) | (have H2_ := (Option.bind_some _ _).symm.trans H; rw [hy310]; with_reducible exact H2_) | (have H2_ := (Option.bind_some _ _).symm.trans H; with_reducible exact H2_) | with_reducible exact H | (rw [hy310]; exact H) | exact H
          have Ny310 := za.mk hy310;clear hy310;have H' := za.mk H;clear H;have p309 : 0 ≤ (x6_1 : Int) := of_decide_eq_true Zas;have q309 : x6_1 < (l0.length : Int) := of_decide_eq_true Zas;obtain ⟨ad309, e309, hx309_0⟩ := Kd.zbq HR0.out x6_1 p309 q309
          cases e309
          replace hx309_0 := (HB.out.cell (World.block_lt_of_cell? w _ hx309_0)).trans hx309_0;replace p309 := eq_true p309;replace q309 := eq_true q309;go_wp2_with (first | ((with_reducible refine zb1 (b := .append) (xs := #[.tmp 41, .tmp 48]) rfl ?_); at_builtin; refine Kd.zdd (Kd.int .i64) (w0 := w) w.heap.size rfl (.tmp 41) (.tmp 48) 23 3 (.int .i64 0) 8 rfl Try.underlying23 info3 rfl (by decide) (by omega) u5 x5_1 (wrap64 (x7_2 + (rd l0 x6_1))) [.int .i64 (wrap64 (x7_2 + (rd l0 x6_1)))] (fun _ => True) (fun _ => False) rfl rfl ?aP (fun _ hk => hk.elim) ?aF ?aO ?aB ?aS ?aL ?_; (case aP => exact rfl); (case aB => exact (Zq1 HB)); (case aF => exact (fun _ _ => trivial)); (case aO => exact (Zq9 HO_5)); (case aS => exact (zbp (Zq1 HB))); (case aL => have := LMc17.out; omega); intro v311 w18 ho hb hg hat; rw [← Ny310.out] at ho; have n0_ := za.mk (hb); have n1_ := za.mk (ho); clear HB; clear HO_5; have HB := n0_; have HO312 := n1_; clear n0_ n1_; clear ho hb hg hat));go_roundg k2
          case measure => have := HK1.out; have := HK2.out; omega
          case rel => exact ⟨(y310), (wrap64 (x6_1 + 1)), Zrs, H', ⟨by have := HK1.out; have := HK2.out; omega⟩, ⟨Zq9 HO312⟩, ⟨Zq1 HB⟩⟩
         ·rw [if_neg c17] at H
          exact absurd H (by simp)
        ·rw [if_neg c16] at H
         exact absurd H (by simp)
       ·rw [if_neg c15] at H
        exact absurd H (by simp)
   ·rw [if_neg c5] at H
    have c5b0 : decide (x6_1 < (l0.length : Int)) = false := decide_eq_false c5;clear c5;obtain rfl := Option.some.inj H;go_wp2;go_ret;exact ⟨_, by first | rfl | (simp [zl, zm] <;> rfl) | (simp [*, zl, zm] <;> rfl), Zq9 HO_5, Zq1 HB⟩
def zbb.l0 : Nat → Int → List Int → Int → Option (Int)
 | 0, _, _, _ => none
 | k + 1, x5, x6, x7 => if x7 < (x6.length : Int) then (if 0 ≤ x7 then (zbb.l0 k (mx x5 (rd x6 x7)) x6 (wrap64 (x7 + 1))) else (none)) else (some x5)
def zbb.f (k : Nat) (l0 : List Int) (l1 : List (List Int)) : Option (Int) := (ze.f k l0 l1).bind fun t313 => (if t313 = true then ((zbc.f k l0 l1).bind fun t314 => (zbb.l0 k 0 t314 0)) else (some (-1)))
set_option maxHeartbeats 8000000 in
theorem zbb.calls (k : Nat) (A0 : Option Addr) (c0 : Nat) (l0 : List Int) (A1 : Option Addr) (c1 : Nat) (l1 : List (List Int)) (r : Int) (w : World) (hr0 : Kd.C (Kd.int .i64) w A0 l0.length l0) (hc0 : l0.length ≤ c0) (hr1 : Kd.C (Kd.slice 3 (Kd.int .i64)) w A1 l1.length l1) (hc1 : l1.length ≤ c1) (h : zbb.f k l0 l1 = some r) :
  Calls Try.prog 47 #[.slice A0 l0.length c0, .slice A1 l1.length c1] w fun e w' => e = .returned (.int .i64 r) ∧ Below w.heap.size w w' := by
 have HR0 := za.mk hr0
 have HC0 := za.mk hc0
 clear hr0 hc0
 have HR1 := za.mk hr1
 have HC1 := za.mk hc1
 clear hr1 hc1
 have HB := za.mk (Below.refl w.heap.size w)
 have H : ((ze.f k l0 l1).bind fun t313 => (if t313 = true then ((zbc.f k l0 l1).bind fun t314 => (zbb.l0 k 0 t314 0)) else (some (-1)))) = some r := h
 clear h
 replace H := Option.bind_eq_some_iff.mp H
 obtain ⟨t313, A30, H⟩ := H
 replace H : (if t313 = true then ((zbc.f k l0 l1).bind fun t314 => (zbb.l0 k 0 t314 0)) else (some (-1))) = some r := H
 have A3 := za.mk A30
 clear A30
 by_cases c4 : t313 = true
 ·subst c4
  have H1 : ((zbc.f k l0 l1).bind fun t314 => (zbb.l0 k 0 t314 0)) = some r := by rw [if_pos rfl] at H; exact H
  clear H;have H := H1;clear H1;replace H := Option.bind_eq_some_iff.mp H;obtain ⟨t314, A50, H⟩ := H;replace H : (zbb.l0 k 0 t314 0) = some r := H;have A5 := za.mk A50;clear A50;have H' := za.mk H;clear H;go_enter Try.func47, Try.ntmps47;go_wp2_with (first | ((with_reducible refine zw (f := 13) rfl ?_); refine zbn (some 10) rfl rfl Try.func13 (by kernel_rfl) rfl #[.slice A0 l0.length c0, .slice A1 l1.length c1] rfl Zmt ?_; (with_reducible refine (ze.calls k _ _ l0 _ _ l1 true _ ?side1 ?side2 ?side3 ?side4 A3.out).mono ?_); (case side1 => exact Zq13 HR0); (case side2 => exact HC0.out); (case side3 => exact Zq13 HR1); (case side4 => exact HC1.out); rintro e w6 ⟨rfl, hb⟩; refine ⟨_, rfl, ?_⟩; have n0_ := za.mk (z8 (Zq1 HB) hb); clear HB; have HB := n0_; clear n0_; (try clear hb); (try clear hb2); (try clear hk); (try clear hi)) | ((with_reducible refine zw (f := 61) rfl ?_); refine zbn (some 14) rfl rfl Try.func61 (by kernel_rfl) rfl #[.slice A0 l0.length c0, .slice A1 l1.length c1] rfl Zmt ?_; (with_reducible refine (zbc.calls k _ _ l0 _ _ l1 t314 _ ?side1 ?side2 ?side3 ?side4 A5.out).mono ?_); (case side1 => exact Zq11 (Kd.zbv HR0.out HB.out)); (case side2 => exact HC0.out); (case side3 => exact Zq11 (Kd.zbv HR1.out HB.out)); (case side4 => exact HC1.out); rintro e w7 ⟨v315, rfl, ho0, hb⟩; refine ⟨_, rfl, ?_⟩; have n0_ := za.mk (Kd.zca ho0 (zbp (Zq1 HB))); have n1_ := za.mk (z8 (Zq1 HB) hb); clear HB; have HO316 := n0_; have HB := n1_; clear n0_ n1_; (try clear hb); (try clear hb2); (try clear hk); (try clear hi); (try clear ho0)))
  go_loopg [5, 7] k (fun kq v5 v7 w' => ∃ (x5_1 : Int) (x7_1 : Int), v5 = .int .i64 x5_1 ∧ v7 = .int .i64 x7_1 ∧ za (zbb.l0 kq x5_1 t314 x7_1 = some r) ∧ za (kq ≤ k) ∧ za (Kd.R (Kd.int .i64) 3 w' w.heap.size (fun _ => True) v315 t314) ∧ za (Below w.heap.size w w'))
  case atStart => exact ⟨(0), (0), Zrs, Zrs, H', ⟨Nat.le_refl _⟩, ⟨Zq9 HO316⟩, ⟨Zq1 HB⟩⟩
  case round =>
   clear H'
   (try clear c1);(try clear p2);(try clear c4);(try clear c6)
   obtain ⟨x5_1, x7_1, rfl, rfl, HA, HK1, HO_6, HB⟩ := hrel
   cases gk with
   | zero => exact absurd HA.out (by simp [zbb.l0])
   | succ k1 =>
    have H := HA.out;clear HA;simp only [zbb.l0] at H;by_cases c8 : x7_1 < (t314.length : Int)
    ·rw [if_pos c8] at H
     have c8b0 : decide (x7_1 < (t314.length : Int)) = true := decide_eq_true c8;clear c8;by_cases c9 : 0 ≤ x7_1
     ·rw [if_pos c9] at H
      have c9b0 : decide (0 ≤ x7_1) = true := decide_eq_true c9;clear c9;obtain ⟨ji10, hji10⟩ : ∃ j_ : Int, (mx x5_1 (rd t314 x7_1)) = j_ := ⟨_, rfl⟩;replace H : (zbb.l0 k1 ji10 t314 (wrap64 (x7_1 + 1))) = some r := by first | (rw [hji10] at H; exact H) | (simp only [hji10] at H ⊢; exact H)
      have hji10_ : (if x5_1 < (rd t314 x7_1) then (rd t314 x7_1) else x5_1) = ji10 := hji10;have H' := za.mk H;clear H;obtain ⟨Ao11, co11, eo11⟩ := Kd.zb3 HO_6.out;subst eo11;have p317 : 0 ≤ (x7_1 : Int) := of_decide_eq_true Zas;have q317 : x7_1 < (t314.length : Int) := of_decide_eq_true Zas;obtain ⟨ad317, e317, hx317_0⟩ := Kd.zbq (Kd.zbm HO_6.out).2.2 x7_1 p317 q317
      cases e317
      replace p317 := eq_true p317;replace q317 := eq_true q317;go_wp2;go_roundg k1
      case measure => have := HK1.out; omega
      case rel => exact ⟨(ji10), (wrap64 (x7_1 + 1)), (by first | rfl | (simp; done) | (simp only [← hji10] <;> (first | rfl | simp)) | (simp [*]; done)), Zrs, H', ⟨by have := HK1.out; omega⟩, ⟨Zq9 HO_6⟩, ⟨Zq1 HB⟩⟩
     ·rw [if_neg c9] at H
      exact absurd H (by simp)
    ·rw [if_neg c8] at H
     have c8b0 : decide (x7_1 < (t314.length : Int)) = false := decide_eq_false c8;clear c8;obtain rfl := Option.some.inj H;obtain ⟨Ao12, co12, eo12⟩ := Kd.zb3 HO_6.out;subst eo12;go_wp2;go_ret;exact ⟨by first | rfl | (simp [zl, zm] <;> rfl) | (simp [*, zl, zm] <;> rfl), Zq1 HB⟩
 ·replace c4 := Bool.eq_false_iff.mpr c4
  subst c4;have H1 : (some (-1)) = some r := by rw [if_neg (show ¬ (false = true) by decide)] at H; exact H
  clear H;have H := H1;clear H1;obtain rfl := Option.some.inj H;go_enter Try.func47, Try.ntmps47;go_wp2_with (first | ((with_reducible refine zw (f := 13) rfl ?_); refine zbn (some 10) rfl rfl Try.func13 (by kernel_rfl) rfl #[.slice A0 l0.length c0, .slice A1 l1.length c1] rfl Zmt ?_; (with_reducible refine (ze.calls k _ _ l0 _ _ l1 false _ ?side1 ?side2 ?side3 ?side4 A3.out).mono ?_); (case side1 => exact Zq13 HR0); (case side2 => exact HC0.out); (case side3 => exact Zq13 HR1); (case side4 => exact HC1.out); rintro e w13 ⟨rfl, hb⟩; refine ⟨_, rfl, ?_⟩; have n0_ := za.mk (z8 (Zq1 HB) hb); clear HB; have HB := n0_; clear n0_; (try clear hb); (try clear hb2); (try clear hk); (try clear hi)));go_ret;exact ⟨by first | rfl | (simp [zl, zm] <;> rfl) | (simp [*, zl, zm] <;> rfl), Zq1 HB⟩
def zbl.l0 : Nat → List Int → Int → Int → Option (Int)
 | 0, _, _, _ => none
 | k + 1, x0, x5, x6 => if x6 < (x0.length : Int) then (if 0 ≤ x6 then (zbl.l0 k x0 (wrap64 (x5 + (rd x0 x6))) (wrap64 (x6 + 1))) else (none)) else (some x5)
def zbl.f (k : Nat) (l0 : List Int) (l1 : List (List Int)) : Option (Int) := (ze.f k l0 l1).bind fun t318 => (if t318 = true then (zbl.l0 k l0 0 0) else (some (-1)))
set_option maxHeartbeats 8000000 in
theorem zbl.calls (k : Nat) (A0 : Option Addr) (c0 : Nat) (l0 : List Int) (A1 : Option Addr) (c1 : Nat) (l1 : List (List Int)) (r : Int) (w : World) (hr0 : Kd.C (Kd.int .i64) w A0 l0.length l0) (hc0 : l0.length ≤ c0) (hr1 : Kd.C (Kd.slice 3 (Kd.int .i64)) w A1 l1.length l1) (hc1 : l1.length ≤ c1) (h : zbl.f k l0 l1 = some r) :
  Calls Try.prog 48 #[.slice A0 l0.length c0, .slice A1 l1.length c1] w fun e w' => e = .returned (.int .i64 r) ∧ Below w.heap.size w w' := by
 have HR0 := za.mk hr0
 have HC0 := za.mk hc0
 clear hr0 hc0
 have HR1 := za.mk hr1
 have HC1 := za.mk hc1
 clear hr1 hc1
 have HB := za.mk (Below.refl w.heap.size w)
 have H : ((ze.f k l0 l1).bind fun t318 => (if t318 = true then (zbl.l0 k l0 0 0) else (some (-1)))) = some r := h
 clear h
 replace H := Option.bind_eq_some_iff.mp H
 obtain ⟨t318, A30, H⟩ := H
 replace H : (if t318 = true then (zbl.l0 k l0 0 0) else (some (-1))) = some r := H
 have A3 := za.mk A30
 clear A30
 by_cases c4 : t318 = true
 ·subst c4
  have H1 : (zbl.l0 k l0 0 0) = some r := by rw [if_pos rfl] at H; exact H
  clear H;have H := H1;clear H1;have H' := za.mk H;clear H;go_enter Try.func48, Try.ntmps48;go_wp2_with (first | ((with_reducible refine zw (f := 13) rfl ?_); refine zbn (some 9) rfl rfl Try.func13 (by kernel_rfl) rfl #[.slice A0 l0.length c0, .slice A1 l1.length c1] rfl Zmt ?_; (with_reducible refine (ze.calls k _ _ l0 _ _ l1 true _ ?side1 ?side2 ?side3 ?side4 A3.out).mono ?_); (case side1 => exact Zq13 HR0); (case side2 => exact HC0.out); (case side3 => exact Zq13 HR1); (case side4 => exact HC1.out); rintro e w5 ⟨rfl, hb⟩; refine ⟨_, rfl, ?_⟩; have n0_ := za.mk (z8 (Zq1 HB) hb); clear HB; have HB := n0_; clear n0_; (try clear hb); (try clear hb2); (try clear hk); (try clear hi)))
  go_loopg [5, 6] k (fun kq v5 v6 w' => ∃ (x5_1 : Int) (x6_1 : Int), v5 = .int .i64 x5_1 ∧ v6 = .int .i64 x6_1 ∧ za (zbl.l0 kq l0 x5_1 x6_1 = some r) ∧ za (kq ≤ k) ∧ za (Below w.heap.size w w'))
  case atStart => exact ⟨(0), (0), Zrs, Zrs, H', ⟨Nat.le_refl _⟩, ⟨Zq1 HB⟩⟩
  case round =>
   clear H'
   (try clear c1);(try clear p2);(try clear c4)
   obtain ⟨x5_1, x6_1, rfl, rfl, HA, HK1, HB⟩ := hrel
   cases gk with
   | zero => exact absurd HA.out (by simp [zbl.l0])
   | succ k1 =>
    have H := HA.out;clear HA;simp only [zbl.l0] at H;by_cases c6 : x6_1 < (l0.length : Int)
    ·rw [if_pos c6] at H
     have c6b0 : decide (x6_1 < (l0.length : Int)) = true := decide_eq_true c6;clear c6;by_cases c7 : 0 ≤ x6_1
     ·rw [if_pos c7] at H
      have c7b0 : decide (0 ≤ x6_1) = true := decide_eq_true c7;clear c7;have H' := za.mk H;clear H;have p319 : 0 ≤ (x6_1 : Int) := of_decide_eq_true Zas;have q319 : x6_1 < (l0.length : Int) := of_decide_eq_true Zas;obtain ⟨ad319, e319, hx319_0⟩ := Kd.zbq HR0.out x6_1 p319 q319
      cases e319
      replace hx319_0 := (HB.out.cell (World.block_lt_of_cell? w _ hx319_0)).trans hx319_0;replace p319 := eq_true p319;replace q319 := eq_true q319;go_wp2;go_roundg k1
      case measure => have := HK1.out; omega
      case rel => exact ⟨(wrap64 (x5_1 + (rd l0 x6_1))), (wrap64 (x6_1 + 1)), Zrs, Zrs, H', ⟨by have := HK1.out; omega⟩, ⟨Zq1 HB⟩⟩
     ·rw [if_neg c7] at H
      exact absurd H (by simp)
    ·rw [if_neg c6] at H
     have c6b0 : decide (x6_1 < (l0.length : Int)) = false := decide_eq_false c6;clear c6;obtain rfl := Option.some.inj H;go_wp2;go_ret;exact ⟨by first | rfl | (simp [zl, zm] <;> rfl) | (simp [*, zl, zm] <;> rfl), Zq1 HB⟩
 ·replace c4 := Bool.eq_false_iff.mpr c4
  subst c4;have H1 : (some (-1)) = some r := by rw [if_neg (show ¬ (false = true) by decide)] at H; exact H
  clear H;have H := H1;clear H1;obtain rfl := Option.some.inj H;go_enter Try.func48, Try.ntmps48;go_wp2_with (first | ((with_reducible refine zw (f := 13) rfl ?_); refine zbn (some 9) rfl rfl Try.func13 (by kernel_rfl) rfl #[.slice A0 l0.length c0, .slice A1 l1.length c1] rfl Zmt ?_; (with_reducible refine (ze.calls k _ _ l0 _ _ l1 false _ ?side1 ?side2 ?side3 ?side4 A3.out).mono ?_); (case side1 => exact Zq13 HR0); (case side2 => exact HC0.out); (case side3 => exact Zq13 HR1); (case side4 => exact HC1.out); rintro e w8 ⟨rfl, hb⟩; refine ⟨_, rfl, ?_⟩; have n0_ := za.mk (z8 (Zq1 HB) hb); clear HB; have HB := n0_; clear n0_; (try clear hb); (try clear hb2); (try clear hk); (try clear hi)));go_ret;exact ⟨by first | rfl | (simp [zl, zm] <;> rfl) | (simp [*, zl, zm] <;> rfl), Zq1 HB⟩
def zy.j0 : Nat → List Int → List (List Int) → Int → Bool → Option (Int)
 | 0, _, _, _, _ => none
 | k + 1, x0, x1, x2, x16 => if x16 = true then (some (-1)) else ((zbb.f k x0 x1).bind fun t322 => ((zbl.f k x0 x1).bind fun t323 => (if x2 = 0 then (none) else (some (wrap64 (t322 + (wrap64 (Int.tdiv (wrap64 (t323 - t322)) x2))))))))
def zy.f (k : Nat) (l0 : List Int) (l1 : List (List Int)) (a2 : Int) : Option (Int) := (ze.f k l0 l1).bind fun t320 => (if t320 = true then ((zby.f a2 1 5).bind fun t321 => (zy.j0 k l0 l1 a2 (!t321))) else (zy.j0 k l0 l1 a2 true))
set_option maxHeartbeats 8000000 in
theorem zy.calls (k : Nat) (A0 : Option Addr) (c0 : Nat) (l0 : List Int) (A1 : Option Addr) (c1 : Nat) (l1 : List (List Int)) (a2 : Int) (r : Int) (w : World) (hr0 : Kd.C (Kd.int .i64) w A0 l0.length l0) (hc0 : l0.length ≤ c0) (hr1 : Kd.C (Kd.slice 3 (Kd.int .i64)) w A1 l1.length l1) (hc1 : l1.length ≤ c1) (h : zy.f k l0 l1 a2 = some r) :
  Calls Try.prog 18 #[.slice A0 l0.length c0, .slice A1 l1.length c1, .int .i64 a2] w fun e w' => e = .returned (.int .i64 r) ∧ Below w.heap.size w w' := by
 have HR0 := za.mk hr0
 have HC0 := za.mk hc0
 clear hr0 hc0
 have HR1 := za.mk hr1
 have HC1 := za.mk hc1
 clear hr1 hc1
 have HB := za.mk (Below.refl w.heap.size w)
 have H : ((ze.f k l0 l1).bind fun t320 => (if t320 = true then ((zby.f a2 1 5).bind fun t321 => (zy.j0 k l0 l1 a2 (!t321))) else (zy.j0 k l0 l1 a2 true))) = some r := h
 clear h
 have HC4 := za.mk H
 clear H
 go_enter Try.func18, Try.ntmps18
 go_upto_region 1 with (fail)
 go_cut [16] (fun v16 wc => ∃ (kq : Nat) (x16_3 : Bool), v16 = .bool x16_3 ∧ za (zy.j0 kq l0 l1 a2 x16_3 = some r) ∧ za (kq ≤ k) ∧ za (Below w.heap.size w wc))
 case first =>
  have H := HC4.out;clear HC4;replace H := Option.bind_eq_some_iff.mp H;obtain ⟨t320, A50, H⟩ := H;replace H : (if t320 = true then ((zby.f a2 1 5).bind fun t321 => (zy.j0 k l0 l1 a2 (!t321))) else (zy.j0 k l0 l1 a2 true)) = some r := H;have A5 := za.mk A50;clear A50;by_cases c6 : t320 = true
  ·subst c6
   have H1 : ((zby.f a2 1 5).bind fun t321 => (zy.j0 k l0 l1 a2 (!t321))) = some r := by rw [if_pos rfl] at H; exact H
   clear H;have H := H1;clear H1;replace H := Option.bind_eq_some_iff.mp H;obtain ⟨t321, A70, H⟩ := H;replace H : (zy.j0 k l0 l1 a2 (!t321)) = some r := H;have A7 := za.mk A70;clear A70;have H' := za.mk H;clear H;go_wp2_with (first | ((with_reducible refine zw (f := 13) rfl ?_); refine zbn (some 10) rfl rfl Try.func13 (by kernel_rfl) rfl #[.slice A0 l0.length c0, .slice A1 l1.length c1] rfl Zmt ?_; (with_reducible refine (ze.calls k _ _ l0 _ _ l1 true _ ?side1 ?side2 ?side3 ?side4 A5.out).mono ?_); (case side1 => exact Zq11 (Kd.zbv HR0.out HB.out)); (case side2 => exact HC0.out); (case side3 => exact Zq11 (Kd.zbv HR1.out HB.out)); (case side4 => exact HC1.out); rintro e w8 ⟨rfl, hb⟩; refine ⟨_, rfl, ?_⟩; have n0_ := za.mk (z8 (Zq1 HB) hb); clear HB; have HB := n0_; clear n0_; (try clear hb); (try clear hb2); (try clear hk); (try clear hi)) | (go_at_call 39; (with_reducible refine (zby.calls a2 1 5 t321 _ A7.out).mono ?_); rintro e w' ⟨rfl, ⟨nd, rfl⟩⟩));go_meet
   case rel => exact ⟨_, (!t321), Zrs, H', ⟨by first | omega | exact Nat.le_refl _⟩, ⟨Zq1 HB⟩⟩
  ·replace c6 := Bool.eq_false_iff.mpr c6
   subst c6;have H1 : (zy.j0 k l0 l1 a2 true) = some r := by rw [if_neg (show ¬ (false = true) by decide)] at H; exact H
   clear H;have H := H1;clear H1;have H' := za.mk H;clear H;go_wp2_with (first | ((with_reducible refine zw (f := 13) rfl ?_); refine zbn (some 10) rfl rfl Try.func13 (by kernel_rfl) rfl #[.slice A0 l0.length c0, .slice A1 l1.length c1] rfl Zmt ?_; (with_reducible refine (ze.calls k _ _ l0 _ _ l1 false _ ?side1 ?side2 ?side3 ?side4 A5.out).mono ?_); (case side1 => exact Zq11 (Kd.zbv HR0.out HB.out)); (case side2 => exact HC0.out); (case side3 => exact Zq11 (Kd.zbv HR1.out HB.out)); (case side4 => exact HC1.out); rintro e w9 ⟨rfl, hb⟩; refine ⟨_, rfl, ?_⟩; have n0_ := za.mk (z8 (Zq1 HB) hb); clear HB; have HB := n0_; clear n0_; (try clear hb); (try clear hb2); (try clear hk); (try clear hi)));go_meet
   case rel => exact ⟨_, (true), Zrs, H', ⟨by first | omega | exact Nat.le_refl _⟩, ⟨Zq1 HB⟩⟩
 case rest =>
  clear HC4
  (try clear c1);(try clear p2);(try clear c6)
  obtain ⟨kq, x16_3, rfl, HA, HJ3, HB⟩ := hcut
  cases kq with
  | zero => exact absurd HA.out (by simp [zy.j0])
  | succ kj3 =>
   have H := HA.out;clear HA;simp only [zy.j0] at H;by_cases c10 : x16_3 = true
   ·subst c10
    have H1 : (some (-1)) = some r := by rw [if_pos rfl] at H; exact H
    clear H;have H := H1;clear H1;obtain rfl := Option.some.inj H;go_wp2;go_ret;exact ⟨by first | rfl | (simp [zl, zm] <;> rfl) | (simp [*, zl, zm] <;> rfl), Zq1 HB⟩
   ·replace c10 := Bool.eq_false_iff.mpr c10
    subst c10;have H1 : ((zbb.f kj3 l0 l1).bind fun t322 => ((zbl.f kj3 l0 l1).bind fun t323 => (if a2 = 0 then (none) else (some (wrap64 (t322 + (wrap64 (Int.tdiv (wrap64 (t323 - t322)) a2)))))))) = some r := by rw [if_neg (show ¬ (false = true) by decide)] at H; exact H
    clear H;have H := H1;clear H1;replace H := Option.bind_eq_some_iff.mp H;obtain ⟨t322, A110, H⟩ := H;replace H : ((zbl.f kj3 l0 l1).bind fun t323 => (if a2 = 0 then (none) else (some (wrap64 (t322 + (wrap64 (Int.tdiv (wrap64 (t323 - t322)) a2))))))) = some r := H;have A11 := za.mk A110;clear A110;replace H := Option.bind_eq_some_iff.mp H;obtain ⟨t323, A120, H⟩ := H;replace H : (if a2 = 0 then (none) else (some (wrap64 (t322 + (wrap64 (Int.tdiv (wrap64 (t323 - t322)) a2)))))) = some r := H;have A12 := za.mk A120;clear A120;by_cases c13 : a2 = 0
    ·rw [if_pos c13] at H
     exact absurd H (by simp)
    ·rw [if_neg c13] at H
     have c13b0 : (a2 == 0) = false := beq_eq_false_iff_ne.mpr c13;have c13b1 : (a2 != 0) = true := bne_iff_ne.mpr c13;obtain rfl := Option.some.inj H;go_wp2_with (first | ((with_reducible refine zw (f := 47) rfl ?_); refine zbn (some 19) rfl rfl Try.func47 (by kernel_rfl) rfl #[.slice A0 l0.length c0, .slice A1 l1.length c1] rfl Zmt ?_; (with_reducible refine (zbb.calls kj3 _ _ l0 _ _ l1 t322 _ ?side1 ?side2 ?side3 ?side4 A11.out).mono ?_); (case side1 => exact Zq11 (Kd.zbv HR0.out HB.out)); (case side2 => exact HC0.out); (case side3 => exact Zq11 (Kd.zbv HR1.out HB.out)); (case side4 => exact HC1.out); rintro e w14 ⟨rfl, hb⟩; refine ⟨_, rfl, ?_⟩; have n0_ := za.mk (z8 (Zq1 HB) hb); clear HB; have HB := n0_; clear n0_; (try clear hb); (try clear hb2); (try clear hk); (try clear hi)) | ((with_reducible refine zw (f := 48) rfl ?_); refine zbn (some 23) rfl rfl Try.func48 (by kernel_rfl) rfl #[.slice A0 l0.length c0, .slice A1 l1.length c1] rfl Zmt ?_; (with_reducible refine (zbl.calls kj3 _ _ l0 _ _ l1 t323 _ ?side1 ?side2 ?side3 ?side4 A12.out).mono ?_); (case side1 => exact Zq11 (Kd.zbv HR0.out HB.out)); (case side2 => exact HC0.out); (case side3 => exact Zq11 (Kd.zbv HR1.out HB.out)); (case side4 => exact HC1.out); rintro e w15 ⟨rfl, hb⟩; refine ⟨_, rfl, ?_⟩; have n0_ := za.mk (z8 (Zq1 HB) hb); clear HB; have HB := n0_; clear n0_; (try clear hb); (try clear hb2); (try clear hk); (try clear hi)));go_ret;exact ⟨by first | rfl | (simp [zl, zm] <;> rfl) | (simp [*, zl, zm] <;> rfl), Zq1 HB⟩
def zb0.f (k : Nat) (l0 : List Int) (l1 : List (List Int)) : Option (Int) := (zi.f k l0 l1).bind fun t324 => (if t324 = true then ((zq.f k l0 l1).bind fun t325 => (some t325)) else (some (-1)))
set_option maxHeartbeats 8000000 in
theorem zb0.calls (k : Nat) (A0 : Option Addr) (c0 : Nat) (l0 : List Int) (A1 : Option Addr) (c1 : Nat) (l1 : List (List Int)) (r : Int) (w : World) (hr0 : Kd.C (Kd.int .i64) w A0 l0.length l0) (hc0 : l0.length ≤ c0) (hr1 : Kd.C (Kd.slice 3 (Kd.int .i64)) w A1 l1.length l1) (hc1 : l1.length ≤ c1) (h : zb0.f k l0 l1 = some r) :
  Calls Try.prog 19 #[.slice A0 l0.length c0, .slice A1 l1.length c1] w fun e w' => e = .returned (.int .i64 r) ∧ Below w.heap.size w w' := by
 have HR0 := za.mk hr0
 have HC0 := za.mk hc0
 clear hr0 hc0
 have HR1 := za.mk hr1
 have HC1 := za.mk hc1
 clear hr1 hc1
 have HB := za.mk (Below.refl w.heap.size w)
 have H : ((zi.f k l0 l1).bind fun t324 => (if t324 = true then ((zq.f k l0 l1).bind fun t325 => (some t325)) else (some (-1)))) = some r := h
 clear h
 replace H := Option.bind_eq_some_iff.mp H
 obtain ⟨t324, A30, H⟩ := H
 replace H : (if t324 = true then ((zq.f k l0 l1).bind fun t325 => (some t325)) else (some (-1))) = some r := H
 have A3 := za.mk A30
 clear A30
 by_cases c4 : t324 = true
 ·subst c4
  have H1 : ((zq.f k l0 l1).bind fun t325 => (some t325)) = some r := by rw [if_pos rfl] at H; exact H
  clear H;have H := H1;clear H1;replace H := Option.bind_eq_some_iff.mp H;obtain ⟨t325, A50, H⟩ := H;replace H : (some t325) = some r := H;have A5 := za.mk A50;clear A50;obtain rfl := Option.some.inj H;go_enter Try.func19, Try.ntmps19;go_wp2_with (first | ((with_reducible refine zw (f := 30) rfl ?_); refine zbn (some 7) rfl rfl Try.func30 (by kernel_rfl) rfl #[.slice A0 l0.length c0, .slice A1 l1.length c1] rfl Zmt ?_; (with_reducible refine (zi.calls k _ _ l0 _ _ l1 true _ ?side1 ?side2 ?side3 ?side4 A3.out).mono ?_); (case side1 => exact Zq13 HR0); (case side2 => exact HC0.out); (case side3 => exact Zq13 HR1); (case side4 => exact HC1.out); rintro e w6 ⟨rfl, hb⟩; refine ⟨_, rfl, ?_⟩; have n0_ := za.mk (z8 (Zq1 HB) hb); clear HB; have HB := n0_; clear n0_; (try clear hb); (try clear hb2); (try clear hk); (try clear hi)) | ((with_reducible refine zw (f := 46) rfl ?_); refine zbn (some 11) rfl rfl Try.func46 (by kernel_rfl) rfl #[.slice A0 l0.length c0, .slice A1 l1.length c1] rfl Zmt ?_; (with_reducible refine (zq.calls k _ _ l0 _ _ l1 t325 _ ?side1 ?side2 ?side3 ?side4 A5.out).mono ?_); (case side1 => exact Zq11 (Kd.zbv HR0.out HB.out)); (case side2 => exact HC0.out); (case side3 => exact Zq11 (Kd.zbv HR1.out HB.out)); (case side4 => exact HC1.out); rintro e w7 ⟨rfl, hb⟩; refine ⟨_, rfl, ?_⟩; have n0_ := za.mk (z8 (Zq1 HB) hb); clear HB; have HB := n0_; clear n0_; (try clear hb); (try clear hb2); (try clear hk); (try clear hi)));go_ret;exact ⟨by first | rfl | (simp [zl, zm] <;> rfl) | (simp [*, zl, zm] <;> rfl), Zq1 HB⟩
 ·replace c4 := Bool.eq_false_iff.mpr c4
  subst c4;have H1 : (some (-1)) = some r := by rw [if_neg (show ¬ (false = true) by decide)] at H; exact H
  clear H;have H := H1;clear H1;obtain rfl := Option.some.inj H;go_enter Try.func19, Try.ntmps19;go_wp2_with (first | ((with_reducible refine zw (f := 30) rfl ?_); refine zbn (some 7) rfl rfl Try.func30 (by kernel_rfl) rfl #[.slice A0 l0.length c0, .slice A1 l1.length c1] rfl Zmt ?_; (with_reducible refine (zi.calls k _ _ l0 _ _ l1 false _ ?side1 ?side2 ?side3 ?side4 A3.out).mono ?_); (case side1 => exact Zq13 HR0); (case side2 => exact HC0.out); (case side3 => exact Zq13 HR1); (case side4 => exact HC1.out); rintro e w8 ⟨rfl, hb⟩; refine ⟨_, rfl, ?_⟩; have n0_ := za.mk (z8 (Zq1 HB) hb); clear HB; have HB := n0_; clear n0_; (try clear hb); (try clear hb2); (try clear hk); (try clear hi)));go_ret;exact ⟨by first | rfl | (simp [zl, zm] <;> rfl) | (simp [*, zl, zm] <;> rfl), Zq1 HB⟩
theorem Zq14 {X0 P : Prop} (x0 : za X0) (h : X0 → P := by intro x0; (with_reducible repeat (first | apply Kd.zht | apply Kd.zf7 | apply Kd.Q_drew)); exact x0) : P := h x0.out
def laws_FnGraphWide.j0 : Nat → List Int → List (List Int) → Int → Bool → Option (Bool)
 | 0, _, _, _, _ => none
 | k + 1, x3, x4, x5, x39 => if x39 = true then (some false) else (if (x3.length : Int) > x5 then (some true) else ((zbd.f k x3 x4 x5).bind fun bt337 => ((zb0.f k x3 x4).bind fun t343 => (some ((bt337.1.length : Int) == t343)))))
def laws_FnGraphWide.f (k : Nat) (l0 : List Int) : Option (Bool) := if (l0.length : Int) > 1048576 then (some true) else ((zbs.f k l0).bind fun bt326 => ((zu.f k bt326.1 bt326.2.1 bt326.2.2).bind fun t333 => ((zy.f k bt326.1 bt326.2.1 bt326.2.2).bind fun t334 => (if t333 = t334 then (if t333 < 0 then ((zcj.f).bind fun t335 => (some t335)) else (if bt326.2.2 < 5 then ((zu.f k bt326.1 bt326.2.1 (wrap64 (bt326.2.2 + 1))).bind fun t336 => (laws_FnGraphWide.j0 k bt326.1 bt326.2.1 bt326.2.2 (decide (t336 > t333)))) else (laws_FnGraphWide.j0 k bt326.1 bt326.2.1 bt326.2.2 false))) else (some false)))))
set_option maxHeartbeats 8000000 in
theorem laws_FnGraphWide.calls (k : Nat) (A0 : Option Addr) (c0 : Nat) (l0 : List Int) (r : Bool) (w : World) (hr0 : Kd.C (Kd.int .u8) w A0 l0.length l0) (hc0 : l0.length ≤ c0) (h : laws_FnGraphWide.f k l0 = some r) (hrt : r = true) :
  Calls Try.prog 4 #[.slice A0 l0.length c0] w fun e w' => e = .returned (.bool r) ∧ Below w.heap.size w w' := by
 have hfld : ∀ (A B : Option Addr) (n c m d : Nat) (W : World), (Instr.field 28 (.agg #[.slice A n c, .slice B m d]) 0).run Try.prog W = .ok (.slice A n c) W := fun _ _ _ _ _ _ _ => rfl
 have HRT := za.mk hrt
 clear hrt
 have HR0 := za.mk hr0
 have HC0 := za.mk hc0
 clear hr0 hc0
 have HB := za.mk (Below.refl w.heap.size w)
 have H : (if (l0.length : Int) > 1048576 then (some true) else ((zbs.f k l0).bind fun bt326 => ((zu.f k bt326.1 bt326.2.1 bt326.2.2).bind fun t333 => ((zy.f k bt326.1 bt326.2.1 bt326.2.2).bind fun t334 => (if t333 = t334 then (if t333 < 0 then ((zcj.f).bind fun t335 => (some t335)) else (if bt326.2.2 < 5 then ((zu.f k bt326.1 bt326.2.1 (wrap64 (bt326.2.2 + 1))).bind fun t336 => (laws_FnGraphWide.j0 k bt326.1 bt326.2.1 bt326.2.2 (decide (t336 > t333)))) else (laws_FnGraphWide.j0 k bt326.1 bt326.2.1 bt326.2.2 false))) else (some false)))))) = some r := h
 clear h
 by_cases c2 : (l0.length : Int) > 1048576
 ·rw [if_pos c2] at H
  have c2b0 : decide (1048576 < (l0.length : Int)) = true := decide_eq_true c2;have c2b1 : decide (1048576 < l0.length) = true := decide_eq_true (by omega);clear c2;obtain rfl := Option.some.inj H;go_enter Try.func4, Try.ntmps4;go_wp2;go_ret;exact ⟨by first | rfl | (simp [zl, zm] <;> rfl) | (simp [*, zl, zm] <;> rfl), Zq1 HB⟩
 ·rw [if_neg c2] at H
  have c2b0 : decide (1048576 < (l0.length : Int)) = false := decide_eq_false c2;have c2b1 : decide (1048576 < l0.length) = false := decide_eq_false (by omega);clear c2;replace H := Option.bind_eq_some_iff.mp H;obtain ⟨⟨t326, t327, t328⟩, A30, H⟩ := H;replace H : ((zu.f k t326 t327 t328).bind fun t333 => ((zy.f k t326 t327 t328).bind fun t334 => (if t333 = t334 then (if t333 < 0 then ((zcj.f).bind fun t335 => (some t335)) else (if t328 < 5 then ((zu.f k t326 t327 (wrap64 (t328 + 1))).bind fun t336 => (laws_FnGraphWide.j0 k t326 t327 t328 (decide (t336 > t333)))) else (laws_FnGraphWide.j0 k t326 t327 t328 false))) else (some false)))) = some r := H;have A3 := za.mk A30;clear A30;replace H := Option.bind_eq_some_iff.mp H;obtain ⟨t333, A40, H⟩ := H;replace H : ((zy.f k t326 t327 t328).bind fun t334 => (if t333 = t334 then (if t333 < 0 then ((zcj.f).bind fun t335 => (some t335)) else (if t328 < 5 then ((zu.f k t326 t327 (wrap64 (t328 + 1))).bind fun t336 => (laws_FnGraphWide.j0 k t326 t327 t328 (decide (t336 > t333)))) else (laws_FnGraphWide.j0 k t326 t327 t328 false))) else (some false))) = some r := H;have A4 := za.mk A40;clear A40;replace H := Option.bind_eq_some_iff.mp H;obtain ⟨t334, A50, H⟩ := H;replace H : (if t333 = t334 then (if t333 < 0 then ((zcj.f).bind fun t335 => (some t335)) else (if t328 < 5 then ((zu.f k t326 t327 (wrap64 (t328 + 1))).bind fun t336 => (laws_FnGraphWide.j0 k t326 t327 t328 (decide (t336 > t333)))) else (laws_FnGraphWide.j0 k t326 t327 t328 false))) else (some false)) = some r := H;have A5 := za.mk A50;clear A50;by_cases c6 : t333 = t334
  ·rw [if_pos c6] at H
   have c6b0 : (t333 == t334) = true := beq_iff_eq.mpr c6;have c6b1 : (t333 != t334) = false := bne_eq_false_iff_eq.mpr c6;clear c6;by_cases c7 : t333 < 0
   ·rw [if_pos c7] at H
    have c7b0 : decide (t333 < 0) = true := decide_eq_true c7;clear c7;replace H := Option.bind_eq_some_iff.mp H;obtain ⟨t335, A80, H⟩ := H;replace H : (some t335) = some r := H;have A8 := za.mk A80;clear A80;obtain rfl := Option.some.inj H;go_enter Try.func4, Try.ntmps4;go_wp2_with (first | ((with_reducible refine zw (f := 16) rfl ?_); refine zbn (some 12) rfl rfl Try.func16 (by kernel_rfl) rfl #[.slice A0 l0.length c0] rfl Zmt ?_; (with_reducible refine (zbs.calls k _ _ l0 t326 t327 t328 _ ?side1 ?side2 A3.out).mono ?_); (case side1 => exact Zq13 HR0); (case side2 => exact HC0.out); rintro e w9 ⟨v329, v331, rfl, ho0, ho1, hb⟩; refine ⟨_, rfl, ?_⟩; have n0_ := za.mk (Kd.zca ho0 (zbp (Zq1 HB))); have n1_ := za.mk (Kd.zge ho1 (zbp (Zq1 HB))); have n2_ := za.mk (z8 (Zq1 HB) hb); clear HB; have HO330 := n0_; have HO332 := n1_; have HB := n2_; clear n0_ n1_ n2_; (try clear hb); (try clear hb2); (try clear hk); (try clear hi); (try clear ho0); (try clear ho1); obtain ⟨Ao10, co10, eo10⟩ := Kd.zb3 HO330.out; subst eo10; obtain ⟨Ao11, co11, eo11⟩ := Kd.S_slice HO332.out; subst eo11) | ((with_reducible refine zw (f := 17) rfl ?_); refine zbn (some 19) rfl rfl Try.func17 (by kernel_rfl) rfl #[.slice Ao10 t326.length co10, .slice Ao11 t327.length co11, .int .i64 t328] rfl Zmt ?_; (with_reducible refine (zu.calls k _ _ t326 _ _ t327 t328 t333 _ ?side1 ?side2 ?side3 ?side4 A4.out).mono ?_); (case side1 => exact Zq11 ((Kd.zbm HO330.out).2.2)); (case side2 => exact (Kd.zbm HO330.out).2.1); (case side3 => exact Zq11 ((Kd.zcm HO332.out).2.2)); (case side4 => exact (Kd.zcm HO332.out).2.1); rintro e w12 ⟨rfl, hb⟩; refine ⟨_, rfl, ?_⟩; have n0_ := za.mk (Kd.zci (Zq9 HO330) hb); have n1_ := za.mk (Kd.zc9 (Zq10 HO332) hb); have n2_ := za.mk (z8 (Zq1 HB) hb); clear HO330; clear HO332; clear HB; have HO330 := n0_; have HO332 := n1_; have HB := n2_; clear n0_ n1_ n2_; (try clear hb); (try clear hb2); (try clear hk); (try clear hi)) | ((with_reducible refine zw (f := 18) rfl ?_); refine zbn (some 24) rfl rfl Try.func18 (by kernel_rfl) rfl #[.slice Ao10 t326.length co10, .slice Ao11 t327.length co11, .int .i64 t328] rfl Zmt ?_; (with_reducible refine (zy.calls k _ _ t326 _ _ t327 t328 t334 _ ?side1 ?side2 ?side3 ?side4 A5.out).mono ?_); (case side1 => exact Zq11 ((Kd.zbm HO330.out).2.2)); (case side2 => exact (Kd.zbm HO330.out).2.1); (case side3 => exact Zq11 ((Kd.zcm HO332.out).2.2)); (case side4 => exact (Kd.zcm HO332.out).2.1); rintro e w13 ⟨rfl, hb⟩; refine ⟨_, rfl, ?_⟩; have n0_ := za.mk (Kd.zci (Zq9 HO330) hb); have n1_ := za.mk (Kd.zc9 (Zq10 HO332) hb); have n2_ := za.mk (z8 (Zq1 HB) hb); clear HO330; clear HO332; clear HB; have HO330 := n0_; have HO332 := n1_; have HB := n2_; clear n0_ n1_ n2_; (try clear hb); (try clear hb2); (try clear hk); (try clear hi)) | ((with_reducible refine zw (f := 14) rfl ?_); refine zbn (some 28) rfl rfl Try.func14 (by kernel_rfl) rfl #[] rfl Zmt ?_; (with_reducible refine (zcj.calls  t335 _ A8.out).mono ?_); rintro e w14 ⟨rfl, hb⟩; refine ⟨_, rfl, ?_⟩; have n0_ := za.mk (Kd.zci (Zq9 HO330) hb); have n1_ := za.mk (Kd.zc9 (Zq10 HO332) hb); have n2_ := za.mk (z8 (Zq1 HB) hb); clear HO330; clear HO332; clear HB; have HO330 := n0_; have HO332 := n1_; have HB := n2_; clear n0_ n1_ n2_; (try clear hb); (try clear hb2); (try clear hk); (try clear hi)));go_ret;exact ⟨by first | rfl | (simp [zl, zm] <;> rfl) | (simp [*, zl, zm] <;> rfl), Zq1 HB⟩
   ·rw [if_neg c7] at H
    have c7b0 : decide (t333 < 0) = false := decide_eq_false c7;clear c7;have HC15 := za.mk H;clear H;go_enter Try.func4, Try.ntmps4
    go_upto_region 9 with (first | ((with_reducible refine zw (f := 16) rfl ?_); refine zbn (some 12) rfl rfl Try.func16 (by kernel_rfl) rfl #[.slice A0 l0.length c0] rfl Zmt ?_; (with_reducible refine (zbs.calls k _ _ l0 t326 t327 t328 _ ?side1 ?side2 A3.out).mono ?_); (case side1 => exact Zq13 HR0); (case side2 => exact HC0.out); rintro e w16 ⟨v329, v331, rfl, ho0, ho1, hb⟩; refine ⟨_, rfl, ?_⟩; have n0_ := za.mk (Kd.zca ho0 (zbp (Zq1 HB))); have n1_ := za.mk (Kd.zge ho1 (zbp (Zq1 HB))); have n2_ := za.mk (z8 (Zq1 HB) hb); clear HB; have HO330 := n0_; have HO332 := n1_; have HB := n2_; clear n0_ n1_ n2_; (try clear hb); (try clear hb2); (try clear hk); (try clear hi); (try clear ho0); (try clear ho1); obtain ⟨Ao17, co17, eo17⟩ := Kd.zb3 HO330.out; subst eo17; obtain ⟨Ao18, co18, eo18⟩ := Kd.S_slice HO332.out; subst eo18) | ((with_reducible refine zw (f := 17) rfl ?_); refine zbn (some 19) rfl rfl Try.func17 (by kernel_rfl) rfl #[.slice Ao17 t326.length co17, .slice Ao18 t327.length co18, .int .i64 t328] rfl Zmt ?_; (with_reducible refine (zu.calls k _ _ t326 _ _ t327 t328 t333 _ ?side1 ?side2 ?side3 ?side4 A4.out).mono ?_); (case side1 => exact Zq11 ((Kd.zbm HO330.out).2.2)); (case side2 => exact (Kd.zbm HO330.out).2.1); (case side3 => exact Zq11 ((Kd.zcm HO332.out).2.2)); (case side4 => exact (Kd.zcm HO332.out).2.1); rintro e w19 ⟨rfl, hb⟩; refine ⟨_, rfl, ?_⟩; have n0_ := za.mk (Kd.zci (Zq9 HO330) hb); have n1_ := za.mk (Kd.zc9 (Zq10 HO332) hb); have n2_ := za.mk (z8 (Zq1 HB) hb); clear HO330; clear HO332; clear HB; have HO330 := n0_; have HO332 := n1_; have HB := n2_; clear n0_ n1_ n2_; (try clear hb); (try clear hb2); (try clear hk); (try clear hi)) | ((with_reducible refine zw (f := 18) rfl ?_); refine zbn (some 24) rfl rfl Try.func18 (by kernel_rfl) rfl #[.slice Ao17 t326.length co17, .slice Ao18 t327.length co18, .int .i64 t328] rfl Zmt ?_; (with_reducible refine (zy.calls k _ _ t326 _ _ t327 t328 t334 _ ?side1 ?side2 ?side3 ?side4 A5.out).mono ?_); (case side1 => exact Zq11 ((Kd.zbm HO330.out).2.2)); (case side2 => exact (Kd.zbm HO330.out).2.1); (case side3 => exact Zq11 ((Kd.zcm HO332.out).2.2)); (case side4 => exact (Kd.zcm HO332.out).2.1); rintro e w20 ⟨rfl, hb⟩; refine ⟨_, rfl, ?_⟩; have n0_ := za.mk (Kd.zci (Zq9 HO330) hb); have n1_ := za.mk (Kd.zc9 (Zq10 HO332) hb); have n2_ := za.mk (z8 (Zq1 HB) hb); clear HO330; clear HO332; clear HB; have HO330 := n0_; have HO332 := n1_; have HB := n2_; clear n0_ n1_ n2_; (try clear hb); (try clear hb2); (try clear hk); (try clear hi)))
    (try simp only [Act.put, Zs1, Zs2, Zs3])
    go_cut [39] (fun v39 wc => ∃ (kq : Nat) (x39_14 : Bool), v39 = .bool x39_14 ∧ za (laws_FnGraphWide.j0 kq t326 t327 t328 x39_14 = some r) ∧ za (kq ≤ k) ∧ za (Kd.R (Kd.int .i64) 3 wc w.heap.size (fun _ => True) (.slice Ao17 t326.length co17) t326) ∧ za (Kd.S (Kd.slice 3 (Kd.int .i64)) 23 wc w.heap.size (fun k_ => some k_ ≠ ((.slice Ao17 t326.length co17) : Value).ownBlock) (.slice Ao18 t327.length co18) t327) ∧ za (Below w.heap.size w wc))
    case first =>
     have H := HC15.out;clear HC15;by_cases c21 : t328 < 5
     ·rw [if_pos c21] at H
      have c21b0 : decide (t328 < 5) = true := decide_eq_true c21;clear c21;(first | rw [c21b0] | (simp only [zg, zh]; rw [c21b0]) | skip);replace H := Option.bind_eq_some_iff.mp H;obtain ⟨t336, A220, H⟩ := H;replace H : (laws_FnGraphWide.j0 k t326 t327 t328 (decide (t336 > t333))) = some r := H;have A22 := za.mk A220;clear A220;have H' := za.mk H;clear H;go_wp2_with (first | (go_at_call 17; (with_reducible refine (zu.calls k _ _ t326 _ _ t327 (wrap64 (t328 + 1)) t336 _ ?side1 ?side2 ?side3 ?side4 A22.out).mono ?_); (case side1 => exact Zq11 ((Kd.zbm HO330.out).2.2)); (case side2 => exact (Kd.zbm HO330.out).2.1); (case side3 => exact Zq11 ((Kd.zcm HO332.out).2.2)); (case side4 => exact (Kd.zcm HO332.out).2.1); rintro e w23 ⟨rfl, hb⟩; have n0_ := za.mk (Kd.zci (Zq9 HO330) hb); have n1_ := za.mk (Kd.zc9 (Zq10 HO332) hb); have n2_ := za.mk (z8 (Zq1 HB) hb); clear HO330; clear HO332; clear HB; have HO330 := n0_; have HO332 := n1_; have HB := n2_; clear n0_ n1_ n2_; (try clear hb); (try clear hb2); (try clear hk); (try clear hi)));go_meet
      case rel => exact ⟨_, (decide (t336 > t333)), Zrs, H', ⟨by first | omega | exact Nat.le_refl _⟩, ⟨Zq9 HO330⟩, ⟨Zq10 HO332⟩, ⟨Zq1 HB⟩⟩
     ·rw [if_neg c21] at H
      have c21b0 : decide (t328 < 5) = false := decide_eq_false c21;clear c21;(first | rw [c21b0] | (simp only [zg, zh]; rw [c21b0]) | skip);have H' := za.mk H;clear H;go_wp2;go_meet
      case rel => exact ⟨_, (false), Zrs, H', ⟨by first | omega | exact Nat.le_refl _⟩, ⟨Zq9 HO330⟩, ⟨Zq10 HO332⟩, ⟨Zq1 HB⟩⟩
    case rest =>
     clear HC15
     (try clear c1);(try clear c2);(try clear c2b0);(try clear c2b1);(try clear p2);(try clear c4);(try clear c6);(try clear c6b0);(try clear c6b1);(try clear p6);(try clear c7);(try clear c7b0);(try clear c14);(try clear c16);(try clear c17);(try clear c18);(try clear c21);(try clear c21b0)
     obtain ⟨kq, x39_14, rfl, HA, HJ14, HO_3, HO_4, HB⟩ := hcut
     cases kq with
     | zero => exact absurd HA.out (by simp [laws_FnGraphWide.j0])
     | succ kj14 =>
      have H := HA.out;clear HA;simp only [laws_FnGraphWide.j0] at H;by_cases c24 : x39_14 = true
      ·subst c24
       have H1 : (some false) = some r := by rw [if_pos rfl] at H; exact H
       exact Bool.noConfusion ((Option.some.inj H1).trans HRT.out)
      ·replace c24 := Bool.eq_false_iff.mpr c24
       subst c24;have H1 : (if (t326.length : Int) > t328 then (some true) else ((zbd.f kj14 t326 t327 t328).bind fun bt337 => ((zb0.f kj14 t326 t327).bind fun t343 => (some ((bt337.1.length : Int) == t343))))) = some r := by rw [if_neg (show ¬ (false = true) by decide)] at H; exact H
       clear H;have H := H1;clear H1;by_cases c25 : (t326.length : Int) > t328
       ·rw [if_pos c25] at H
        have c25b0 : decide (t328 < (t326.length : Int)) = true := decide_eq_true c25;clear c25;obtain rfl := Option.some.inj H;go_wp2;go_ret;exact ⟨by first | rfl | (simp [zl, zm] <;> rfl) | (simp [*, zl, zm] <;> rfl), Zq1 HB⟩
       ·rw [if_neg c25] at H
        have c25b0 : decide (t328 < (t326.length : Int)) = false := decide_eq_false c25;clear c25;replace H := Option.bind_eq_some_iff.mp H;obtain ⟨⟨t337, t340⟩, A260, H⟩ := H;replace H : ((zb0.f kj14 t326 t327).bind fun t343 => (some ((t337.length : Int) == t343))) = some r := H;have A26 := za.mk A260;clear A260;replace H := Option.bind_eq_some_iff.mp H;obtain ⟨t343, A270, H⟩ := H;replace H : (some ((t337.length : Int) == t343)) = some r := H;have A27 := za.mk A270;clear A270;obtain rfl := Option.some.inj H;go_wp2_with (first | (go_at_call 9; (with_reducible refine (zbd.calls kj14 _ _ t326 _ _ t327 t328 t337 t340 _ ?side1 ?side2 ?side3 ?side4 A26.out).mono ?_); (case side1 => exact Zq11 ((Kd.zbm HO_3.out).2.2)); (case side2 => exact (Kd.zbm HO_3.out).2.1); (case side3 => exact Zq11 ((Kd.zcm HO_4.out).2.2)); (case side4 => exact (Kd.zcm HO_4.out).2.1); rintro e w28 ⟨v338, v341, rfl, ho0, ho1, hb⟩; have n0_ := za.mk (Kd.zdp (Zq9 HO_3) (Kd.zfw ho1) hb); have n1_ := za.mk (Kd.zb7 (Kd.S_told (Kd.S_told (Kd.S_old (Zq10 HO_4) hb) (Kd.zfw ho0)) (Kd.zfw ho1)) (fun _ h_ => h_.1)); have n2_ := za.mk (Kd.zea (Kd.Q_new' (Kd.Q_new' ho0 (Kd.R_lt (Zq9 HO_3))) (Kd.S_lt (Zq10 HO_4))) (zbp (Zq1 HB))); have n3_ := za.mk (Kd.zea (Kd.Q_new' ho1 (Kd.R_lt (Zq9 HO_3))) (zbp (Zq1 HB))); have n4_ := za.mk (z8 (Zq1 HB) hb); clear HO_3; clear HO_4; clear HB; have HO_3 := n0_; have HO_4 := n1_; have HO339 := n2_; have HO342 := n3_; have HB := n4_; clear n0_ n1_ n2_ n3_ n4_; (try clear hb); (try clear hb2); (try clear hk); (try clear hi); (try clear ho0); (try clear ho1); obtain ⟨Ao29, co29, eo29⟩ := Kd.ze4 HO339.out; subst eo29; obtain ⟨Ao2x, co2x, eo2x⟩ := Kd.ze4 HO342.out; subst eo2x) | (go_at_call 19; (with_reducible refine (zb0.calls kj14 _ _ t326 _ _ t327 t343 _ ?side1 ?side2 ?side3 ?side4 A27.out).mono ?_); (case side1 => exact Zq11 ((Kd.zbm HO_3.out).2.2)); (case side2 => exact (Kd.zbm HO_3.out).2.1); (case side3 => exact Zq11 ((Kd.zcm HO_4.out).2.2)); (case side4 => exact (Kd.zcm HO_4.out).2.1); rintro e w30 ⟨rfl, hb⟩; have n0_ := za.mk (Kd.zci (Zq9 HO_3) hb); have n1_ := za.mk (Kd.zc9 (Zq10 HO_4) hb); have n2_ := za.mk (Kd.zeb (Zq14 HO339) hb); have n3_ := za.mk (Kd.zeb (Zq14 HO342) hb); have n4_ := za.mk (z8 (Zq1 HB) hb); clear HO_3; clear HO_4; clear HO339; clear HO342; clear HB; have HO_3 := n0_; have HO_4 := n1_; have HO339 := n2_; have HO342 := n3_; have HB := n4_; clear n0_ n1_ n2_ n3_ n4_; (try clear hb); (try clear hb2); (try clear hk); (try clear hi)));go_ret;exact ⟨by first | rfl | (simp [zl, zm] <;> rfl) | (simp [*, zl, zm] <;> rfl), Zq1 HB⟩
  ·rw [if_neg c6] at H
   exact Bool.noConfusion ((Option.some.inj H).trans HRT.out)
def laws_FnGraphWide.Pure : Prop := ∀ (l0 : List Int), l0.length * 1 ≤ 140737488351232 → (l0.length ≤ maxLen ∧ ∀ y0 ∈ l0, (Lit.int .u8 y0).wf = true) → ∃ k, laws_FnGraphWide.f k l0 = some true
end Go.Proofs.Ytebgfobjhlcopaa.P
namespace Go.Proofs.Ytebgfobjhlcopaa.Base
open Go.RowKit Go.Proofs.Ytebgfobjhlcopaa.P Go.Proofs.YtebgfobjhlcopaaW.PrintWords Go.Proofs.YtebgfobjhlcopaaW.PrintLast Go.Proofs.YtebgfobjhlcopaaW.PrintMore
theorem w64 {x : Int} (h0 : -9223372036854775808 ≤ x) (h1 : x < 9223372036854775808) : wrap64 x = x := by unfold wrap64; omega
theorem in_f (a b c : Int) : zbw.f a b c = some (decide (b ≤ a ∧ a ≤ c)) := by
  unfold zbw.f
  by_cases h : a ≥ b
  · rw [if_pos h]; simp [show b ≤ a from h]
  · rw [if_neg h]; simp [show ¬ b ≤ a from h]
theorem zfj (a b c : Int) : zby.f a b c = some (decide (b ≤ a ∧ a ≤ c)) := by
  unfold zby.f
  by_cases h : a ≥ b
  · rw [if_pos h]; simp [show b ≤ a from h]
  · rw [if_neg h]; simp [show ¬ b ≤ a from h]
theorem zcs {α : Type} (p : Prop) [Decidable p] (x y : Option α) : (some (decide p)).bind (fun t => if t = true then x else y) = if p then x else y := by
  by_cases hp : p <;> simp [hp]
theorem mx_max (a b : Int) : mx a b = max a b := by unfold mx; omega
theorem tdiv_pos {a b : Int} (h : 0 ≤ a) : Int.tdiv a b = a / b := Int.tdiv_eq_ediv_of_nonneg h
end Go.Proofs.Ytebgfobjhlcopaa.Base
namespace Go.Proofs.Ytebgfobjhlcopaa.Gen
open Go.RowKit Go.Proofs.YtebgfobjhlcopaaW.PrintWords Go.Proofs.YtebgfobjhlcopaaW.PrintLast
def Tot {α : Type} (g : Nat → Option α) (P : α → Prop) : Prop := ∃ r, Ev g r ∧ P r
theorem Tot.ret {α : Type} {P : α → Prop} (a : α) (h : P a) : Tot (fun _ => some a) P := ⟨a, Ev.now a, h⟩
theorem Tot.mono {α : Type} {P Q : α → Prop} {g : Nat → Option α} (h : Tot g P) (hpq : ∀ a, P a → Q a) : Tot g Q := by
  obtain ⟨r, h1, h2⟩ := h
  exact ⟨r, h1, hpq r h2⟩
theorem Tot.congr {α : Type} {P : α → Prop} {g f : Nat → Option α} (e : ∀ k, g k = f k) (h : Tot f P) : Tot g P := by
  have : g = f := funext e
  rw [this]; exact h
theorem Tot.step {α : Type} {P : α → Prop} {g f : Nat → Option α} (e : ∀ k, g (k + 1) = f k) (h : Tot f P) : Tot g P := by
  obtain ⟨r, h1, h2⟩ := h
  exact ⟨r, Ev.step e h1, h2⟩
theorem Tot.bind {α β : Type} {P : α → Prop} {Q : β → Prop} {g : Nat → Option α} {f : Nat → α → Option β} (h : Tot g P) (hf : ∀ a, P a → Tot (fun k => f k a) Q) : Tot (fun k => (g k).bind (f k)) Q := by
  obtain ⟨r, h1, h2⟩ := h
  obtain ⟨q, h3, h4⟩ := hf r h2
  exact ⟨q, Ev.bind h1 h3, h4⟩
theorem Tot.bind0 {α β : Type} {Q : β → Prop} {g : Option α} {f : Nat → α → Option β} {a : α} (h : g = some a) (hf : Tot (fun k => f k a) Q) : Tot (fun k => g.bind (f k)) Q := by
  subst h; exact hf
theorem Tot.yes {α : Type} {P : α → Prop} {c : Prop} [Decidable c] {g f : Nat → Option α} (hc : c) (h : Tot g P) : Tot (fun k => if c then g k else f k) P := by
  simp only [if_pos hc]; exact h
theorem Tot.no {α : Type} {P : α → Prop} {c : Prop} [Decidable c] {g f : Nat → Option α} (hc : ¬ c) (h : Tot f P) : Tot (fun k => if c then g k else f k) P := by
  simp only [if_neg hc]; exact h
theorem Tot.ite {α : Type} {P : α → Prop} {c : Prop} [Decidable c] {g f : Nat → Option α} (h1 : c → Tot g P) (h2 : ¬ c → Tot f P) : Tot (fun k => if c then g k else f k) P := by
  by_cases hc : c
  · exact Tot.yes hc (h1 hc)
  · exact Tot.no hc (h2 hc)
theorem Tot.rounds {g : Nat → Option Bool} (h : Tot g (fun r => r = true)) : ∃ k, g k = some true := by
  obtain ⟨r, h1, rfl⟩ := h
  exact h1.rounds
theorem Tot.val {α : Type} {g : Nat → Option α} {a : α} (h : Ev g a) : Tot g (fun r => r = a) := ⟨a, h, rfl⟩
theorem Tot.ev {α : Type} {g : Nat → Option α} {a : α} (h : Tot g (fun r => r = a)) : Ev g a := by
  obtain ⟨r, h1, rfl⟩ := h
  exact h1
theorem Tot.loop {σ ρ : Type} {P : ρ → Prop} (F : Nat → Nat → σ → Option ρ) (n : Nat) (Inv : Nat → σ → Prop)
    (hstep : ∀ i s, i < n → Inv i s → (∀ s', Inv (i + 1) s' → Tot (fun k => F k (i + 1) s') P) → Tot (fun k => F k i s) P)
    (hend : ∀ s, Inv n s → Tot (fun k => F k n s) P) : ∀ i s, i ≤ n → Inv i s → Tot (fun k => F k i s) P := by
  have key : ∀ d i s, i + d = n → Inv i s → Tot (fun k => F k i s) P := by
    intro d
    induction d with
    | zero => intro i s hi h; obtain rfl : i = n := by omega
              exact hend s h
    | succ d ih => intro i s hi h; exact hstep i s (by omega) h (fun s' hs' => ih (i + 1) s' (by omega) hs')
  intro i s hi h
  exact key (n - i) i s (by omega) h
theorem zdr (xs : List Int) (i : Nat) (h : i < xs.length) : rd xs (i : Int) = xs[i] := by
  unfold rd
  rw [List.getD_eq_getElem?_getD, Int.toNat_natCast, List.getElem?_eq_getElem h]
  rfl
theorem fill_step {β : Type} (acc tgt : List β) (i : Nat) (hl : acc.length = tgt.length) (h : acc.take i = tgt.take i) (hi : i < tgt.length) : (acc.set i tgt[i]).take (i + 1) = tgt.take (i + 1) := by
  rw [List.take_succ_eq_append_getElem (by simpa [hl] using hi), List.take_succ_eq_append_getElem hi]
  rw [List.take_set_of_le (Nat.le_refl i), h]
  simp
theorem Tot.copy {β : Type} (F : Nat → List β → Int → Option (List β)) (tgt : List β) (z : β)
    (hstep : ∀ k acc (i : Nat) (h : i < tgt.length), acc.length = tgt.length → F (k + 1) acc (i : Int) = F k (acc.set i tgt[i]) ((i : Int) + 1))
    (hend : ∀ k acc, acc.length = tgt.length → F (k + 1) acc (tgt.length : Int) = some acc) : Tot (fun k => F k (List.replicate tgt.length z) 0) (fun r => r = tgt) := by
  have key : ∀ d (i : Nat) acc, i + d = tgt.length → acc.length = tgt.length → acc.take i = tgt.take i → Tot (fun k => F k acc (i : Int)) (fun r => r = tgt) := by
    intro d
    induction d with
    | zero =>
      intro i acc hi hl ht
      obtain rfl : i = tgt.length := by omega
      refine Tot.step (f := fun _ => some acc) (fun k => hend k acc hl) (Tot.ret _ ?_)
      rw [List.take_length, ← hl, List.take_length] at ht
      exact ht
    | succ d ih =>
      intro i acc hi hl ht
      have hlt : i < tgt.length := by omega
      refine Tot.step (fun k => hstep k acc i hlt hl) ?_
      have := ih (i + 1) (acc.set i tgt[i]) (by omega) (by simpa using hl) (fill_step acc tgt i hl ht hlt)
      simpa using this
  simpa using key tgt.length 0 (List.replicate tgt.length z) (by omega) (by simp) (by simp)
theorem Tot.look {ρ : Type} {r : ρ} (F : Nat → Int → Option ρ) (n : Nat) (hstep : ∀ k (i : Nat), i < n → F (k + 1) (i : Int) = F k ((i : Int) + 1)) (hend : ∀ k, F (k + 1) (n : Int) = some r) : Tot (fun k => F k 0) (fun q => q = r) := by
  have key : ∀ d (i : Nat), i + d = n → Tot (fun k => F k (i : Int)) (fun q => q = r) := by
    intro d
    induction d with
    | zero => intro i hi; obtain rfl : i = n := by omega
              exact Tot.step (f := fun _ => some r) (fun k => hend k) (Tot.ret _ rfl)
    | succ d ih => intro i hi; exact Tot.step (fun k => hstep k i (by omega)) (by simpa using ih (i + 1) (by omega))
  simpa using key n 0 (by omega)
end Go.Proofs.Ytebgfobjhlcopaa.Gen
namespace Go.Proofs.Ytebgfobjhlcopaa.Graph
open Go.RowKit Go.Proofs.Ytebgfobjhlcopaa.P Go.Proofs.Ytebgfobjhlcopaa.Base Go.Proofs.Ytebgfobjhlcopaa.Gen Go.Proofs.YtebgfobjhlcopaaW.PrintWords Go.Proofs.YtebgfobjhlcopaaW.PrintLast
def zda (m : Int) (e : List Int) : Prop := e.length = 2 ∧ 0 ≤ rd e 0 ∧ rd e 0 < rd e 1 ∧ rd e 1 < m
instance (m : Int) (e : List Int) : Decidable (zda m e) := by unfold zda; infer_instance
def zed (c : List Int) : Prop := ∀ x ∈ c, 1 ≤ x ∧ x ≤ 8
instance (c : List Int) : Decidable (zed c) := by unfold zed; infer_instance
def GV (c : List Int) (es : List (List Int)) : Prop := c.length ≤ 8 ∧ es.length ≤ 64 ∧ zed c ∧ ∀ e ∈ es, zda c.length e
instance (c : List Int) (es : List (List Int)) : Decidable (GV c es) := by unfold GV; infer_instance
theorem zfk (xs : List (List Int)) (i : Nat) (h : i < xs.length) : zo xs (i : Int) = xs[i] := by
  unfold zo
  rw [List.getD_eq_getElem?_getD, Int.toNat_natCast, List.getElem?_eq_getElem h]
  rfl
theorem costs_f (c : List Int) : zb8.f c = some (decide (¬ zed c)) := by
  unfold zb8.f
  congr 1
  rw [Bool.eq_iff_iff, List.any_eq_true]
  unfold zed
  simp only [zb8.bad, decide_eq_true_eq]
  constructor
  · rintro ⟨x, hx, h⟩ hh
    have := hh x hx
    simp at h
    omega
  · intro hh
    refine Classical.byContradiction fun hc => hh fun x hx => ?_
    refine Classical.byContradiction fun h2 => hc ⟨x, hx, ?_⟩
    simp; omega
theorem all_of {α : Type} {P : α → Prop} {l : List α} (h : ∀ i (h : i < l.length), P l[i]) : ∀ x ∈ l, P x := by
  intro x hx
  obtain ⟨i, hi, rfl⟩ := List.mem_iff_getElem.1 hx
  exact h i hi
theorem upto {α : Type} {P : α → Prop} {l : List α} {j : Nat} (hj : j < l.length) (hm : ∀ i (h : i < l.length), i < j → P l[i]) (h : P l[j]) : ∀ i (h : i < l.length), i < j + 1 → P l[i] := by
  intro i hi hij
  rcases Nat.lt_or_ge i j with h' | h'
  · exact hm i hi h'
  · obtain rfl : i = j := by omega
    exact h
theorem zh3 (c : List Int) (es : List (List Int)) (hc : c.length ≤ 2097152) (he : es.length ≤ 2097152) : Ev (fun k => zi.f k c es) (decide (GV c es)) := by
  have loop : ∀ d j, j + d = es.length → (∀ i (h : i < es.length), i < j → zda c.length es[i]) → Ev (fun k => zi.l0 k c es es (es.length : Int) (j : Int)) (decide (GV c es)) := by
    intro d
    induction d with
    | zero =>
      intro j hj hm
      have ha : ∀ e ∈ es, zda c.length e := all_of (fun i hi => hm i hi (by omega))
      refine Ev.step (f := fun _ => some (decide (GV c es))) (fun k => ?_) (Ev.now _)
      simp only [zi.l0]
      rw [if_neg (by omega)]
      by_cases h1 : c.length ≤ 8
      · rw [if_pos (by omega)]
        by_cases h2 : es.length ≤ 64
        · rw [if_pos (by omega), costs_f]
          simp only [Option.bind_some]
          congr 1
          rw [Bool.eq_iff_iff]
          unfold GV
          simp [h1, h2]
          exact fun _ => ha
        · rw [if_neg (by omega), decide_eq_false (fun h => h2 h.2.1)]
      · rw [if_neg (by omega), decide_eq_false (fun h => h1 h.1)]
    | succ d ih =>
      intro j hj hm
      have hjl : j < es.length := by omega
      by_cases hok : zda c.length es[j]
      · refine Ev.step (fun k => ?_) (ih (j + 1) (by omega) (upto hjl hm hok))
        unfold zda at hok
        simp only [zi.l0]
        rw [if_pos (by omega), if_pos (by omega), if_pos (by omega), zfk es j hjl, if_pos (by omega), if_pos (by omega), in_f, zcs, w64 (x := (c.length : Int) - 1) (by omega) (by omega), if_pos (by omega), if_pos (by omega), in_f, zcs, if_pos (by omega), if_neg (by omega), w64 (by omega) (by omega)]
        rfl
      · rw [decide_eq_false (fun h => hok (h.2.2.2 _ (List.getElem_mem hjl)))]
        refine Ev.step (f := fun _ => some false) (fun k => ?_) (Ev.now _)
        unfold zda at hok
        simp only [zi.l0]
        rw [if_pos (by omega), if_pos (by omega), if_pos (by omega), zfk es j hjl]
        by_cases h1 : es[j].length = 2
        · rw [if_pos (by omega), if_pos (by omega), in_f, zcs, w64 (x := (c.length : Int) - 1) (by omega) (by omega)]
          by_cases h2 : 0 ≤ rd es[j] 0 ∧ rd es[j] 0 ≤ (c.length : Int) - 1
          · rw [if_pos h2, if_pos (by omega), in_f, zcs]
            by_cases h3 : rd es[j] 0 ≤ rd es[j] 1 ∧ rd es[j] 1 ≤ (c.length : Int) - 1
            · rw [if_pos h3, if_pos (by omega)]
            · rw [if_neg h3]
          · rw [if_neg h2]
        · rw [if_neg (by omega)]
  have h := loop es.length 0 (by omega) (fun i _ h => by omega)
  refine Ev.congr (fun k => ?_) h
  unfold zi.f
  rfl
theorem zh4 (c : List Int) (es : List (List Int)) : Ev (fun k => ze.f k c es) (decide (GV c es)) := by
  have no : ¬ GV c es → Ev (fun k => ze.j0 k c es true) (decide (GV c es)) := by
    intro h
    rw [decide_eq_false h]
    exact Ev.step (f := fun _ => some false) (fun k => by simp [ze.j0]) (Ev.now _)
  by_cases h1 : c.length ≤ 8
  · by_cases h2 : es.length ≤ 64
    · have edges : zed c → ∀ d j, j + d = es.length → (∀ i (h : i < es.length), i < j → zda c.length es[i]) → Ev (fun k => ze.l1 k c es (j : Int)) (decide (GV c es)) := by
        intro hco d
        induction d with
        | zero =>
          intro j hj hm
          have ha : ∀ e ∈ es, zda c.length e := all_of (fun i hi => hm i hi (by omega))
          rw [decide_eq_true (show GV c es from ⟨h1, h2, hco, ha⟩)]
          refine Ev.step (f := fun _ => some true) (fun k => ?_) (Ev.now _)
          simp only [ze.l1]
          rw [if_neg (by omega)]
        | succ d ih =>
          intro j hj hm
          have hjl : j < es.length := by omega
          by_cases hok : zda c.length es[j]
          · refine Ev.step (fun k => ?_) (ih (j + 1) (by omega) (upto hjl hm hok))
            unfold zda at hok
            simp only [ze.l1]
            rw [if_pos (by omega), if_pos (by omega), zfk es j hjl, if_pos (by omega), if_pos (by omega), zfj, zcs, w64 (x := (c.length : Int) - 1) (by omega) (by omega), if_pos (by omega), if_pos (by omega), zfj, zcs, w64 (x := rd es[j] 1 - 1) (by omega) (by omega), if_pos (by omega), w64 (by omega) (by omega)]
            rfl
          · rw [decide_eq_false (fun h => hok (h.2.2.2 _ (List.getElem_mem hjl)))]
            refine Ev.step (f := fun _ => some false) (fun k => ?_) (Ev.now _)
            unfold zda at hok
            simp only [ze.l1]
            rw [if_pos (by omega), if_pos (by omega), zfk es j hjl]
            by_cases h3 : es[j].length = 2
            · rw [if_pos (by omega), if_pos (by omega), zfj, zcs, w64 (x := (c.length : Int) - 1) (by omega) (by omega)]
              by_cases h4 : 0 ≤ rd es[j] 1 ∧ rd es[j] 1 ≤ (c.length : Int) - 1
              · rw [if_pos h4, if_pos (by omega), zfj, zcs, w64 (x := rd es[j] 1 - 1) (by omega) (by omega), if_neg (by omega)]
              · rw [if_neg h4]
            · rw [if_neg (by omega)]
      have costs : ∀ d j, j + d = c.length → (∀ i (h : i < c.length), i < j → 1 ≤ c[i] ∧ c[i] ≤ 8) → Ev (fun k => ze.l0 k c es (j : Int)) (decide (GV c es)) := by
        intro d
        induction d with
        | zero =>
          intro j hj hm
          have ha : zed c := all_of (fun i hi => hm i hi (by omega))
          refine Ev.step (fun k => ?_) (edges ha es.length 0 (by omega) (fun i _ h => by omega))
          simp only [ze.l0]
          rw [if_neg (by omega)]
          rfl
        | succ d ih =>
          intro j hj hm
          have hjl : j < c.length := by omega
          by_cases hok : 1 ≤ c[j] ∧ c[j] ≤ 8
          · refine Ev.step (fun k => ?_) (ih (j + 1) (by omega) (upto (P := fun x => 1 ≤ x ∧ x ≤ 8) hjl hm hok))
            simp only [ze.l0]
            rw [if_pos (by omega), if_pos (by omega), zdr c j hjl, zfj, zcs, if_pos hok, w64 (by omega) (by omega)]
            rfl
          · rw [decide_eq_false (fun h => hok (h.2.2.1 _ (List.getElem_mem hjl)))]
            refine Ev.step (f := fun _ => some false) (fun k => ?_) (Ev.now _)
            simp only [ze.l0]
            rw [if_pos (by omega), if_pos (by omega), zdr c j hjl, zfj, zcs, if_neg hok]
      have hs : Ev (fun k => ze.j0 k c es (decide ((es.length : Int) > 64))) (decide (GV c es)) := by
        refine Ev.step (fun k => ?_) (costs c.length 0 (by omega) (fun i _ h => by omega))
        simp only [ze.j0]
        rw [if_neg (by simp; omega)]
        rfl
      refine Ev.congr (fun k => ?_) hs
      unfold ze.f
      rw [if_neg (by omega)]
    · refine Ev.congr (fun k => ?_) (no (fun h => h2 h.2.1))
      unfold ze.f
      rw [if_neg (by omega), decide_eq_true (by omega)]
  · refine Ev.congr (fun k => ?_) (no (fun h => h1 h.1))
    unfold ze.f
    rw [if_pos (by omega)]
end Go.Proofs.Ytebgfobjhlcopaa.Graph
namespace Go.Proofs.Ytebgfobjhlcopaa.Crit
open Go.RowKit Go.Proofs.Ytebgfobjhlcopaa.P Go.Proofs.Ytebgfobjhlcopaa.Base Go.Proofs.Ytebgfobjhlcopaa.Gen Go.Proofs.Ytebgfobjhlcopaa.Graph Go.Proofs.YtebgfobjhlcopaaW.PrintWords Go.Proofs.YtebgfobjhlcopaaW.PrintLast
def stp (out : List Int) (b : Int) (t : Int) (e : List Int) : Int := if rd e 1 = b then max t (rd out (rd e 0)) else t
def bst (out : List Int) (b : Int) (es : List (List Int)) (t : Int) : Int := es.foldl (stp out b) t
def ends (c : List Int) (es : List (List Int)) : Nat → List Int
  | 0 => []
  | n + 1 => ends c es n ++ [bst (ends c es n) (n : Int) es 0 + rd c (n : Int)]
def EV (c : List Int) (es : List (List Int)) (i : Nat) : Int := rd (ends c es (i + 1)) (i : Int)
def mxl (l : List Int) (t : Int) : Int := l.foldl max t
def lng (c : List Int) (es : List (List Int)) : Int := mxl (ends c es c.length) 0
def vl (c : List Int) : Int := c.foldl (· + ·) 0
def zcd (c : List Int) : Nat → Int
  | 0 => 0
  | n + 1 => zcd c n + rd c (n : Int)
theorem zdf (c : List Int) (es : List (List Int)) (n : Nat) : (ends c es n).length = n := by
  induction n with
  | zero => rfl
  | succ n ih => simp [ends, ih]
theorem rd_app_lt (a b : List Int) (i : Nat) (h : i < a.length) : rd (a ++ b) (i : Int) = rd a (i : Int) := by
  rw [zdr _ i (by simp; omega), zdr _ i h, List.getElem_append_left h]
theorem rd_app_eq (a : List Int) (x : Int) (n : Nat) (h : a.length = n) : rd (a ++ [x]) (n : Int) = x := by
  subst h
  rw [zdr _ _ (by simp)]
  simp
theorem zct (c : List Int) (es : List (List Int)) (n i : Nat) (h : i < n) : rd (ends c es n) (i : Int) = EV c es i := by
  induction n with
  | zero => omega
  | succ n ih =>
    rcases Nat.lt_or_ge i n with h' | h'
    · rw [ends, rd_app_lt _ _ _ (by rw [zdf]; exact h'), ih h']
    · obtain rfl : i = n := by omega
      rfl
theorem zft (c : List Int) (es : List (List Int)) (n : Nat) : EV c es n = bst (ends c es n) (n : Int) es 0 + rd c (n : Int) := by
  unfold EV
  rw [ends]
  exact rd_app_eq _ _ _ (zdf c es n)
theorem zd6 (out : List Int) (b : Int) (es : List (List Int)) : ∀ t, t ≤ bst out b es t := by
  induction es with
  | nil => intro t; exact Int.le_refl _
  | cons e es ih =>
    intro t
    refine Int.le_trans ?_ (ih _)
    unfold stp; split <;> omega
theorem bst_ge (out : List Int) (b : Int) (es : List (List Int)) : ∀ t, ∀ e ∈ es, rd e 1 = b → rd out (rd e 0) ≤ bst out b es t := by
  induction es with
  | nil => intro t e he; simp at he
  | cons e es ih =>
    intro t x hx hb
    rcases List.mem_cons.1 hx with rfl | hx
    · refine Int.le_trans ?_ (zd6 out b es _)
      unfold stp; rw [if_pos hb]; omega
    · exact ih _ x hx hb
theorem zfl (out : List Int) (b M : Int) (es : List (List Int)) : ∀ t, t ≤ M → (∀ e ∈ es, rd e 1 = b → rd out (rd e 0) ≤ M) → bst out b es t ≤ M := by
  induction es with
  | nil => intro t h _; exact h
  | cons e es ih =>
    intro t h hh
    refine ih _ ?_ (fun x hx => hh x (List.mem_cons_of_mem _ hx))
    unfold stp
    split
    · rename_i hb
      have := hh e (List.mem_cons_self ..) hb
      omega
    · exact h
theorem mxl_init (l : List Int) : ∀ t, t ≤ mxl l t := by
  induction l with
  | nil => intro t; exact Int.le_refl _
  | cons a l ih => intro t; exact Int.le_trans (by omega) (ih _)
theorem mxl_ge (l : List Int) : ∀ t, ∀ x ∈ l, x ≤ mxl l t := by
  induction l with
  | nil => intro t x hx; simp at hx
  | cons a l ih =>
    intro t x hx
    rcases List.mem_cons.1 hx with rfl | hx
    · exact Int.le_trans (by omega) (mxl_init l _)
    · exact ih _ x hx
theorem mxl_le (l : List Int) (M : Int) : ∀ t, t ≤ M → (∀ x ∈ l, x ≤ M) → mxl l t ≤ M := by
  induction l with
  | nil => intro t h _; exact h
  | cons a l ih =>
    intro t h hh
    refine ih _ ?_ (fun x hx => hh x (List.mem_cons_of_mem _ hx))
    have := hh a (List.mem_cons_self ..)
    omega
theorem mxl_take (l : List Int) (i : Nat) (h : i < l.length) (t : Int) : mxl (l.take (i + 1)) t = max (mxl (l.take i) t) l[i] := by
  unfold mxl
  rw [List.take_succ_eq_append_getElem h, List.foldl_append]
  rfl
theorem vl_take (l : List Int) (i : Nat) (h : i < l.length) : vl (l.take (i + 1)) = vl (l.take i) + l[i] := by
  unfold vl
  rw [List.take_succ_eq_append_getElem h, List.foldl_append]
  rfl
theorem vl_sum (c : List Int) (n : Nat) (h : n ≤ c.length) : vl (c.take n) = zcd c n := by
  induction n with
  | zero => rfl
  | succ n ih => rw [vl_take _ _ (by omega), ih (by omega), zcd, zdr]
theorem vl_eq (c : List Int) : vl c = zcd c c.length := by
  have := vl_sum c c.length (Nat.le_refl _)
  rwa [List.take_length] at this
def Up (m : Int) (es : List (List Int)) : Prop := ∀ e ∈ es, 0 ≤ rd e 0 ∧ rd e 0 < rd e 1 ∧ rd e 1 < m
def Pos (c : List Int) : Prop := ∀ i : Nat, i < c.length → 1 ≤ rd c (i : Int)
theorem gv_up {c : List Int} {es : List (List Int)} (h : GV c es) : Up c.length es := fun e he => (h.2.2.2 e he).2
theorem zhe {c : List Int} {es : List (List Int)} (h : GV c es) : Pos c := fun i hi => by
  rw [zdr c i hi]
  exact (h.2.2.1 _ (List.getElem_mem hi)).1
theorem zee {c : List Int} {es : List (List Int)} (h : GV c es) (i : Nat) (hi : i < c.length) : 1 ≤ rd c (i : Int) ∧ rd c (i : Int) ≤ 8 := by
  rw [zdr c i hi]
  exact h.2.2.1 _ (List.getElem_mem hi)
theorem zc4 {m : Int} {es : List (List Int)} (h : Up m es) {e : List Int} (he : e ∈ es) : ∃ a b : Nat, rd e 0 = (a : Int) ∧ rd e 1 = (b : Int) ∧ a < b ∧ (b : Int) < m := by
  have := h e he
  exact ⟨(rd e 0).toNat, (rd e 1).toNat, by omega, by omega, by omega, by omega⟩
theorem EV_ge (c : List Int) (es : List (List Int)) (n : Nat) : rd c (n : Int) ≤ EV c es n := by
  rw [zft]
  have := zd6 (ends c es n) (n : Int) es 0
  omega
theorem zhf (c : List Int) (es : List (List Int)) (i : Nat) (h : i < c.length) : EV c es i ≤ lng c es := by
  rw [← zct c es c.length i h, zdr _ i (by rw [zdf]; exact h)]
  exact mxl_ge _ _ _ (List.getElem_mem _)
theorem zhg (c : List Int) (es : List (List Int)) (M : Int) (h0 : 0 ≤ M) (h : ∀ i, i < c.length → EV c es i ≤ M) : lng c es ≤ M := by
  refine mxl_le _ _ _ h0 (fun x hx => ?_)
  obtain ⟨i, hi, rfl⟩ := List.mem_iff_getElem.1 hx
  have hl := zdf c es c.length
  have := h i (by omega)
  rwa [← zct c es c.length i (by omega), zdr _ i hi] at this
theorem zd7 (c : List Int) (es : List (List Int)) : 0 ≤ lng c es := mxl_init _ _
theorem zey {c : List Int} (hp : Pos c) : ∀ n m, n ≤ m → m ≤ c.length → zcd c n ≤ zcd c m := by
  intro n m
  induction m with
  | zero => intro h _; obtain rfl : n = 0 := by omega
            exact Int.le_refl _
  | succ m ih =>
    intro h hm
    rcases Nat.lt_or_ge n (m + 1) with h' | h'
    · have := ih (by omega) (by omega)
      have := hp m (by omega)
      rw [zcd]; omega
    · obtain rfl : n = m + 1 := by omega
      exact Int.le_refl _
theorem zhh {c : List Int} {es : List (List Int)} (hu : Up c.length es) (hp : Pos c) : ∀ n, n < c.length → EV c es n ≤ zcd c (n + 1) := by
  intro n
  induction n using Nat.strongRecOn with
  | ind n ih =>
    intro hn
    rw [zft, zcd]
    have : bst (ends c es n) (n : Int) es 0 ≤ zcd c n := by
      refine zfl _ _ _ _ _ ?_ (fun e he hb => ?_)
      · exact zey hp 0 n (by omega) (by omega)
      · obtain ⟨a, b, ha, hb', hab, _⟩ := zc4 hu he
        obtain rfl : b = n := by omega
        rw [ha, zct c es b a hab]
        exact Int.le_trans (ih a hab (by omega)) (zey hp _ _ (by omega) (by omega))
    omega
theorem lng_le_vl {c : List Int} {es : List (List Int)} (hu : Up c.length es) (hp : Pos c) : lng c es ≤ vl c := by
  rw [vl_eq]
  refine zhg _ _ _ ?_ (fun i hi => ?_)
  · exact zey hp 0 _ (by omega) (by omega)
  · exact Int.le_trans (zhh hu hp i hi) (zey hp _ _ (by omega) (by omega))
end Go.Proofs.Ytebgfobjhlcopaa.Crit
namespace Go.Proofs.Ytebgfobjhlcopaa.Gra
open Go.RowKit Go.Proofs.Ytebgfobjhlcopaa.P Go.Proofs.Ytebgfobjhlcopaa.Base Go.Proofs.Ytebgfobjhlcopaa.Gen Go.Proofs.Ytebgfobjhlcopaa.Graph Go.Proofs.Ytebgfobjhlcopaa.Crit Go.Proofs.YtebgfobjhlcopaaW.PrintWords Go.Proofs.YtebgfobjhlcopaaW.PrintLast
def blk (es : List (List Int)) (left : List Int) (i : Int) : Bool := es.any (fun e => decide (rd e 1 = i) && decide (0 < rd left (rd e 0)))
def rdy (es : List (List Int)) (left : List Int) (i : Int) : Bool := decide (0 < rd left i) && !(blk es left i)
def pck (es : List (List Int)) (left : List Int) (m : Int) : Nat → List Int
  | 0 => []
  | i + 1 => if rdy es left (i : Int) = true ∧ ((pck es left m i).length : Int) < m then pck es left m i ++ [(i : Int)] else pck es left m i
def tick (now : Int) (p : List Int × List Int) (i : Int) : List Int × List Int :=
  (p.1.set i.toNat (rd p.1 i - 1), if rd p.1 i - 1 = 0 then p.2.set i.toNat (now + 1) else p.2)
theorem blk_false {es : List (List Int)} {left : List Int} {i : Int} : blk es left i = false ↔ ∀ e ∈ es, rd e 1 = i → rd left (rd e 0) ≤ 0 := by
  unfold blk
  rw [List.any_eq_false]
  constructor
  · intro h e he h1
    have := h e he
    rw [Bool.and_eq_true, decide_eq_true_eq, decide_eq_true_eq] at this
    omega
  · intro h e he
    rw [Bool.and_eq_true, decide_eq_true_eq, decide_eq_true_eq]
    intro hh
    have := h e he hh.1
    omega
theorem zc5 {es : List (List Int)} {left : List Int} {i : Int} : rdy es left i = true ↔ 0 < rd left i ∧ ∀ e ∈ es, rd e 1 = i → rd left (rd e 0) ≤ 0 := by
  unfold rdy
  rw [Bool.and_eq_true, decide_eq_true_eq, Bool.not_eq_true', blk_false]
section
variable {es : List (List Int)} {left : List Int} {m : Int}
theorem zgn : ∀ n (x : Int), x ∈ pck es left m n → ∃ i : Nat, i < n ∧ x = (i : Int) ∧ rdy es left (i : Int) = true := by
  intro n
  induction n with
  | zero => intro x h; simp [pck] at h
  | succ n ih =>
    intro x h
    rw [pck] at h
    split at h
    · rename_i hc
      rw [List.mem_append, List.mem_singleton] at h
      rcases h with h | h
      · obtain ⟨i, hi, h⟩ := ih x h; exact ⟨i, by omega, h⟩
      · exact ⟨n, by omega, h, hc.1⟩
    · obtain ⟨i, hi, h⟩ := ih x h; exact ⟨i, by omega, h⟩
theorem pck_nodup : ∀ n, (pck es left m n).Nodup := by
  intro n
  induction n with
  | zero => simp [pck]
  | succ n ih =>
    rw [pck]
    split
    · rw [List.nodup_append]
      refine ⟨ih, by simp, fun a ha b hb => ?_⟩
      rw [List.mem_singleton] at hb
      obtain ⟨i, hi, h, _⟩ := zgn n a ha
      omega
    · exact ih
theorem pck_len (hm : 0 ≤ m) : ∀ n, ((pck es left m n).length : Int) ≤ m := by
  intro n
  induction n with
  | zero => simpa [pck] using hm
  | succ n ih =>
    rw [pck]
    split
    · rename_i hc
      rw [List.length_append, List.length_singleton]; omega
    · exact ih
theorem pck_le : ∀ n, (pck es left m n).length ≤ n := by
  intro n
  induction n with
  | zero => simp [pck]
  | succ n ih =>
    rw [pck]
    split
    · rw [List.length_append, List.length_singleton]; omega
    · omega
theorem pck_full (hm : 0 ≤ m) : ∀ n (i : Nat), i < n → rdy es left (i : Int) = true → (i : Int) ∉ pck es left m n → ((pck es left m n).length : Int) = m := by
  intro n
  induction n with
  | zero => intro i h; omega
  | succ n ih =>
    intro i hi hr hn
    rw [pck] at hn ⊢
    split at hn
    · rename_i hc
      rw [List.mem_append, List.mem_singleton] at hn
      have h1 : (i : Int) ∉ pck es left m n := fun h => hn (Or.inl h)
      have h2 : i ≠ n := fun h => hn (Or.inr (by rw [h]))
      have := ih i (by omega) hr h1
      omega
    · rename_i hc
      rw [if_neg hc]
      by_cases e : i = n
      · subst e
        have := pck_len (es := es) (left := left) hm i
        have : ¬ ((pck es left m i).length : Int) < m := fun h => hc ⟨hr, h⟩
        omega
      · exact ih i (by omega) hr hn
theorem pck_all (n : Nat) (h : (n : Int) ≤ m) : ∀ k, k ≤ n → ∀ i : Nat, i < k → rdy es left (i : Int) = true → (i : Int) ∈ pck es left m k := by
  intro k
  induction k with
  | zero => intro _ i h; omega
  | succ k ih =>
    intro hk i hi hr
    have hle := pck_le (es := es) (left := left) (m := m) k
    rw [pck]
    by_cases e : i = k
    · subst e
      rw [if_pos ⟨hr, by omega⟩]
      exact List.mem_append_right _ (List.mem_singleton.2 rfl)
    · have := ih (by omega) i (by omega) hr
      split
      · exact List.mem_append_left _ this
      · exact this
end
theorem zfz (l : List Int) (i : Nat) (x : Int) (h : i < l.length) : rd (l.set i x) (i : Int) = x := by
  rw [zdr _ i (by simpa using h)]
  simp
theorem zf0 (l : List Int) (i a : Nat) (x : Int) (h : a ≠ i) : rd (l.set i x) (a : Int) = rd l (a : Int) := by
  unfold rd
  rw [List.getD_eq_getElem?_getD, List.getD_eq_getElem?_getD, Int.toNat_natCast, List.getElem?_set_ne (by omega)]
theorem ticks_len (now : Int) : ∀ (l : List Int) (p : List Int × List Int), (l.foldl (tick now) p).1.length = p.1.length ∧ (l.foldl (tick now) p).2.length = p.2.length := by
  intro l
  induction l with
  | nil => intro p; exact ⟨rfl, rfl⟩
  | cons a l ih =>
    intro p
    have := ih (tick now p a)
    rw [List.foldl_cons, this.1, this.2]
    unfold tick
    constructor
    · simp
    · simp only; split <;> simp
theorem ticks_rd (now : Int) : ∀ (l : List Int) (p : List Int × List Int), l.Nodup → (∀ x ∈ l, ∃ i : Nat, i < p.1.length ∧ x = (i : Int)) → p.2.length = p.1.length → ∀ a : Nat, a < p.1.length →
    rd (l.foldl (tick now) p).1 (a : Int) = rd p.1 (a : Int) - (if (a : Int) ∈ l then 1 else 0) ∧
    rd (l.foldl (tick now) p).2 (a : Int) = if (a : Int) ∈ l ∧ rd p.1 (a : Int) - 1 = 0 then now + 1 else rd p.2 (a : Int) := by
  intro l
  induction l with
  | nil => intro p _ _ _ a _; simp
  | cons x l ih =>
    intro p hn hm hl a ha
    rw [List.nodup_cons] at hn
    obtain ⟨i, hi, rfl⟩ := hm x (List.mem_cons_self ..)
    have hl1 : (tick now p (i : Int)).1.length = p.1.length := by unfold tick; simp
    have hl2 : (tick now p (i : Int)).2.length = p.2.length := by unfold tick; simp only; split <;> simp
    have := ih (tick now p (i : Int)) hn.2 (fun y hy => by rw [hl1]; exact hm y (List.mem_cons_of_mem _ hy)) (by omega) a (by omega)
    rw [List.foldl_cons, this.1, this.2]
    by_cases e : a = i
    · subst e
      have h1 : rd (tick now p (a : Int)).1 (a : Int) = rd p.1 (a : Int) - 1 := by
        unfold tick; rw [Int.toNat_natCast]; exact zfz _ _ _ hi
      rw [h1, if_neg hn.1, if_neg (show ¬ ((a : Int) ∈ l ∧ rd p.1 (a : Int) - 1 - 1 = 0) from fun h => hn.1 h.1), if_pos (List.mem_cons_self ..)]
      refine ⟨by omega, ?_⟩
      unfold tick
      simp only [List.mem_cons_self, true_and, Int.toNat_natCast]
      split
      · exact zfz _ _ _ (by omega)
      · rfl
    · have h1 : rd (tick now p (i : Int)).1 (a : Int) = rd p.1 (a : Int) := by
        unfold tick; rw [Int.toNat_natCast]; exact zf0 _ _ _ _ e
      have h2 : rd (tick now p (i : Int)).2 (a : Int) = rd p.2 (a : Int) := by
        unfold tick
        simp only [Int.toNat_natCast]
        split
        · exact zf0 _ _ _ _ e
        · rfl
      have h3 : ((a : Int) ∈ (i : Int) :: l) ↔ (a : Int) ∈ l := by
        rw [List.mem_cons]
        constructor
        · rintro (h | h)
          · omega
          · exact h
        · exact Or.inr
      rw [h1, h2]
      simp only [h3]
      exact ⟨trivial, trivial⟩
structure Inv (es : List (List Int)) (left : List Int) : Prop where
  nn : ∀ i : Nat, i < left.length → 0 ≤ rd left (i : Int)
  up : Up left.length es
  bk : ∀ e ∈ es, 0 < rd left (rd e 0) → 1 ≤ rd left (rd e 1)
theorem zgo {es : List (List Int)} {left : List Int} (h : Inv es left) : ∀ n : Nat, n < left.length → rd left (n : Int) = 0 → EV left es n = 0 := by
  intro n
  induction n using Nat.strongRecOn with
  | ind n ih =>
    intro hn hz
    rw [zft, hz, Int.add_zero]
    apply Int.le_antisymm
    · refine zfl _ _ _ _ _ (Int.le_refl _) (fun e he hb => ?_)
      obtain ⟨a, b, ha, hb', hab, _⟩ := zc4 h.up he
      obtain rfl : b = n := by omega
      rw [ha, zct left es b a hab]
      have h1 := h.bk e he
      rw [ha, hb', hz] at h1
      have h2 := h.nn a (by omega)
      rw [ih a hab (by omega) (by omega)]
      exact Int.le_refl _
    · exact zd6 _ _ _ _
structure Step (es : List (List Int)) (left new : List Int) (T : Nat → Prop) : Prop where
  len : new.length = left.length
  run : ∀ i : Nat, i < left.length → T i → rd new (i : Int) = rd left (i : Int) - 1 ∧ rdy es left (i : Int) = true
  sit : ∀ i : Nat, i < left.length → ¬ T i → rd new (i : Int) = rd left (i : Int)
section
variable {es : List (List Int)} {left new : List Int} {T : Nat → Prop}
theorem Step.inv (h : Inv es left) (s : Step es left new T) : Inv es new := by
  refine ⟨fun i hi => ?_, by rw [s.len]; exact h.up, fun e he h0 => ?_⟩
  · rw [s.len] at hi
    have := h.nn i hi
    by_cases t : T i
    · have h1 := s.run i hi t
      have := (zc5.1 h1.2).1
      omega
    · rw [s.sit i hi t]; exact this
  · obtain ⟨a, b, ha, hb, hab, hbl⟩ := zc4 h.up he
    rw [ha] at h0
    rw [hb]
    have hal : 0 < rd left (a : Int) := by
      by_cases t : T a
      · have := (s.run a (by omega) t).1; omega
      · rw [s.sit a (by omega) t] at h0; exact h0
    have hk := h.bk e he
    rw [ha, hb] at hk
    have t : ¬ T b := fun t => by
      have := (zc5.1 (s.run b (by omega) t).2).2 e he hb
      rw [ha] at this; omega
    rw [s.sit b (by omega) t]
    exact hk hal
theorem Step.falls (h : Inv es left) (s : Step es left new T) (ha : ∀ i : Nat, i < left.length → rdy es left (i : Int) = true → T i) : ∀ n : Nat, n < left.length → EV new es n ≤ max 0 (EV left es n - 1) := by
  have hnew := s.inv h
  intro n
  induction n using Nat.strongRecOn with
  | ind n ih =>
    intro hn
    have hnn := h.nn n hn
    by_cases hz : rd left (n : Int) = 0
    · have t : ¬ T n := fun t => by have := (zc5.1 (s.run n hn t).2).1; omega
      rw [zgo hnew n (by rw [s.len]; exact hn) (by rw [s.sit n hn t]; exact hz)]
      omega
    · by_cases hr : rdy es left (n : Int) = true
      · have hrd := (s.run n hn (ha n hn hr)).1
        have hge := EV_ge left es n
        have : bst (ends new es n) (n : Int) es 0 ≤ 0 := by
          refine zfl _ _ _ _ _ (Int.le_refl _) (fun e he hb => ?_)
          obtain ⟨a, b, ha', hb', hab, _⟩ := zc4 h.up he
          obtain rfl : b = n := by omega
          have h1 := (zc5.1 hr).2 e he hb
          rw [ha'] at h1
          have h2 := h.nn a (by omega)
          have t : ¬ T a := fun t => by have := (zc5.1 (s.run a (by omega) t).2).1; omega
          rw [ha', zct new es b a hab, zgo hnew a (by rw [s.len]; omega) (by rw [s.sit a (by omega) t]; omega)]
          exact Int.le_refl _
        rw [zft]; omega
      · have t : ¬ T n := fun t => hr (s.run n hn t).2
        obtain ⟨e, he, hb, hp⟩ : ∃ e ∈ es, rd e 1 = (n : Int) ∧ 0 < rd left (rd e 0) := by
          refine Classical.byContradiction fun hc => hr (zc5.2 ⟨by omega, fun e he hb => ?_⟩)
          exact Classical.byContradiction fun h2 => hc ⟨e, he, hb, by omega⟩
        obtain ⟨a, b, ha', hb', hab, _⟩ := zc4 h.up he
        obtain rfl : b = n := by omega
        rw [ha'] at hp
        have h1 := EV_ge left es a
        have h2 : rd (ends left es b) (a : Int) ≤ bst (ends left es b) (b : Int) es 0 := by
          have := bst_ge (ends left es b) (b : Int) es 0 e he hb
          rwa [ha'] at this
        rw [zct left es b a hab] at h2
        have : bst (ends new es b) (b : Int) es 0 ≤ bst (ends left es b) (b : Int) es 0 - 1 := by
          refine zfl _ _ _ _ _ (by omega) (fun f hf hfb => ?_)
          obtain ⟨c, d, hc, hd, hcd, _⟩ := zc4 h.up hf
          obtain rfl : d = b := by omega
          rw [hc, zct new es d c hcd]
          have h3 := ih c hcd (by omega)
          have h4 := bst_ge (ends left es d) (d : Int) es 0 f hf hfb
          rw [hc, zct left es d c hcd] at h4
          omega
        rw [zft new, zft left, s.sit b hn t]
        omega
theorem Step.slow (h : Inv es left) (s : Step es left new T) : ∀ n : Nat, n < left.length → EV left es n ≤ EV new es n + 1 ∧ EV new es n ≤ EV left es n := by
  intro n
  induction n using Nat.strongRecOn with
  | ind n ih =>
    intro hn
    have pre : ∀ e ∈ es, rd e 1 = (n : Int) → ∃ a : Nat, rd e 0 = (a : Int) ∧ a < n := fun e he hb => by
      obtain ⟨a, b, ha', hb', hab, _⟩ := zc4 h.up he
      exact ⟨a, ha', by omega⟩
    have dn : bst (ends new es n) (n : Int) es 0 ≤ bst (ends left es n) (n : Int) es 0 := by
      refine zfl _ _ _ _ _ (zd6 ..) (fun e he hb => ?_)
      obtain ⟨a, ha, han⟩ := pre e he hb
      have h1 := bst_ge (ends left es n) (n : Int) es 0 e he hb
      rw [ha, zct left es n a han] at h1
      rw [ha, zct new es n a han]
      have := (ih a han (by omega)).2
      omega
    rw [zft left, zft new]
    by_cases t : T n
    · have hr := s.run n hn t
      have : bst (ends left es n) (n : Int) es 0 ≤ 0 := by
        refine zfl _ _ _ _ _ (Int.le_refl _) (fun e he hb => ?_)
        obtain ⟨a, ha, han⟩ := pre e he hb
        have h1 := (zc5.1 hr.2).2 e he hb
        rw [ha] at h1
        have h2 := h.nn a (by omega)
        rw [ha, zct left es n a han, zgo h a (by omega) (by omega)]
        exact Int.le_refl _
      have := zd6 (ends new es n) (n : Int) es 0
      omega
    · rw [s.sit n hn t]
      have : bst (ends left es n) (n : Int) es 0 ≤ bst (ends new es n) (n : Int) es 0 + 1 := by
        refine zfl _ _ _ _ _ (by have := zd6 (ends new es n) (n : Int) es 0; omega) (fun e he hb => ?_)
        obtain ⟨a, ha, han⟩ := pre e he hb
        have h1 := bst_ge (ends new es n) (n : Int) es 0 e he hb
        rw [ha, zct new es n a han] at h1
        rw [ha, zct left es n a han]
        have := (ih a han (by omega)).1
        omega
      omega
end
theorem pck_sum {left new : List Int} {g : Int → Prop} [DecidablePred g] : ∀ n : Nat,
    (∀ i : Nat, i < n → rd new (i : Int) = rd left (i : Int) - (if g (i : Int) then 1 else 0)) → zcd new n = zcd left n - ((((List.range n).filter (fun i => decide (g ((i : Nat) : Int)))).length : Nat) : Int) := by
  intro n
  induction n with
  | zero => intro _; simp [zcd]
  | succ n ih =>
    intro h
    rw [zcd, zcd, ih (fun i hi => h i (by omega)), h n (by omega), List.range_succ, List.filter_append, List.length_append]
    by_cases hg : g (n : Int)
    · simp [hg]; omega
    · simp [hg]; omega
theorem pck_count {es : List (List Int)} {left : List Int} {m : Int} : ∀ n, ((List.range n).filter (fun i => decide (((i : Nat) : Int) ∈ pck es left m n))).length = (pck es left m n).length := by
  intro n
  induction n with
  | zero => simp [pck]
  | succ n ih =>
    rw [List.range_succ, List.filter_append, List.length_append]
    have hnot : (n : Int) ∉ pck es left m n := fun h => by
      obtain ⟨i, hi, h, _⟩ := zgn n _ h
      omega
    have e : (List.range n).filter (fun i => decide (((i : Nat) : Int) ∈ pck es left m (n + 1))) = (List.range n).filter (fun i => decide (((i : Nat) : Int) ∈ pck es left m n)) := by
      apply List.filter_congr
      intro i hi
      rw [List.mem_range] at hi
      rw [decide_eq_decide, pck]
      split
      · rw [List.mem_append, List.mem_singleton]
        constructor
        · rintro (h | h)
          · exact h
          · omega
        · exact Or.inl
      · exact Iff.rfl
    rw [e, ih]
    rw [pck]
    split
    · simp
    · simp [hnot]
section
variable (es : List (List Int)) (m : Int) (c z : List Int)
def st : Nat → List Int × List Int
  | 0 => (c, z)
  | t + 1 => (pck es (st t).1 m c.length).foldl (tick (t : Int)) (st t)
def run (t : Nat) : List Int := pck es (st es m c z t).1 m c.length
def Done (t : Nat) : Prop := ∀ i : Nat, i < c.length → rd (st es m c z t).1 (i : Int) = 0
end
section
variable {es : List (List Int)} {m : Int} {c z : List Int}
theorem zdg (hz : z.length = c.length) : ∀ t, (st es m c z t).1.length = c.length ∧ (st es m c z t).2.length = c.length := by
  intro t
  induction t with
  | zero => exact ⟨rfl, hz⟩
  | succ t ih =>
    rw [st]
    have := ticks_len (t : Int) (pck es (st es m c z t).1 m c.length) (st es m c z t)
    omega
theorem st_rd (hz : z.length = c.length) (t a : Nat) (ha : a < c.length) :
    rd (st es m c z (t + 1)).1 (a : Int) = rd (st es m c z t).1 (a : Int) - (if (a : Int) ∈ run es m c z t then 1 else 0) ∧
    rd (st es m c z (t + 1)).2 (a : Int) = if (a : Int) ∈ run es m c z t ∧ rd (st es m c z t).1 (a : Int) - 1 = 0 then (t : Int) + 1 else rd (st es m c z t).2 (a : Int) := by
  have hl := zdg (es := es) (m := m) hz t
  rw [st]
  refine ticks_rd (t : Int) _ _ (pck_nodup _) (fun x hx => ?_) (by omega) a (by omega)
  obtain ⟨i, hi, h, _⟩ := zgn _ _ hx
  exact ⟨i, by omega, h⟩
theorem zgp (hz : z.length = c.length) (t : Nat) : Step es (st es m c z t).1 (st es m c z (t + 1)).1 (fun i => (i : Int) ∈ run es m c z t) := by
  have hl := zdg (es := es) (m := m) hz t
  have hl2 := zdg (es := es) (m := m) hz (t + 1)
  refine ⟨by omega, fun i hi ht => ⟨?_, ?_⟩, fun i hi ht => ?_⟩
  · rw [(st_rd hz t i (by omega)).1, if_pos ht]
  · obtain ⟨j, hj, h, hr⟩ := zgn _ _ ht
    obtain rfl : i = j := by omega
    exact hr
  · rw [(st_rd hz t i (by omega)).1, if_neg ht]; omega
theorem zev (hz : z.length = c.length) (hu : Up c.length es) (hp : Pos c) : ∀ t, Inv es (st es m c z t).1 := by
  intro t
  induction t with
  | zero =>
    refine ⟨fun i hi => ?_, hu, fun e he _ => ?_⟩
    · have := hp i hi; show 0 ≤ rd c (i : Int); omega
    · obtain ⟨a, b, _, hb, _, hbl⟩ := zc4 hu he
      rw [hb]
      exact hp b (by omega)
  | succ t ih => exact Step.inv ih (zgp hz t)
theorem sum_zero {l : List Int} (n : Nat) (hnn : ∀ i : Nat, i < n → 0 ≤ rd l (i : Int)) : 0 ≤ zcd l n ∧ (zcd l n = 0 ↔ ∀ i : Nat, i < n → rd l (i : Int) = 0) := by
  induction n with
  | zero => exact ⟨Int.le_refl _, fun _ i hi => by omega, fun _ => rfl⟩
  | succ n ih =>
    have h1 := ih (fun i hi => hnn i (by omega))
    have h2 := hnn n (by omega)
    rw [zcd]
    refine ⟨by omega, fun h i hi => ?_, fun h => ?_⟩
    · by_cases e : i = n
      · subst e; omega
      · exact h1.2.1 (by omega) i (by omega)
    · have := h1.2.2 (fun i hi => h i (by omega))
      have := h n (by omega)
      omega
theorem st_sum (hz : z.length = c.length) (t : Nat) : zcd (st es m c z (t + 1)).1 c.length = zcd (st es m c z t).1 c.length - ((run es m c z t).length : Int) := by
  rw [pck_sum (g := fun x => x ∈ run es m c z t) (left := (st es m c z t).1) (new := (st es m c z (t + 1)).1) c.length (fun i hi => (st_rd hz t i hi).1)]
  congr 2
  exact pck_count c.length
theorem runs (hz : z.length = c.length) (hu : Up c.length es) (hp : Pos c) (hm : 1 ≤ m) (t : Nat) (h : ¬ Done es m c z t) : 1 ≤ (run es m c z t).length := by
  have hi := zev (m := m) hz hu hp t
  have hl := zdg (es := es) (m := m) hz t
  have key : ∀ n : Nat, n ≤ c.length → (∀ i : Nat, i < n → rd (st es m c z t).1 (i : Int) = 0) ∨ ∃ i : Nat, i < n ∧ rdy es (st es m c z t).1 (i : Int) = true := by
    intro n
    induction n with
    | zero => intro _; exact Or.inl fun i hi => by omega
    | succ n ih =>
      intro hn
      rcases ih (by omega) with h1 | ⟨i, h1, h2⟩
      · by_cases e : rd (st es m c z t).1 (n : Int) = 0
        · left
          intro i hi
          by_cases e2 : i = n
          · subst e2; exact e
          · exact h1 i (by omega)
        · right
          refine ⟨n, by omega, zc5.2 ⟨by have := hi.nn n (by omega); omega, fun f hf hb => ?_⟩⟩
          obtain ⟨a, b, ha, hb', hab, _⟩ := zc4 hu hf
          rw [ha, h1 a (by omega)]
          exact Int.le_refl _
      · exact Or.inr ⟨i, by omega, h2⟩
  rcases key c.length (Nat.le_refl _) with h1 | ⟨i, h1, h2⟩
  · exact absurd h1 h
  · by_cases hin : (i : Int) ∈ run es m c z t
    · exact List.length_pos_of_mem hin
    · have := pck_full (by omega) c.length i h1 h2 hin
      unfold run
      omega
theorem zgq (hz : z.length = c.length) (hu : Up c.length es) (hp : Pos c) (t : Nat) : 0 ≤ zcd (st es m c z t).1 c.length ∧ (zcd (st es m c z t).1 c.length = 0 ↔ Done es m c z t) := by
  have hi := zev (m := m) hz hu hp t
  have hl := zdg (es := es) (m := m) hz t
  exact sum_zero c.length (fun i h => hi.nn i (by omega))
theorem lng_zero (hz : z.length = c.length) (hu : Up c.length es) (hp : Pos c) (t : Nat) (h : Done es m c z t) : lng (st es m c z t).1 es = 0 := by
  have hi := zev (m := m) hz hu hp t
  have hl := zdg (es := es) (m := m) hz t
  apply Int.le_antisymm
  · refine zhg _ _ _ (Int.le_refl _) (fun i hil => ?_)
    rw [zgo hi i hil (h i (by omega))]
    exact Int.le_refl _
  · exact zd7 _ _
theorem lng_slow (hz : z.length = c.length) (hu : Up c.length es) (hp : Pos c) (t : Nat) : lng (st es m c z t).1 es ≤ lng (st es m c z (t + 1)).1 es + 1 ∧ lng (st es m c z (t + 1)).1 es ≤ lng (st es m c z t).1 es := by
  have hi := zev (m := m) hz hu hp t
  have hs := zgp (es := es) (m := m) hz t
  have h0 := zd7 (st es m c z (t + 1)).1 es
  constructor
  · refine zhg _ _ _ (by omega) (fun i hil => ?_)
    have h1 := (hs.slow hi i hil).1
    have h2 := zhf (st es m c z (t + 1)).1 es i (by rw [hs.len]; exact hil)
    omega
  · refine zhg _ _ _ (zd7 _ _) (fun i hil => ?_)
    rw [hs.len] at hil
    have h1 := (hs.slow hi i hil).2
    have h2 := zhf (st es m c z t).1 es i hil
    omega
theorem zhi (hz : z.length = c.length) (hu : Up c.length es) (hp : Pos c) (t : Nat) (h : ∀ i : Nat, i < c.length → rdy es (st es m c z t).1 (i : Int) = true → (i : Int) ∈ run es m c z t) : lng (st es m c z (t + 1)).1 es ≤ max 0 (lng (st es m c z t).1 es - 1) := by
  have hi := zev (m := m) hz hu hp t
  have hl := zdg (es := es) (m := m) hz t
  have hs := zgp (es := es) (m := m) hz t
  refine zhg _ _ _ (by omega) (fun i hil => ?_)
  rw [hs.len] at hil
  have h1 := hs.falls hi (fun i hi hr => h i (by omega) hr) i hil
  have h2 := zhf (st es m c z t).1 es i hil
  omega
theorem graham (hz : z.length = c.length) (hu : Up c.length es) (hp : Pos c) (hm : 1 ≤ m) : ∀ t : Nat, (∀ s, s < t → ¬ Done es m c z s) →
    m * t + zcd (st es m c z t).1 c.length + (m - 1) * lng (st es m c z t).1 es ≤ zcd c c.length + (m - 1) * lng c es ∧
    lng c es ≤ lng (st es m c z t).1 es + t ∧ zcd c c.length ≤ zcd (st es m c z t).1 c.length + m * t ∧ zcd (st es m c z t).1 c.length + t ≤ zcd c c.length := by
  intro t
  induction t with
  | zero =>
    intro _
    refine ⟨?_, ?_, ?_, ?_⟩ <;> simp [st]
  | succ t ih =>
    intro h
    obtain ⟨h1, h2, h3, h4⟩ := ih (fun s hs => h s (by omega))
    have hr := runs hz hu hp hm t (h t (by omega))
    have hs := st_sum (es := es) (m := m) hz t
    have hlen : ((run es m c z t).length : Int) ≤ m := pck_len (by omega) _
    have hsl := lng_slow (m := m) hz hu hp t
    have hdn := zgq (m := m) hz hu hp t
    have hpos : 1 ≤ lng (st es m c z t).1 es := by
      have h5 : ¬ zcd (st es m c z t).1 c.length = 0 := fun e => h t (by omega) (hdn.2.1 e)
      refine Classical.byContradiction fun hc => h t (by omega) (fun i hi => ?_)
      have hl := zdg (es := es) (m := m) hz t
      have h6 := EV_ge (st es m c z t).1 es i
      have h7 := zhf (st es m c z t).1 es i (by omega)
      have h8 := (zev (m := m) hz hu hp t).nn i (by omega)
      omega
    have e1 : m * ((t + 1 : Nat) : Int) = m * (t : Int) + m := by
      rw [Int.natCast_add, Int.mul_add, Int.natCast_one, Int.mul_one]
    refine ⟨?_, by omega, by omega, by omega⟩
    by_cases hf : ((run es m c z t).length : Int) = m
    · have : (m - 1) * lng (st es m c z (t + 1)).1 es ≤ (m - 1) * lng (st es m c z t).1 es := Int.mul_le_mul_of_nonneg_left hsl.2 (by omega)
      omega
    · have hall := zhi (m := m) hz hu hp t (fun i hi hr => Classical.byContradiction fun hn => hf (pck_full (by omega) _ i hi hr hn))
      have : (m - 1) * lng (st es m c z (t + 1)).1 es ≤ (m - 1) * (lng (st es m c z t).1 es - 1) := Int.mul_le_mul_of_nonneg_left (by omega) (by omega)
      rw [Int.mul_sub, Int.mul_one] at this
      omega
theorem ends_by (hz : z.length = c.length) (hu : Up c.length es) (hp : Pos c) (hm : 1 ≤ m) : ∃ T : Nat, (T : Int) ≤ zcd c c.length ∧ Done es m c z T ∧ ∀ s, s < T → ¬ Done es m c z s := by
  have key : ∀ n : Nat, (∀ s, s < n → ¬ Done es m c z s) ∨ ∃ T : Nat, T < n ∧ Done es m c z T ∧ ∀ s, s < T → ¬ Done es m c z s := by
    intro n
    induction n with
    | zero => exact Or.inl fun s hs => by omega
    | succ n ih =>
      rcases ih with h | ⟨T, h1, h2, h3⟩
      · by_cases hd : Done es m c z n
        · exact Or.inr ⟨n, by omega, hd, h⟩
        · left
          intro s hs
          by_cases e : s = n
          · subst e; exact hd
          · exact h s (by omega)
      · exact Or.inr ⟨T, by omega, h2, h3⟩
  have h0 := zgq (m := m) hz hu hp 0
  have h0' : 0 ≤ zcd c c.length := h0.1
  rcases key ((zcd c c.length).toNat + 1) with h | ⟨T, h1, h2, h3⟩
  · have h1 := (graham hz hu hp hm _ h).2.2.2
    have h2 := (zgq (m := m) hz hu hp ((zcd c c.length).toNat + 1)).1
    omega
  · exact ⟨T, by omega, h2, h3⟩
end
end Go.Proofs.Ytebgfobjhlcopaa.Gra
namespace Go.Proofs.Ytebgfobjhlcopaa.Crit
open Go.RowKit Go.Proofs.Ytebgfobjhlcopaa.P Go.Proofs.Ytebgfobjhlcopaa.Base Go.Proofs.Ytebgfobjhlcopaa.Gen Go.Proofs.Ytebgfobjhlcopaa.Graph Go.Proofs.YtebgfobjhlcopaaW.PrintWords Go.Proofs.YtebgfobjhlcopaaW.PrintLast
def VL (c : List Int) (es : List (List Int)) : Int := if GV c es then vl c else -1
def CP (c : List Int) (es : List (List Int)) : Int := if GV c es then lng c es else -1
def MB (c : List Int) (es : List (List Int)) (m : Int) : Int := if GV c es ∧ 1 ≤ m ∧ m ≤ 5 then lng c es + (vl c - lng c es) / m else -1
theorem zhj {c : List Int} {es : List (List Int)} (h : GV c es) (n : Nat) (hn : n ≤ c.length) : 0 ≤ zcd c n ∧ zcd c n ≤ 8 * n := by
  induction n with
  | zero => simp [zcd]
  | succ n ih =>
    have h1 := ih (by omega)
    have h2 := zee h n (by omega)
    rw [zcd]; omega
theorem vl_bd {c : List Int} {es : List (List Int)} (h : GV c es) : 0 ≤ vl c ∧ vl c ≤ 64 := by
  rw [vl_eq]
  have := zhj h c.length (Nat.le_refl _)
  have := h.1
  omega
theorem EV_bd {c : List Int} {es : List (List Int)} (h : GV c es) (i : Nat) (hi : i < c.length) : 1 ≤ EV c es i ∧ EV c es i ≤ 64 := by
  have h1 := EV_ge c es i
  have h2 := zee h i hi
  have h3 := zhh (gv_up h) (zhe h) i hi
  have h4 := zhj h (i + 1) (by omega)
  have := h.1
  omega
theorem lng_bd {c : List Int} {es : List (List Int)} (h : GV c es) : 0 ≤ lng c es ∧ lng c es ≤ vl c := ⟨zd7 _ _, lng_le_vl (gv_up h) (zhe h)⟩
theorem zgr {c : List Int} {es : List (List Int)} (h : GV c es) : ∀ d i, i + d = c.length → Ev (fun k => zbl.l0 k c (zcd c i) (i : Int)) (vl c) := by
  intro d
  induction d with
  | zero =>
    intro i hi
    refine Ev.step (f := fun _ => some (vl c)) (fun k => ?_) (Ev.now _)
    simp only [zbl.l0]
    rw [if_neg (by omega), vl_eq]
    congr 2
  | succ d ih =>
    intro i hi
    have hc := h.1
    have h1 := zhj h i (by omega)
    have h2 := zee h i (by omega)
    refine Ev.step (fun k => ?_) (ih (i + 1) (by omega))
    simp only [zbl.l0]
    rw [if_pos (by omega), if_pos (by omega), w64 (x := zcd c i + rd c i) (by omega) (by omega), w64 (by omega) (by omega)]
    rfl
theorem spec_vol (c : List Int) (es : List (List Int)) : Ev (fun k => zbl.f k c es) (VL c es) := by
  unfold zbl.f
  refine Ev.bind (zh4 c es) ?_
  by_cases h : GV c es
  · simp only [decide_eq_true h, if_true]
    unfold VL; rw [if_pos h]
    exact zgr h c.length 0 (by omega)
  · simp only [decide_eq_false h]
    unfold VL; rw [if_neg h]
    exact Ev.now _
theorem impl_vol_f {c : List Int} {es : List (List Int)} (h : GV c es) : Ev (fun k => zbt.f k c) (vl c) := by
  have loop : ∀ d i, i + d = c.length → Ev (fun k => zbt.l0 k (zcd c i) c (c.length : Int) (i : Int)) (vl c) := by
    intro d
    induction d with
    | zero =>
      intro i hi
      refine Ev.step (f := fun _ => some (vl c)) (fun k => ?_) (Ev.now _)
      simp only [zbt.l0]
      rw [if_neg (by omega), vl_eq]
      congr 2
    | succ d ih =>
      intro i hi
      have hc := h.1
      have h1 := zhj h i (by omega)
      have h2 := zee h i (by omega)
      refine Ev.step (fun k => ?_) (ih (i + 1) (by omega))
      simp only [zbt.l0]
      rw [if_pos (by omega), if_pos (by omega), if_pos (by omega), w64 (x := zcd c i + rd c i) (by omega) (by omega), w64 (by omega) (by omega)]
      rfl
  exact loop c.length 0 (by omega)
theorem bst_drop (out : List Int) (b : Int) (es : List (List Int)) (j : Nat) (h : j < es.length) (t : Int) : bst out b (es.drop j) t = bst out b (es.drop (j + 1)) (stp out b t es[j]) := by
  rw [List.drop_eq_getElem_cons h]
  rfl
theorem spec_ends {c : List Int} {es : List (List Int)} (h : GV c es) : Ev (fun k => zbc.f k c es) (ends c es c.length) := by
  have hc := h.1
  have he := h.2.1
  have inner : ∀ (i : Nat), i < c.length → ∀ R, Ev (fun k => zbc.l0 k c es (ends c es (i + 1)) ((i : Int) + 1)) R → ∀ d j t, j + d = es.length → bst (ends c es i) (i : Int) (es.drop j) t = bst (ends c es i) (i : Int) es 0 → Ev (fun k => zbc.l1 k c es (ends c es i) (i : Int) t (j : Int)) R := by
    intro i hi R hR d
    have hb := EV_bd h i hi
    have hco := zee h i hi
    have heq := zft c es i
    induction d with
    | zero =>
      intro j t hj ht
      refine Ev.step (fun k => ?_) hR
      rw [List.drop_eq_nil_of_le (by omega)] at ht
      have ht : t = bst (ends c es i) (i : Int) es 0 := ht
      simp only [zbc.l1]
      rw [if_neg (by omega), if_pos (by omega), if_pos (by omega), if_pos (by rw [zdf]; omega), w64 (x := t + rd c i) (by omega) (by omega), w64 (by omega) (by omega), ht]
      rfl
    | succ d ih =>
      intro j t hj ht
      have hjl : j < es.length := by omega
      have hok := h.2.2.2 es[j] (List.getElem_mem hjl)
      unfold zda at hok
      rw [bst_drop _ _ _ _ hjl] at ht
      refine Ev.step (fun k => ?_) (ih (j + 1) _ (by omega) ht)
      simp only [zbc.l1]
      rw [if_pos (by omega), if_pos (by omega), zfk es j hjl, if_pos (by omega), w64 (x := (j : Int) + 1) (by omega) (by omega)]
      unfold stp
      by_cases hb : rd es[j] 1 = (i : Int)
      · rw [if_pos hb, if_pos hb, if_pos (by omega), if_pos (by omega), if_pos (by rw [zdf]; omega), mx_max]
        rfl
      · rw [if_neg hb, if_neg hb]
        rfl
  have outer : ∀ d i, i + d = c.length → Ev (fun k => zbc.l0 k c es (ends c es i) (i : Int)) (ends c es c.length) := by
    intro d
    induction d with
    | zero =>
      intro i hi
      obtain rfl : i = c.length := by omega
      refine Ev.step (f := fun _ => some (ends c es c.length)) (fun k => ?_) (Ev.now _)
      simp only [zbc.l0]
      rw [if_neg (by omega)]
    | succ d ih =>
      intro i hi
      refine Ev.step (fun k => ?_) (inner i (by omega) _ (ih (i + 1) (by omega)) es.length 0 0 (by omega) rfl)
      simp only [zbc.l0]
      rw [if_pos (by omega)]
      rfl
  exact outer c.length 0 (by omega)
theorem spec_cp (c : List Int) (es : List (List Int)) : Ev (fun k => zbb.f k c es) (CP c es) := by
  unfold zbb.f
  refine Ev.bind (zh4 c es) ?_
  by_cases h : GV c es
  · simp only [decide_eq_true h, if_true]
    unfold CP; rw [if_pos h]
    refine Ev.bind (spec_ends h) ?_
    have hl := zdf c es c.length
    have hc := h.1
    have loop : ∀ d i, i + d = c.length → Ev (fun k => zbb.l0 k (mxl ((ends c es c.length).take i) 0) (ends c es c.length) (i : Int)) (lng c es) := by
      intro d
      induction d with
      | zero =>
        intro i hi
        refine Ev.step (f := fun _ => some (lng c es)) (fun k => ?_) (Ev.now _)
        simp only [zbb.l0]
        rw [if_neg (by omega), List.take_of_length_le (by omega)]
        rfl
      | succ d ih =>
        intro i hi
        refine Ev.step (fun k => ?_) (ih (i + 1) (by omega))
        simp only [zbb.l0]
        rw [if_pos (by omega), if_pos (by omega), w64 (by omega) (by omega), mx_max, mxl_take _ _ (by omega), zdr _ i (by omega)]
        rfl
    exact loop c.length 0 (by omega)
  · simp only [decide_eq_false h]
    unfold CP; rw [if_neg h]
    exact Ev.now _
theorem rd_set_eq (l : List Int) (i : Nat) (x : Int) (h : i < l.length) : rd (l.set i x) (i : Int) = x := by
  rw [zdr _ i (by simpa using h)]
  simp
theorem zhk (l : List Int) (i a : Nat) (x : Int) (h : a ≠ i) : rd (l.set i x) (a : Int) = rd l (a : Int) := by
  unfold rd
  rw [List.getD_eq_getElem?_getD, List.getD_eq_getElem?_getD, Int.toNat_natCast, List.getElem?_set_ne (by omega)]
def Row (c : List Int) (es : List (List Int)) (i : Nat) (t : Int) (x : List Int) : Prop :=
  x.length = c.length ∧ (∀ a : Nat, a < i → rd x (a : Int) = EV c es a) ∧ rd x (i : Int) = t ∧ ∀ a : Nat, i < a → rd x (a : Int) = 0
theorem row_read {c : List Int} {es : List (List Int)} {i : Nat} {t : Int} {x : List Int} (h : Row c es i t x) {a : Nat} (ha : a < i) : rd x (a : Int) = rd (ends c es i) (a : Int) := by
  rw [h.2.1 a ha, zct c es i a ha]
theorem row_set {c : List Int} {es : List (List Int)} {i : Nat} {t : Int} {x : List Int} (h : Row c es i t x) (hi : i < c.length) (u : Int) : Row c es i u (x.set i u) := by
  refine ⟨by simpa using h.1, fun a ha => ?_, rd_set_eq _ _ _ (by rw [h.1]; exact hi), fun a ha => ?_⟩
  · rw [zhk _ _ _ _ (by omega)]; exact h.2.1 a ha
  · rw [zhk _ _ _ _ (by omega)]; exact h.2.2.2 a ha
theorem row_next {c : List Int} {es : List (List Int)} {i : Nat} {x : List Int} (h : Row c es i (EV c es i) x) : Row c es (i + 1) 0 x := by
  refine ⟨h.1, fun a ha => ?_, h.2.2.2 (i + 1) (by omega), fun a ha => h.2.2.2 a (by omega)⟩
  by_cases e : a = i
  · subst e; exact h.2.2.1
  · exact h.2.1 a (by omega)
theorem row_zero (c : List Int) (es : List (List Int)) : Row c es 0 0 (List.replicate c.length 0) := by
  have hz : ∀ a : Nat, rd (List.replicate c.length 0) (a : Int) = 0 := by
    intro a
    unfold rd
    rw [List.getD_eq_getElem?_getD, Int.toNat_natCast, List.getElem?_replicate]
    split <;> rfl
  exact ⟨by simp, fun a ha => by omega, hz 0, fun a _ => hz a⟩
theorem zfm {c : List Int} {es : List (List Int)} (h : GV c es) : Ev (fun k => zq.f k c es) (lng c es) := by
  have hc := h.1
  have he := h.2.1
  have hel := zdf c es c.length
  have inner : ∀ (i : Nat), i < c.length → ∀ R g, (∀ x, Row c es (i + 1) 0 x → Ev (fun k => zq.l0 k es x (max g (EV c es i)) c (c.length : Int) ((i : Int) + 1)) R) → ∀ d j t x, j + d = es.length → Row c es i t x → bst (ends c es i) (i : Int) (es.drop j) t = bst (ends c es i) (i : Int) es 0 → Ev (fun k => zq.l1 k es x g (i : Int) (rd c (i : Int)) c (c.length : Int) (i : Int) es (es.length : Int) (j : Int)) R := by
    intro i hi R g hR d
    have hb := EV_bd h i hi
    have hco := zee h i hi
    have heq := zft c es i
    induction d with
    | zero =>
      intro j t x hj hx ht
      rw [List.drop_eq_nil_of_le (by omega)] at ht
      have ht : t = bst (ends c es i) (i : Int) es 0 := ht
      have hx1 := hx.1
      have hx2 := hx.2.2.1
      have hn : Row c es i (EV c es i) (x.set i (EV c es i)) := row_set hx hi _
      refine Ev.step (fun k => ?_) (hR _ (row_next hn))
      simp only [zq.l1]
      rw [if_neg (by omega), if_pos (by omega), if_pos (by omega), Option.bind_some, hx2, w64 (x := t + rd c i) (by omega) (by omega), w64 (by omega) (by omega), show t + rd c (i : Int) = EV c es i by omega, Int.toNat_natCast, hn.2.2.1, mx_max]
    | succ d ih =>
      intro j t x hj hx ht
      have hjl : j < es.length := by omega
      have hok := h.2.2.2 es[j] (List.getElem_mem hjl)
      unfold zda at hok
      rw [bst_drop _ _ _ _ hjl] at ht
      have hx1 := hx.1
      by_cases hb : rd es[j] 1 = (i : Int)
      · have hx2 := hx.2.2.1
        obtain ⟨a, ha⟩ : ∃ a : Nat, rd es[j] 0 = (a : Int) := ⟨(rd es[j] 0).toNat, by omega⟩
        have e1 : stp (ends c es i) (i : Int) t es[j] = max t (rd x (a : Int)) := by
          unfold stp; rw [if_pos hb, ha, row_read hx (by omega)]
        rw [e1] at ht
        refine Ev.step (fun k => ?_) (ih (j + 1) _ _ (by omega) (row_set hx hi _) ht)
        simp only [zq.l1]
        rw [if_pos (by omega), if_pos (by omega), if_pos (by omega), zfk es j hjl, if_pos (by omega), w64 (x := (j : Int) + 1) (by omega) (by omega), if_pos hb, if_pos (by omega), if_pos (by omega), if_pos (by omega), if_pos (by omega), if_pos (by omega), hx2, mx_max, ha, Int.toNat_natCast]
        rfl
      · have e1 : stp (ends c es i) (i : Int) t es[j] = t := by
          unfold stp; rw [if_neg hb]
        rw [e1] at ht
        refine Ev.step (fun k => ?_) (ih (j + 1) _ _ (by omega) hx ht)
        simp only [zq.l1]
        rw [if_pos (by omega), if_pos (by omega), if_pos (by omega), zfk es j hjl, if_pos (by omega), w64 (x := (j : Int) + 1) (by omega) (by omega), if_neg hb]
        rfl
  have outer : ∀ d i x, i + d = c.length → Row c es i 0 x → Ev (fun k => zq.l0 k es x (mxl ((ends c es c.length).take i) 0) c (c.length : Int) (i : Int)) (lng c es) := by
    intro d
    induction d with
    | zero =>
      intro i x hi hx
      refine Ev.step (f := fun _ => some (lng c es)) (fun k => ?_) (Ev.now _)
      simp only [zq.l0]
      rw [if_neg (by omega), List.take_of_length_le (by omega)]
      rfl
    | succ d ih =>
      intro i x hi hx
      have hil : i < c.length := by omega
      refine Ev.step (fun k => ?_) (inner i hil _ (mxl ((ends c es c.length).take i) 0) (fun y hy => ?_) es.length 0 0 x (by omega) hx rfl)
      · simp only [zq.l0]
        rw [if_pos (by omega), if_pos (by omega), if_pos (by omega)]
        rfl
      · have := ih (i + 1) y (by omega) hy
        rw [mxl_take _ _ (by omega), ← zdr _ i (by omega), zct c es c.length i hil] at this
        exact this
  have := outer c.length 0 _ (by omega) (row_zero c es)
  refine Ev.congr (fun k => ?_) this
  unfold zq.f
  rw [if_pos (by omega), Int.toNat_natCast, if_pos (by omega)]
  rfl
theorem impl_cp (c : List Int) (es : List (List Int)) (hc : c.length ≤ 2097152) (he : es.length ≤ 2097152) : Ev (fun k => zb0.f k c es) (CP c es) := by
  unfold zb0.f
  refine Ev.bind (zh3 c es hc he) ?_
  by_cases h : GV c es
  · simp only [decide_eq_true h, if_true]
    unfold CP; rw [if_pos h]
    exact Ev.bind (zfm h) (Ev.now _)
  · simp only [decide_eq_false h]
    unfold CP; rw [if_neg h]
    exact Ev.now _
theorem mb_val {c : List Int} {es : List (List Int)} (h : GV c es) (m : Int) (hm : 1 ≤ m) : wrap64 (lng c es + wrap64 (Int.tdiv (wrap64 (vl c - lng c es)) m)) = lng c es + (vl c - lng c es) / m := by
  have h1 := lng_bd h
  have h2 := vl_bd h
  rw [w64 (x := vl c - lng c es) (by omega) (by omega), tdiv_pos (by omega)]
  have h3 := Int.ediv_nonneg (show 0 ≤ vl c - lng c es by omega) (show 0 ≤ m by omega)
  have h4 := Int.ediv_le_self m (show 0 ≤ vl c - lng c es by omega)
  rw [w64 (x := (vl c - lng c es) / m) (by omega) (by omega), w64 (by omega) (by omega)]
theorem spec_mb (c : List Int) (es : List (List Int)) (m : Int) : Ev (fun k => zy.f k c es m) (MB c es m) := by
  unfold zy.f
  refine Ev.bind (zh4 c es) ?_
  have bad : ¬ (GV c es ∧ 1 ≤ m ∧ m ≤ 5) → Ev (fun k => zy.j0 k c es m true) (MB c es m) := by
    intro h
    unfold MB; rw [if_neg h]
    exact Ev.step (f := fun _ => some (-1)) (fun k => by simp [zy.j0]) (Ev.now _)
  by_cases h : GV c es
  · simp only [decide_eq_true h, if_true, zfj, Option.bind_some]
    by_cases hm : 1 ≤ m ∧ m ≤ 5
    · rw [decide_eq_true hm]
      refine Ev.step (f := fun k => (zbb.f k c es).bind fun t889 => (zbl.f k c es).bind fun t890 => if m = 0 then none else some (wrap64 (t889 + wrap64 (Int.tdiv (wrap64 (t890 - t889)) m)))) (fun k => by simp [zy.j0]) ?_
      refine Ev.bind (spec_cp c es) (Ev.bind (spec_vol c es) ?_)
      have e1 : CP c es = lng c es := if_pos h
      have e2 : VL c es = vl c := if_pos h
      have e3 : MB c es m = lng c es + (vl c - lng c es) / m := if_pos ⟨h, hm⟩
      rw [e1, e2, e3, ← mb_val h m hm.1, if_neg (by omega)]
      exact Ev.now _
    · rw [decide_eq_false hm]
      exact bad (fun h' => hm h'.2)
  · simp only [decide_eq_false h]
    exact bad (fun h' => h h'.1)
theorem impl_mb (c : List Int) (es : List (List Int)) (m : Int) (hc : c.length ≤ 2097152) (he : es.length ≤ 2097152) : Ev (fun k => zu.f k c es m) (MB c es m) := by
  unfold zu.f
  refine Ev.bind (zh3 c es hc he) ?_
  have bad : ¬ (GV c es ∧ 1 ≤ m ∧ m ≤ 5) → Ev (fun k => zu.j0 k c es m true) (MB c es m) := by
    intro h
    unfold MB; rw [if_neg h]
    exact Ev.step (f := fun _ => some (-1)) (fun k => by simp [zu.j0]) (Ev.now _)
  by_cases h : GV c es
  · simp only [decide_eq_true h, if_true, zbx.f, in_f, Option.bind_some]
    by_cases hm : 1 ≤ m ∧ m ≤ 5
    · rw [decide_eq_true hm]
      refine Ev.step (f := fun k => (zq.f k c es).bind fun t889 => (zbt.f k c).bind fun t890 => if m = 0 then none else some (wrap64 (t889 + wrap64 (Int.tdiv (wrap64 (t890 - t889)) m)))) (fun k => by simp [zu.j0]) ?_
      refine Ev.bind (zfm h) (Ev.bind (impl_vol_f h) ?_)
      have e3 : MB c es m = lng c es + (vl c - lng c es) / m := if_pos ⟨h, hm⟩
      rw [e3, ← mb_val h m hm.1, if_neg (by omega)]
      exact Ev.now _
    · rw [decide_eq_false hm]
      exact bad (fun h' => hm h'.2)
  · simp only [decide_eq_false h]
    exact bad (fun h' => h h'.1)
end Go.Proofs.Ytebgfobjhlcopaa.Crit
namespace Go.Proofs.Ytebgfobjhlcopaa.Rg
open Go.RowKit Go.Proofs.Ytebgfobjhlcopaa.P Go.Proofs.Ytebgfobjhlcopaa.Base Go.Proofs.Ytebgfobjhlcopaa.Gen Go.Proofs.Ytebgfobjhlcopaa.Graph Go.Proofs.Ytebgfobjhlcopaa.Crit Go.Proofs.Ytebgfobjhlcopaa.Gra Go.Proofs.YtebgfobjhlcopaaW.PrintWords Go.Proofs.YtebgfobjhlcopaaW.PrintLast
theorem blk_eq (es : List (List Int)) (left : List Int) (i : Nat) : es.any (blkE left i) = blk es left (i : Int) := by
  unfold blk
  congr 1
  funext e
  unfold blkE
  by_cases h : rd e 1 = (i : Int)
  · rw [if_pos h, decide_eq_true h, Bool.true_and]
  · rw [if_neg h, decide_eq_false h, Bool.false_and]
theorem gpick_pck (es : List (List Int)) (left : List Int) (m : Int) : ∀ n, zb9 es left m n = pck es left m n := by
  intro n
  induction n with
  | zero => rfl
  | succ n ih =>
    rw [zb9, pck, ih, blk_eq]
    by_cases h1 : rd left (n : Int) > 0
    · rw [if_pos h1]
      cases hb : blk es left (n : Int) with
      | true =>
        rw [if_pos rfl, if_neg (fun hh => by have := hh.1; unfold rdy at this; rw [hb] at this; simp at this)]
      | false =>
        rw [if_neg (by simp)]
        have hr : rdy es left (n : Int) = true := by unfold rdy; rw [hb, decide_eq_true h1]; rfl
        by_cases h2 : ((pck es left m n).length : Int) < m
        · rw [if_pos h2, if_pos ⟨hr, h2⟩]
        · rw [if_neg h2, if_neg (fun hh => h2 hh.2)]
    · rw [if_neg h1, if_neg (fun hh => by have := hh.1; unfold rdy at this; rw [decide_eq_false h1] at this; simp at this)]
theorem rd_set_or (l : List Int) (i : Nat) (x a : Int) : rd (l.set i x) a = x ∨ rd (l.set i x) a = rd l a := by
  unfold rd
  rw [List.getD_eq_getElem?_getD, List.getD_eq_getElem?_getD, List.getElem?_set]
  split
  · split
    · exact Or.inl rfl
    · rename_i h1 h2
      right
      rw [← h1, List.getElem?_eq_none (by omega)]
  · exact Or.inr rfl
theorem fold_tick {now : Int} (hnow : wrap64 (now + 1) = now + 1) : ∀ (l : List Int) (p : List Int × List Int) (B : Int), (∀ a : Int, -B ≤ rd p.1 a ∧ rd p.1 a ≤ B) → B + l.length ≤ 1000 → l.foldl (zdu now) p = l.foldl (tick now) p := by
  intro l
  induction l with
  | nil => intro p B _ _; rw [List.foldl_nil, List.foldl_nil]
  | cons x l ih =>
    intro p B hB hl
    rw [List.length_cons] at hl
    have hx := hB x
    have e : zdu now p x = tick now p x := by
      unfold zdu tick
      rw [hnow, w64 (x := rd p.1 x - 1) (by omega) (by omega)]
    rw [List.foldl_cons, List.foldl_cons, e]
    refine ih _ (B + 1) (fun a => ?_) (by omega)
    unfold tick
    simp only
    have ha := hB a
    have hor := rd_set_or p.1 x.toNat (rd p.1 x - 1) a
    generalize rd (p.1.set x.toNat (rd p.1 x - 1)) a = y at hor ⊢
    generalize rd p.1 x = u at hx hor
    generalize rd p.1 a = v at ha hor
    omega
theorem zfn (l : List Int) (x : Int) (hl : l.length ≤ 1000000) : Ev (fun k => zbe.f k l x) (decide (x ∈ l)) := by
  have idx : ∀ d i : Nat, i + d = l.length → (∀ y ∈ l.take i, x ≠ y) → ∃ r : Int, Ev (fun k => zn.l0 k l x (l.length : Int) (i : Int)) r ∧ (r ≥ 0 ↔ x ∈ l) := by
    intro d
    induction d with
    | zero =>
      intro i hi hn
      obtain rfl : i = l.length := by omega
      rw [List.take_length] at hn
      refine ⟨-1, Ev.step (f := fun _ => some (-1)) (fun k => ?_) (Ev.now _), ⟨fun h => by omega, fun h => absurd rfl (hn x h)⟩⟩
      simp only [zn.l0]
      rw [if_neg (by omega)]
    | succ d ih =>
      intro i hi hn
      have hil : i < l.length := by omega
      by_cases e : x = l[i]
      · refine ⟨(i : Int), Ev.step (f := fun _ => some (i : Int)) (fun k => ?_) (Ev.now _), ⟨fun _ => e ▸ List.getElem_mem hil, fun _ => by omega⟩⟩
        simp only [zn.l0]
        rw [if_pos (by omega), if_pos (by omega), if_pos (by omega), zdr _ _ hil, if_pos e]
      · obtain ⟨r, h1, h2⟩ := ih (i + 1) (by omega) (fun y hy => by
          rw [List.take_succ_eq_append_getElem hil] at hy
          rcases List.mem_append.1 hy with h | h
          · exact hn y h
          · rw [List.mem_singleton.1 h]; exact e)
        refine ⟨r, Ev.step (fun k => ?_) h1, h2⟩
        simp only [zn.l0]
        rw [if_pos (by omega), if_pos (by omega), if_pos (by omega), zdr _ _ hil, if_neg e, w64 (by omega) (by omega)]
        rfl
  obtain ⟨r, h1, h2⟩ := idx l.length 0 (by omega) (fun y hy => by simp at hy)
  unfold zbe.f zn.f
  have h3 : decide (x ∈ l) = decide (r ≥ 0) := decide_eq_decide.2 h2.symm
  rw [h3]
  exact Ev.bind h1 (Ev.now _)
section
variable {es : List (List Int)} {m : Int} {c : List Int}
def zz (c : List Int) : List Int := List.replicate c.length (-1)
theorem zc3 (c : List Int) : (zz c).length = c.length := by unfold zz; rw [List.length_replicate]
theorem le_c (t i : Nat) (hi : i < c.length) : rd (st es m c (zz c) t).1 (i : Int) ≤ rd c (i : Int) := by
  induction t with
  | zero => exact Int.le_refl _
  | succ t ih =>
    rw [(st_rd (es := es) (m := m) (zc3 c) t i hi).1]
    split <;> omega
theorem fin_rel (hp : Pos c) (t i : Nat) (hi : i < c.length) : (0 < rd (st es m c (zz c) t).1 (i : Int) ∧ rd (st es m c (zz c) t).2 (i : Int) = -1) ∨ (rd (st es m c (zz c) t).1 (i : Int) = 0 ∧ 0 ≤ rd (st es m c (zz c) t).2 (i : Int)) := by
  induction t with
  | zero =>
    left
    refine ⟨by have := hp i hi; show 0 < rd c (i : Int); omega, ?_⟩
    show rd (zz c) (i : Int) = -1
    rw [zdr _ i (by rw [zc3]; exact hi)]
    unfold zz
    rw [List.getElem_replicate]
  | succ t ih =>
    have h := st_rd (es := es) (m := m) (zc3 c) t i hi
    have hs := (zgp (es := es) (m := m) (zc3 c) t).run i (by rw [(zdg (es := es) (m := m) (zc3 c) t).1]; exact hi)
    rw [h.1, h.2]
    by_cases hm : (i : Int) ∈ run es m c (zz c) t
    · have hl := (zc5.1 (hs hm).2).1
      rw [if_pos hm]
      by_cases hz : rd (st es m c (zz c) t).1 (i : Int) - 1 = 0
      · rw [if_pos ⟨hm, hz⟩]
        right; omega
      · rw [if_neg (fun hh => hz hh.2)]
        left
        rcases ih with ⟨_, h2⟩ | ⟨h1, _⟩
        · exact ⟨by omega, h2⟩
        · omega
    · rw [if_neg hm, if_neg (fun hh => hm hh.1), Int.sub_zero]
      exact ih
theorem has_none (hp : Pos c) (t : Nat) : (-1 ∈ (st es m c (zz c) t).2) ↔ ¬ Done es m c (zz c) t := by
  have hl := (zdg (es := es) (m := m) (zc3 c) t).2
  constructor
  · intro h hd
    obtain ⟨i, hi, e⟩ := List.getElem_of_mem h
    have h1 := hd i (by omega)
    have h2 := fin_rel (es := es) (m := m) hp t i (by omega)
    rw [zdr _ i hi, e] at h2
    omega
  · intro h
    refine Classical.byContradiction fun hn => h (fun i hi => ?_)
    rcases fin_rel (es := es) (m := m) hp t i hi with ⟨_, h2⟩ | ⟨h1, _⟩
    · exact absurd (by rw [← h2, zdr _ i (by omega)]; exact List.getElem_mem _) hn
    · exact h1
theorem all_bd {l : List Int} {B : Int} (hB : 0 ≤ B) (h : ∀ i : Nat, i < l.length → 0 ≤ rd l (i : Int) ∧ rd l (i : Int) ≤ B) (a : Int) : -B ≤ rd l a ∧ rd l a ≤ B := by
  have e : rd l a = rd l ((a.toNat : Nat) : Int) := by unfold rd; rw [Int.toNat_natCast]
  rw [e]
  rcases Nat.lt_or_ge a.toNat l.length with h1 | h1
  · have := h _ h1; omega
  · have : rd l ((a.toNat : Nat) : Int) = 0 := by
      unfold rd
      rw [List.getD_eq_getElem?_getD, Int.toNat_natCast, List.getElem?_eq_none h1]
      rfl
    omega
theorem rg_l0 (h : GV c es) {T : Nat} (hT : T ≤ 64) (hd : Done es m c (zz c) T) (hn : ∀ s, s < T → ¬ Done es m c (zz c) s) : ∀ d t : Nat, t + d = T →
    Ev (fun k => zbd.l0 c es m k (t : Int) (st es m c (zz c) t).1 (st es m c (zz c) t).2 ((List.range t).map (run es m c (zz c)))) ((List.range T).map (run es m c (zz c)), (st es m c (zz c) T).2) := by
  have hu := gv_up h
  have hp := zhe h
  have h8 := h.1
  intro d
  induction d with
  | zero =>
    intro t ht
    obtain rfl : t = T := by omega
    have hl := (zdg (es := es) (m := m) (zc3 c) t).2
    have hc := zfn (st es m c (zz c) t).2 (-1) (by omega)
    rw [decide_eq_false (fun hh => (has_none (es := es) (m := m) hp t).1 hh hd)] at hc
    refine Ev.step (f := fun k => (zbe.f k (st es m c (zz c) t).2 (-1)).bind fun b => (if b = true then (if ((List.range t).map (run es m c (zz c))).length < 1000000 then (zbd.l0 c es m k (wrap64 ((t : Int) + 1)) ((zb9 es (st es m c (zz c) t).1 m c.length).foldl (zdu (t : Int)) ((st es m c (zz c) t).1, (st es m c (zz c) t).2)).1 ((zb9 es (st es m c (zz c) t).1 m c.length).foldl (zdu (t : Int)) ((st es m c (zz c) t).1, (st es m c (zz c) t).2)).2 ((List.range t).map (run es m c (zz c)) ++ [zb9 es (st es m c (zz c) t).1 m c.length])) else (none)) else (some ((List.range t).map (run es m c (zz c)), (st es m c (zz c) t).2)))) (fun k => by rw [zbd.l0]) ?_
    exact Ev.bind hc (Ev.step (fun k => by rw [if_neg (by simp)]) (Ev.now _))
  | succ d ih =>
    intro t ht
    have hl := (zdg (es := es) (m := m) (zc3 c) t).2
    have hl1 := (zdg (es := es) (m := m) (zc3 c) t).1
    have hc := zfn (st es m c (zz c) t).2 (-1) (by omega)
    rw [decide_eq_true ((has_none (es := es) (m := m) hp t).2 (hn t (by omega)))] at hc
    have hw : wrap64 ((t : Int) + 1) = (t : Int) + 1 := w64 (by omega) (by omega)
    have hpl := pck_le (es := es) (left := (st es m c (zz c) t).1) (m := m) c.length
    have hft := fold_tick hw (pck es (st es m c (zz c) t).1 m c.length) (st es m c (zz c) t) 8 (all_bd (by omega) (fun i hi => by
      have h1 := (zev (m := m) (zc3 c) hu hp t).nn i hi
      have h2 := le_c (es := es) (m := m) (c := c) t i (by omega)
      have h3 := (zee h i (by omega)).2
      exact ⟨h1, Int.le_trans h2 h3⟩)) (by omega)
    have e : (pck es (st es m c (zz c) t).1 m c.length).foldl (zdu (t : Int)) ((st es m c (zz c) t).1, (st es m c (zz c) t).2) = st es m c (zz c) (t + 1) := hft
    have IH := ih (t + 1) (by omega)
    have hr : (List.range (t + 1)).map (run es m c (zz c)) = (List.range t).map (run es m c (zz c)) ++ [pck es (st es m c (zz c) t).1 m c.length] := by rw [List.range_succ, List.map_append]; rfl
    rw [hr] at IH
    refine Ev.step (f := fun k => (zbe.f k (st es m c (zz c) t).2 (-1)).bind fun b => (if b = true then (if ((List.range t).map (run es m c (zz c))).length < 1000000 then (zbd.l0 c es m k (((t + 1 : Nat) : Int)) (st es m c (zz c) (t + 1)).1 (st es m c (zz c) (t + 1)).2 ((List.range t).map (run es m c (zz c)) ++ [pck es (st es m c (zz c) t).1 m c.length])) else (none)) else (some ((List.range t).map (run es m c (zz c)), (st es m c (zz c) t).2)))) (fun k => by rw [zbd.l0, gpick_pck, e, hw]; rfl) ?_
    refine Ev.bind hc ?_
    exact Ev.congr (fun k => by rw [if_pos rfl, if_pos (by rw [List.length_map, List.length_range]; omega)]) IH
open Classical in
noncomputable def TT (es : List (List Int)) (m : Int) (c : List Int) : Nat := if h : ∃ T : Nat, Done es m c (zz c) T ∧ ∀ s, s < T → ¬ Done es m c (zz c) s then h.choose else 0
theorem TT_is (h : GV c es) (hm : 1 ≤ m) : (TT es m c : Int) ≤ zcd c c.length ∧ Done es m c (zz c) (TT es m c) ∧ ∀ s, s < TT es m c → ¬ Done es m c (zz c) s := by
  obtain ⟨T, h1, h2, h3⟩ := ends_by (m := m) (zc3 c) (gv_up h) (zhe h) hm
  have hx : ∃ T : Nat, Done es m c (zz c) T ∧ ∀ s, s < T → ¬ Done es m c (zz c) s := ⟨T, h2, h3⟩
  have e : TT es m c = hx.choose := by unfold TT; rw [dif_pos hx]
  have hs := hx.choose_spec
  rw [← e] at hs
  have eT : TT es m c = T := by
    rcases Nat.lt_trichotomy (TT es m c) T with h4 | h4 | h4
    · exact absurd hs.1 (h3 _ h4)
    · exact h4
    · exact absurd h2 (hs.2 _ h4)
  exact ⟨by rw [eT]; exact h1, hs⟩
noncomputable def RG (c : List Int) (es : List (List Int)) (m : Int) : List (List Int) × List Int := if GV c es ∧ 1 ≤ m ∧ m ≤ 5 then ((List.range (TT es m c)).map (run es m c (zz c)), (st es m c (zz c) (TT es m c)).2) else ([], [])
theorem cores_f (m : Int) : zbx.f m = some (decide (1 ≤ m ∧ m ≤ 5)) := by
  unfold zbx.f
  rw [in_f]
  rfl
theorem impl_rg (c : List Int) (es : List (List Int)) (m : Int) (hc : c.length ≤ 2097152) (he : es.length ≤ 2097152) : Ev (fun k => zbd.f k c es m) (RG c es m) := by
  unfold zbd.f RG
  refine Ev.bind (zh3 c es hc he) ?_
  by_cases h : GV c es
  · rw [decide_eq_true h, cores_f]
    by_cases hm : 1 ≤ m ∧ m ≤ 5
    · rw [if_pos ⟨h, hm⟩]
      obtain ⟨h1, h2, h3⟩ := TT_is h hm.1
      have hb := zhj h c.length (Nat.le_refl _)
      have h8 := h.1
      refine Ev.congr (fun k => ?_) (rg_l0 h (T := TT es m c) (by omega) h2 h3 (TT es m c) 0 (by omega))
      rw [if_pos rfl, decide_eq_true hm]
      simp only [Option.bind_some]
      rw [if_pos trivial, if_pos ⟨by omega, fun e hh => by have hE := h.2.2.2 e hh; exact ⟨hE.1, hE.2.1, by have := hE.2.2; omega⟩⟩]
      rfl
    · rw [if_neg (fun hh => hm hh.2)]
      refine Ev.congr (fun k => ?_) (Ev.now _)
      rw [if_pos rfl, decide_eq_false hm]
      rfl
  · rw [decide_eq_false h, if_neg (show ¬ (GV c es ∧ 1 ≤ m ∧ m ≤ 5) from fun hh => h hh.1)]
    exact Ev.congr (fun k => by rw [if_neg (by simp)]) (Ev.now _)
end
end Go.Proofs.Ytebgfobjhlcopaa.Rg
namespace Go.Proofs.Ytebgfobjhlcopaa.Wide
open Go.RowKit Go.Proofs.Ytebgfobjhlcopaa.P Go.Proofs.Ytebgfobjhlcopaa.Base Go.Proofs.Ytebgfobjhlcopaa.Gen Go.Proofs.Ytebgfobjhlcopaa.Graph Go.Proofs.Ytebgfobjhlcopaa.Crit Go.Proofs.Ytebgfobjhlcopaa.Gra Go.Proofs.Ytebgfobjhlcopaa.Rg Go.Proofs.YtebgfobjhlcopaaW.PrintWords Go.Proofs.YtebgfobjhlcopaaW.PrintLast
theorem div_more {x m : Int} (hx : 0 ≤ x) (hm : 1 ≤ m) : x / (m + 1) ≤ x / m := by
  have h1 := Int.ediv_mul_le x (show m + 1 ≠ 0 by omega)
  have h2 := Int.ediv_nonneg hx (show 0 ≤ m + 1 by omega)
  apply Int.le_ediv_of_mul_le (by omega)
  have h3 : x / (m + 1) * (m + 1) = x / (m + 1) * m + x / (m + 1) := by rw [Int.mul_add, Int.mul_one]
  omega
theorem lng_pos {es : List (List Int)} {m : Int} {c : List Int} (hu : Up c.length es) (hp : Pos c) (t : Nat) (h : ¬ Done es m c (zz c) t) : 1 ≤ lng (st es m c (zz c) t).1 es := by
  refine Classical.byContradiction fun hc => h (fun i hi => ?_)
  have hl := zdg (es := es) (m := m) (zc3 c) t
  have h6 := EV_ge (st es m c (zz c) t).1 es i
  have h7 := zhf (st es m c (zz c) t).1 es i (by omega)
  have h8 := (zev (m := m) (zc3 c) hu hp t).nn i (by omega)
  omega
theorem wide {es : List (List Int)} {m : Int} {c : List Int} (h : GV c es) (hm : 1 ≤ m) (hw : (c.length : Int) ≤ m) : (TT es m c : Int) = lng c es := by
  have hu := gv_up h
  have hp := zhe h
  obtain ⟨_, h2, h3⟩ := TT_is h hm
  have up : ∀ t : Nat, t ≤ TT es m c → lng (st es m c (zz c) t).1 es + t ≤ lng c es := by
    intro t
    induction t with
    | zero => intro _; show lng c es + ((0 : Nat) : Int) ≤ lng c es; omega
    | succ t ih =>
      intro ht
      have h4 := lng_pos hu hp t (h3 t (by omega))
      have h5 := zhi (m := m) (zc3 c) hu hp t (fun i hi hr => pck_all c.length hw c.length (Nat.le_refl _) i hi hr)
      have h6 := ih (by omega)
      push_cast
      omega
  have h7 := up (TT es m c) (Nat.le_refl _)
  have h8 := lng_zero (m := m) (zc3 c) hu hp (TT es m c) h2
  have h9 := (graham (m := m) (zc3 c) hu hp hm (TT es m c) (fun s hs => h3 s hs)).2.1
  omega
end Go.Proofs.Ytebgfobjhlcopaa.Wide
namespace Go.Proofs.Ytebgfobjhlcopaa.Alive
open Go.RowKit Go.Proofs.Ytebgfobjhlcopaa.P Go.Proofs.Ytebgfobjhlcopaa.Base Go.Proofs.YtebgfobjhlcopaaW.PrintWords Go.Proofs.YtebgfobjhlcopaaW.PrintLast
def TV (c d p : Int) : Prop := 1 ≤ c ∧ c ≤ 8 ∧ c ≤ d ∧ d ≤ p ∧ p ≤ 12
instance (c d p : Int) : Decidable (TV c d p) := by unfold TV; infer_instance
theorem task_f (c d p : Int) : zcb.f c d p = some (decide (TV c d p)) := by
  unfold zcb.f
  rw [in_f, in_f, zcs, zcs]
  by_cases h1 : 1 ≤ c ∧ c ≤ 8
  · by_cases h2 : c ≤ d ∧ d ≤ p
    · rw [if_pos h1, if_pos h2]; congr 1; rw [decide_eq_decide]; unfold TV; omega
    · rw [if_pos h1, if_neg h2]; congr 1; symm; rw [decide_eq_false_iff_not]; unfold TV; omega
  · rw [if_neg h1]; congr 1; symm; rw [decide_eq_false_iff_not]; unfold TV; omega
theorem alive_f : zcj.f = some true := by
  unfold zcj.f
  rw [task_f]; rfl
end Go.Proofs.Ytebgfobjhlcopaa.Alive
namespace Go.Proofs.Ytebgfobjhlcopaa.Pb
open Go.RowKit Go.Proofs.Ytebgfobjhlcopaa.P Go.Proofs.Ytebgfobjhlcopaa.Gen Go.Proofs.Ytebgfobjhlcopaa.Base Go.Proofs.YtebgfobjhlcopaaW.PrintWords Go.Proofs.YtebgfobjhlcopaaW.PrintLast
theorem xor_ok (x y : Int) (hx : 0 ≤ x) (hx1 : x < 4611686018427387904) (hy : 0 ≤ y) (hy1 : y < 4611686018427387904) : 0 ≤ Go.bits .xor .i64 x y := by
  obtain ⟨a, rfl⟩ := Int.eq_ofNat_of_zero_le hx
  obtain ⟨b, rfl⟩ := Int.eq_ofNat_of_zero_le hy
  have ha : a < 2 ^ 62 := by have e : (2 : Nat) ^ 62 = 4611686018427387904 := by decide
                             omega
  have hb : b < 2 ^ 62 := by have e : (2 : Nat) ^ 62 = 4611686018427387904 := by decide
                             omega
  have ha' : a % 2 ^ 64 = a := Nat.mod_eq_of_lt (by omega)
  have hb' : b % 2 ^ 64 = b := Nat.mod_eq_of_lt (by omega)
  have hx := Nat.xor_lt_two_pow ha hb
  simp only [Go.bits]
  rw [show IntKind.i64.bits = 64 from rfl]
  rw [BitVec.toNat_xor, BitVec.ofInt_natCast, BitVec.ofInt_natCast, BitVec.toNat_ofNat, BitVec.toNat_ofNat, ha', hb', IntKind.wrap_i64]
  have e : (2 : Nat) ^ 62 = 4611686018427387904 := by decide
  omega
def Bytes (s : List Int) : Prop := s.length ≤ 2000 ∧ ∀ x ∈ s, 0 ≤ x ∧ x ≤ 255
theorem Bytes.rd {s : List Int} (h : Bytes s) (i : Int) : 0 ≤ rd s i ∧ rd s i ≤ 255 := by
  unfold Go.Proofs.YtebgfobjhlcopaaW.PrintWords.rd
  rw [List.getD_eq_getElem?_getD]
  rcases Nat.lt_or_ge i.toNat s.length with hi | hi
  · rw [List.getElem?_eq_getElem hi]
    exact h.2 _ (List.getElem_mem hi)
  · rw [List.getElem?_eq_none hi]
    simp
theorem u8_wf {x : Int} (h : (Lit.int .u8 x).wf = true) : 0 ≤ x ∧ x ≤ 255 := by
  simp [Lit.wf, IntKind.min, IntKind.max, IntKind.bits, IntKind.signed] at h
  omega
theorem zgs (a n : Int) (ha : 0 ≤ a) (hn : 1 ≤ n) : 0 ≤ Int.tmod a n ∧ Int.tmod a n < n := by
  rw [Int.tmod_eq_emod_of_nonneg ha]
  exact ⟨Int.emod_nonneg _ (by omega), Int.emod_lt_of_pos _ (by omega)⟩
theorem tdiv_ok (a n : Int) (ha : 0 ≤ a) (hn : 1 ≤ n) : 0 ≤ Int.tdiv a n ∧ Int.tdiv a n ≤ a := by
  rw [Int.tdiv_eq_ediv_of_nonneg ha]
  exact ⟨Int.ediv_nonneg ha (by omega), Int.ediv_le_self _ ha⟩
theorem pick_at (k : Nat) (s : List Int) (p n : Int) (hs : Bytes s) (hp : 0 ≤ p) (hp2 : p ≤ 1000000000) :
    ∃ r, zb.f (k + 1) s p n = some (r, p + 1) ∧ 0 ≤ r ∧ (1 ≤ n → r < n) := by
  unfold zb.f
  rw [w64 (x := p + 1) (by omega) (by omega)]
  by_cases hn : n < 1
  · rw [if_pos hn]
    exact ⟨0, by simp [zb.j0], Int.le_refl _, fun h => by omega⟩
  · rw [if_neg hn]
    by_cases h0 : (s.length : Int) = 0
    · refine ⟨0, ?_, Int.le_refl _, fun h => by omega⟩
      simp only [zb.j0]
      rw [if_pos (by simpa using h0)]
    · simp only [zb.j0]
      rw [if_neg (by simpa using h0)]
      have hl := hs.1
      rw [w64 (x := p + 1 - 1) (by omega) (by omega), show p + 1 - 1 = p by omega]
      by_cases h1 : p < (s.length : Int)
      · have hb := hs.rd p
        rw [if_pos h1, if_pos hp, if_neg (by omega), w64 (x := rd s p) (by omega) (by omega)]
        have ht := zgs (rd s p) n hb.1 (by omega)
        exact ⟨_, rfl, ht.1, fun _ => ht.2⟩
      · rw [if_neg h1, if_neg h0]
        have m0 := zgs p (s.length : Int) hp (by omega)
        rw [if_pos m0.1, if_pos m0.2]
        rw [w64 (x := p * 7) (by omega) (by omega), w64 (x := p * 7 + 3) (by omega) (by omega)]
        have m1 := zgs (p * 7 + 3) (s.length : Int) (by omega) (by omega)
        rw [if_pos m1.1, if_pos m1.2, if_neg (by omega)]
        have b0 := hs.rd (Int.tmod p (s.length : Int))
        have b1 := hs.rd (Int.tmod (p * 7 + 3) (s.length : Int))
        have d0 := tdiv_ok p (s.length : Int) hp (by omega)
        generalize rd s (Int.tmod p (s.length : Int)) = x at b0 ⊢
        generalize rd s (Int.tmod (p * 7 + 3) (s.length : Int)) = y at b1 ⊢
        generalize Int.tdiv p (s.length : Int) = q at d0 ⊢
        rw [w64 (x := x) (by omega) (by omega), w64 (x := y) (by omega) (by omega), w64 (x := q) (by omega) (by omega)]
        rw [w64 (x := x * 131) (by omega) (by omega), w64 (x := y * 1117) (by omega) (by omega), w64 (x := p * 29) (by omega) (by omega), w64 (x := q * 53) (by omega) (by omega)]
        rw [w64 (x := x * 131 + y * 1117) (by omega) (by omega), w64 (x := x * 131 + y * 1117 + p * 29) (by omega) (by omega), w64 (x := x * 131 + y * 1117 + p * 29 + q * 53) (by omega) (by omega)]
        have e0 := tdiv_ok (x * 131 + y * 1117 + p * 29 + q * 53) 64 (by omega) (by omega)
        rw [w64 (x := Int.tdiv (x * 131 + y * 1117 + p * 29 + q * 53) 64) (by omega) (by omega)]
        have hx := xor_ok (x * 131 + y * 1117 + p * 29 + q * 53) (Int.tdiv (x * 131 + y * 1117 + p * 29 + q * 53) 64) (by omega) (by omega) e0.1 (by omega)
        have ht := zgs _ n hx (by omega)
        exact ⟨_, rfl, ht.1, fun _ => ht.2⟩
theorem open_at (l : List Int) (hl : ∀ x ∈ l, (Lit.int .u8 x).wf = true) : ∃ s, zcg.f l = some (s, 0) ∧ Bytes s := by
  unfold zcg.f
  by_cases h : (l.length : Int) > 2000
  · rw [if_pos h, if_pos (by omega)]
    exact ⟨_, rfl, by rw [List.length_take]; omega, fun x hx => u8_wf (hl x (List.mem_of_mem_take hx))⟩
  · rw [if_neg h]
    exact ⟨_, rfl, by omega, fun x hx => u8_wf (hl x hx)⟩
theorem zcy (s : List Int) (p n : Int) (hs : Bytes s) (hp : 0 ≤ p) (hp2 : p ≤ 1000000000) : Tot (fun k => zb.f k s p n) (fun r => r.2 = p + 1 ∧ 0 ≤ r.1 ∧ (1 ≤ n → r.1 < n)) := by
  obtain ⟨r, hr, h0, h1⟩ := pick_at 0 s p n hs hp hp2
  refine ⟨(r, p + 1), ⟨1, fun k hk => ?_⟩, rfl, h0, h1⟩
  obtain ⟨j, rfl⟩ : ∃ j, k = j + 1 := ⟨k - 1, by omega⟩
  obtain ⟨r', hr', h0', h1'⟩ := pick_at j s p n hs hp hp2
  have hm := zgv (g := fun k => zb.f k s p n) (fun k => zb.mono _ _ _ k) (show 1 ≤ j + 1 by omega) hr
  exact hm
theorem odd_tot (s : List Int) (p n : Int) (hs : Bytes s) (hp : 0 ≤ p) (hp2 : p ≤ 1000000000) : Tot (fun k => zbk.f k s p n) (fun r => p ≤ r.2 ∧ r.2 ≤ p + 1) := by
  unfold zbk.f
  refine Tot.ite (fun _ => ?_) (fun _ => Tot.ret _ ⟨Int.le_refl _, by omega⟩)
  refine Tot.bind (zcy s p n hs hp hp2) ?_
  rintro ⟨a, q⟩ ⟨rfl, _, _⟩
  exact Tot.ret _ ⟨by show p ≤ p + 1; omega, Int.le_refl _⟩
theorem open_tot {β : Type} {Q : β → Prop} (l : List Int) (hl : ∀ x ∈ l, (Lit.int .u8 x).wf = true) {f : Nat → List Int × Int → Option β} (hf : ∀ s, Bytes s → Tot (fun k => f k (s, 0)) Q) : Tot (fun k => (zcg.f l).bind (f k)) Q := by
  obtain ⟨s, hs, hb⟩ := open_at l hl
  exact Tot.bind0 hs (hf s hb)
theorem zhl {α β : Type} {Q : β → Prop} (a : α) {f : Nat → α → Option β} (h : Tot (fun k => f k a) Q) : Tot (fun k => (some a).bind (f k)) Q := h
end Go.Proofs.Ytebgfobjhlcopaa.Pb
namespace Go.Proofs.Ytebgfobjhlcopaa.DrGraph
open Go.RowKit Go.Proofs.Ytebgfobjhlcopaa.P Go.Proofs.Ytebgfobjhlcopaa.Base Go.Proofs.Ytebgfobjhlcopaa.Gen Go.Proofs.Ytebgfobjhlcopaa.Pb Go.Proofs.YtebgfobjhlcopaaW.PrintWords Go.Proofs.YtebgfobjhlcopaaW.PrintLast
def Short (r : List Int × List (List Int) × Int) : Prop := r.1.length ≤ 20 ∧ r.2.1.length ≤ 20 ∧ 0 ≤ r.2.2 ∧ r.2.2 ≤ 1000000
theorem graph_tot (s : List Int) (p n : Int) (hs : Bytes s) (hp : 0 ≤ p) (hp2 : p ≤ 100000) : Tot (fun k => zt.f k s p n) Short := by
  have last : ∀ (c : List Int) (es : List (List Int)) (x9 q : Int), c.length ≤ 8 → es.length ≤ 9 → 0 ≤ q → q ≤ 900000 → Tot (fun k => zt.j2 k n c es x9 false s q) Short := by
    intro c es x9 q h1 h2 h3 h4
    refine Tot.step (fun k => by rw [zt.j2]) (Tot.no (by simp) ?_)
    refine Tot.bind (odd_tot s q n hs h3 (by omega)) ?_
    rintro ⟨a, q2⟩ ⟨h5, h6⟩
    simp only at h5 h6 ⊢
    refine Tot.ite (fun _ => ?_) (fun _ => Tot.ret _ ⟨by simp; omega, by simp; omega, by simp; omega, by simp; omega⟩)
    refine Tot.bind (zcy s q2 4 hs (by omega) (by omega)) ?_
    rintro ⟨b, q3⟩ ⟨h7, h8, h9⟩
    simp only at h7 h8 h9 ⊢; subst h7
    refine Tot.ite (fun _ => ?_) (fun _ => ?_)
    · refine zhl _ ?_
      refine Tot.bind (zcy s (q2 + 1) 2 hs (by omega) (by omega)) ?_
      rintro ⟨d, q4⟩ ⟨h10, h11, h12⟩
      simp only at h10 h11 h12 ⊢; subst h10
      have h12 := h12 (by omega)
      refine Tot.yes h11 (Tot.yes (by simp; omega) (Tot.yes (by omega) (Tot.ret _ ⟨by simp; omega, by simp; omega, by simp; omega, by simp; omega⟩)))
    · refine Tot.ite (fun _ => Tot.yes (by omega) (Tot.ret _ ⟨by simp; omega, by simp; omega, by simp; omega, by simp; omega⟩)) (fun _ => ?_)
      refine Tot.ite (fun _ => Tot.yes (by omega) (Tot.ret _ ⟨by simp; omega, by simp; omega, by simp; omega, by simp; omega⟩)) (fun _ => ?_)
      exact Tot.yes (by omega) (Tot.ret _ ⟨by simp; omega, by simp; omega, by simp; omega, by simp; omega⟩)
  have edges : ∀ (c : List Int), c.length ≤ 8 → ∀ (d : Nat) (x9 : Int) (es : List (List Int)) (q : Int), x9 = d → (es.length : Int) + x9 ≤ 9 → 0 ≤ q → q + 2 * x9 ≤ 800000 → Tot (fun k => zt.l1 k n c es x9 s q) Short := by
    intro c hc d
    induction d with
    | zero =>
      intro x9 es q h1 h2 h3 h4
      exact Tot.step (fun k => by rw [zt.l1]) (Tot.no (by omega) (last c es x9 q hc (by omega) h3 (by omega)))
    | succ d ih =>
      intro x9 es q h1 h2 h3 h4
      refine Tot.step (fun k => by rw [zt.l1]) (Tot.yes (by omega) ?_)
      by_cases hl : (c.length : Int) > 1
      · rw [decide_eq_true hl]
        refine Tot.step (fun k => by rw [zt.j2]) (Tot.yes rfl ?_)
        rw [w64 (x := (c.length : Int) - 1) (by omega) (by omega)]
        refine Tot.bind (zcy s q _ hs h3 (by omega)) ?_
        rintro ⟨a, q2⟩ ⟨h5, h6, h7⟩
        simp only at h5 h6 h7 ⊢; subst h5
        have h7 := h7 (by omega)
        rw [w64 (x := 1 + a) (by omega) (by omega)]
        refine Tot.bind (zcy s (q + 1) _ hs (by omega) (by omega)) ?_
        rintro ⟨b, q3⟩ ⟨h8, h9, h10⟩
        simp only at h8 h9 h10 ⊢; subst h8
        rw [w64 (x := x9 - 1) (by omega) (by omega)]
        exact Tot.yes (by omega) (ih (x9 - 1) _ _ (by omega) (by simp; omega) (by omega) (by omega))
      · rw [decide_eq_false hl]
        exact last c es x9 q hc (by omega) h3 (by omega)
  have costs : ∀ (d : Nat) (x8 : Int) (c : List Int) (q : Int), x8 = d → (c.length : Int) + x8 ≤ 8 → 0 ≤ q → q + x8 ≤ 700000 → Tot (fun k => zt.l0 k n c [] x8 s q) Short := by
    intro d
    induction d with
    | zero =>
      intro x8 c q h1 h2 h3 h4
      refine Tot.step (fun k => by rw [zt.l0]) (Tot.no (by omega) ?_)
      refine Tot.bind (zcy s q 10 hs h3 (by omega)) ?_
      rintro ⟨a, q2⟩ ⟨h5, h6, h7⟩
      simp only at h5 h6 h7 ⊢; subst h5
      have h7 := h7 (by omega)
      exact edges c (by omega) a.toNat a [] _ (by omega) (by simp; omega) (by omega) (by omega)
    | succ d ih =>
      intro x8 c q h1 h2 h3 h4
      refine Tot.step (fun k => by rw [zt.l0]) (Tot.yes (by omega) ?_)
      refine Tot.bind (zcy s q 8 hs h3 (by omega)) ?_
      rintro ⟨a, q2⟩ ⟨h5, h6, h7⟩
      simp only at h5 h6 h7 ⊢; subst h5
      rw [w64 (x := x8 - 1) (by omega) (by omega)]
      exact Tot.yes (by omega) (ih (x8 - 1) _ _ (by omega) (by simp; omega) (by omega) (by omega))
  unfold zt.f
  refine Tot.bind (zcy s p 9 hs hp (by omega)) ?_
  rintro ⟨a, q2⟩ ⟨h5, h6, h7⟩
  simp only at h5 h6 h7 ⊢; subst h5
  have h7 := h7 (by omega)
  exact costs a.toNat a [] _ (by omega) (by simp; omega) (by omega) (by omega)
end Go.Proofs.Ytebgfobjhlcopaa.DrGraph
