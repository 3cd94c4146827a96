/- The law FnFairWindows for every input, part 6 of its proof: what the program's functions answer, and the plain law. No condition. -/
import Derived.Test.YtnilnaabjpcfjaaMFnFairWindows1
import Derived.Test.YtnilnaabjpcfjaaMFnFairWindows2
import Derived.Test.YtnilnaabjpcfjaaMFnFairWindows3
import Derived.Test.YtnilnaabjpcfjaaMFnFairWindows4
import Derived.Test.YtnilnaabjpcfjaaMFnFairWindows5
import Derived.Sort.Lot0
set_option maxRecDepth 100000
namespace Go.Proofs.Ytnilnaabjpcfjaa.P
open Go.RowKit Go.Proofs.YtnilnaabjpcfjaaW.PrintWords Go.Proofs.YtnilnaabjpcfjaaW.PrintLast Go.Proofs.YtnilnaabjpcfjaaW.PrintMore
attribute [local go_sem] zfc zfd zgc zgd zer zes zfe zff
set_option linter.unusedVariables false
set_option linter.unusedSimpArgs false
theorem Zq21 {X0 P : Prop} (x0 : za X0) (h : X0 → P := by intro x0; (with_reducible repeat (first | apply Kd.zc8 | apply Kd.zc7 | apply Kd.zcw)); exact x0) : P := h x0.out
mutual
def laws_FnFairWindows.j0 : Nat → List (S35) → List (List Int) → Bool → Option (Bool)
 | 0, _, _, _ => none
 | k + 1, x3, x5, x43 => if x43 = true then ((zd6.f).bind fun t441 => (some t441)) else (if 0 ≤ (x3.length : Int) then (if ((x3.length : Int) : Int).toNat ≤ 35184372088832 then (laws_FnFairWindows.l0 k x3 x5 (List.replicate ((x3.length : Int) : Int).toNat 0) 0) else (none)) else (none))
def laws_FnFairWindows.l0 : Nat → List (S35) → List (List Int) → List Int → Int → Option (Bool)
 | 0, _, _, _, _ => none
 | k + 1, x3, x5, x7, x8 => if x8 < 120 then (laws_FnFairWindows.l1 k x3 x5 x7 x8 0) else (some true)
def laws_FnFairWindows.l1 : Nat → List (S35) → List (List Int) → List Int → Int → Int → Option (Bool)
 | 0, _, _, _, _, _ => none
 | k + 1, x3, x5, x7, x8, x9 => if 0 ≤ x8 then (if x8 < (x5.length : Int) then (if x9 < ((zbi x5 x8).length : Int) then (if 0 ≤ x9 then (if 0 ≤ (rd (zbi x5 x8) x9) then (if (rd (zbi x5 x8) x9) < (x3.length : Int) then (if (rd (zbi x5 x8) x9) < (x7.length : Int) then ((zb5.f ((zf x3 (rd (zbi x5 x8) x9)).f0) ((zf x3 (rd (zbi x5 x8) x9)).f1) ((zf x3 (rd (zbi x5 x8) x9)).f2) (rd x7 (rd (zbi x5 x8) x9))).bind fun bt450 => (if x8 < bt450.1 then (some false) else (if x8 ≥ bt450.2 then (some false) else (laws_FnFairWindows.l1 k x3 x5 (x7.set ((rd (zbi x5 x8) x9) : Int).toNat (wrap64 ((rd x7 (rd (zbi x5 x8) x9)) + 1))) x8 (wrap64 (x9 + 1)))))) else (none)) else (none)) else (none)) else (none)) else (laws_FnFairWindows.l2 k x3 x5 x7 x8 0)) else (none)) else (none)
def laws_FnFairWindows.l2 : Nat → List (S35) → List (List Int) → List Int → Int → Int → Option (Bool)
 | 0, _, _, _, _, _ => none
 | k + 1, x3, x5, x7, x8, x12 => if x12 < (x3.length : Int) then (if 0 ≤ x12 then (if x12 < (x7.length : Int) then ((zb5.f ((zf x3 x12).f0) ((zf x3 x12).f1) ((zf x3 x12).f2) (rd x7 x12)).bind fun bt457 => (if bt457.2 ≤ (wrap64 (x8 + 1)) then (some false) else (laws_FnFairWindows.l2 k x3 x5 x7 x8 (wrap64 (x12 + 1))))) else (none)) else (none)) else (laws_FnFairWindows.l0 k x3 x5 x7 (wrap64 (x8 + 1)))
end
def laws_FnFairWindows.f (k : Nat) (l0 : List Int) : Option (Bool) := if (l0.length : Int) > 1048576 then (some true) else ((zc9.f k l0).bind fun bt427 => ((zb0.f k bt427.1 bt427.2).bind fun t431 => ((zw.f k bt427.1 bt427.2).bind fun t434 => ((zb1.f k t431 t434).bind fun t437 => (if t437 = true then ((zch.f k bt427.1).bind fun bt438 => (if (t431.length : Int) = 120 then (laws_FnFairWindows.j0 k bt427.1 t431 (decide (bt438.1 > (wrap64 (bt427.2 * bt438.2))))) else (laws_FnFairWindows.j0 k bt427.1 t431 true))) else (some false))))))
def laws_FnFairWindows.T18 : Bool × List (List Nat × List Nat) := (true, [([], []), ([], []), ([0, 1], [0, 1]), ([2], [2]), ([], []), ([], []), ([4, 5], [4, 5]), ([6], [6]), ([3, 7], [3, 7]), ([], []), ([9, 8, 8, 0, 1, 2, 3, 4, 5, 6, 7, 8, 9], [8, 9])])
def laws_FnFairWindows.B18 : List Nat := [0, 0, 3, 7, 0, 0, 48, 112, 255, 0, 1023]
theorem laws_FnFairWindows.tab18 : rtab .any (opsOf Try.f5 18) = laws_FnFairWindows.T18 := by kernel_rfl
theorem laws_FnFairWindows.bits18 : zc4 laws_FnFairWindows.T18.2 laws_FnFairWindows.B18 = true := by kernel_rfl
def laws_FnFairWindows.T25 : Bool × List (List Nat × List Nat) := (true, [([], []), ([], []), ([0, 1], [0, 1]), ([2], [2]), ([], []), ([], []), ([4, 5], [4, 5]), ([6], [6]), ([3, 7], [3, 7]), ([8], [8]), ([], []), ([10], [10]), ([9, 11], [9, 11])])
def laws_FnFairWindows.B25 : List Nat := [0, 0, 3, 7, 0, 0, 48, 112, 255, 511, 0, 1024, 4095]
theorem laws_FnFairWindows.tab25 : rtab .any (opsOf Try.f5 25) = laws_FnFairWindows.T25 := by kernel_rfl
theorem laws_FnFairWindows.bits25 : zc4 laws_FnFairWindows.T25.2 laws_FnFairWindows.B25 = true := by kernel_rfl
set_option maxHeartbeats 8000000 in
theorem laws_FnFairWindows.calls (k : Nat) (A0 : Option Addr) (c0 : Nat) (l0 : List Int) (r : Bool) (w : World) (hr0 : Kd.C (Kd.int .u8) w A0 l0.length l0) (hc0 : l0.length ≤ c0) (h : laws_FnFairWindows.f k l0 = some r) :
  Calls Try.prog 5 #[.slice A0 l0.length c0] w fun e w' => e = .returned (.bool r) ∧ Below w.heap.size w w' := by
 have hfld39_0 : ∀ (v0_ v1_ : Value) (W : World), (Instr.field 39 (.agg #[v0_, v1_]) 0).run Try.prog W = .ok v0_ W := fun _ _ _ => rfl
 have hfld39_1 : ∀ (v0_ v1_ : Value) (W : World), (Instr.field 39 (.agg #[v0_, v1_]) 1).run Try.prog W = .ok v1_ W := fun _ _ _ => rfl
 have hu30 := Try.underlying30
 have hu35 := Try.underlying35
 have hu39 := Try.underlying39
 have HR0 := za.mk hr0
 have HC0 := za.mk hc0
 clear hr0 hc0
 have HB := za.mk (Below.refl w.heap.size w)
 have H : (if (l0.length : Int) > 1048576 then (some true) else ((zc9.f k l0).bind fun bt427 => ((zb0.f k bt427.1 bt427.2).bind fun t431 => ((zw.f k bt427.1 bt427.2).bind fun t434 => ((zb1.f k t431 t434).bind fun t437 => (if t437 = true then ((zch.f k bt427.1).bind fun bt438 => (if (t431.length : Int) = 120 then (laws_FnFairWindows.j0 k bt427.1 t431 (decide (bt438.1 > (wrap64 (bt427.2 * bt438.2))))) else (laws_FnFairWindows.j0 k bt427.1 t431 true))) else (some false))))))) = some r := h
 clear h
 by_cases c2 : (l0.length : Int) > 1048576
 ·rw [if_pos c2] at H
  have c2b0 : decide (1048576 < (l0.length : Int)) = true := decide_eq_true c2;have c2b1 : decide (1048576 < l0.length) = true := decide_eq_true (by omega);clear c2;obtain rfl := Option.some.inj H;go_enter Try.func5, Try.ntmps5;go_wp2;go_ret;exact ⟨by first | rfl | (simp [zq, zt] <;> rfl) | (simp [*, zq, zt] <;> rfl), Zq1 HB⟩
 ·rw [if_neg c2] at H
  have c2b0 : decide (1048576 < (l0.length : Int)) = false := decide_eq_false c2;have c2b1 : decide (1048576 < l0.length) = false := decide_eq_false (by omega);clear c2;replace H := Option.bind_eq_some_iff.mp H;obtain ⟨⟨t427, t428⟩, A30, H⟩ := H;replace H : ((zb0.f k t427 t428).bind fun t431 => ((zw.f k t427 t428).bind fun t434 => ((zb1.f k t431 t434).bind fun t437 => (if t437 = true then ((zch.f k t427).bind fun bt438 => (if (t431.length : Int) = 120 then (laws_FnFairWindows.j0 k t427 t431 (decide (bt438.1 > (wrap64 (t428 * bt438.2))))) else (laws_FnFairWindows.j0 k t427 t431 true))) else (some false))))) = some r := H;have A3 := za.mk A30;clear A30;replace H := Option.bind_eq_some_iff.mp H;obtain ⟨t431, A40, H⟩ := H;replace H : ((zw.f k t427 t428).bind fun t434 => ((zb1.f k t431 t434).bind fun t437 => (if t437 = true then ((zch.f k t427).bind fun bt438 => (if (t431.length : Int) = 120 then (laws_FnFairWindows.j0 k t427 t431 (decide (bt438.1 > (wrap64 (t428 * bt438.2))))) else (laws_FnFairWindows.j0 k t427 t431 true))) else (some false)))) = some r := H;have A4 := za.mk A40;clear A40;replace H := Option.bind_eq_some_iff.mp H;obtain ⟨t434, A50, H⟩ := H;replace H : ((zb1.f k t431 t434).bind fun t437 => (if t437 = true then ((zch.f k t427).bind fun bt438 => (if (t431.length : Int) = 120 then (laws_FnFairWindows.j0 k t427 t431 (decide (bt438.1 > (wrap64 (t428 * bt438.2))))) else (laws_FnFairWindows.j0 k t427 t431 true))) else (some false))) = some r := H;have A5 := za.mk A50;clear A50;replace H := Option.bind_eq_some_iff.mp H;obtain ⟨t437, A60, H⟩ := H;replace H : (if t437 = true then ((zch.f k t427).bind fun bt438 => (if (t431.length : Int) = 120 then (laws_FnFairWindows.j0 k t427 t431 (decide (bt438.1 > (wrap64 (t428 * bt438.2))))) else (laws_FnFairWindows.j0 k t427 t431 true))) else (some false)) = some r := H;have A6 := za.mk A60;clear A60;by_cases c7 : t437 = true
  ·subst c7
   have H1 : ((zch.f k t427).bind fun bt438 => (if (t431.length : Int) = 120 then (laws_FnFairWindows.j0 k t427 t431 (decide (bt438.1 > (wrap64 (t428 * bt438.2))))) else (laws_FnFairWindows.j0 k t427 t431 true))) = some r := by rw [if_pos rfl] at H; exact H
   clear H;have H := H1;clear H1;replace H := Option.bind_eq_some_iff.mp H;obtain ⟨⟨t438, t439⟩, A80, H⟩ := H;replace H : (if (t431.length : Int) = 120 then (laws_FnFairWindows.j0 k t427 t431 (decide (t438 > (wrap64 (t428 * t439))))) else (laws_FnFairWindows.j0 k t427 t431 true)) = some r := H;have A8 := za.mk A80;clear A80;have HC9 := za.mk H;clear H;go_enter Try.func5, Try.ntmps5
   go_upto_region 8 with (first | ((with_reducible refine zx (f := 9) rfl ?_); refine zbz (some 18) rfl rfl Try.func9 (by kernel_rfl) rfl #[.slice A0 l0.length c0] rfl Zmt ?_; (with_reducible refine (zc9.calls k _ _ l0 t427 t428 _ ?side1 ?side2 A3.out).mono ?_); (case side1 => exact Zq17 HR0); (case side2 => exact HC0.out); rintro e w10 ⟨v429, rfl, ho0, hb⟩; refine ⟨_, rfl, ?_⟩; have n0_ := za.mk (Kd.zc6 ho0 (zu (Zq1 HB))); have n1_ := za.mk (zl (Zq1 HB) hb); clear HB; have HO430 := n0_; have HB := n1_; clear n0_ n1_; (try clear hb); (try clear hb2); (try clear hk); (try clear hi); (try clear ho0); obtain ⟨Ao11, co11, eo11⟩ := Kd.zcv HO430.out; subst eo11) | ((with_reducible refine zx (f := 10) rfl ?_); refine zbz (some 23) rfl rfl Try.func10 (by kernel_rfl) rfl #[.slice Ao11 t427.length co11, .int .i64 t428] rfl Zmt ?_; (with_reducible refine (zb0.calls k _ _ t427 t428 t431 _ ?side1 ?side2 A4.out).mono ?_); (case side1 => exact Zq18 ((Kd.zbp HO430.out).2.2)); (case side2 => exact (Kd.zbp HO430.out).2.1); rintro e w12 ⟨v432, rfl, ho0, hb⟩; refine ⟨_, rfl, ?_⟩; have n0_ := za.mk (Kd.zb3 (Zq12 HO430) hb); have n1_ := za.mk (Kd.zfh ho0 (zu (Zq1 HB))); have n2_ := za.mk (zl (Zq1 HB) hb); clear HO430; clear HB; have HO430 := n0_; have HO433 := n1_; have HB := n2_; clear n0_ n1_ n2_; (try clear hb); (try clear hb2); (try clear hk); (try clear hi); (try clear ho0)) | ((with_reducible refine zx (f := 12) rfl ?_); refine zbz (some 27) rfl rfl Try.func12 (by kernel_rfl) rfl #[.slice Ao11 t427.length co11, .int .i64 t428] rfl Zmt ?_; (with_reducible refine (zw.calls k _ _ t427 t428 t434 _ ?side1 ?side2 A5.out).mono ?_); (case side1 => exact Zq18 ((Kd.zbp HO430.out).2.2)); (case side2 => exact (Kd.zbp HO430.out).2.1); rintro e w13 ⟨v435, rfl, ho0, hb⟩; replace ho0 := Kd.Qc_of_S ho0; refine ⟨_, rfl, ?_⟩; have n0_ := za.mk (Kd.zb3 (Zq12 HO430) hb); have n1_ := za.mk (Kd.zg9 (Zq21 HO433) (Kd.Qc_base ho0) hb); have n2_ := za.mk (Kd.zfh (Kd.Qc_new' ho0 (Kd.Qc_lt (Zq21 HO433))) (zu (Zq1 HB))); have n3_ := za.mk (zl (Zq1 HB) hb); clear HO430; clear HO433; clear HB; have HO430 := n0_; have HO433 := n1_; have HO436 := n2_; have HB := n3_; clear n0_ n1_ n2_ n3_; (try clear hb); (try clear hb2); (try clear hk); (try clear hi); (try clear ho0); obtain ⟨Ao14, co14, eo14⟩ := Kd.zfx HO433.out; subst eo14; obtain ⟨Ao15, co15, eo15⟩ := Kd.zfx HO436.out; subst eo15) | ((with_reducible refine zx (f := 11) rfl ?_); refine zbz (some 28) rfl rfl Try.func11 (by kernel_rfl) rfl #[.slice Ao14 t431.length co14, .slice Ao15 t434.length co15] rfl Zmt ?_; (with_reducible refine (zb1.calls k _ _ t431 _ _ t434 true _ ?side1 ?side2 ?side3 ?side4 A6.out).mono ?_); (case side1 => exact Zq18 ((Kd.zcu HO433.out).2.2)); (case side2 => exact (Kd.zcu HO433.out).2.1); (case side3 => exact Zq18 ((Kd.zcu HO436.out).2.2)); (case side4 => exact (Kd.zcu HO436.out).2.1); rintro e w' ⟨rfl, ⟨nd, rfl⟩⟩; refine ⟨_, rfl, ?_⟩; (try (rw [zet w13]; generalize hq_ : World.drewN w13 _ = w13; have n0_ : za (Kd.R k35 35 w13 w.heap.size (fun _ => True) (.slice Ao11 t427.length co11) t427) := ⟨by rw [← hq_]; exact (Zq12 HO430)⟩; have n1_ : za (Kd.Qc (Kd.cut 3 (Kd.int .i64)) 33 w13 w.heap.size (fun k_ => some k_ ≠ (.slice Ao15 t434.length co15 : Value).ownBlock) (.slice Ao14 t431.length co14) t431) := ⟨by rw [← hq_]; exact (by (with_reducible repeat (first | apply Kd.zc8 | apply Kd.zc7 | apply Kd.zcw)); exact Kd.zdf HO433.out (fun _ hk => hk.2))⟩; have n2_ : za (Kd.Qc (Kd.cut 3 (Kd.int .i64)) 33 w13 w.heap.size (fun k_ => some k_ ≠ (.slice Ao14 t431.length co14 : Value).ownBlock) (.slice Ao15 t434.length co15) t434) := ⟨by rw [← hq_]; exact (by (with_reducible repeat (first | apply Kd.zc8 | apply Kd.zc7 | apply Kd.zcw)); exact Kd.zdf HO436.out (fun _ hk => hk.2))⟩; have n3_ : za (Below w.heap.size w w13) := ⟨by rw [← hq_]; exact (Zq1 HB)⟩; clear HO430 HO433 HO436 HB hq_; have HO430 := n0_; have HO433 := n1_; have HO436 := n2_; have HB := n3_; clear n0_ n1_ n2_ n3_))) | ((with_reducible refine zx (f := 13) rfl ?_); refine zbz (some 31) rfl rfl Try.func13 (by kernel_rfl) rfl #[.slice Ao11 t427.length co11] rfl Zmt ?_; (with_reducible refine (zch.calls k _ _ t427 t438 t439 _ ?side1 ?side2 A8.out).mono ?_); (case side1 => exact Zq18 ((Kd.zbp HO430.out).2.2)); (case side2 => exact (Kd.zbp HO430.out).2.1); rintro e w16 ⟨rfl, hb⟩; refine ⟨_, rfl, ?_⟩; have n0_ := za.mk (Kd.zb3 (Zq12 HO430) hb); have n1_ := za.mk (Kd.zb7 (Zq21 HO433) hb); have n2_ := za.mk (Kd.zb7 (Zq21 HO436) hb); have n3_ := za.mk (zl (Zq1 HB) hb); clear HO430; clear HO433; clear HO436; clear HB; have HO430 := n0_; have HO433 := n1_; have HO436 := n2_; have HB := n3_; clear n0_ n1_ n2_ n3_; (try clear hb); (try clear hb2); (try clear hk); (try clear hi)) | ((with_reducible refine zbv (N := 6) rfl ?_); refine zbx ?hg (N := 6) ?hd (cs := #[.int .i64 0, .int .i64 0]) (t := 30) ?hr ?_; (case hd => rfl); (case hg => rfl); (case hr => first | (go_simp; done) | (go_simp; rfl)); intro gb440 hg w17 hbox hb; have n0_ := za.mk (Kd.zb3 (Zq12 HO430) hb); have n1_ := za.mk (Kd.zb7 (Zq21 HO433) hb); have n2_ := za.mk (Kd.zb7 (Zq21 HO436) hb); have n3_ := za.mk (zl (Zq1 HB) hb); have n4_ := za.mk (hbox); have n5_ := za.mk ((by rw [hg]; exact (zu (Zq1 HB)) : w.heap.size ≤ gb440)); have n6_ := za.mk ((by rw [hg]; exact (zu (Zq1 HB)) : w.heap.size ≤ gb440)); clear HO430; clear HO433; clear HO436; clear HB; have HO430 := n0_; have HO433 := n1_; have HO436 := n2_; have HB := n3_; have BK440 := n4_; have GW440 := n5_; have GE440 := n6_; clear n0_ n1_ n2_ n3_ n4_ n5_ n6_; clear hb hbox hg; have hcz18_0 : w17.cell? ⟨gb440, 0, none⟩ = some (.int .i64 0) := (ze BK440.out 0).trans rfl; have hcz18_1 : w17.cell? ⟨gb440, 1, none⟩ = some (.int .i64 0) := (ze BK440.out 1).trans rfl; have hfz18_0 := zm BK440.out 0; have hfz18_1 := zm BK440.out 1))
   (try simp only [Act.put, Zs1, Zs2, Zs3])
   go_cut [43] (fun v43 wc => ∃ (kq : Nat) (x43_8 : Bool), v43 = .bool x43_8 ∧ za (laws_FnFairWindows.j0 kq t427 t431 x43_8 = some r) ∧ za (kq ≤ k) ∧ za (Kd.R k35 35 wc w.heap.size (fun _ => True) (.slice Ao11 t427.length co11) t427) ∧ za (Kd.Qc (Kd.cut 3 (Kd.int .i64)) 33 wc w.heap.size (fun _ => True) (.slice Ao14 t431.length co14) t431) ∧ za (wc.heap[gb440]? = some (.cells #[.int .i64 t438, .int .i64 t439] 30 (0, 0))) ∧ za (Below w.heap.size w wc))
   case first =>
    have H := HC9.out;clear HC9;by_cases c19 : (t431.length : Int) = 120
    ·rw [if_pos c19] at H
     have c19b0 : ((t431.length : Int) == 120) = true := beq_iff_eq.mpr c19;have c19b1 : ((t431.length : Int) != 120) = false := bne_eq_false_iff_eq.mpr c19;clear c19;(first | rw [c19b0] | (simp only [zh, zi]; rw [c19b0]) | skip);have H' := za.mk H;clear H;have hcz20_0 : w17.cell? ⟨gb440, 0, none⟩ = some (.int .i64 0) := (ze BK440.out 0).trans rfl;have hcz20_1 : w17.cell? ⟨gb440, 1, none⟩ = some (.int .i64 0) := (ze BK440.out 1).trans rfl;have hfz20_0 := zm BK440.out 0;have hfz20_1 := zm BK440.out 1;go_wp2;go_meet
     case rel => exact ⟨_, (decide (t438 > (wrap64 (t428 * t439)))), Zrs, H', ⟨by first | omega | exact Nat.le_refl _⟩, ⟨by (with_reducible repeat (first | apply Kd.zck | apply Kd.zcn | apply Kd.zca)); exact Kd.zbq (Kd.zeq (p := ⟨gb440, 1, none⟩) (Kd.zeq (p := ⟨gb440, 0, none⟩) (Kd.zea HO430.out BK440.out (by decide)) (fun _ hk => hk.2) (.int .i64 t438)) (fun _ hk => hk.2) (.int .i64 t439)) (fun _ hk => trivial)⟩, ⟨by (with_reducible repeat (first | apply Kd.zc8 | apply Kd.zc7 | apply Kd.zcw)); exact Kd.zdf (Kd.ze7 (p := ⟨gb440, 1, none⟩) (Kd.ze7 (p := ⟨gb440, 0, none⟩) (Kd.zfw HO433.out BK440.out (by decide)) (fun _ hk => hk.2) (.int .i64 t438)) (fun _ hk => hk.2) (.int .i64 t439)) (fun _ hk => trivial)⟩, ⟨by (with_reducible repeat (first | refine zbb ?_ _ | refine zy ?_ | refine zba ?_ _)); refine zcg (cs := #[.int .i64 t438, .int .i64 0]) ?_ 1 _ rfl; (with_reducible repeat (first | refine zbb ?_ _ | refine zy ?_ | refine zba ?_ _)); refine zcg (cs := #[.int .i64 0, .int .i64 0]) ?_ 0 _ rfl; (with_reducible repeat (first | refine zbb ?_ _ | refine zy ?_ | refine zba ?_ _)); exact BK440.out⟩, ⟨Zq3 HB GE440⟩⟩
    ·rw [if_neg c19] at H
     have c19b0 : ((t431.length : Int) == 120) = false := beq_eq_false_iff_ne.mpr c19;have c19b1 : ((t431.length : Int) != 120) = true := bne_iff_ne.mpr c19;(first | rw [c19b0] | (simp only [zh, zi]; rw [c19b0]) | skip);have H' := za.mk H;clear H;go_wp2;go_meet
     case rel => exact ⟨_, (true), Zrs, H', ⟨by first | omega | exact Nat.le_refl _⟩, ⟨by (with_reducible repeat (first | apply Kd.zck | apply Kd.zcn | apply Kd.zca)); exact Kd.zbq (Kd.zeq (p := ⟨gb440, 1, none⟩) (Kd.zeq (p := ⟨gb440, 0, none⟩) (Kd.zea HO430.out BK440.out (by decide)) (fun _ hk => hk.2) (.int .i64 t438)) (fun _ hk => hk.2) (.int .i64 t439)) (fun _ hk => trivial)⟩, ⟨by (with_reducible repeat (first | apply Kd.zc8 | apply Kd.zc7 | apply Kd.zcw)); exact Kd.zdf (Kd.ze7 (p := ⟨gb440, 1, none⟩) (Kd.ze7 (p := ⟨gb440, 0, none⟩) (Kd.zfw HO433.out BK440.out (by decide)) (fun _ hk => hk.2) (.int .i64 t438)) (fun _ hk => hk.2) (.int .i64 t439)) (fun _ hk => trivial)⟩, ⟨by (with_reducible repeat (first | refine zbb ?_ _ | refine zy ?_ | refine zba ?_ _)); refine zcg (cs := #[.int .i64 t438, .int .i64 0]) ?_ 1 _ rfl; (with_reducible repeat (first | refine zbb ?_ _ | refine zy ?_ | refine zba ?_ _)); refine zcg (cs := #[.int .i64 0, .int .i64 0]) ?_ 0 _ rfl; (with_reducible repeat (first | refine zbb ?_ _ | refine zy ?_ | refine zba ?_ _)); exact BK440.out⟩, ⟨Zq3 HB GE440⟩⟩
   case rest =>
    clear HC9
    (try clear c1);(try clear c2);(try clear c2b0);(try clear c2b1);(try clear p2);(try clear c5);(try clear p6);(try clear c7);(try clear c9);(try clear c10);(try clear c11);(try clear c12);(try clear c13);(try clear c19);(try clear c19b0);(try clear c19b1);(try clear hcz18_0);(try clear hcz18_1);(try clear hcz20_0);(try clear hcz20_1);(try clear hfz18_0);(try clear hfz18_1);(try clear hfz20_0);(try clear hfz20_1)
    obtain ⟨kq, x43_8, rfl, HA, HJ8, HO_3, HO_5, BK440, HB⟩ := hcut
    cases kq with
    | zero => exact absurd HA.out (by simp [laws_FnFairWindows.j0])
    | succ kj8 =>
     have H := HA.out;clear HA;simp only [laws_FnFairWindows.j0] at H;by_cases c21 : x43_8 = true
     ·subst c21
      have H1 : ((zd6.f).bind fun t441 => (some t441)) = some r := by rw [if_pos rfl] at H; exact H
      clear H;have H := H1;clear H1;replace H := Option.bind_eq_some_iff.mp H;obtain ⟨t441, A220, H⟩ := H;replace H : (some t441) = some r := H;have A22 := za.mk A220;clear A220;obtain rfl := Option.some.inj H;go_wp2_with (first | ((with_reducible refine zx (f := 14) rfl ?_); refine zbz (some 44) rfl rfl Try.func14 (by kernel_rfl) rfl #[] rfl Zmt ?_; (with_reducible refine (zd6.calls  t441 _ A22.out).mono ?_); rintro e w23 ⟨rfl, hb⟩; refine ⟨_, rfl, ?_⟩; have n0_ := za.mk (Kd.zb3 (Zq12 HO_3) hb); have n1_ := za.mk (Kd.zb7 (Zq21 HO_5) hb); have n2_ := za.mk (zbc (g := gb440) (o := .cells #[.int .i64 t438, .int .i64 t439] 30 (0, 0)) (Zq2 BK440) hb); have n3_ := za.mk (zl (Zq3 HB GE440) hb); clear HO_3; clear HO_5; clear BK440; clear HB; have HO_3 := n0_; have HO_5 := n1_; have BK440 := n2_; have HB := n3_; clear n0_ n1_ n2_ n3_; (try clear hb); (try clear hb2); (try clear hk); (try clear hi)));go_ret;exact ⟨by first | rfl | (simp [zq, zt] <;> rfl) | (simp [*, zq, zt] <;> rfl), Zq3 HB GE440⟩
     ·replace c21 := Bool.eq_false_iff.mpr c21
      subst c21;have H1 : (if 0 ≤ (t427.length : Int) then (if ((t427.length : Int) : Int).toNat ≤ 35184372088832 then (laws_FnFairWindows.l0 kj8 t427 t431 (List.replicate ((t427.length : Int) : Int).toNat 0) 0) else (none)) else (none)) = some r := by rw [if_neg (show ¬ (false = true) by decide)] at H; exact H
      clear H;have H := H1;clear H1;by_cases c24 : 0 ≤ (t427.length : Int)
      ·rw [if_pos c24] at H
       have c24b0 := eq_true c24;have c24b1 : decide (0 ≤ (t427.length : Int)) = true := decide_eq_true c24;clear c24;by_cases c25 : ((t427.length : Int) : Int).toNat ≤ 35184372088832
       ·rw [if_pos c25] at H
        have c25b0 := eq_true c25;have c25b1 : decide (((t427.length : Int) : Int).toNat ≤ 35184372088832) = true := decide_eq_true c25;clear c25;obtain ⟨y442, hy442⟩ : ∃ y_ : List Int, y_ = (List.replicate ((t427.length : Int) : Int).toNat 0) := ⟨_, rfl⟩;replace H : (laws_FnFairWindows.l0 kj8 t427 t431 y442 0) = some r := by first | (rw [hy442]; with_reducible exact H) | (have H2_ := (Option.bind_some _ _).symm.trans H; rw [hy442]; with_reducible exact H2_) | (have H2_ := (Option.bind_some _ _).symm.trans H; with_reducible exact H2_) | with_reducible exact H | (rw [hy442]; exact H) | exact H
        have Ny442 := za.mk hy442;clear hy442;have H' := za.mk H;clear H;go_wp2_with (first | ((with_reducible refine zbv (N := 47) rfl ?_); refine Kd.R_make (Kd.int .i64) _ 3 rfl (N := 47) rfl 33 _ _ rfl (t427.length : Int) rfl rfl Try.underlying33 (.int .i64 0) 8 info3 rfl (by decide) (by omega) 0 (ok := fun _ => True) (okp := fun _ => True) rfl (fun _ hk => hk) trivial (of_decide_eq_true Zas) (Nat.le_trans (Nat.mul_le_mul_right _ (of_decide_eq_true Zas : (t427.length : Int).toNat ≤ 35184372088832)) (by omega)) (Below.refl _ _) (Nat.le_refl _) ?_; intro v443 w26 ho27 hb hg_ hnew_; clear hg_ hnew_; (first | rw [← Ny442.out] at ho27 | (simp only [Int.reduceToNat] at ho27; rw [← Ny442.out] at ho27)); have n0_ := za.mk (Kd.zb3 (Zq12 HO_3) hb); have n1_ := za.mk (Kd.zg9 (Zq21 HO_5) (Kd.zdl ho27) hb); have n2_ := za.mk (Kd.zc6 ho27 (zu (Zq3 HB GE440))); have n3_ := za.mk (zbc (g := gb440) (o := .cells #[.int .i64 t438, .int .i64 t439] 30 (0, 0)) (Zq2 BK440) hb); have n4_ := za.mk (zl (Zq3 HB GE440) hb); clear HO_3; clear HO_5; clear BK440; clear HB; have HO_3 := n0_; have HO_5 := n1_; have HO444 := n2_; have BK440 := n3_; have HB := n4_; clear n0_ n1_ n2_ n3_ n4_; clear hb ho27))
        go_loopg [8] kj8 (fun kq v8 w' => ∃ (x7_2 : List Int) (x8_2 : Int), v8 = .int .i64 x8_2 ∧ za (laws_FnFairWindows.l0 kq t427 t431 x7_2 x8_2 = some r) ∧ za (kq ≤ kj8) ∧ za (Kd.R k35 35 w' w.heap.size (fun _ => True) (.slice Ao11 t427.length co11) t427) ∧ za (Kd.Qc (Kd.cut 3 (Kd.int .i64)) 33 w' w.heap.size (fun k_ => some k_ ≠ (v443 : Value).ownBlock) (.slice Ao14 t431.length co14) t431) ∧ za (Kd.R (Kd.int .i64) 3 w' w.heap.size (fun _ => True) v443 x7_2) ∧ za (w'.heap[gb440]? = some (.cells #[.int .i64 t438, .int .i64 t439] 30 (0, 0))) ∧ za (Below w.heap.size w w'))
        case atStart => exact ⟨(y442), (0), Zrs, H', ⟨Nat.le_refl _⟩, ⟨Zq12 HO_3⟩, ⟨by (with_reducible repeat (first | apply Kd.zc8 | apply Kd.zc7 | apply Kd.zcw)); exact Kd.zdf HO_5.out (fun _ hk => hk.2)⟩, ⟨Zq12 HO444⟩, ⟨Zq2 BK440⟩, ⟨Zq3 HB GE440⟩⟩
        case round =>
         clear H'
         (try clear c1);(try clear c2);(try clear c2b0);(try clear c2b1);(try clear p2);(try clear c5);(try clear p6);(try clear c7);(try clear c9);(try clear c10);(try clear c11);(try clear c12);(try clear c13);(try clear c14);(try clear c19);(try clear c19b0);(try clear c19b1);(try clear c21);(try clear c24);(try clear c24b0);(try clear c24b1);(try clear c25);(try clear c25b0);(try clear c25b1);(try clear hcz18_0);(try clear hcz18_1);(try clear hcz20_0);(try clear hcz20_1);(try clear hfz18_0);(try clear hfz18_1);(try clear hfz20_0);(try clear hfz20_1);(try clear p2);(try clear p6)
         obtain ⟨x7_2, x8_2, rfl, HA, HK2, HO_3, HO_5, HO_7, BK440, HB⟩ := hrel
         cases gk with
         | zero => exact absurd HA.out (by simp [laws_FnFairWindows.l0])
         | succ k2 =>
          have H := HA.out;clear HA;simp only [laws_FnFairWindows.l0] at H;by_cases c28 : x8_2 < 120
          ·rw [if_pos c28] at H
           have c28b0 : decide (x8_2 < 120) = true := decide_eq_true c28;clear c28;have H' := za.mk H;clear H;go_wp2
           go_loopg [9] k2 (fun kq v9 w' => ∃ (x7_3 : List Int) (x9_3 : Int), v9 = .int .i64 x9_3 ∧ za (laws_FnFairWindows.l1 kq t427 t431 x7_3 x8_2 x9_3 = some r) ∧ za (kq ≤ k2) ∧ za (Kd.R k35 35 w' w.heap.size (fun _ => True) (.slice Ao11 t427.length co11) t427) ∧ za (Kd.Qc (Kd.cut 3 (Kd.int .i64)) 33 w' w.heap.size (fun k_ => some k_ ≠ (v443 : Value).ownBlock) (.slice Ao14 t431.length co14) t431) ∧ za (Kd.R (Kd.int .i64) 3 w' w.heap.size (fun _ => True) v443 x7_3) ∧ za (w'.heap[gb440]? = some (.cells #[.int .i64 t438, .int .i64 t439] 30 (0, 0))) ∧ za (Below w.heap.size w w'))
           case atStart => exact ⟨(x7_2), (0), Zrs, H', ⟨Nat.le_refl _⟩, ⟨Zq12 HO_3⟩, ⟨Zq21 HO_5⟩, ⟨Zq12 HO_7⟩, ⟨Zq2 BK440⟩, ⟨Zq3 HB GE440⟩⟩
           case round =>
            clear H'
            (try clear c1);(try clear c2);(try clear c2b0);(try clear c2b1);(try clear p2);(try clear c5);(try clear p6);(try clear c7);(try clear c9);(try clear c10);(try clear c11);(try clear c12);(try clear c13);(try clear c14);(try clear c19);(try clear c19b0);(try clear c19b1);(try clear c21);(try clear c24);(try clear c24b0);(try clear c24b1);(try clear c25);(try clear c25b0);(try clear c25b1);(try clear c28);(try clear c28b0);(try clear hcz18_0);(try clear hcz18_1);(try clear hcz20_0);(try clear hcz20_1);(try clear hfz18_0);(try clear hfz18_1);(try clear hfz20_0);(try clear hfz20_1);(try clear p2);(try clear p6)
            obtain ⟨x7_3, x9_3, rfl, HA, HK3, HO_3, HO_5, HO_7, BK440, HB⟩ := hrel
            cases gk with
            | zero => exact absurd HA.out (by simp [laws_FnFairWindows.l1])
            | succ k3 =>
             have H := HA.out;clear HA;simp only [laws_FnFairWindows.l1] at H;by_cases c29 : 0 ≤ x8_2
             ·rw [if_pos c29] at H
              have c29b0 : decide (0 ≤ x8_2) = true := decide_eq_true c29;clear c29;by_cases c30 : x8_2 < (t431.length : Int)
              ·rw [if_pos c30] at H
               have c30b0 : decide (x8_2 < (t431.length : Int)) = true := decide_eq_true c30;clear c30;by_cases c31 : x9_3 < ((zbi t431 x8_2).length : Int)
               ·rw [if_pos c31] at H
                have c31b0 : decide (x9_3 < ((zbi t431 x8_2).length : Int)) = true := decide_eq_true c31;clear c31;by_cases c32 : 0 ≤ x9_3
                ·rw [if_pos c32] at H
                 have c32b0 : decide (0 ≤ x9_3) = true := decide_eq_true c32;clear c32;by_cases c33 : 0 ≤ (rd (zbi t431 x8_2) x9_3)
                 ·rw [if_pos c33] at H
                  have c33b0 : decide (0 ≤ (rd (zbi t431 x8_2) x9_3)) = true := decide_eq_true c33;clear c33;by_cases c34 : (rd (zbi t431 x8_2) x9_3) < (t427.length : Int)
                  ·rw [if_pos c34] at H
                   have c34b0 : decide ((rd (zbi t431 x8_2) x9_3) < (t427.length : Int)) = true := decide_eq_true c34;clear c34;by_cases c35 : (rd (zbi t431 x8_2) x9_3) < (x7_3.length : Int)
                   ·rw [if_pos c35] at H
                    have c35b0 : decide ((rd (zbi t431 x8_2) x9_3) < (x7_3.length : Int)) = true := decide_eq_true c35;clear c35;replace H := Option.bind_eq_some_iff.mp H;obtain ⟨⟨t450, t451⟩, A360, H⟩ := H;replace H : (if x8_2 < t450 then (some false) else (if x8_2 ≥ t451 then (some false) else (laws_FnFairWindows.l1 k3 t427 t431 (x7_3.set ((rd (zbi t431 x8_2) x9_3) : Int).toNat (wrap64 ((rd x7_3 (rd (zbi t431 x8_2) x9_3)) + 1))) x8_2 (wrap64 (x9_3 + 1))))) = some r := H;have A36 := za.mk A360;clear A360;by_cases c37 : x8_2 < t450
                    ·rw [if_pos c37] at H
                     have c37b0 : decide (x8_2 < t450) = true := decide_eq_true c37;clear c37;obtain rfl := Option.some.inj H;have p445 : 0 ≤ (x8_2 : Int) := of_decide_eq_true Zas;have q445 : x8_2 < (t431.length : Int) := of_decide_eq_true Zas;obtain ⟨ad445, A445_0, c445_0, e445, hx445_0, hl445_0, hi445_0⟩ := zg7 (Kd.zcu HO_5.out).2.2 x8_2 p445 q445
                     cases e445
                     obtain ⟨ce445, hce445, hMe445, hcc445⟩ := Kd.zhc HO_5.out [] x8_2 p445 (by first | exact q445 | exact of_decide_eq_true Zas | (have e_ := (Kd.zcu HO_5.out).1; omega));obtain ⟨ve445_0, rfl, ge445_0⟩ := hMe445;have hv445_0 := hcc445 0 _ rfl;rw [Nat.add_zero, show ((Kd.cut 3 (Kd.int .i64))).sz = 1 from rfl, Nat.mul_one] at hv445_0;replace hv445_0 := Option.some.inj (hv445_0.symm.trans hx445_0);rw [hv445_0] at ge445_0;have HL445_0 := za.mk (show Kd.Qc (Kd.int .i64) 3 _ _ _ _ (zbi t431 x8_2) from ge445_0);clear hv445_0 ge445_0;clear hcc445 hce445;have HR445_0 := za.mk hi445_0;have HC445_0 := za.mk hl445_0;clear hi445_0 hl445_0;replace p445 := eq_true p445;replace q445 := eq_true q445;have p446 : 0 ≤ (x8_2 : Int) := of_decide_eq_true Zas;have q446 : x8_2 < (t431.length : Int) := of_decide_eq_true Zas;obtain ⟨ad446, A446_0, c446_0, e446, hx446_0, hl446_0, hi446_0⟩ := zg7 (Kd.zcu HO_5.out).2.2 x8_2 p446 q446;obtain rfl : ad445 = ad446 := (by injection e446);obtain ⟨ce446, hce446, hMe446, hcc446⟩ := Kd.zhc HO_5.out [] x8_2 p446 (by first | exact q446 | exact of_decide_eq_true Zas | (have e_ := (Kd.zcu HO_5.out).1; omega));obtain ⟨ve446_0, rfl, ge446_0⟩ := hMe446;have hv446_0 := hcc446 0 _ rfl;rw [Nat.add_zero, show ((Kd.cut 3 (Kd.int .i64))).sz = 1 from rfl, Nat.mul_one] at hv446_0;replace hv446_0 := Option.some.inj (hv446_0.symm.trans hx446_0);rw [hv446_0] at ge446_0;have HL446_0 := za.mk (show Kd.Qc (Kd.int .i64) 3 _ _ _ _ (zbi t431 x8_2) from ge446_0);clear hv446_0 ge446_0;clear hcc446 hce446;have HR446_0 := za.mk hi446_0;have HC446_0 := za.mk hl446_0;clear hi446_0 hl446_0;replace p446 := eq_true p446;replace q446 := eq_true q446;have ea_ := Option.some.inj (hx445_0.symm.trans hx446_0);injection ea_ with ea_ en_ ec_;subst ea_;subst ec_;clear en_;have p447 : 0 ≤ (x9_3 : Int) := of_decide_eq_true Zas;have q447 : x9_3 < ((zbi t431 x8_2).length : Int) := of_decide_eq_true Zas;obtain ⟨ad447, e447, hx447_0⟩ := Kd.zcc (by repeat (first | (with_reducible exact HR446_0.out) | (with_reducible refine Kd.zcp ?_ _) | (with_reducible refine Kd.zcs ?_ _) | (with_reducible refine Kd.zcx ?_) | exact HR446_0.out)) x9_3 p447 q447
                     cases e447
                     replace p447 := eq_true p447;replace q447 := eq_true q447
                     try go_wp2
                     have n0_ := za.mk (Kd.zca HO_3.out);have n1_ := za.mk (Kd.zcw HO_5.out);have n2_ := za.mk (Kd.zca HO_7.out);have n3_ := za.mk (Kd.zcw HL445_0.out);have n4_ := za.mk (Kd.zcw HL446_0.out);have n5_ := za.mk (zy BK440.out);have n6_ := za.mk (Kd.zcx HR445_0.out);have n7_ := za.mk (Kd.zcx HR446_0.out);have n8_ := za.mk (zbj HB.out);clear HO_3;clear HO_5;clear HO_7;clear HL445_0;clear HL446_0;clear BK440;clear HR445_0;clear HR446_0;clear HB;have HO_3 := n0_;have HO_5 := n1_;have HO_7 := n2_;have HL445_0 := n3_;have HL446_0 := n4_;have BK440 := n5_;have HR445_0 := n6_;have HR446_0 := n7_;have HB := n8_;clear n0_ n1_ n2_ n3_ n4_ n5_ n6_ n7_ n8_;have p448 : 0 ≤ ((rd (zbi t431 x8_2) x9_3) : Int) := of_decide_eq_true Zas;have q448 : (rd (zbi t431 x8_2) x9_3) < (t427.length : Int) := of_decide_eq_true Zas;obtain ⟨ad448, e448, hx448_0, hx448_1, hx448_2⟩ := zcz (Kd.zbp HO_3.out).2.2 (rd (zbi t431 x8_2) x9_3) p448 q448
                     cases e448
                     replace p448 := eq_true p448;replace q448 := eq_true q448;obtain ⟨Ao39, co39, eo39⟩ := Kd.zcv HO_7.out;(first | subst eo39 | (injection eo39 with f1_ f2_ f3_; have f4_ := f1_.symm; have f5_ := f3_.symm; clear f1_ f2_ f3_; subst f4_; subst f5_));have p449 : 0 ≤ ((rd (zbi t431 x8_2) x9_3) : Int) := of_decide_eq_true Zas;have q449 : (rd (zbi t431 x8_2) x9_3) < (x7_3.length : Int) := of_decide_eq_true Zas;obtain ⟨ad449, e449, hx449_0⟩ := Kd.zcc (Kd.zbp HO_7.out).2.2 (rd (zbi t431 x8_2) x9_3) p449 q449
                     cases e449
                     replace p449 := eq_true p449;replace q449 := eq_true q449;refine zcr (n := 11) (S := fun w' => w'.cell? (ad448.add (((rd (zbi t431 x8_2) x9_3)).toNat * 3)) = some (.int .i64 ((zf t427 (rd (zbi t431 x8_2) x9_3)).f0)) ∧ w'.cell? ⟨(ad448.add (((rd (zbi t431 x8_2) x9_3)).toNat * 3)).block, (ad448.add (((rd (zbi t431 x8_2) x9_3)).toNat * 3)).off + 1, none⟩ = some (.int .i64 ((zf t427 (rd (zbi t431 x8_2) x9_3)).f1)) ∧ w'.cell? ⟨(ad448.add (((rd (zbi t431 x8_2) x9_3)).toNat * 3)).block, (ad448.add (((rd (zbi t431 x8_2) x9_3)).toNat * 3)).off + 2, none⟩ = some (.int .i64 ((zf t427 (rd (zbi t431 x8_2) x9_3)).f2)) ∧ w'.cell? (ad449.add ((rd (zbi t431 x8_2) x9_3)).toNat) = some (.int .i64 (rd x7_3 (rd (zbi t431 x8_2) x9_3)))) (ds := []) #[false, false, false, false, false, false, false, false, false, false, false] (by kernel_rfl) rfl rfl ⟨hx448_0, hx448_1, hx448_2, hx449_0⟩ (fun hHeld => ?_); refine zbr laws_FnFairWindows.tab18 laws_FnFairWindows.bits18 (fun HT_ HW_ => ?_);generalize wr.drew = w38 at HO_3 HO_5 HO_7 HL445_0 HL446_0 BK440 HR445_0 HR446_0 HB hx448_0 hx448_1 hx448_2 hx449_0 hHeld ⊢;refine zo (i := 0) (N := some 68) (v := ?_) (a' := ?_) #[true, false, false, false, false, false, false, false, false, false, false] rfl rfl (zg HT_.out (by kernel_rfl)) (fun _ _ _ h => h) (Or.inl ⟨by rfl, ?_⟩) ?_ ?_;rotate_left
                     ·intro w'
                      go_simp;with_reducible rfl
                     rotate_left
                     ·simp only [Act.put, Zs1, Zs2, Zs3, zh, zi]
                      rfl
                     refine zo (i := 1) (N := some 69) (v := ?_) (a' := ?_) #[true, true, false, false, false, false, false, false, false, false, false] rfl rfl (zg HT_.out (by kernel_rfl)) (fun _ _ _ h => h) (Or.inl ⟨by rfl, ?_⟩) ?_ ?_;rotate_left
                     ·intro w'
                      go_simp;with_reducible rfl
                     rotate_left
                     ·simp only [Act.put, Zs1, Zs2, Zs3, zh, zi]
                      rfl
                     refine zo (i := 2) (N := some 70) (v := ?_) (a' := ?_) #[true, true, true, false, false, false, false, false, false, false, false] rfl rfl (zg HT_.out (by kernel_rfl)) (fun _ _ _ h => h) (Or.inl ⟨by rfl, ?_⟩) ?_ ?_;rotate_left
                     ·intro w'
                      go_simp;with_reducible rfl
                     rotate_left
                     ·simp only [Act.put, Zs1, Zs2, Zs3, zh, zi]
                      rfl
                     refine zo (i := 4) (N := some 72) (v := ?_) (a' := ?_) #[true, true, true, false, true, false, false, false, false, false, false] rfl rfl (zg HT_.out (by kernel_rfl)) (fun _ _ _ h => h) (Or.inl ⟨by rfl, ?_⟩) ?_ ?_;rotate_left
                     ·intro w'
                      go_simp;with_reducible rfl
                     rotate_left
                     ·simp only [Act.put, Zs1, Zs2, Zs3, zh, zi]
                      rfl
                     refine zo (i := 5) (N := some 73) (v := ?_) (a' := ?_) #[true, true, true, false, true, true, false, false, false, false, false] rfl rfl (zg HT_.out (by kernel_rfl)) (fun _ _ _ h => h) (Or.inl ⟨by rfl, ?_⟩) ?_ ?_;rotate_left
                     ·intro w'
                      go_simp;with_reducible rfl
                     rotate_left
                     ·simp only [Act.put, Zs1, Zs2, Zs3, zh, zi]
                      rfl
                     refine zo (i := 6) (N := some 74) (v := ?_) (a' := ?_) #[true, true, true, false, true, true, true, false, false, false, false] rfl rfl (zg HT_.out (by kernel_rfl)) (fun _ _ _ h => h) (Or.inl ⟨by rfl, ?_⟩) ?_ ?_;rotate_left
                     ·intro w'
                      go_simp;with_reducible rfl
                     rotate_left
                     ·simp only [Act.put, Zs1, Zs2, Zs3, zh, zi]
                      rfl
                     refine zb2 (i := 3) (N := some 71) (v := ?_) (a' := ?_) #[true, true, true, true, true, true, true, false, false, false, false] rfl rfl (zbf HT_.out HW_.out (by kernel_rfl)) (fun _ _ _ h => h) (Or.inl ⟨by rfl, ?_⟩) hHeld ?_ ?_;rotate_left
                     ·rintro w' ⟨s0, s1, s2, s3⟩
                      go_simp;with_reducible rfl
                     rotate_left
                     ·simp only [Act.put, Zs1, Zs2, Zs3, zh, zi]
                      rfl
                     refine zb2 (i := 7) (N := some 75) (v := ?_) (a' := ?_) #[true, true, true, true, true, true, true, true, false, false, false] rfl rfl (zbf HT_.out HW_.out (by kernel_rfl)) (fun _ _ _ h => h) (Or.inl ⟨by rfl, ?_⟩) hHeld ?_ ?_;rotate_left
                     ·rintro w' ⟨s0, s1, s2, s3⟩
                      go_simp;with_reducible rfl
                     rotate_left
                     ·simp only [Act.put, Zs1, Zs2, Zs3, zh, zi]
                      rfl
                     refine zj2 (σ := Nat) 1 #[true, true, true, true, true, true, true, true, true, true, false] (fun s_ => [(76, .agg #[.int .i64 t450, .int .i64 t451]), (11, .pointer (some ⟨s_, 0, none⟩))]) (fun s_ w' => (w'.cell? (ad448.add (((rd (zbi t431 x8_2) x9_3)).toNat * 3)) = some (.int .i64 ((zf t427 (rd (zbi t431 x8_2) x9_3)).f0)) ∧ w'.cell? ⟨(ad448.add (((rd (zbi t431 x8_2) x9_3)).toNat * 3)).block, (ad448.add (((rd (zbi t431 x8_2) x9_3)).toNat * 3)).off + 1, none⟩ = some (.int .i64 ((zf t427 (rd (zbi t431 x8_2) x9_3)).f1)) ∧ w'.cell? ⟨(ad448.add (((rd (zbi t431 x8_2) x9_3)).toNat * 3)).block, (ad448.add (((rd (zbi t431 x8_2) x9_3)).toNat * 3)).off + 2, none⟩ = some (.int .i64 ((zf t427 (rd (zbi t431 x8_2) x9_3)).f2)) ∧ w'.cell? (ad449.add ((rd (zbi t431 x8_2) x9_3)).toNat) = some (.int .i64 (rd x7_3 (rd (zbi t431 x8_2) x9_3)))) ∧ (Kd.Qc (Kd.int .i64) 3 w' w.heap.size (fun k_ => some k_ ≠ (.slice (some ad445) t431.length co14 : Value).ownBlock ∧ some k_ ≠ (.slice (some ad449) x7_3.length co39 : Value).ownBlock) (.slice (some ad447) (zbi t431 x8_2).length c445_0) (zbi t431 x8_2)) ∧ (Kd.Qc (Kd.int .i64) 3 w' w.heap.size (fun k_ => some k_ ≠ (.slice (some ad445) t431.length co14 : Value).ownBlock ∧ some k_ ≠ (.slice (some ad449) x7_3.length co39 : Value).ownBlock) (.slice (some ad447) (zbi t431 x8_2).length c445_0) (zbi t431 x8_2)) ∧ (Kd.R k35 35 w' w.heap.size (fun _ => True) (.slice (some ad448) t427.length co11) t427) ∧ (Kd.Qc (Kd.cut 3 (Kd.int .i64)) 33 w' w.heap.size (fun k_ => some k_ ≠ (.slice (some ad449) x7_3.length co39 : Value).ownBlock) (.slice (some ad445) t431.length co14) t431) ∧ (Kd.R (Kd.int .i64) 3 w' w.heap.size (fun _ => True) (.slice (some ad449) x7_3.length co39) x7_3) ∧ (w'.heap[gb440]? = some (.cells #[.int .i64 t438, .int .i64 t439] 30 (0, 0))) ∧ (w'.heap[s_]? = some (.cells #[.int .i64 0, .int .i64 0] 39 (0, 0))) ∧ (w.heap.size ≤ s_) ∧ (w.heap.size ≤ s_) ∧ (gb440 ≠ s_) ∧ (s_ ≠ gb440) ∧ (Below w.heap.size w w')) ?_ ?_;rotate_left
                     ·intro hCont
                      refine two_ (i := 8) (j := 9) (Ni := some 76) (Nj := some 11) #[true, true, true, true, true, true, true, true, true, false, false] #[true, true, true, true, true, true, true, true, false, true, false] rfl rfl rfl rfl (zg5 HT_.out (by kernel_rfl)) (by decide) (by decide) (fun K hK => ?_) (fun K hK => ?_)
                      ·skip
                       refine zct Try.func16 (by kernel_rfl) rfl #[.agg #[.int .i64 ((zf t427 (rd (zbi t431 x8_2) x9_3)).f0), .int .i64 ((zf t427 (rd (zbi t431 x8_2) x9_3)).f1), .int .i64 ((zf t427 (rd (zbi t431 x8_2) x9_3)).f2)], .int .i64 (rd x7_3 (rd (zbi t431 x8_2) x9_3))] (by rfl) rfl rfl Zmt ?_;with_reducible refine (zb5.calls ((zf t427 (rd (zbi t431 x8_2) x9_3)).f0) ((zf t427 (rd (zbi t431 x8_2) x9_3)).f1) ((zf t427 (rd (zbi t431 x8_2) x9_3)).f2) (rd x7_3 (rd (zbi t431 x8_2) x9_3)) t450 t451 _ A36.out).mono ?_
                       rintro e w40 ⟨rfl, hb⟩;have HS0_ := (hb.cell (World.block_lt_of_cell? _ _ (hHeld.1))).trans (hHeld.1);have HS1_ := (hb.cell (World.block_lt_of_cell? _ _ (hHeld.2.1))).trans (hHeld.2.1);have HS2_ := (hb.cell (World.block_lt_of_cell? _ _ (hHeld.2.2.1))).trans (hHeld.2.2.1);have HS3_ := (hb.cell (World.block_lt_of_cell? _ _ (hHeld.2.2.2))).trans (hHeld.2.2.2);refine ⟨_, rfl, ?_⟩;have n0_ := za.mk (Kd.zb3 (Zq12 HO_3) hb);have n1_ := za.mk (Kd.zb7 (Zq21 HO_5) hb);have n2_ := za.mk (Kd.zb3 (Zq12 HO_7) hb);have n3_ := za.mk (Kd.zb7 (Zq21 HL445_0) hb);have n4_ := za.mk (Kd.zb7 (Zq21 HL446_0) hb);have n5_ := za.mk (zbc (g := gb440) (o := .cells #[.int .i64 t438, .int .i64 t439] 30 (0, 0)) (Zq2 BK440) hb);have n6_ := za.mk (Kd.zcf (by repeat (first | (with_reducible exact HR445_0.out) | (with_reducible refine Kd.zcp ?_ _) | (with_reducible refine Kd.zcs ?_ _) | (with_reducible refine Kd.zcx ?_) | exact HR445_0.out)) hb);have n7_ := za.mk (Kd.zcf (by repeat (first | (with_reducible exact HR446_0.out) | (with_reducible refine Kd.zcp ?_ _) | (with_reducible refine Kd.zcs ?_ _) | (with_reducible refine Kd.zcx ?_) | exact HR446_0.out)) hb);have n8_ := za.mk (zl (Zq3 HB GE440) hb);clear HO_3;clear HO_5;clear HO_7;clear HL445_0;clear HL446_0;clear BK440;clear HR445_0;clear HR446_0;clear HB;have HO_3 := n0_;have HO_5 := n1_;have HO_7 := n2_;have HL445_0 := n3_;have HL446_0 := n4_;have BK440 := n5_;have HR445_0 := n6_;have HR446_0 := n7_;have HB := n8_;clear n0_ n1_ n2_ n3_ n4_ n5_ n6_ n7_ n8_;(try clear hb);(try clear hb2);(try clear hk);(try clear hi);refine hK.out _ _ ⟨HS0_, HS1_, HS2_, HS3_⟩ (fun hHeld => ?_);clear hK K;refine zb6 (a' := ?_) ?_ ?_;rotate_left
                       ·show Act.put _ (some 76) _ = _
                        simp only [Act.put, Zs1, Zs2, Zs3, zh, zi];rfl
                       refine one_ (i := 9) (N := some 11) #[true, true, true, true, true, true, true, true, true, true, false] rfl rfl (zby HT_.out (by kernel_rfl)) (by decide) (fun K hK => ?_);refine zfb ?hg (N := 11) ?hd (cs := #[.int .i64 0, .int .i64 0]) (t := 39) ?hr ?_; (case hd => rfl); (case hg => rfl); (case hr => first | (go_simp; done) | (go_simp; rfl));intro gb452 hg w41 hbox hb;have HS0_ := (hb.cell (World.block_lt_of_cell? _ _ (hHeld.1))).trans (hHeld.1);have HS1_ := (hb.cell (World.block_lt_of_cell? _ _ (hHeld.2.1))).trans (hHeld.2.1);have HS2_ := (hb.cell (World.block_lt_of_cell? _ _ (hHeld.2.2.1))).trans (hHeld.2.2.1);have HS3_ := (hb.cell (World.block_lt_of_cell? _ _ (hHeld.2.2.2))).trans (hHeld.2.2.2);have n0_ := za.mk (Kd.zb3 (Zq12 HO_3) hb);have n1_ := za.mk (Kd.zb7 (Zq21 HO_5) hb);have n2_ := za.mk (Kd.zb3 (Zq12 HO_7) hb);have n3_ := za.mk (Kd.zb7 (Zq21 HL445_0) hb);have n4_ := za.mk (Kd.zb7 (Zq21 HL446_0) hb);have n5_ := za.mk (zbc (g := gb440) (o := .cells #[.int .i64 t438, .int .i64 t439] 30 (0, 0)) (Zq2 BK440) hb);have n6_ := za.mk (Kd.zcf (by repeat (first | (with_reducible exact HR445_0.out) | (with_reducible refine Kd.zcp ?_ _) | (with_reducible refine Kd.zcs ?_ _) | (with_reducible refine Kd.zcx ?_) | exact HR445_0.out)) hb);have n7_ := za.mk (Kd.zcf (by repeat (first | (with_reducible exact HR446_0.out) | (with_reducible refine Kd.zcp ?_ _) | (with_reducible refine Kd.zcs ?_ _) | (with_reducible refine Kd.zcx ?_) | exact HR446_0.out)) hb);have n8_ := za.mk (zl (Zq3 HB GE440) hb);have n9_ := za.mk (hbox);have n10_ := za.mk ((by rw [hg]; exact (zu (Zq3 HB GE440)) : w.heap.size ≤ gb452));have n11_ := za.mk ((by rw [hg]; exact (zu (Zq3 HB GE440)) : w.heap.size ≤ gb452));have n12_ := za.mk ((by rw [hg]; exact Nat.ne_of_lt (zc5 (g := gb440) (o := .cells #[.int .i64 t438, .int .i64 t439] 30 (0, 0)) (Zq2 BK440)) : gb440 ≠ gb452));have n13_ := za.mk ((by rw [hg]; exact Nat.ne_of_gt (zc5 (g := gb440) (o := .cells #[.int .i64 t438, .int .i64 t439] 30 (0, 0)) (Zq2 BK440)) : gb452 ≠ gb440));clear HO_3;clear HO_5;clear HO_7;clear HL445_0;clear HL446_0;clear BK440;clear HR445_0;clear HR446_0;clear HB;have HO_3 := n0_;have HO_5 := n1_;have HO_7 := n2_;have HL445_0 := n3_;have HL446_0 := n4_;have BK440 := n5_;have HR445_0 := n6_;have HR446_0 := n7_;have HB := n8_;have BK452 := n9_;have GW452 := n10_;have GE452 := n11_;have NB440_452 := n12_;have NB452_440 := n13_;clear n0_ n1_ n2_ n3_ n4_ n5_ n6_ n7_ n8_ n9_ n10_ n11_ n12_ n13_;clear hb hbox hg;refine hK.out _ _ ⟨HS0_, HS1_, HS2_, HS3_⟩ (fun hHeld => ?_);clear hK K;refine zb6 (a' := ?_) ?_ ?_;rotate_left
                       ·show Act.put _ (some 11) _ = _
                        simp only [Act.put, Zs1, Zs2, Zs3, zh, zi];rfl
                       exact zb6 (by simp only [zdt, Act.put, Zs1, Zs2, Zs3]) (hCont (gb452) _ ⟨hHeld, (by (with_reducible repeat (first | apply Kd.zc8 | apply Kd.zc7 | apply Kd.zcw)); exact Kd.zdf HL445_0.out (fun _ hk => ⟨hk.2, hk.1⟩)), (by (with_reducible repeat (first | apply Kd.zc8 | apply Kd.zc7 | apply Kd.zcw)); exact Kd.zdf HL446_0.out (fun _ hk => ⟨hk.2, hk.1⟩)), (Zq12 HO_3), (Zq21 HO_5), (Zq12 HO_7), (Zq2 BK440), (Zq2 BK452), GW452.out, GE452.out, NB440_452.out, NB452_440.out, (Zq19 HB GE440 GE452)⟩)
                      ·skip
                       refine zfb ?hg (N := 11) ?hd (cs := #[.int .i64 0, .int .i64 0]) (t := 39) ?hr ?_; (case hd => rfl); (case hg => rfl); (case hr => first | (go_simp; done) | (go_simp; rfl));intro gb452 hg w40 hbox hb;have HS0_ := (hb.cell (World.block_lt_of_cell? _ _ (hHeld.1))).trans (hHeld.1);have HS1_ := (hb.cell (World.block_lt_of_cell? _ _ (hHeld.2.1))).trans (hHeld.2.1);have HS2_ := (hb.cell (World.block_lt_of_cell? _ _ (hHeld.2.2.1))).trans (hHeld.2.2.1);have HS3_ := (hb.cell (World.block_lt_of_cell? _ _ (hHeld.2.2.2))).trans (hHeld.2.2.2);have n0_ := za.mk (Kd.zb3 (Zq12 HO_3) hb);have n1_ := za.mk (Kd.zb7 (Zq21 HO_5) hb);have n2_ := za.mk (Kd.zb3 (Zq12 HO_7) hb);have n3_ := za.mk (Kd.zb7 (Zq21 HL445_0) hb);have n4_ := za.mk (Kd.zb7 (Zq21 HL446_0) hb);have n5_ := za.mk (zbc (g := gb440) (o := .cells #[.int .i64 t438, .int .i64 t439] 30 (0, 0)) (Zq2 BK440) hb);have n6_ := za.mk (Kd.zcf (by repeat (first | (with_reducible exact HR445_0.out) | (with_reducible refine Kd.zcp ?_ _) | (with_reducible refine Kd.zcs ?_ _) | (with_reducible refine Kd.zcx ?_) | exact HR445_0.out)) hb);have n7_ := za.mk (Kd.zcf (by repeat (first | (with_reducible exact HR446_0.out) | (with_reducible refine Kd.zcp ?_ _) | (with_reducible refine Kd.zcs ?_ _) | (with_reducible refine Kd.zcx ?_) | exact HR446_0.out)) hb);have n8_ := za.mk (zl (Zq3 HB GE440) hb);have n9_ := za.mk (hbox);have n10_ := za.mk ((by rw [hg]; exact (zu (Zq3 HB GE440)) : w.heap.size ≤ gb452));have n11_ := za.mk ((by rw [hg]; exact (zu (Zq3 HB GE440)) : w.heap.size ≤ gb452));have n12_ := za.mk ((by rw [hg]; exact Nat.ne_of_lt (zc5 (g := gb440) (o := .cells #[.int .i64 t438, .int .i64 t439] 30 (0, 0)) (Zq2 BK440)) : gb440 ≠ gb452));have n13_ := za.mk ((by rw [hg]; exact Nat.ne_of_gt (zc5 (g := gb440) (o := .cells #[.int .i64 t438, .int .i64 t439] 30 (0, 0)) (Zq2 BK440)) : gb452 ≠ gb440));clear HO_3;clear HO_5;clear HO_7;clear HL445_0;clear HL446_0;clear BK440;clear HR445_0;clear HR446_0;clear HB;have HO_3 := n0_;have HO_5 := n1_;have HO_7 := n2_;have HL445_0 := n3_;have HL446_0 := n4_;have BK440 := n5_;have HR445_0 := n6_;have HR446_0 := n7_;have HB := n8_;have BK452 := n9_;have GW452 := n10_;have GE452 := n11_;have NB440_452 := n12_;have NB452_440 := n13_;clear n0_ n1_ n2_ n3_ n4_ n5_ n6_ n7_ n8_ n9_ n10_ n11_ n12_ n13_;clear hb hbox hg;refine hK.out _ _ ⟨HS0_, HS1_, HS2_, HS3_⟩ (fun hHeld => ?_);clear hK K;refine zb6 (a' := ?_) ?_ ?_;rotate_left
                       ·show Act.put _ (some 11) _ = _
                        simp only [Act.put, Zs1, Zs2, Zs3, zh, zi];rfl
                       refine one_ (i := 8) (N := some 76) #[true, true, true, true, true, true, true, true, true, true, false] rfl rfl (zby HT_.out (by kernel_rfl)) (by decide) (fun K hK => ?_);refine zct Try.func16 (by kernel_rfl) rfl #[.agg #[.int .i64 ((zf t427 (rd (zbi t431 x8_2) x9_3)).f0), .int .i64 ((zf t427 (rd (zbi t431 x8_2) x9_3)).f1), .int .i64 ((zf t427 (rd (zbi t431 x8_2) x9_3)).f2)], .int .i64 (rd x7_3 (rd (zbi t431 x8_2) x9_3))] (by rfl) rfl rfl Zmt ?_;with_reducible refine (zb5.calls ((zf t427 (rd (zbi t431 x8_2) x9_3)).f0) ((zf t427 (rd (zbi t431 x8_2) x9_3)).f1) ((zf t427 (rd (zbi t431 x8_2) x9_3)).f2) (rd x7_3 (rd (zbi t431 x8_2) x9_3)) t450 t451 _ A36.out).mono ?_
                       rintro e w41 ⟨rfl, hb⟩;have HS0_ := (hb.cell (World.block_lt_of_cell? _ _ (hHeld.1))).trans (hHeld.1);have HS1_ := (hb.cell (World.block_lt_of_cell? _ _ (hHeld.2.1))).trans (hHeld.2.1);have HS2_ := (hb.cell (World.block_lt_of_cell? _ _ (hHeld.2.2.1))).trans (hHeld.2.2.1);have HS3_ := (hb.cell (World.block_lt_of_cell? _ _ (hHeld.2.2.2))).trans (hHeld.2.2.2);refine ⟨_, rfl, ?_⟩;have n0_ := za.mk (Kd.zb3 (Zq12 HO_3) hb);have n1_ := za.mk (Kd.zb7 (Zq21 HO_5) hb);have n2_ := za.mk (Kd.zb3 (Zq12 HO_7) hb);have n3_ := za.mk (Kd.zb7 (Zq21 HL445_0) hb);have n4_ := za.mk (Kd.zb7 (Zq21 HL446_0) hb);have n5_ := za.mk (zbc (g := gb440) (o := .cells #[.int .i64 t438, .int .i64 t439] 30 (0, 0)) (Zq2 BK440) hb);have n6_ := za.mk (Kd.zcf (by repeat (first | (with_reducible exact HR445_0.out) | (with_reducible refine Kd.zcp ?_ _) | (with_reducible refine Kd.zcs ?_ _) | (with_reducible refine Kd.zcx ?_) | exact HR445_0.out)) hb);have n7_ := za.mk (Kd.zcf (by repeat (first | (with_reducible exact HR446_0.out) | (with_reducible refine Kd.zcp ?_ _) | (with_reducible refine Kd.zcs ?_ _) | (with_reducible refine Kd.zcx ?_) | exact HR446_0.out)) hb);have n8_ := za.mk (zbc (g := gb452) (o := .cells #[.int .i64 0, .int .i64 0] 39 (0, 0)) (Zq2 BK452) hb);have n9_ := za.mk (zl (Zq19 HB GE440 GE452) hb);clear HO_3;clear HO_5;clear HO_7;clear HL445_0;clear HL446_0;clear BK440;clear HR445_0;clear HR446_0;clear BK452;clear HB;have HO_3 := n0_;have HO_5 := n1_;have HO_7 := n2_;have HL445_0 := n3_;have HL446_0 := n4_;have BK440 := n5_;have HR445_0 := n6_;have HR446_0 := n7_;have BK452 := n8_;have HB := n9_;clear n0_ n1_ n2_ n3_ n4_ n5_ n6_ n7_ n8_ n9_;(try clear hb);(try clear hb2);(try clear hk);(try clear hi);refine hK.out _ _ ⟨HS0_, HS1_, HS2_, HS3_⟩ (fun hHeld => ?_);clear hK K;refine zb6 (a' := ?_) ?_ ?_;rotate_left
                       ·show Act.put _ (some 76) _ = _
                        simp only [Act.put, Zs1, Zs2, Zs3, zh, zi];rfl
                       exact zb6 (by simp only [zdt, Act.put, Zs1, Zs2, Zs3]) (hCont (gb452) _ ⟨hHeld, (by (with_reducible repeat (first | apply Kd.zc8 | apply Kd.zc7 | apply Kd.zcw)); exact Kd.zdf HL445_0.out (fun _ hk => ⟨hk.2, hk.1⟩)), (by (with_reducible repeat (first | apply Kd.zc8 | apply Kd.zc7 | apply Kd.zcw)); exact Kd.zdf HL446_0.out (fun _ hk => ⟨hk.2, hk.1⟩)), (Zq12 HO_3), (Zq21 HO_5), (Zq12 HO_7), (Zq2 BK440), (Zq2 BK452), GW452.out, GE452.out, NB440_452.out, NB452_440.out, (Zq19 HB GE440 GE452)⟩)
                     rintro gb452 w42 ⟨hS_, h0_, h1_, h2_, h3_, h4_, h5_, h6_, h7_, h8_, h9_, h10_, h11_⟩;have n0_ : za (Kd.Qc (Kd.int .i64) 3 w42 w.heap.size (fun k_ => some k_ ≠ (.slice (some ad445) t431.length co14 : Value).ownBlock ∧ some k_ ≠ (.slice (some ad449) x7_3.length co39 : Value).ownBlock) (.slice (some ad447) (zbi t431 x8_2).length c445_0) (zbi t431 x8_2)) := ⟨h0_⟩;have n1_ : za (Kd.Qc (Kd.int .i64) 3 w42 w.heap.size (fun k_ => some k_ ≠ (.slice (some ad445) t431.length co14 : Value).ownBlock ∧ some k_ ≠ (.slice (some ad449) x7_3.length co39 : Value).ownBlock) (.slice (some ad447) (zbi t431 x8_2).length c445_0) (zbi t431 x8_2)) := ⟨h1_⟩;have n2_ : za (Kd.R k35 35 w42 w.heap.size (fun _ => True) (.slice (some ad448) t427.length co11) t427) := ⟨h2_⟩;have n3_ : za (Kd.Qc (Kd.cut 3 (Kd.int .i64)) 33 w42 w.heap.size (fun k_ => some k_ ≠ (.slice (some ad449) x7_3.length co39 : Value).ownBlock) (.slice (some ad445) t431.length co14) t431) := ⟨h3_⟩;have n4_ : za (Kd.R (Kd.int .i64) 3 w42 w.heap.size (fun _ => True) (.slice (some ad449) x7_3.length co39) x7_3) := ⟨h4_⟩;have n5_ : za (w42.heap[gb440]? = some (.cells #[.int .i64 t438, .int .i64 t439] 30 (0, 0))) := ⟨h5_⟩;have n6_ : za (w42.heap[gb452]? = some (.cells #[.int .i64 0, .int .i64 0] 39 (0, 0))) := ⟨h6_⟩;have n7_ : za (w.heap.size ≤ gb452) := ⟨h7_⟩;have n8_ : za (w.heap.size ≤ gb452) := ⟨h8_⟩;have n9_ : za (gb440 ≠ gb452) := ⟨h9_⟩;have n10_ : za (gb452 ≠ gb440) := ⟨h10_⟩;have n11_ : za (Below w.heap.size w w42) := ⟨h11_⟩;clear HO_3;clear HO_5;clear HO_7;clear HL445_0;clear HL446_0;clear BK440;clear HR445_0;clear HR446_0;clear HB;clear h0_ h1_ h2_ h3_ h4_ h5_ h6_ h7_ h8_ h9_ h10_ h11_;have HL445_0 := n0_;have HL446_0 := n1_;have HO_3 := n2_;have HO_5 := n3_;have HO_7 := n4_;have BK440 := n5_;have BK452 := n6_;have GW452 := n7_;have GE452 := n8_;have NB440_452 := n9_;have NB452_440 := n10_;have HB := n11_;clear n0_ n1_ n2_ n3_ n4_ n5_ n6_ n7_ n8_ n9_ n10_ n11_;have hHeld : w42.cell? (ad448.add (((rd (zbi t431 x8_2) x9_3)).toNat * 3)) = some (.int .i64 ((zf t427 (rd (zbi t431 x8_2) x9_3)).f0)) ∧ w42.cell? ⟨(ad448.add (((rd (zbi t431 x8_2) x9_3)).toNat * 3)).block, (ad448.add (((rd (zbi t431 x8_2) x9_3)).toNat * 3)).off + 1, none⟩ = some (.int .i64 ((zf t427 (rd (zbi t431 x8_2) x9_3)).f1)) ∧ w42.cell? ⟨(ad448.add (((rd (zbi t431 x8_2) x9_3)).toNat * 3)).block, (ad448.add (((rd (zbi t431 x8_2) x9_3)).toNat * 3)).off + 2, none⟩ = some (.int .i64 ((zf t427 (rd (zbi t431 x8_2) x9_3)).f2)) ∧ w42.cell? (ad449.add ((rd (zbi t431 x8_2) x9_3)).toNat) = some (.int .i64 (rd x7_3 (rd (zbi t431 x8_2) x9_3))) := hS_;refine zb6 (a' := ?_) ?_ ?_;rotate_left
                     ·simp only [zdt, Act.put, Zs1, Zs2, Zs3]
                      rfl
                     refine one_ (i := 10) (N := none) #[true, true, true, true, true, true, true, true, true, true, true] rfl rfl (zby HT_.out (by kernel_rfl)) (by decide) (fun K hK => ?_);have hs43 : w42.cell? ⟨gb452, 0, none⟩ = some (.int .i64 0) := (ze BK452.out 0).trans rfl;have hfs43 := zm BK452.out 0;have hns43_0 := NB440_452.out;have hms43_0 := NB452_440.out;have hs44 : w42.cell? ⟨gb452, 1, none⟩ = some (.int .i64 0) := (ze BK452.out 1).trans rfl;have hfs44 := zm BK452.out 1;have hns44_0 := NB440_452.out;have hms44_0 := NB452_440.out;refine zg3 (w1 := ?_) (by rfl) rfl ?_ ?_;rotate_left
                     ·go_simp
                      rfl
                     refine hK.out _ _ ⟨((cell_far (p := ⟨gb452, _, none⟩) (by first | exact Kd.zbm (Kd.R_ne HO_3.out BK452.out (by decide)) | (rw [add_block]; exact Kd.zbm (Kd.R_ne HO_3.out BK452.out (by decide))) | (show (Addr.add _ _).block ≠ _; rw [add_block]; exact Kd.zbm (Kd.R_ne HO_3.out BK452.out (by decide))) | (dsimp only; exact Kd.zbm (Kd.R_ne HO_3.out BK452.out (by decide)))) _).trans (((cell_far (p := ⟨gb452, _, none⟩) (by first | exact Kd.zbm (Kd.R_ne HO_3.out BK452.out (by decide)) | (rw [add_block]; exact Kd.zbm (Kd.R_ne HO_3.out BK452.out (by decide))) | (show (Addr.add _ _).block ≠ _; rw [add_block]; exact Kd.zbm (Kd.R_ne HO_3.out BK452.out (by decide))) | (dsimp only; exact Kd.zbm (Kd.R_ne HO_3.out BK452.out (by decide)))) _).trans (hHeld.1)))), ((cell_far (p := ⟨gb452, _, none⟩) (by first | exact Kd.zbm (Kd.R_ne HO_3.out BK452.out (by decide)) | (rw [add_block]; exact Kd.zbm (Kd.R_ne HO_3.out BK452.out (by decide))) | (show (Addr.add _ _).block ≠ _; rw [add_block]; exact Kd.zbm (Kd.R_ne HO_3.out BK452.out (by decide))) | (dsimp only; exact Kd.zbm (Kd.R_ne HO_3.out BK452.out (by decide)))) _).trans (((cell_far (p := ⟨gb452, _, none⟩) (by first | exact Kd.zbm (Kd.R_ne HO_3.out BK452.out (by decide)) | (rw [add_block]; exact Kd.zbm (Kd.R_ne HO_3.out BK452.out (by decide))) | (show (Addr.add _ _).block ≠ _; rw [add_block]; exact Kd.zbm (Kd.R_ne HO_3.out BK452.out (by decide))) | (dsimp only; exact Kd.zbm (Kd.R_ne HO_3.out BK452.out (by decide)))) _).trans (hHeld.2.1)))), ((cell_far (p := ⟨gb452, _, none⟩) (by first | exact Kd.zbm (Kd.R_ne HO_3.out BK452.out (by decide)) | (rw [add_block]; exact Kd.zbm (Kd.R_ne HO_3.out BK452.out (by decide))) | (show (Addr.add _ _).block ≠ _; rw [add_block]; exact Kd.zbm (Kd.R_ne HO_3.out BK452.out (by decide))) | (dsimp only; exact Kd.zbm (Kd.R_ne HO_3.out BK452.out (by decide)))) _).trans (((cell_far (p := ⟨gb452, _, none⟩) (by first | exact Kd.zbm (Kd.R_ne HO_3.out BK452.out (by decide)) | (rw [add_block]; exact Kd.zbm (Kd.R_ne HO_3.out BK452.out (by decide))) | (show (Addr.add _ _).block ≠ _; rw [add_block]; exact Kd.zbm (Kd.R_ne HO_3.out BK452.out (by decide))) | (dsimp only; exact Kd.zbm (Kd.R_ne HO_3.out BK452.out (by decide)))) _).trans (hHeld.2.2.1)))), ((cell_far (p := ⟨gb452, _, none⟩) (by first | exact Kd.zbm (Kd.R_ne HO_7.out BK452.out (by decide)) | (rw [add_block]; exact Kd.zbm (Kd.R_ne HO_7.out BK452.out (by decide))) | (show (Addr.add _ _).block ≠ _; rw [add_block]; exact Kd.zbm (Kd.R_ne HO_7.out BK452.out (by decide))) | (dsimp only; exact Kd.zbm (Kd.R_ne HO_7.out BK452.out (by decide)))) _).trans (((cell_far (p := ⟨gb452, _, none⟩) (by first | exact Kd.zbm (Kd.R_ne HO_7.out BK452.out (by decide)) | (rw [add_block]; exact Kd.zbm (Kd.R_ne HO_7.out BK452.out (by decide))) | (show (Addr.add _ _).block ≠ _; rw [add_block]; exact Kd.zbm (Kd.R_ne HO_7.out BK452.out (by decide))) | (dsimp only; exact Kd.zbm (Kd.R_ne HO_7.out BK452.out (by decide)))) _).trans (hHeld.2.2.2))))⟩ (fun hHeld => ?_);clear hK K;refine zdb (zcb HT_.out (by kernel_rfl)) ?_;have hnb45 := NB452_440.out;have hnc45 := NB440_452.out;have hcz46_0 : w42.cell? ⟨gb452, 0, none⟩ = some (.int .i64 0) := (ze BK452.out 0).trans rfl;have hcz46_1 : w42.cell? ⟨gb452, 1, none⟩ = some (.int .i64 0) := (ze BK452.out 1).trans rfl;have hfz46_0 := zm BK452.out 0;have hfz46_1 := zm BK452.out 1
                     try go_wp2
                     go_ret;exact ⟨by first | rfl | (simp [zq, zt] <;> rfl) | (simp [*, zq, zt] <;> rfl), Zq19 HB GE440 GE452⟩
                    ·rw [if_neg c37] at H
                     have c37b0 : decide (x8_2 < t450) = false := decide_eq_false c37;clear c37;by_cases c47 : x8_2 ≥ t451
                     ·rw [if_pos c47] at H
                      have c47b0 : decide (t451 ≤ x8_2) = true := decide_eq_true c47;clear c47;obtain rfl := Option.some.inj H;have p445 : 0 ≤ (x8_2 : Int) := of_decide_eq_true Zas;have q445 : x8_2 < (t431.length : Int) := of_decide_eq_true Zas;obtain ⟨ad445, A445_0, c445_0, e445, hx445_0, hl445_0, hi445_0⟩ := zg7 (Kd.zcu HO_5.out).2.2 x8_2 p445 q445
                      cases e445
                      obtain ⟨ce445, hce445, hMe445, hcc445⟩ := Kd.zhc HO_5.out [] x8_2 p445 (by first | exact q445 | exact of_decide_eq_true Zas | (have e_ := (Kd.zcu HO_5.out).1; omega));obtain ⟨ve445_0, rfl, ge445_0⟩ := hMe445;have hv445_0 := hcc445 0 _ rfl;rw [Nat.add_zero, show ((Kd.cut 3 (Kd.int .i64))).sz = 1 from rfl, Nat.mul_one] at hv445_0;replace hv445_0 := Option.some.inj (hv445_0.symm.trans hx445_0);rw [hv445_0] at ge445_0;have HL445_0 := za.mk (show Kd.Qc (Kd.int .i64) 3 _ _ _ _ (zbi t431 x8_2) from ge445_0);clear hv445_0 ge445_0;clear hcc445 hce445;have HR445_0 := za.mk hi445_0;have HC445_0 := za.mk hl445_0;clear hi445_0 hl445_0;replace p445 := eq_true p445;replace q445 := eq_true q445;have p446 : 0 ≤ (x8_2 : Int) := of_decide_eq_true Zas;have q446 : x8_2 < (t431.length : Int) := of_decide_eq_true Zas;obtain ⟨ad446, A446_0, c446_0, e446, hx446_0, hl446_0, hi446_0⟩ := zg7 (Kd.zcu HO_5.out).2.2 x8_2 p446 q446;obtain rfl : ad445 = ad446 := (by injection e446);obtain ⟨ce446, hce446, hMe446, hcc446⟩ := Kd.zhc HO_5.out [] x8_2 p446 (by first | exact q446 | exact of_decide_eq_true Zas | (have e_ := (Kd.zcu HO_5.out).1; omega));obtain ⟨ve446_0, rfl, ge446_0⟩ := hMe446;have hv446_0 := hcc446 0 _ rfl;rw [Nat.add_zero, show ((Kd.cut 3 (Kd.int .i64))).sz = 1 from rfl, Nat.mul_one] at hv446_0;replace hv446_0 := Option.some.inj (hv446_0.symm.trans hx446_0);rw [hv446_0] at ge446_0;have HL446_0 := za.mk (show Kd.Qc (Kd.int .i64) 3 _ _ _ _ (zbi t431 x8_2) from ge446_0);clear hv446_0 ge446_0;clear hcc446 hce446;have HR446_0 := za.mk hi446_0;have HC446_0 := za.mk hl446_0;clear hi446_0 hl446_0;replace p446 := eq_true p446;replace q446 := eq_true q446;have ea_ := Option.some.inj (hx445_0.symm.trans hx446_0);injection ea_ with ea_ en_ ec_;subst ea_;subst ec_;clear en_;have p447 : 0 ≤ (x9_3 : Int) := of_decide_eq_true Zas;have q447 : x9_3 < ((zbi t431 x8_2).length : Int) := of_decide_eq_true Zas;obtain ⟨ad447, e447, hx447_0⟩ := Kd.zcc (by repeat (first | (with_reducible exact HR446_0.out) | (with_reducible refine Kd.zcp ?_ _) | (with_reducible refine Kd.zcs ?_ _) | (with_reducible refine Kd.zcx ?_) | exact HR446_0.out)) x9_3 p447 q447
                      cases e447
                      replace p447 := eq_true p447;replace q447 := eq_true q447
                      try go_wp2
                      have n0_ := za.mk (Kd.zca HO_3.out);have n1_ := za.mk (Kd.zcw HO_5.out);have n2_ := za.mk (Kd.zca HO_7.out);have n3_ := za.mk (Kd.zcw HL445_0.out);have n4_ := za.mk (Kd.zcw HL446_0.out);have n5_ := za.mk (zy BK440.out);have n6_ := za.mk (Kd.zcx HR445_0.out);have n7_ := za.mk (Kd.zcx HR446_0.out);have n8_ := za.mk (zbj HB.out);clear HO_3;clear HO_5;clear HO_7;clear HL445_0;clear HL446_0;clear BK440;clear HR445_0;clear HR446_0;clear HB;have HO_3 := n0_;have HO_5 := n1_;have HO_7 := n2_;have HL445_0 := n3_;have HL446_0 := n4_;have BK440 := n5_;have HR445_0 := n6_;have HR446_0 := n7_;have HB := n8_;clear n0_ n1_ n2_ n3_ n4_ n5_ n6_ n7_ n8_;have p448 : 0 ≤ ((rd (zbi t431 x8_2) x9_3) : Int) := of_decide_eq_true Zas;have q448 : (rd (zbi t431 x8_2) x9_3) < (t427.length : Int) := of_decide_eq_true Zas;obtain ⟨ad448, e448, hx448_0, hx448_1, hx448_2⟩ := zcz (Kd.zbp HO_3.out).2.2 (rd (zbi t431 x8_2) x9_3) p448 q448
                      cases e448
                      replace p448 := eq_true p448;replace q448 := eq_true q448;obtain ⟨Ao49, co49, eo49⟩ := Kd.zcv HO_7.out;(first | subst eo49 | (injection eo49 with f1_ f2_ f3_; have f4_ := f1_.symm; have f5_ := f3_.symm; clear f1_ f2_ f3_; subst f4_; subst f5_));have p449 : 0 ≤ ((rd (zbi t431 x8_2) x9_3) : Int) := of_decide_eq_true Zas;have q449 : (rd (zbi t431 x8_2) x9_3) < (x7_3.length : Int) := of_decide_eq_true Zas;obtain ⟨ad449, e449, hx449_0⟩ := Kd.zcc (Kd.zbp HO_7.out).2.2 (rd (zbi t431 x8_2) x9_3) p449 q449
                      cases e449
                      replace p449 := eq_true p449;replace q449 := eq_true q449;refine zcr (n := 11) (S := fun w' => w'.cell? (ad448.add (((rd (zbi t431 x8_2) x9_3)).toNat * 3)) = some (.int .i64 ((zf t427 (rd (zbi t431 x8_2) x9_3)).f0)) ∧ w'.cell? ⟨(ad448.add (((rd (zbi t431 x8_2) x9_3)).toNat * 3)).block, (ad448.add (((rd (zbi t431 x8_2) x9_3)).toNat * 3)).off + 1, none⟩ = some (.int .i64 ((zf t427 (rd (zbi t431 x8_2) x9_3)).f1)) ∧ w'.cell? ⟨(ad448.add (((rd (zbi t431 x8_2) x9_3)).toNat * 3)).block, (ad448.add (((rd (zbi t431 x8_2) x9_3)).toNat * 3)).off + 2, none⟩ = some (.int .i64 ((zf t427 (rd (zbi t431 x8_2) x9_3)).f2)) ∧ w'.cell? (ad449.add ((rd (zbi t431 x8_2) x9_3)).toNat) = some (.int .i64 (rd x7_3 (rd (zbi t431 x8_2) x9_3)))) (ds := []) #[false, false, false, false, false, false, false, false, false, false, false] (by kernel_rfl) rfl rfl ⟨hx448_0, hx448_1, hx448_2, hx449_0⟩ (fun hHeld => ?_); refine zbr laws_FnFairWindows.tab18 laws_FnFairWindows.bits18 (fun HT_ HW_ => ?_);generalize wr.drew = w48 at HO_3 HO_5 HO_7 HL445_0 HL446_0 BK440 HR445_0 HR446_0 HB hx448_0 hx448_1 hx448_2 hx449_0 hHeld ⊢;refine zo (i := 0) (N := some 68) (v := ?_) (a' := ?_) #[true, false, false, false, false, false, false, false, false, false, false] rfl rfl (zg HT_.out (by kernel_rfl)) (fun _ _ _ h => h) (Or.inl ⟨by rfl, ?_⟩) ?_ ?_;rotate_left
                      ·intro w'
                       go_simp;with_reducible rfl
                      rotate_left
                      ·simp only [Act.put, Zs1, Zs2, Zs3, zh, zi]
                       rfl
                      refine zo (i := 1) (N := some 69) (v := ?_) (a' := ?_) #[true, true, false, false, false, false, false, false, false, false, false] rfl rfl (zg HT_.out (by kernel_rfl)) (fun _ _ _ h => h) (Or.inl ⟨by rfl, ?_⟩) ?_ ?_;rotate_left
                      ·intro w'
                       go_simp;with_reducible rfl
                      rotate_left
                      ·simp only [Act.put, Zs1, Zs2, Zs3, zh, zi]
                       rfl
                      refine zo (i := 2) (N := some 70) (v := ?_) (a' := ?_) #[true, true, true, false, false, false, false, false, false, false, false] rfl rfl (zg HT_.out (by kernel_rfl)) (fun _ _ _ h => h) (Or.inl ⟨by rfl, ?_⟩) ?_ ?_;rotate_left
                      ·intro w'
                       go_simp;with_reducible rfl
                      rotate_left
                      ·simp only [Act.put, Zs1, Zs2, Zs3, zh, zi]
                       rfl
                      refine zo (i := 4) (N := some 72) (v := ?_) (a' := ?_) #[true, true, true, false, true, false, false, false, false, false, false] rfl rfl (zg HT_.out (by kernel_rfl)) (fun _ _ _ h => h) (Or.inl ⟨by rfl, ?_⟩) ?_ ?_;rotate_left
                      ·intro w'
                       go_simp;with_reducible rfl
                      rotate_left
                      ·simp only [Act.put, Zs1, Zs2, Zs3, zh, zi]
                       rfl
                      refine zo (i := 5) (N := some 73) (v := ?_) (a' := ?_) #[true, true, true, false, true, true, false, false, false, false, false] rfl rfl (zg HT_.out (by kernel_rfl)) (fun _ _ _ h => h) (Or.inl ⟨by rfl, ?_⟩) ?_ ?_;rotate_left
                      ·intro w'
                       go_simp;with_reducible rfl
                      rotate_left
                      ·simp only [Act.put, Zs1, Zs2, Zs3, zh, zi]
                       rfl
                      refine zo (i := 6) (N := some 74) (v := ?_) (a' := ?_) #[true, true, true, false, true, true, true, false, false, false, false] rfl rfl (zg HT_.out (by kernel_rfl)) (fun _ _ _ h => h) (Or.inl ⟨by rfl, ?_⟩) ?_ ?_;rotate_left
                      ·intro w'
                       go_simp;with_reducible rfl
                      rotate_left
                      ·simp only [Act.put, Zs1, Zs2, Zs3, zh, zi]
                       rfl
                      refine zb2 (i := 3) (N := some 71) (v := ?_) (a' := ?_) #[true, true, true, true, true, true, true, false, false, false, false] rfl rfl (zbf HT_.out HW_.out (by kernel_rfl)) (fun _ _ _ h => h) (Or.inl ⟨by rfl, ?_⟩) hHeld ?_ ?_;rotate_left
                      ·rintro w' ⟨s0, s1, s2, s3⟩
                       go_simp;with_reducible rfl
                      rotate_left
                      ·simp only [Act.put, Zs1, Zs2, Zs3, zh, zi]
                       rfl
                      refine zb2 (i := 7) (N := some 75) (v := ?_) (a' := ?_) #[true, true, true, true, true, true, true, true, false, false, false] rfl rfl (zbf HT_.out HW_.out (by kernel_rfl)) (fun _ _ _ h => h) (Or.inl ⟨by rfl, ?_⟩) hHeld ?_ ?_;rotate_left
                      ·rintro w' ⟨s0, s1, s2, s3⟩
                       go_simp;with_reducible rfl
                      rotate_left
                      ·simp only [Act.put, Zs1, Zs2, Zs3, zh, zi]
                       rfl
                      refine zj2 (σ := Nat) 1 #[true, true, true, true, true, true, true, true, true, true, false] (fun s_ => [(76, .agg #[.int .i64 t450, .int .i64 t451]), (11, .pointer (some ⟨s_, 0, none⟩))]) (fun s_ w' => (w'.cell? (ad448.add (((rd (zbi t431 x8_2) x9_3)).toNat * 3)) = some (.int .i64 ((zf t427 (rd (zbi t431 x8_2) x9_3)).f0)) ∧ w'.cell? ⟨(ad448.add (((rd (zbi t431 x8_2) x9_3)).toNat * 3)).block, (ad448.add (((rd (zbi t431 x8_2) x9_3)).toNat * 3)).off + 1, none⟩ = some (.int .i64 ((zf t427 (rd (zbi t431 x8_2) x9_3)).f1)) ∧ w'.cell? ⟨(ad448.add (((rd (zbi t431 x8_2) x9_3)).toNat * 3)).block, (ad448.add (((rd (zbi t431 x8_2) x9_3)).toNat * 3)).off + 2, none⟩ = some (.int .i64 ((zf t427 (rd (zbi t431 x8_2) x9_3)).f2)) ∧ w'.cell? (ad449.add ((rd (zbi t431 x8_2) x9_3)).toNat) = some (.int .i64 (rd x7_3 (rd (zbi t431 x8_2) x9_3)))) ∧ (Kd.Qc (Kd.int .i64) 3 w' w.heap.size (fun k_ => some k_ ≠ (.slice (some ad445) t431.length co14 : Value).ownBlock ∧ some k_ ≠ (.slice (some ad449) x7_3.length co49 : Value).ownBlock) (.slice (some ad447) (zbi t431 x8_2).length c445_0) (zbi t431 x8_2)) ∧ (Kd.Qc (Kd.int .i64) 3 w' w.heap.size (fun k_ => some k_ ≠ (.slice (some ad445) t431.length co14 : Value).ownBlock ∧ some k_ ≠ (.slice (some ad449) x7_3.length co49 : Value).ownBlock) (.slice (some ad447) (zbi t431 x8_2).length c445_0) (zbi t431 x8_2)) ∧ (Kd.R k35 35 w' w.heap.size (fun _ => True) (.slice (some ad448) t427.length co11) t427) ∧ (Kd.Qc (Kd.cut 3 (Kd.int .i64)) 33 w' w.heap.size (fun k_ => some k_ ≠ (.slice (some ad449) x7_3.length co49 : Value).ownBlock) (.slice (some ad445) t431.length co14) t431) ∧ (Kd.R (Kd.int .i64) 3 w' w.heap.size (fun _ => True) (.slice (some ad449) x7_3.length co49) x7_3) ∧ (w'.heap[gb440]? = some (.cells #[.int .i64 t438, .int .i64 t439] 30 (0, 0))) ∧ (w'.heap[s_]? = some (.cells #[.int .i64 0, .int .i64 0] 39 (0, 0))) ∧ (w.heap.size ≤ s_) ∧ (w.heap.size ≤ s_) ∧ (gb440 ≠ s_) ∧ (s_ ≠ gb440) ∧ (Below w.heap.size w w')) ?_ ?_;rotate_left
                      ·intro hCont
                       refine two_ (i := 8) (j := 9) (Ni := some 76) (Nj := some 11) #[true, true, true, true, true, true, true, true, true, false, false] #[true, true, true, true, true, true, true, true, false, true, false] rfl rfl rfl rfl (zg5 HT_.out (by kernel_rfl)) (by decide) (by decide) (fun K hK => ?_) (fun K hK => ?_)
                       ·skip
                        refine zct Try.func16 (by kernel_rfl) rfl #[.agg #[.int .i64 ((zf t427 (rd (zbi t431 x8_2) x9_3)).f0), .int .i64 ((zf t427 (rd (zbi t431 x8_2) x9_3)).f1), .int .i64 ((zf t427 (rd (zbi t431 x8_2) x9_3)).f2)], .int .i64 (rd x7_3 (rd (zbi t431 x8_2) x9_3))] (by rfl) rfl rfl Zmt ?_;with_reducible refine (zb5.calls ((zf t427 (rd (zbi t431 x8_2) x9_3)).f0) ((zf t427 (rd (zbi t431 x8_2) x9_3)).f1) ((zf t427 (rd (zbi t431 x8_2) x9_3)).f2) (rd x7_3 (rd (zbi t431 x8_2) x9_3)) t450 t451 _ A36.out).mono ?_
                        rintro e w50 ⟨rfl, hb⟩;have HS0_ := (hb.cell (World.block_lt_of_cell? _ _ (hHeld.1))).trans (hHeld.1);have HS1_ := (hb.cell (World.block_lt_of_cell? _ _ (hHeld.2.1))).trans (hHeld.2.1);have HS2_ := (hb.cell (World.block_lt_of_cell? _ _ (hHeld.2.2.1))).trans (hHeld.2.2.1);have HS3_ := (hb.cell (World.block_lt_of_cell? _ _ (hHeld.2.2.2))).trans (hHeld.2.2.2);refine ⟨_, rfl, ?_⟩;have n0_ := za.mk (Kd.zb3 (Zq12 HO_3) hb);have n1_ := za.mk (Kd.zb7 (Zq21 HO_5) hb);have n2_ := za.mk (Kd.zb3 (Zq12 HO_7) hb);have n3_ := za.mk (Kd.zb7 (Zq21 HL445_0) hb);have n4_ := za.mk (Kd.zb7 (Zq21 HL446_0) hb);have n5_ := za.mk (zbc (g := gb440) (o := .cells #[.int .i64 t438, .int .i64 t439] 30 (0, 0)) (Zq2 BK440) hb);have n6_ := za.mk (Kd.zcf (by repeat (first | (with_reducible exact HR445_0.out) | (with_reducible refine Kd.zcp ?_ _) | (with_reducible refine Kd.zcs ?_ _) | (with_reducible refine Kd.zcx ?_) | exact HR445_0.out)) hb);have n7_ := za.mk (Kd.zcf (by repeat (first | (with_reducible exact HR446_0.out) | (with_reducible refine Kd.zcp ?_ _) | (with_reducible refine Kd.zcs ?_ _) | (with_reducible refine Kd.zcx ?_) | exact HR446_0.out)) hb);have n8_ := za.mk (zl (Zq3 HB GE440) hb);clear HO_3;clear HO_5;clear HO_7;clear HL445_0;clear HL446_0;clear BK440;clear HR445_0;clear HR446_0;clear HB;have HO_3 := n0_;have HO_5 := n1_;have HO_7 := n2_;have HL445_0 := n3_;have HL446_0 := n4_;have BK440 := n5_;have HR445_0 := n6_;have HR446_0 := n7_;have HB := n8_;clear n0_ n1_ n2_ n3_ n4_ n5_ n6_ n7_ n8_;(try clear hb);(try clear hb2);(try clear hk);(try clear hi);refine hK.out _ _ ⟨HS0_, HS1_, HS2_, HS3_⟩ (fun hHeld => ?_);clear hK K;refine zb6 (a' := ?_) ?_ ?_;rotate_left
                        ·show Act.put _ (some 76) _ = _
                         simp only [Act.put, Zs1, Zs2, Zs3, zh, zi];rfl
                        refine one_ (i := 9) (N := some 11) #[true, true, true, true, true, true, true, true, true, true, false] rfl rfl (zby HT_.out (by kernel_rfl)) (by decide) (fun K hK => ?_);refine zfb ?hg (N := 11) ?hd (cs := #[.int .i64 0, .int .i64 0]) (t := 39) ?hr ?_; (case hd => rfl); (case hg => rfl); (case hr => first | (go_simp; done) | (go_simp; rfl));intro gb452 hg w51 hbox hb;have HS0_ := (hb.cell (World.block_lt_of_cell? _ _ (hHeld.1))).trans (hHeld.1);have HS1_ := (hb.cell (World.block_lt_of_cell? _ _ (hHeld.2.1))).trans (hHeld.2.1);have HS2_ := (hb.cell (World.block_lt_of_cell? _ _ (hHeld.2.2.1))).trans (hHeld.2.2.1);have HS3_ := (hb.cell (World.block_lt_of_cell? _ _ (hHeld.2.2.2))).trans (hHeld.2.2.2);have n0_ := za.mk (Kd.zb3 (Zq12 HO_3) hb);have n1_ := za.mk (Kd.zb7 (Zq21 HO_5) hb);have n2_ := za.mk (Kd.zb3 (Zq12 HO_7) hb);have n3_ := za.mk (Kd.zb7 (Zq21 HL445_0) hb);have n4_ := za.mk (Kd.zb7 (Zq21 HL446_0) hb);have n5_ := za.mk (zbc (g := gb440) (o := .cells #[.int .i64 t438, .int .i64 t439] 30 (0, 0)) (Zq2 BK440) hb);have n6_ := za.mk (Kd.zcf (by repeat (first | (with_reducible exact HR445_0.out) | (with_reducible refine Kd.zcp ?_ _) | (with_reducible refine Kd.zcs ?_ _) | (with_reducible refine Kd.zcx ?_) | exact HR445_0.out)) hb);have n7_ := za.mk (Kd.zcf (by repeat (first | (with_reducible exact HR446_0.out) | (with_reducible refine Kd.zcp ?_ _) | (with_reducible refine Kd.zcs ?_ _) | (with_reducible refine Kd.zcx ?_) | exact HR446_0.out)) hb);have n8_ := za.mk (zl (Zq3 HB GE440) hb);have n9_ := za.mk (hbox);have n10_ := za.mk ((by rw [hg]; exact (zu (Zq3 HB GE440)) : w.heap.size ≤ gb452));have n11_ := za.mk ((by rw [hg]; exact (zu (Zq3 HB GE440)) : w.heap.size ≤ gb452));have n12_ := za.mk ((by rw [hg]; exact Nat.ne_of_lt (zc5 (g := gb440) (o := .cells #[.int .i64 t438, .int .i64 t439] 30 (0, 0)) (Zq2 BK440)) : gb440 ≠ gb452));have n13_ := za.mk ((by rw [hg]; exact Nat.ne_of_gt (zc5 (g := gb440) (o := .cells #[.int .i64 t438, .int .i64 t439] 30 (0, 0)) (Zq2 BK440)) : gb452 ≠ gb440));clear HO_3;clear HO_5;clear HO_7;clear HL445_0;clear HL446_0;clear BK440;clear HR445_0;clear HR446_0;clear HB;have HO_3 := n0_;have HO_5 := n1_;have HO_7 := n2_;have HL445_0 := n3_;have HL446_0 := n4_;have BK440 := n5_;have HR445_0 := n6_;have HR446_0 := n7_;have HB := n8_;have BK452 := n9_;have GW452 := n10_;have GE452 := n11_;have NB440_452 := n12_;have NB452_440 := n13_;clear n0_ n1_ n2_ n3_ n4_ n5_ n6_ n7_ n8_ n9_ n10_ n11_ n12_ n13_;clear hb hbox hg;refine hK.out _ _ ⟨HS0_, HS1_, HS2_, HS3_⟩ (fun hHeld => ?_);clear hK K;refine zb6 (a' := ?_) ?_ ?_;rotate_left
                        ·show Act.put _ (some 11) _ = _
                         simp only [Act.put, Zs1, Zs2, Zs3, zh, zi];rfl
                        exact zb6 (by simp only [zdt, Act.put, Zs1, Zs2, Zs3]) (hCont (gb452) _ ⟨hHeld, (by (with_reducible repeat (first | apply Kd.zc8 | apply Kd.zc7 | apply Kd.zcw)); exact Kd.zdf HL445_0.out (fun _ hk => ⟨hk.2, hk.1⟩)), (by (with_reducible repeat (first | apply Kd.zc8 | apply Kd.zc7 | apply Kd.zcw)); exact Kd.zdf HL446_0.out (fun _ hk => ⟨hk.2, hk.1⟩)), (Zq12 HO_3), (Zq21 HO_5), (Zq12 HO_7), (Zq2 BK440), (Zq2 BK452), GW452.out, GE452.out, NB440_452.out, NB452_440.out, (Zq19 HB GE440 GE452)⟩)
                       ·skip
                        refine zfb ?hg (N := 11) ?hd (cs := #[.int .i64 0, .int .i64 0]) (t := 39) ?hr ?_; (case hd => rfl); (case hg => rfl); (case hr => first | (go_simp; done) | (go_simp; rfl));intro gb452 hg w50 hbox hb;have HS0_ := (hb.cell (World.block_lt_of_cell? _ _ (hHeld.1))).trans (hHeld.1);have HS1_ := (hb.cell (World.block_lt_of_cell? _ _ (hHeld.2.1))).trans (hHeld.2.1);have HS2_ := (hb.cell (World.block_lt_of_cell? _ _ (hHeld.2.2.1))).trans (hHeld.2.2.1);have HS3_ := (hb.cell (World.block_lt_of_cell? _ _ (hHeld.2.2.2))).trans (hHeld.2.2.2);have n0_ := za.mk (Kd.zb3 (Zq12 HO_3) hb);have n1_ := za.mk (Kd.zb7 (Zq21 HO_5) hb);have n2_ := za.mk (Kd.zb3 (Zq12 HO_7) hb);have n3_ := za.mk (Kd.zb7 (Zq21 HL445_0) hb);have n4_ := za.mk (Kd.zb7 (Zq21 HL446_0) hb);have n5_ := za.mk (zbc (g := gb440) (o := .cells #[.int .i64 t438, .int .i64 t439] 30 (0, 0)) (Zq2 BK440) hb);have n6_ := za.mk (Kd.zcf (by repeat (first | (with_reducible exact HR445_0.out) | (with_reducible refine Kd.zcp ?_ _) | (with_reducible refine Kd.zcs ?_ _) | (with_reducible refine Kd.zcx ?_) | exact HR445_0.out)) hb);have n7_ := za.mk (Kd.zcf (by repeat (first | (with_reducible exact HR446_0.out) | (with_reducible refine Kd.zcp ?_ _) | (with_reducible refine Kd.zcs ?_ _) | (with_reducible refine Kd.zcx ?_) | exact HR446_0.out)) hb);have n8_ := za.mk (zl (Zq3 HB GE440) hb);have n9_ := za.mk (hbox);have n10_ := za.mk ((by rw [hg]; exact (zu (Zq3 HB GE440)) : w.heap.size ≤ gb452));have n11_ := za.mk ((by rw [hg]; exact (zu (Zq3 HB GE440)) : w.heap.size ≤ gb452));have n12_ := za.mk ((by rw [hg]; exact Nat.ne_of_lt (zc5 (g := gb440) (o := .cells #[.int .i64 t438, .int .i64 t439] 30 (0, 0)) (Zq2 BK440)) : gb440 ≠ gb452));have n13_ := za.mk ((by rw [hg]; exact Nat.ne_of_gt (zc5 (g := gb440) (o := .cells #[.int .i64 t438, .int .i64 t439] 30 (0, 0)) (Zq2 BK440)) : gb452 ≠ gb440));clear HO_3;clear HO_5;clear HO_7;clear HL445_0;clear HL446_0;clear BK440;clear HR445_0;clear HR446_0;clear HB;have HO_3 := n0_;have HO_5 := n1_;have HO_7 := n2_;have HL445_0 := n3_;have HL446_0 := n4_;have BK440 := n5_;have HR445_0 := n6_;have HR446_0 := n7_;have HB := n8_;have BK452 := n9_;have GW452 := n10_;have GE452 := n11_;have NB440_452 := n12_;have NB452_440 := n13_;clear n0_ n1_ n2_ n3_ n4_ n5_ n6_ n7_ n8_ n9_ n10_ n11_ n12_ n13_;clear hb hbox hg;refine hK.out _ _ ⟨HS0_, HS1_, HS2_, HS3_⟩ (fun hHeld => ?_);clear hK K;refine zb6 (a' := ?_) ?_ ?_;rotate_left
                        ·show Act.put _ (some 11) _ = _
                         simp only [Act.put, Zs1, Zs2, Zs3, zh, zi];rfl
                        refine one_ (i := 8) (N := some 76) #[true, true, true, true, true, true, true, true, true, true, false] rfl rfl (zby HT_.out (by kernel_rfl)) (by decide) (fun K hK => ?_);refine zct Try.func16 (by kernel_rfl) rfl #[.agg #[.int .i64 ((zf t427 (rd (zbi t431 x8_2) x9_3)).f0), .int .i64 ((zf t427 (rd (zbi t431 x8_2) x9_3)).f1), .int .i64 ((zf t427 (rd (zbi t431 x8_2) x9_3)).f2)], .int .i64 (rd x7_3 (rd (zbi t431 x8_2) x9_3))] (by rfl) rfl rfl Zmt ?_;with_reducible refine (zb5.calls ((zf t427 (rd (zbi t431 x8_2) x9_3)).f0) ((zf t427 (rd (zbi t431 x8_2) x9_3)).f1) ((zf t427 (rd (zbi t431 x8_2) x9_3)).f2) (rd x7_3 (rd (zbi t431 x8_2) x9_3)) t450 t451 _ A36.out).mono ?_
                        rintro e w51 ⟨rfl, hb⟩;have HS0_ := (hb.cell (World.block_lt_of_cell? _ _ (hHeld.1))).trans (hHeld.1);have HS1_ := (hb.cell (World.block_lt_of_cell? _ _ (hHeld.2.1))).trans (hHeld.2.1);have HS2_ := (hb.cell (World.block_lt_of_cell? _ _ (hHeld.2.2.1))).trans (hHeld.2.2.1);have HS3_ := (hb.cell (World.block_lt_of_cell? _ _ (hHeld.2.2.2))).trans (hHeld.2.2.2);refine ⟨_, rfl, ?_⟩;have n0_ := za.mk (Kd.zb3 (Zq12 HO_3) hb);have n1_ := za.mk (Kd.zb7 (Zq21 HO_5) hb);have n2_ := za.mk (Kd.zb3 (Zq12 HO_7) hb);have n3_ := za.mk (Kd.zb7 (Zq21 HL445_0) hb);have n4_ := za.mk (Kd.zb7 (Zq21 HL446_0) hb);have n5_ := za.mk (zbc (g := gb440) (o := .cells #[.int .i64 t438, .int .i64 t439] 30 (0, 0)) (Zq2 BK440) hb);have n6_ := za.mk (Kd.zcf (by repeat (first | (with_reducible exact HR445_0.out) | (with_reducible refine Kd.zcp ?_ _) | (with_reducible refine Kd.zcs ?_ _) | (with_reducible refine Kd.zcx ?_) | exact HR445_0.out)) hb);have n7_ := za.mk (Kd.zcf (by repeat (first | (with_reducible exact HR446_0.out) | (with_reducible refine Kd.zcp ?_ _) | (with_reducible refine Kd.zcs ?_ _) | (with_reducible refine Kd.zcx ?_) | exact HR446_0.out)) hb);have n8_ := za.mk (zbc (g := gb452) (o := .cells #[.int .i64 0, .int .i64 0] 39 (0, 0)) (Zq2 BK452) hb);have n9_ := za.mk (zl (Zq19 HB GE440 GE452) hb);clear HO_3;clear HO_5;clear HO_7;clear HL445_0;clear HL446_0;clear BK440;clear HR445_0;clear HR446_0;clear BK452;clear HB;have HO_3 := n0_;have HO_5 := n1_;have HO_7 := n2_;have HL445_0 := n3_;have HL446_0 := n4_;have BK440 := n5_;have HR445_0 := n6_;have HR446_0 := n7_;have BK452 := n8_;have HB := n9_;clear n0_ n1_ n2_ n3_ n4_ n5_ n6_ n7_ n8_ n9_;(try clear hb);(try clear hb2);(try clear hk);(try clear hi);refine hK.out _ _ ⟨HS0_, HS1_, HS2_, HS3_⟩ (fun hHeld => ?_);clear hK K;refine zb6 (a' := ?_) ?_ ?_;rotate_left
                        ·show Act.put _ (some 76) _ = _
                         simp only [Act.put, Zs1, Zs2, Zs3, zh, zi];rfl
                        exact zb6 (by simp only [zdt, Act.put, Zs1, Zs2, Zs3]) (hCont (gb452) _ ⟨hHeld, (by (with_reducible repeat (first | apply Kd.zc8 | apply Kd.zc7 | apply Kd.zcw)); exact Kd.zdf HL445_0.out (fun _ hk => ⟨hk.2, hk.1⟩)), (by (with_reducible repeat (first | apply Kd.zc8 | apply Kd.zc7 | apply Kd.zcw)); exact Kd.zdf HL446_0.out (fun _ hk => ⟨hk.2, hk.1⟩)), (Zq12 HO_3), (Zq21 HO_5), (Zq12 HO_7), (Zq2 BK440), (Zq2 BK452), GW452.out, GE452.out, NB440_452.out, NB452_440.out, (Zq19 HB GE440 GE452)⟩)
                      rintro gb452 w52 ⟨hS_, h0_, h1_, h2_, h3_, h4_, h5_, h6_, h7_, h8_, h9_, h10_, h11_⟩;have n0_ : za (Kd.Qc (Kd.int .i64) 3 w52 w.heap.size (fun k_ => some k_ ≠ (.slice (some ad445) t431.length co14 : Value).ownBlock ∧ some k_ ≠ (.slice (some ad449) x7_3.length co49 : Value).ownBlock) (.slice (some ad447) (zbi t431 x8_2).length c445_0) (zbi t431 x8_2)) := ⟨h0_⟩;have n1_ : za (Kd.Qc (Kd.int .i64) 3 w52 w.heap.size (fun k_ => some k_ ≠ (.slice (some ad445) t431.length co14 : Value).ownBlock ∧ some k_ ≠ (.slice (some ad449) x7_3.length co49 : Value).ownBlock) (.slice (some ad447) (zbi t431 x8_2).length c445_0) (zbi t431 x8_2)) := ⟨h1_⟩;have n2_ : za (Kd.R k35 35 w52 w.heap.size (fun _ => True) (.slice (some ad448) t427.length co11) t427) := ⟨h2_⟩;have n3_ : za (Kd.Qc (Kd.cut 3 (Kd.int .i64)) 33 w52 w.heap.size (fun k_ => some k_ ≠ (.slice (some ad449) x7_3.length co49 : Value).ownBlock) (.slice (some ad445) t431.length co14) t431) := ⟨h3_⟩;have n4_ : za (Kd.R (Kd.int .i64) 3 w52 w.heap.size (fun _ => True) (.slice (some ad449) x7_3.length co49) x7_3) := ⟨h4_⟩;have n5_ : za (w52.heap[gb440]? = some (.cells #[.int .i64 t438, .int .i64 t439] 30 (0, 0))) := ⟨h5_⟩;have n6_ : za (w52.heap[gb452]? = some (.cells #[.int .i64 0, .int .i64 0] 39 (0, 0))) := ⟨h6_⟩;have n7_ : za (w.heap.size ≤ gb452) := ⟨h7_⟩;have n8_ : za (w.heap.size ≤ gb452) := ⟨h8_⟩;have n9_ : za (gb440 ≠ gb452) := ⟨h9_⟩;have n10_ : za (gb452 ≠ gb440) := ⟨h10_⟩;have n11_ : za (Below w.heap.size w w52) := ⟨h11_⟩;clear HO_3;clear HO_5;clear HO_7;clear HL445_0;clear HL446_0;clear BK440;clear HR445_0;clear HR446_0;clear HB;clear h0_ h1_ h2_ h3_ h4_ h5_ h6_ h7_ h8_ h9_ h10_ h11_;have HL445_0 := n0_;have HL446_0 := n1_;have HO_3 := n2_;have HO_5 := n3_;have HO_7 := n4_;have BK440 := n5_;have BK452 := n6_;have GW452 := n7_;have GE452 := n8_;have NB440_452 := n9_;have NB452_440 := n10_;have HB := n11_;clear n0_ n1_ n2_ n3_ n4_ n5_ n6_ n7_ n8_ n9_ n10_ n11_;have hHeld : w52.cell? (ad448.add (((rd (zbi t431 x8_2) x9_3)).toNat * 3)) = some (.int .i64 ((zf t427 (rd (zbi t431 x8_2) x9_3)).f0)) ∧ w52.cell? ⟨(ad448.add (((rd (zbi t431 x8_2) x9_3)).toNat * 3)).block, (ad448.add (((rd (zbi t431 x8_2) x9_3)).toNat * 3)).off + 1, none⟩ = some (.int .i64 ((zf t427 (rd (zbi t431 x8_2) x9_3)).f1)) ∧ w52.cell? ⟨(ad448.add (((rd (zbi t431 x8_2) x9_3)).toNat * 3)).block, (ad448.add (((rd (zbi t431 x8_2) x9_3)).toNat * 3)).off + 2, none⟩ = some (.int .i64 ((zf t427 (rd (zbi t431 x8_2) x9_3)).f2)) ∧ w52.cell? (ad449.add ((rd (zbi t431 x8_2) x9_3)).toNat) = some (.int .i64 (rd x7_3 (rd (zbi t431 x8_2) x9_3))) := hS_;refine zb6 (a' := ?_) ?_ ?_;rotate_left
                      ·simp only [zdt, Act.put, Zs1, Zs2, Zs3]
                       rfl
                      refine one_ (i := 10) (N := none) #[true, true, true, true, true, true, true, true, true, true, true] rfl rfl (zby HT_.out (by kernel_rfl)) (by decide) (fun K hK => ?_);have hs53 : w52.cell? ⟨gb452, 0, none⟩ = some (.int .i64 0) := (ze BK452.out 0).trans rfl;have hfs53 := zm BK452.out 0;have hns53_0 := NB440_452.out;have hms53_0 := NB452_440.out;have hs54 : w52.cell? ⟨gb452, 1, none⟩ = some (.int .i64 0) := (ze BK452.out 1).trans rfl;have hfs54 := zm BK452.out 1;have hns54_0 := NB440_452.out;have hms54_0 := NB452_440.out;refine zg3 (w1 := ?_) (by rfl) rfl ?_ ?_;rotate_left
                      ·go_simp
                       rfl
                      refine hK.out _ _ ⟨((cell_far (p := ⟨gb452, _, none⟩) (by first | exact Kd.zbm (Kd.R_ne HO_3.out BK452.out (by decide)) | (rw [add_block]; exact Kd.zbm (Kd.R_ne HO_3.out BK452.out (by decide))) | (show (Addr.add _ _).block ≠ _; rw [add_block]; exact Kd.zbm (Kd.R_ne HO_3.out BK452.out (by decide))) | (dsimp only; exact Kd.zbm (Kd.R_ne HO_3.out BK452.out (by decide)))) _).trans (((cell_far (p := ⟨gb452, _, none⟩) (by first | exact Kd.zbm (Kd.R_ne HO_3.out BK452.out (by decide)) | (rw [add_block]; exact Kd.zbm (Kd.R_ne HO_3.out BK452.out (by decide))) | (show (Addr.add _ _).block ≠ _; rw [add_block]; exact Kd.zbm (Kd.R_ne HO_3.out BK452.out (by decide))) | (dsimp only; exact Kd.zbm (Kd.R_ne HO_3.out BK452.out (by decide)))) _).trans (hHeld.1)))), ((cell_far (p := ⟨gb452, _, none⟩) (by first | exact Kd.zbm (Kd.R_ne HO_3.out BK452.out (by decide)) | (rw [add_block]; exact Kd.zbm (Kd.R_ne HO_3.out BK452.out (by decide))) | (show (Addr.add _ _).block ≠ _; rw [add_block]; exact Kd.zbm (Kd.R_ne HO_3.out BK452.out (by decide))) | (dsimp only; exact Kd.zbm (Kd.R_ne HO_3.out BK452.out (by decide)))) _).trans (((cell_far (p := ⟨gb452, _, none⟩) (by first | exact Kd.zbm (Kd.R_ne HO_3.out BK452.out (by decide)) | (rw [add_block]; exact Kd.zbm (Kd.R_ne HO_3.out BK452.out (by decide))) | (show (Addr.add _ _).block ≠ _; rw [add_block]; exact Kd.zbm (Kd.R_ne HO_3.out BK452.out (by decide))) | (dsimp only; exact Kd.zbm (Kd.R_ne HO_3.out BK452.out (by decide)))) _).trans (hHeld.2.1)))), ((cell_far (p := ⟨gb452, _, none⟩) (by first | exact Kd.zbm (Kd.R_ne HO_3.out BK452.out (by decide)) | (rw [add_block]; exact Kd.zbm (Kd.R_ne HO_3.out BK452.out (by decide))) | (show (Addr.add _ _).block ≠ _; rw [add_block]; exact Kd.zbm (Kd.R_ne HO_3.out BK452.out (by decide))) | (dsimp only; exact Kd.zbm (Kd.R_ne HO_3.out BK452.out (by decide)))) _).trans (((cell_far (p := ⟨gb452, _, none⟩) (by first | exact Kd.zbm (Kd.R_ne HO_3.out BK452.out (by decide)) | (rw [add_block]; exact Kd.zbm (Kd.R_ne HO_3.out BK452.out (by decide))) | (show (Addr.add _ _).block ≠ _; rw [add_block]; exact Kd.zbm (Kd.R_ne HO_3.out BK452.out (by decide))) | (dsimp only; exact Kd.zbm (Kd.R_ne HO_3.out BK452.out (by decide)))) _).trans (hHeld.2.2.1)))), ((cell_far (p := ⟨gb452, _, none⟩) (by first | exact Kd.zbm (Kd.R_ne HO_7.out BK452.out (by decide)) | (rw [add_block]; exact Kd.zbm (Kd.R_ne HO_7.out BK452.out (by decide))) | (show (Addr.add _ _).block ≠ _; rw [add_block]; exact Kd.zbm (Kd.R_ne HO_7.out BK452.out (by decide))) | (dsimp only; exact Kd.zbm (Kd.R_ne HO_7.out BK452.out (by decide)))) _).trans (((cell_far (p := ⟨gb452, _, none⟩) (by first | exact Kd.zbm (Kd.R_ne HO_7.out BK452.out (by decide)) | (rw [add_block]; exact Kd.zbm (Kd.R_ne HO_7.out BK452.out (by decide))) | (show (Addr.add _ _).block ≠ _; rw [add_block]; exact Kd.zbm (Kd.R_ne HO_7.out BK452.out (by decide))) | (dsimp only; exact Kd.zbm (Kd.R_ne HO_7.out BK452.out (by decide)))) _).trans (hHeld.2.2.2))))⟩ (fun hHeld => ?_);clear hK K;refine zdb (zcb HT_.out (by kernel_rfl)) ?_;have hnb55 := NB452_440.out;have hnc55 := NB440_452.out;have hcz56_0 : w52.cell? ⟨gb452, 0, none⟩ = some (.int .i64 0) := (ze BK452.out 0).trans rfl;have hcz56_1 : w52.cell? ⟨gb452, 1, none⟩ = some (.int .i64 0) := (ze BK452.out 1).trans rfl;have hfz56_0 := zm BK452.out 0;have hfz56_1 := zm BK452.out 1
                      try go_wp2
                      go_ret;exact ⟨by first | rfl | (simp [zq, zt] <;> rfl) | (simp [*, zq, zt] <;> rfl), Zq19 HB GE440 GE452⟩
                     ·rw [if_neg c47] at H
                      have c47b0 : decide (t451 ≤ x8_2) = false := decide_eq_false c47;clear c47;obtain ⟨y454, hy454⟩ : ∃ y_ : List Int, y_ = (x7_3.set ((rd (zbi t431 x8_2) x9_3) : Int).toNat (wrap64 ((rd x7_3 (rd (zbi t431 x8_2) x9_3)) + 1))) := ⟨_, rfl⟩;replace H : (laws_FnFairWindows.l1 k3 t427 t431 y454 x8_2 (wrap64 (x9_3 + 1))) = some r := by first | (rw [hy454]; with_reducible exact H) | (have H2_ := (Option.bind_some _ _).symm.trans H; rw [hy454]; with_reducible exact H2_) | (have H2_ := (Option.bind_some _ _).symm.trans H; with_reducible exact H2_) | with_reducible exact H | (rw [hy454]; exact H) | exact H
                      have Ny454 := za.mk hy454;clear hy454;have H' := za.mk H;clear H;have p445 : 0 ≤ (x8_2 : Int) := of_decide_eq_true Zas;have q445 : x8_2 < (t431.length : Int) := of_decide_eq_true Zas;obtain ⟨ad445, A445_0, c445_0, e445, hx445_0, hl445_0, hi445_0⟩ := zg7 (Kd.zcu HO_5.out).2.2 x8_2 p445 q445
                      cases e445
                      obtain ⟨ce445, hce445, hMe445, hcc445⟩ := Kd.zhc HO_5.out [] x8_2 p445 (by first | exact q445 | exact of_decide_eq_true Zas | (have e_ := (Kd.zcu HO_5.out).1; omega));obtain ⟨ve445_0, rfl, ge445_0⟩ := hMe445;have hv445_0 := hcc445 0 _ rfl;rw [Nat.add_zero, show ((Kd.cut 3 (Kd.int .i64))).sz = 1 from rfl, Nat.mul_one] at hv445_0;replace hv445_0 := Option.some.inj (hv445_0.symm.trans hx445_0);rw [hv445_0] at ge445_0;have HL445_0 := za.mk (show Kd.Qc (Kd.int .i64) 3 _ _ _ _ (zbi t431 x8_2) from ge445_0);clear hv445_0 ge445_0;clear hcc445 hce445;have HR445_0 := za.mk hi445_0;have HC445_0 := za.mk hl445_0;clear hi445_0 hl445_0;replace p445 := eq_true p445;replace q445 := eq_true q445;have p446 : 0 ≤ (x8_2 : Int) := of_decide_eq_true Zas;have q446 : x8_2 < (t431.length : Int) := of_decide_eq_true Zas;obtain ⟨ad446, A446_0, c446_0, e446, hx446_0, hl446_0, hi446_0⟩ := zg7 (Kd.zcu HO_5.out).2.2 x8_2 p446 q446;obtain rfl : ad445 = ad446 := (by injection e446);obtain ⟨ce446, hce446, hMe446, hcc446⟩ := Kd.zhc HO_5.out [] x8_2 p446 (by first | exact q446 | exact of_decide_eq_true Zas | (have e_ := (Kd.zcu HO_5.out).1; omega));obtain ⟨ve446_0, rfl, ge446_0⟩ := hMe446;have hv446_0 := hcc446 0 _ rfl;rw [Nat.add_zero, show ((Kd.cut 3 (Kd.int .i64))).sz = 1 from rfl, Nat.mul_one] at hv446_0;replace hv446_0 := Option.some.inj (hv446_0.symm.trans hx446_0);rw [hv446_0] at ge446_0;have HL446_0 := za.mk (show Kd.Qc (Kd.int .i64) 3 _ _ _ _ (zbi t431 x8_2) from ge446_0);clear hv446_0 ge446_0;clear hcc446 hce446;have HR446_0 := za.mk hi446_0;have HC446_0 := za.mk hl446_0;clear hi446_0 hl446_0;replace p446 := eq_true p446;replace q446 := eq_true q446;have ea_ := Option.some.inj (hx445_0.symm.trans hx446_0);injection ea_ with ea_ en_ ec_;subst ea_;subst ec_;clear en_;have p447 : 0 ≤ (x9_3 : Int) := of_decide_eq_true Zas;have q447 : x9_3 < ((zbi t431 x8_2).length : Int) := of_decide_eq_true Zas;obtain ⟨ad447, e447, hx447_0⟩ := Kd.zcc (by repeat (first | (with_reducible exact HR446_0.out) | (with_reducible refine Kd.zcp ?_ _) | (with_reducible refine Kd.zcs ?_ _) | (with_reducible refine Kd.zcx ?_) | exact HR446_0.out)) x9_3 p447 q447
                      cases e447
                      replace p447 := eq_true p447;replace q447 := eq_true q447
                      try go_wp2
                      have n0_ := za.mk (Kd.zca HO_3.out);have n1_ := za.mk (Kd.zcw HO_5.out);have n2_ := za.mk (Kd.zca HO_7.out);have n3_ := za.mk (Kd.zcw HL445_0.out);have n4_ := za.mk (Kd.zcw HL446_0.out);have n5_ := za.mk (zy BK440.out);have n6_ := za.mk (Kd.zcx HR445_0.out);have n7_ := za.mk (Kd.zcx HR446_0.out);have n8_ := za.mk (zbj HB.out);clear HO_3;clear HO_5;clear HO_7;clear HL445_0;clear HL446_0;clear BK440;clear HR445_0;clear HR446_0;clear HB;have HO_3 := n0_;have HO_5 := n1_;have HO_7 := n2_;have HL445_0 := n3_;have HL446_0 := n4_;have BK440 := n5_;have HR445_0 := n6_;have HR446_0 := n7_;have HB := n8_;clear n0_ n1_ n2_ n3_ n4_ n5_ n6_ n7_ n8_;have p448 : 0 ≤ ((rd (zbi t431 x8_2) x9_3) : Int) := of_decide_eq_true Zas;have q448 : (rd (zbi t431 x8_2) x9_3) < (t427.length : Int) := of_decide_eq_true Zas;obtain ⟨ad448, e448, hx448_0, hx448_1, hx448_2⟩ := zcz (Kd.zbp HO_3.out).2.2 (rd (zbi t431 x8_2) x9_3) p448 q448
                      cases e448
                      replace p448 := eq_true p448;replace q448 := eq_true q448;obtain ⟨Ao59, co59, eo59⟩ := Kd.zcv HO_7.out;(first | subst eo59 | (injection eo59 with f1_ f2_ f3_; have f4_ := f1_.symm; have f5_ := f3_.symm; clear f1_ f2_ f3_; subst f4_; subst f5_));have p449 : 0 ≤ ((rd (zbi t431 x8_2) x9_3) : Int) := of_decide_eq_true Zas;have q449 : (rd (zbi t431 x8_2) x9_3) < (x7_3.length : Int) := of_decide_eq_true Zas;obtain ⟨ad449, e449, hx449_0⟩ := Kd.zcc (Kd.zbp HO_7.out).2.2 (rd (zbi t431 x8_2) x9_3) p449 q449
                      cases e449
                      replace p449 := eq_true p449;replace q449 := eq_true q449;refine zcr (n := 11) (S := fun w' => w'.cell? (ad448.add (((rd (zbi t431 x8_2) x9_3)).toNat * 3)) = some (.int .i64 ((zf t427 (rd (zbi t431 x8_2) x9_3)).f0)) ∧ w'.cell? ⟨(ad448.add (((rd (zbi t431 x8_2) x9_3)).toNat * 3)).block, (ad448.add (((rd (zbi t431 x8_2) x9_3)).toNat * 3)).off + 1, none⟩ = some (.int .i64 ((zf t427 (rd (zbi t431 x8_2) x9_3)).f1)) ∧ w'.cell? ⟨(ad448.add (((rd (zbi t431 x8_2) x9_3)).toNat * 3)).block, (ad448.add (((rd (zbi t431 x8_2) x9_3)).toNat * 3)).off + 2, none⟩ = some (.int .i64 ((zf t427 (rd (zbi t431 x8_2) x9_3)).f2)) ∧ w'.cell? (ad449.add ((rd (zbi t431 x8_2) x9_3)).toNat) = some (.int .i64 (rd x7_3 (rd (zbi t431 x8_2) x9_3)))) (ds := []) #[false, false, false, false, false, false, false, false, false, false, false] (by kernel_rfl) rfl rfl ⟨hx448_0, hx448_1, hx448_2, hx449_0⟩ (fun hHeld => ?_); refine zbr laws_FnFairWindows.tab18 laws_FnFairWindows.bits18 (fun HT_ HW_ => ?_);generalize wr.drew = w58 at HO_3 HO_5 HO_7 HL445_0 HL446_0 BK440 HR445_0 HR446_0 HB hx448_0 hx448_1 hx448_2 hx449_0 hHeld ⊢;refine zo (i := 0) (N := some 68) (v := ?_) (a' := ?_) #[true, false, false, false, false, false, false, false, false, false, false] rfl rfl (zg HT_.out (by kernel_rfl)) (fun _ _ _ h => h) (Or.inl ⟨by rfl, ?_⟩) ?_ ?_;rotate_left
                      ·intro w'
                       go_simp;with_reducible rfl
                      rotate_left
                      ·simp only [Act.put, Zs1, Zs2, Zs3, zh, zi]
                       rfl
                      refine zo (i := 1) (N := some 69) (v := ?_) (a' := ?_) #[true, true, false, false, false, false, false, false, false, false, false] rfl rfl (zg HT_.out (by kernel_rfl)) (fun _ _ _ h => h) (Or.inl ⟨by rfl, ?_⟩) ?_ ?_;rotate_left
                      ·intro w'
                       go_simp;with_reducible rfl
                      rotate_left
                      ·simp only [Act.put, Zs1, Zs2, Zs3, zh, zi]
                       rfl
                      refine zo (i := 2) (N := some 70) (v := ?_) (a' := ?_) #[true, true, true, false, false, false, false, false, false, false, false] rfl rfl (zg HT_.out (by kernel_rfl)) (fun _ _ _ h => h) (Or.inl ⟨by rfl, ?_⟩) ?_ ?_;rotate_left
                      ·intro w'
                       go_simp;with_reducible rfl
                      rotate_left
                      ·simp only [Act.put, Zs1, Zs2, Zs3, zh, zi]
                       rfl
                      refine zo (i := 4) (N := some 72) (v := ?_) (a' := ?_) #[true, true, true, false, true, false, false, false, false, false, false] rfl rfl (zg HT_.out (by kernel_rfl)) (fun _ _ _ h => h) (Or.inl ⟨by rfl, ?_⟩) ?_ ?_;rotate_left
                      ·intro w'
                       go_simp;with_reducible rfl
                      rotate_left
                      ·simp only [Act.put, Zs1, Zs2, Zs3, zh, zi]
                       rfl
                      refine zo (i := 5) (N := some 73) (v := ?_) (a' := ?_) #[true, true, true, false, true, true, false, false, false, false, false] rfl rfl (zg HT_.out (by kernel_rfl)) (fun _ _ _ h => h) (Or.inl ⟨by rfl, ?_⟩) ?_ ?_;rotate_left
                      ·intro w'
                       go_simp;with_reducible rfl
                      rotate_left
                      ·simp only [Act.put, Zs1, Zs2, Zs3, zh, zi]
                       rfl
                      refine zo (i := 6) (N := some 74) (v := ?_) (a' := ?_) #[true, true, true, false, true, true, true, false, false, false, false] rfl rfl (zg HT_.out (by kernel_rfl)) (fun _ _ _ h => h) (Or.inl ⟨by rfl, ?_⟩) ?_ ?_;rotate_left
                      ·intro w'
                       go_simp;with_reducible rfl
                      rotate_left
                      ·simp only [Act.put, Zs1, Zs2, Zs3, zh, zi]
                       rfl
                      refine zb2 (i := 3) (N := some 71) (v := ?_) (a' := ?_) #[true, true, true, true, true, true, true, false, false, false, false] rfl rfl (zbf HT_.out HW_.out (by kernel_rfl)) (fun _ _ _ h => h) (Or.inl ⟨by rfl, ?_⟩) hHeld ?_ ?_;rotate_left
                      ·rintro w' ⟨s0, s1, s2, s3⟩
                       go_simp;with_reducible rfl
                      rotate_left
                      ·simp only [Act.put, Zs1, Zs2, Zs3, zh, zi]
                       rfl
                      refine zb2 (i := 7) (N := some 75) (v := ?_) (a' := ?_) #[true, true, true, true, true, true, true, true, false, false, false] rfl rfl (zbf HT_.out HW_.out (by kernel_rfl)) (fun _ _ _ h => h) (Or.inl ⟨by rfl, ?_⟩) hHeld ?_ ?_;rotate_left
                      ·rintro w' ⟨s0, s1, s2, s3⟩
                       go_simp;with_reducible rfl
                      rotate_left
                      ·simp only [Act.put, Zs1, Zs2, Zs3, zh, zi]
                       rfl
                      refine zj2 (σ := Nat) 1 #[true, true, true, true, true, true, true, true, true, true, false] (fun s_ => [(76, .agg #[.int .i64 t450, .int .i64 t451]), (11, .pointer (some ⟨s_, 0, none⟩))]) (fun s_ w' => (w'.cell? (ad448.add (((rd (zbi t431 x8_2) x9_3)).toNat * 3)) = some (.int .i64 ((zf t427 (rd (zbi t431 x8_2) x9_3)).f0)) ∧ w'.cell? ⟨(ad448.add (((rd (zbi t431 x8_2) x9_3)).toNat * 3)).block, (ad448.add (((rd (zbi t431 x8_2) x9_3)).toNat * 3)).off + 1, none⟩ = some (.int .i64 ((zf t427 (rd (zbi t431 x8_2) x9_3)).f1)) ∧ w'.cell? ⟨(ad448.add (((rd (zbi t431 x8_2) x9_3)).toNat * 3)).block, (ad448.add (((rd (zbi t431 x8_2) x9_3)).toNat * 3)).off + 2, none⟩ = some (.int .i64 ((zf t427 (rd (zbi t431 x8_2) x9_3)).f2)) ∧ w'.cell? (ad449.add ((rd (zbi t431 x8_2) x9_3)).toNat) = some (.int .i64 (rd x7_3 (rd (zbi t431 x8_2) x9_3)))) ∧ (Kd.Qc (Kd.int .i64) 3 w' w.heap.size (fun k_ => some k_ ≠ (.slice (some ad445) t431.length co14 : Value).ownBlock ∧ some k_ ≠ (.slice (some ad449) x7_3.length co59 : Value).ownBlock) (.slice (some ad447) (zbi t431 x8_2).length c445_0) (zbi t431 x8_2)) ∧ (Kd.Qc (Kd.int .i64) 3 w' w.heap.size (fun k_ => some k_ ≠ (.slice (some ad445) t431.length co14 : Value).ownBlock ∧ some k_ ≠ (.slice (some ad449) x7_3.length co59 : Value).ownBlock) (.slice (some ad447) (zbi t431 x8_2).length c445_0) (zbi t431 x8_2)) ∧ (Kd.R k35 35 w' w.heap.size (fun _ => True) (.slice (some ad448) t427.length co11) t427) ∧ (Kd.Qc (Kd.cut 3 (Kd.int .i64)) 33 w' w.heap.size (fun k_ => some k_ ≠ (.slice (some ad449) x7_3.length co59 : Value).ownBlock) (.slice (some ad445) t431.length co14) t431) ∧ (Kd.R (Kd.int .i64) 3 w' w.heap.size (fun _ => True) (.slice (some ad449) x7_3.length co59) x7_3) ∧ (w'.heap[gb440]? = some (.cells #[.int .i64 t438, .int .i64 t439] 30 (0, 0))) ∧ (w'.heap[s_]? = some (.cells #[.int .i64 0, .int .i64 0] 39 (0, 0))) ∧ (w.heap.size ≤ s_) ∧ (w.heap.size ≤ s_) ∧ (gb440 ≠ s_) ∧ (s_ ≠ gb440) ∧ (Below w.heap.size w w')) ?_ ?_;rotate_left
                      ·intro hCont
                       refine two_ (i := 8) (j := 9) (Ni := some 76) (Nj := some 11) #[true, true, true, true, true, true, true, true, true, false, false] #[true, true, true, true, true, true, true, true, false, true, false] rfl rfl rfl rfl (zg5 HT_.out (by kernel_rfl)) (by decide) (by decide) (fun K hK => ?_) (fun K hK => ?_)
                       ·skip
                        refine zct Try.func16 (by kernel_rfl) rfl #[.agg #[.int .i64 ((zf t427 (rd (zbi t431 x8_2) x9_3)).f0), .int .i64 ((zf t427 (rd (zbi t431 x8_2) x9_3)).f1), .int .i64 ((zf t427 (rd (zbi t431 x8_2) x9_3)).f2)], .int .i64 (rd x7_3 (rd (zbi t431 x8_2) x9_3))] (by rfl) rfl rfl Zmt ?_;with_reducible refine (zb5.calls ((zf t427 (rd (zbi t431 x8_2) x9_3)).f0) ((zf t427 (rd (zbi t431 x8_2) x9_3)).f1) ((zf t427 (rd (zbi t431 x8_2) x9_3)).f2) (rd x7_3 (rd (zbi t431 x8_2) x9_3)) t450 t451 _ A36.out).mono ?_
                        rintro e w60 ⟨rfl, hb⟩;have HS0_ := (hb.cell (World.block_lt_of_cell? _ _ (hHeld.1))).trans (hHeld.1);have HS1_ := (hb.cell (World.block_lt_of_cell? _ _ (hHeld.2.1))).trans (hHeld.2.1);have HS2_ := (hb.cell (World.block_lt_of_cell? _ _ (hHeld.2.2.1))).trans (hHeld.2.2.1);have HS3_ := (hb.cell (World.block_lt_of_cell? _ _ (hHeld.2.2.2))).trans (hHeld.2.2.2);refine ⟨_, rfl, ?_⟩;have n0_ := za.mk (Kd.zb3 (Zq12 HO_3) hb);have n1_ := za.mk (Kd.zb7 (Zq21 HO_5) hb);have n2_ := za.mk (Kd.zb3 (Zq12 HO_7) hb);have n3_ := za.mk (Kd.zb7 (Zq21 HL445_0) hb);have n4_ := za.mk (Kd.zb7 (Zq21 HL446_0) hb);have n5_ := za.mk (zbc (g := gb440) (o := .cells #[.int .i64 t438, .int .i64 t439] 30 (0, 0)) (Zq2 BK440) hb);have n6_ := za.mk (Kd.zcf (by repeat (first | (with_reducible exact HR445_0.out) | (with_reducible refine Kd.zcp ?_ _) | (with_reducible refine Kd.zcs ?_ _) | (with_reducible refine Kd.zcx ?_) | exact HR445_0.out)) hb);have n7_ := za.mk (Kd.zcf (by repeat (first | (with_reducible exact HR446_0.out) | (with_reducible refine Kd.zcp ?_ _) | (with_reducible refine Kd.zcs ?_ _) | (with_reducible refine Kd.zcx ?_) | exact HR446_0.out)) hb);have n8_ := za.mk (zl (Zq3 HB GE440) hb);clear HO_3;clear HO_5;clear HO_7;clear HL445_0;clear HL446_0;clear BK440;clear HR445_0;clear HR446_0;clear HB;have HO_3 := n0_;have HO_5 := n1_;have HO_7 := n2_;have HL445_0 := n3_;have HL446_0 := n4_;have BK440 := n5_;have HR445_0 := n6_;have HR446_0 := n7_;have HB := n8_;clear n0_ n1_ n2_ n3_ n4_ n5_ n6_ n7_ n8_;(try clear hb);(try clear hb2);(try clear hk);(try clear hi);refine hK.out _ _ ⟨HS0_, HS1_, HS2_, HS3_⟩ (fun hHeld => ?_);clear hK K;refine zb6 (a' := ?_) ?_ ?_;rotate_left
                        ·show Act.put _ (some 76) _ = _
                         simp only [Act.put, Zs1, Zs2, Zs3, zh, zi];rfl
                        refine one_ (i := 9) (N := some 11) #[true, true, true, true, true, true, true, true, true, true, false] rfl rfl (zby HT_.out (by kernel_rfl)) (by decide) (fun K hK => ?_);refine zfb ?hg (N := 11) ?hd (cs := #[.int .i64 0, .int .i64 0]) (t := 39) ?hr ?_; (case hd => rfl); (case hg => rfl); (case hr => first | (go_simp; done) | (go_simp; rfl));intro gb452 hg w61 hbox hb;have HS0_ := (hb.cell (World.block_lt_of_cell? _ _ (hHeld.1))).trans (hHeld.1);have HS1_ := (hb.cell (World.block_lt_of_cell? _ _ (hHeld.2.1))).trans (hHeld.2.1);have HS2_ := (hb.cell (World.block_lt_of_cell? _ _ (hHeld.2.2.1))).trans (hHeld.2.2.1);have HS3_ := (hb.cell (World.block_lt_of_cell? _ _ (hHeld.2.2.2))).trans (hHeld.2.2.2);have n0_ := za.mk (Kd.zb3 (Zq12 HO_3) hb);have n1_ := za.mk (Kd.zb7 (Zq21 HO_5) hb);have n2_ := za.mk (Kd.zb3 (Zq12 HO_7) hb);have n3_ := za.mk (Kd.zb7 (Zq21 HL445_0) hb);have n4_ := za.mk (Kd.zb7 (Zq21 HL446_0) hb);have n5_ := za.mk (zbc (g := gb440) (o := .cells #[.int .i64 t438, .int .i64 t439] 30 (0, 0)) (Zq2 BK440) hb);have n6_ := za.mk (Kd.zcf (by repeat (first | (with_reducible exact HR445_0.out) | (with_reducible refine Kd.zcp ?_ _) | (with_reducible refine Kd.zcs ?_ _) | (with_reducible refine Kd.zcx ?_) | exact HR445_0.out)) hb);have n7_ := za.mk (Kd.zcf (by repeat (first | (with_reducible exact HR446_0.out) | (with_reducible refine Kd.zcp ?_ _) | (with_reducible refine Kd.zcs ?_ _) | (with_reducible refine Kd.zcx ?_) | exact HR446_0.out)) hb);have n8_ := za.mk (zl (Zq3 HB GE440) hb);have n9_ := za.mk (hbox);have n10_ := za.mk ((by rw [hg]; exact (zu (Zq3 HB GE440)) : w.heap.size ≤ gb452));have n11_ := za.mk ((by rw [hg]; exact (zu (Zq3 HB GE440)) : w.heap.size ≤ gb452));have n12_ := za.mk ((by rw [hg]; exact Nat.ne_of_lt (zc5 (g := gb440) (o := .cells #[.int .i64 t438, .int .i64 t439] 30 (0, 0)) (Zq2 BK440)) : gb440 ≠ gb452));have n13_ := za.mk ((by rw [hg]; exact Nat.ne_of_gt (zc5 (g := gb440) (o := .cells #[.int .i64 t438, .int .i64 t439] 30 (0, 0)) (Zq2 BK440)) : gb452 ≠ gb440));clear HO_3;clear HO_5;clear HO_7;clear HL445_0;clear HL446_0;clear BK440;clear HR445_0;clear HR446_0;clear HB;have HO_3 := n0_;have HO_5 := n1_;have HO_7 := n2_;have HL445_0 := n3_;have HL446_0 := n4_;have BK440 := n5_;have HR445_0 := n6_;have HR446_0 := n7_;have HB := n8_;have BK452 := n9_;have GW452 := n10_;have GE452 := n11_;have NB440_452 := n12_;have NB452_440 := n13_;clear n0_ n1_ n2_ n3_ n4_ n5_ n6_ n7_ n8_ n9_ n10_ n11_ n12_ n13_;clear hb hbox hg;refine hK.out _ _ ⟨HS0_, HS1_, HS2_, HS3_⟩ (fun hHeld => ?_);clear hK K;refine zb6 (a' := ?_) ?_ ?_;rotate_left
                        ·show Act.put _ (some 11) _ = _
                         simp only [Act.put, Zs1, Zs2, Zs3, zh, zi];rfl
                        exact zb6 (by simp only [zdt, Act.put, Zs1, Zs2, Zs3]) (hCont (gb452) _ ⟨hHeld, (by (with_reducible repeat (first | apply Kd.zc8 | apply Kd.zc7 | apply Kd.zcw)); exact Kd.zdf HL445_0.out (fun _ hk => ⟨hk.2, hk.1⟩)), (by (with_reducible repeat (first | apply Kd.zc8 | apply Kd.zc7 | apply Kd.zcw)); exact Kd.zdf HL446_0.out (fun _ hk => ⟨hk.2, hk.1⟩)), (Zq12 HO_3), (Zq21 HO_5), (Zq12 HO_7), (Zq2 BK440), (Zq2 BK452), GW452.out, GE452.out, NB440_452.out, NB452_440.out, (Zq19 HB GE440 GE452)⟩)
                       ·skip
                        refine zfb ?hg (N := 11) ?hd (cs := #[.int .i64 0, .int .i64 0]) (t := 39) ?hr ?_; (case hd => rfl); (case hg => rfl); (case hr => first | (go_simp; done) | (go_simp; rfl));intro gb452 hg w60 hbox hb;have HS0_ := (hb.cell (World.block_lt_of_cell? _ _ (hHeld.1))).trans (hHeld.1);have HS1_ := (hb.cell (World.block_lt_of_cell? _ _ (hHeld.2.1))).trans (hHeld.2.1);have HS2_ := (hb.cell (World.block_lt_of_cell? _ _ (hHeld.2.2.1))).trans (hHeld.2.2.1);have HS3_ := (hb.cell (World.block_lt_of_cell? _ _ (hHeld.2.2.2))).trans (hHeld.2.2.2);have n0_ := za.mk (Kd.zb3 (Zq12 HO_3) hb);have n1_ := za.mk (Kd.zb7 (Zq21 HO_5) hb);have n2_ := za.mk (Kd.zb3 (Zq12 HO_7) hb);have n3_ := za.mk (Kd.zb7 (Zq21 HL445_0) hb);have n4_ := za.mk (Kd.zb7 (Zq21 HL446_0) hb);have n5_ := za.mk (zbc (g := gb440) (o := .cells #[.int .i64 t438, .int .i64 t439] 30 (0, 0)) (Zq2 BK440) hb);have n6_ := za.mk (Kd.zcf (by repeat (first | (with_reducible exact HR445_0.out) | (with_reducible refine Kd.zcp ?_ _) | (with_reducible refine Kd.zcs ?_ _) | (with_reducible refine Kd.zcx ?_) | exact HR445_0.out)) hb);have n7_ := za.mk (Kd.zcf (by repeat (first | (with_reducible exact HR446_0.out) | (with_reducible refine Kd.zcp ?_ _) | (with_reducible refine Kd.zcs ?_ _) | (with_reducible refine Kd.zcx ?_) | exact HR446_0.out)) hb);have n8_ := za.mk (zl (Zq3 HB GE440) hb);have n9_ := za.mk (hbox);have n10_ := za.mk ((by rw [hg]; exact (zu (Zq3 HB GE440)) : w.heap.size ≤ gb452));have n11_ := za.mk ((by rw [hg]; exact (zu (Zq3 HB GE440)) : w.heap.size ≤ gb452));have n12_ := za.mk ((by rw [hg]; exact Nat.ne_of_lt (zc5 (g := gb440) (o := .cells #[.int .i64 t438, .int .i64 t439] 30 (0, 0)) (Zq2 BK440)) : gb440 ≠ gb452));have n13_ := za.mk ((by rw [hg]; exact Nat.ne_of_gt (zc5 (g := gb440) (o := .cells #[.int .i64 t438, .int .i64 t439] 30 (0, 0)) (Zq2 BK440)) : gb452 ≠ gb440));clear HO_3;clear HO_5;clear HO_7;clear HL445_0;clear HL446_0;clear BK440;clear HR445_0;clear HR446_0;clear HB;have HO_3 := n0_;have HO_5 := n1_;have HO_7 := n2_;have HL445_0 := n3_;have HL446_0 := n4_;have BK440 := n5_;have HR445_0 := n6_;have HR446_0 := n7_;have HB := n8_;have BK452 := n9_;have GW452 := n10_;have GE452 := n11_;have NB440_452 := n12_;have NB452_440 := n13_;clear n0_ n1_ n2_ n3_ n4_ n5_ n6_ n7_ n8_ n9_ n10_ n11_ n12_ n13_;clear hb hbox hg;refine hK.out _ _ ⟨HS0_, HS1_, HS2_, HS3_⟩ (fun hHeld => ?_);clear hK K;refine zb6 (a' := ?_) ?_ ?_;rotate_left
                        ·show Act.put _ (some 11) _ = _
                         simp only [Act.put, Zs1, Zs2, Zs3, zh, zi];rfl
                        refine one_ (i := 8) (N := some 76) #[true, true, true, true, true, true, true, true, true, true, false] rfl rfl (zby HT_.out (by kernel_rfl)) (by decide) (fun K hK => ?_);refine zct Try.func16 (by kernel_rfl) rfl #[.agg #[.int .i64 ((zf t427 (rd (zbi t431 x8_2) x9_3)).f0), .int .i64 ((zf t427 (rd (zbi t431 x8_2) x9_3)).f1), .int .i64 ((zf t427 (rd (zbi t431 x8_2) x9_3)).f2)], .int .i64 (rd x7_3 (rd (zbi t431 x8_2) x9_3))] (by rfl) rfl rfl Zmt ?_;with_reducible refine (zb5.calls ((zf t427 (rd (zbi t431 x8_2) x9_3)).f0) ((zf t427 (rd (zbi t431 x8_2) x9_3)).f1) ((zf t427 (rd (zbi t431 x8_2) x9_3)).f2) (rd x7_3 (rd (zbi t431 x8_2) x9_3)) t450 t451 _ A36.out).mono ?_
                        rintro e w61 ⟨rfl, hb⟩;have HS0_ := (hb.cell (World.block_lt_of_cell? _ _ (hHeld.1))).trans (hHeld.1);have HS1_ := (hb.cell (World.block_lt_of_cell? _ _ (hHeld.2.1))).trans (hHeld.2.1);have HS2_ := (hb.cell (World.block_lt_of_cell? _ _ (hHeld.2.2.1))).trans (hHeld.2.2.1);have HS3_ := (hb.cell (World.block_lt_of_cell? _ _ (hHeld.2.2.2))).trans (hHeld.2.2.2);refine ⟨_, rfl, ?_⟩;have n0_ := za.mk (Kd.zb3 (Zq12 HO_3) hb);have n1_ := za.mk (Kd.zb7 (Zq21 HO_5) hb);have n2_ := za.mk (Kd.zb3 (Zq12 HO_7) hb);have n3_ := za.mk (Kd.zb7 (Zq21 HL445_0) hb);have n4_ := za.mk (Kd.zb7 (Zq21 HL446_0) hb);have n5_ := za.mk (zbc (g := gb440) (o := .cells #[.int .i64 t438, .int .i64 t439] 30 (0, 0)) (Zq2 BK440) hb);have n6_ := za.mk (Kd.zcf (by repeat (first | (with_reducible exact HR445_0.out) | (with_reducible refine Kd.zcp ?_ _) | (with_reducible refine Kd.zcs ?_ _) | (with_reducible refine Kd.zcx ?_) | exact HR445_0.out)) hb);have n7_ := za.mk (Kd.zcf (by repeat (first | (with_reducible exact HR446_0.out) | (with_reducible refine Kd.zcp ?_ _) | (with_reducible refine Kd.zcs ?_ _) | (with_reducible refine Kd.zcx ?_) | exact HR446_0.out)) hb);have n8_ := za.mk (zbc (g := gb452) (o := .cells #[.int .i64 0, .int .i64 0] 39 (0, 0)) (Zq2 BK452) hb);have n9_ := za.mk (zl (Zq19 HB GE440 GE452) hb);clear HO_3;clear HO_5;clear HO_7;clear HL445_0;clear HL446_0;clear BK440;clear HR445_0;clear HR446_0;clear BK452;clear HB;have HO_3 := n0_;have HO_5 := n1_;have HO_7 := n2_;have HL445_0 := n3_;have HL446_0 := n4_;have BK440 := n5_;have HR445_0 := n6_;have HR446_0 := n7_;have BK452 := n8_;have HB := n9_;clear n0_ n1_ n2_ n3_ n4_ n5_ n6_ n7_ n8_ n9_;(try clear hb);(try clear hb2);(try clear hk);(try clear hi);refine hK.out _ _ ⟨HS0_, HS1_, HS2_, HS3_⟩ (fun hHeld => ?_);clear hK K;refine zb6 (a' := ?_) ?_ ?_;rotate_left
                        ·show Act.put _ (some 76) _ = _
                         simp only [Act.put, Zs1, Zs2, Zs3, zh, zi];rfl
                        exact zb6 (by simp only [zdt, Act.put, Zs1, Zs2, Zs3]) (hCont (gb452) _ ⟨hHeld, (by (with_reducible repeat (first | apply Kd.zc8 | apply Kd.zc7 | apply Kd.zcw)); exact Kd.zdf HL445_0.out (fun _ hk => ⟨hk.2, hk.1⟩)), (by (with_reducible repeat (first | apply Kd.zc8 | apply Kd.zc7 | apply Kd.zcw)); exact Kd.zdf HL446_0.out (fun _ hk => ⟨hk.2, hk.1⟩)), (Zq12 HO_3), (Zq21 HO_5), (Zq12 HO_7), (Zq2 BK440), (Zq2 BK452), GW452.out, GE452.out, NB440_452.out, NB452_440.out, (Zq19 HB GE440 GE452)⟩)
                      rintro gb452 w62 ⟨hS_, h0_, h1_, h2_, h3_, h4_, h5_, h6_, h7_, h8_, h9_, h10_, h11_⟩;have n0_ : za (Kd.Qc (Kd.int .i64) 3 w62 w.heap.size (fun k_ => some k_ ≠ (.slice (some ad445) t431.length co14 : Value).ownBlock ∧ some k_ ≠ (.slice (some ad449) x7_3.length co59 : Value).ownBlock) (.slice (some ad447) (zbi t431 x8_2).length c445_0) (zbi t431 x8_2)) := ⟨h0_⟩;have n1_ : za (Kd.Qc (Kd.int .i64) 3 w62 w.heap.size (fun k_ => some k_ ≠ (.slice (some ad445) t431.length co14 : Value).ownBlock ∧ some k_ ≠ (.slice (some ad449) x7_3.length co59 : Value).ownBlock) (.slice (some ad447) (zbi t431 x8_2).length c445_0) (zbi t431 x8_2)) := ⟨h1_⟩;have n2_ : za (Kd.R k35 35 w62 w.heap.size (fun _ => True) (.slice (some ad448) t427.length co11) t427) := ⟨h2_⟩;have n3_ : za (Kd.Qc (Kd.cut 3 (Kd.int .i64)) 33 w62 w.heap.size (fun k_ => some k_ ≠ (.slice (some ad449) x7_3.length co59 : Value).ownBlock) (.slice (some ad445) t431.length co14) t431) := ⟨h3_⟩;have n4_ : za (Kd.R (Kd.int .i64) 3 w62 w.heap.size (fun _ => True) (.slice (some ad449) x7_3.length co59) x7_3) := ⟨h4_⟩;have n5_ : za (w62.heap[gb440]? = some (.cells #[.int .i64 t438, .int .i64 t439] 30 (0, 0))) := ⟨h5_⟩;have n6_ : za (w62.heap[gb452]? = some (.cells #[.int .i64 0, .int .i64 0] 39 (0, 0))) := ⟨h6_⟩;have n7_ : za (w.heap.size ≤ gb452) := ⟨h7_⟩;have n8_ : za (w.heap.size ≤ gb452) := ⟨h8_⟩;have n9_ : za (gb440 ≠ gb452) := ⟨h9_⟩;have n10_ : za (gb452 ≠ gb440) := ⟨h10_⟩;have n11_ : za (Below w.heap.size w w62) := ⟨h11_⟩;clear HO_3;clear HO_5;clear HO_7;clear HL445_0;clear HL446_0;clear BK440;clear HR445_0;clear HR446_0;clear HB;clear h0_ h1_ h2_ h3_ h4_ h5_ h6_ h7_ h8_ h9_ h10_ h11_;have HL445_0 := n0_;have HL446_0 := n1_;have HO_3 := n2_;have HO_5 := n3_;have HO_7 := n4_;have BK440 := n5_;have BK452 := n6_;have GW452 := n7_;have GE452 := n8_;have NB440_452 := n9_;have NB452_440 := n10_;have HB := n11_;clear n0_ n1_ n2_ n3_ n4_ n5_ n6_ n7_ n8_ n9_ n10_ n11_;have hHeld : w62.cell? (ad448.add (((rd (zbi t431 x8_2) x9_3)).toNat * 3)) = some (.int .i64 ((zf t427 (rd (zbi t431 x8_2) x9_3)).f0)) ∧ w62.cell? ⟨(ad448.add (((rd (zbi t431 x8_2) x9_3)).toNat * 3)).block, (ad448.add (((rd (zbi t431 x8_2) x9_3)).toNat * 3)).off + 1, none⟩ = some (.int .i64 ((zf t427 (rd (zbi t431 x8_2) x9_3)).f1)) ∧ w62.cell? ⟨(ad448.add (((rd (zbi t431 x8_2) x9_3)).toNat * 3)).block, (ad448.add (((rd (zbi t431 x8_2) x9_3)).toNat * 3)).off + 2, none⟩ = some (.int .i64 ((zf t427 (rd (zbi t431 x8_2) x9_3)).f2)) ∧ w62.cell? (ad449.add ((rd (zbi t431 x8_2) x9_3)).toNat) = some (.int .i64 (rd x7_3 (rd (zbi t431 x8_2) x9_3))) := hS_;refine zb6 (a' := ?_) ?_ ?_;rotate_left
                      ·simp only [zdt, Act.put, Zs1, Zs2, Zs3]
                       rfl
                      refine one_ (i := 10) (N := none) #[true, true, true, true, true, true, true, true, true, true, true] rfl rfl (zby HT_.out (by kernel_rfl)) (by decide) (fun K hK => ?_);have hs63 : w62.cell? ⟨gb452, 0, none⟩ = some (.int .i64 0) := (ze BK452.out 0).trans rfl;have hfs63 := zm BK452.out 0;have hns63_0 := NB440_452.out;have hms63_0 := NB452_440.out;have hs64 : w62.cell? ⟨gb452, 1, none⟩ = some (.int .i64 0) := (ze BK452.out 1).trans rfl;have hfs64 := zm BK452.out 1;have hns64_0 := NB440_452.out;have hms64_0 := NB452_440.out;refine zg3 (w1 := ?_) (by rfl) rfl ?_ ?_;rotate_left
                      ·go_simp
                       rfl
                      refine hK.out _ _ ⟨((cell_far (p := ⟨gb452, _, none⟩) (by first | exact Kd.zbm (Kd.R_ne HO_3.out BK452.out (by decide)) | (rw [add_block]; exact Kd.zbm (Kd.R_ne HO_3.out BK452.out (by decide))) | (show (Addr.add _ _).block ≠ _; rw [add_block]; exact Kd.zbm (Kd.R_ne HO_3.out BK452.out (by decide))) | (dsimp only; exact Kd.zbm (Kd.R_ne HO_3.out BK452.out (by decide)))) _).trans (((cell_far (p := ⟨gb452, _, none⟩) (by first | exact Kd.zbm (Kd.R_ne HO_3.out BK452.out (by decide)) | (rw [add_block]; exact Kd.zbm (Kd.R_ne HO_3.out BK452.out (by decide))) | (show (Addr.add _ _).block ≠ _; rw [add_block]; exact Kd.zbm (Kd.R_ne HO_3.out BK452.out (by decide))) | (dsimp only; exact Kd.zbm (Kd.R_ne HO_3.out BK452.out (by decide)))) _).trans (hHeld.1)))), ((cell_far (p := ⟨gb452, _, none⟩) (by first | exact Kd.zbm (Kd.R_ne HO_3.out BK452.out (by decide)) | (rw [add_block]; exact Kd.zbm (Kd.R_ne HO_3.out BK452.out (by decide))) | (show (Addr.add _ _).block ≠ _; rw [add_block]; exact Kd.zbm (Kd.R_ne HO_3.out BK452.out (by decide))) | (dsimp only; exact Kd.zbm (Kd.R_ne HO_3.out BK452.out (by decide)))) _).trans (((cell_far (p := ⟨gb452, _, none⟩) (by first | exact Kd.zbm (Kd.R_ne HO_3.out BK452.out (by decide)) | (rw [add_block]; exact Kd.zbm (Kd.R_ne HO_3.out BK452.out (by decide))) | (show (Addr.add _ _).block ≠ _; rw [add_block]; exact Kd.zbm (Kd.R_ne HO_3.out BK452.out (by decide))) | (dsimp only; exact Kd.zbm (Kd.R_ne HO_3.out BK452.out (by decide)))) _).trans (hHeld.2.1)))), ((cell_far (p := ⟨gb452, _, none⟩) (by first | exact Kd.zbm (Kd.R_ne HO_3.out BK452.out (by decide)) | (rw [add_block]; exact Kd.zbm (Kd.R_ne HO_3.out BK452.out (by decide))) | (show (Addr.add _ _).block ≠ _; rw [add_block]; exact Kd.zbm (Kd.R_ne HO_3.out BK452.out (by decide))) | (dsimp only; exact Kd.zbm (Kd.R_ne HO_3.out BK452.out (by decide)))) _).trans (((cell_far (p := ⟨gb452, _, none⟩) (by first | exact Kd.zbm (Kd.R_ne HO_3.out BK452.out (by decide)) | (rw [add_block]; exact Kd.zbm (Kd.R_ne HO_3.out BK452.out (by decide))) | (show (Addr.add _ _).block ≠ _; rw [add_block]; exact Kd.zbm (Kd.R_ne HO_3.out BK452.out (by decide))) | (dsimp only; exact Kd.zbm (Kd.R_ne HO_3.out BK452.out (by decide)))) _).trans (hHeld.2.2.1)))), ((cell_far (p := ⟨gb452, _, none⟩) (by first | exact Kd.zbm (Kd.R_ne HO_7.out BK452.out (by decide)) | (rw [add_block]; exact Kd.zbm (Kd.R_ne HO_7.out BK452.out (by decide))) | (show (Addr.add _ _).block ≠ _; rw [add_block]; exact Kd.zbm (Kd.R_ne HO_7.out BK452.out (by decide))) | (dsimp only; exact Kd.zbm (Kd.R_ne HO_7.out BK452.out (by decide)))) _).trans (((cell_far (p := ⟨gb452, _, none⟩) (by first | exact Kd.zbm (Kd.R_ne HO_7.out BK452.out (by decide)) | (rw [add_block]; exact Kd.zbm (Kd.R_ne HO_7.out BK452.out (by decide))) | (show (Addr.add _ _).block ≠ _; rw [add_block]; exact Kd.zbm (Kd.R_ne HO_7.out BK452.out (by decide))) | (dsimp only; exact Kd.zbm (Kd.R_ne HO_7.out BK452.out (by decide)))) _).trans (hHeld.2.2.2))))⟩ (fun hHeld => ?_);clear hK K;refine zdb (zcb HT_.out (by kernel_rfl)) ?_;have n0_ : za (Kd.R k35 35 ((w62.setCell ⟨gb452, 0, none⟩ (.int .i64 t450)).setCell ⟨gb452, 1, none⟩ (.int .i64 t451)) w.heap.size (fun _ => True) (.slice (some ad448) t427.length co11) t427) := ⟨by (with_reducible repeat (first | apply Kd.zck | apply Kd.zcn | apply Kd.zca)); exact Kd.zbq (Kd.zeq (p := ⟨gb452, 1, none⟩) (Kd.zeq (p := ⟨gb452, 0, none⟩) (Kd.zea HO_3.out BK452.out (by decide)) (fun _ hk => hk.2) (.int .i64 t450)) (fun _ hk => hk.2) (.int .i64 t451)) (fun _ hk => trivial)⟩;have n1_ : za (Kd.Qc (Kd.cut 3 (Kd.int .i64)) 33 ((w62.setCell ⟨gb452, 0, none⟩ (.int .i64 t450)).setCell ⟨gb452, 1, none⟩ (.int .i64 t451)) w.heap.size (fun k_ => some k_ ≠ (.slice (some ad449) x7_3.length co59 : Value).ownBlock) (.slice (some ad445) t431.length co14) t431) := ⟨by (with_reducible repeat (first | apply Kd.zc8 | apply Kd.zc7 | apply Kd.zcw)); exact Kd.zdf (Kd.ze7 (p := ⟨gb452, 1, none⟩) (Kd.ze7 (p := ⟨gb452, 0, none⟩) (Kd.zfw HO_5.out BK452.out (by decide)) (fun _ hk => hk.2) (.int .i64 t450)) (fun _ hk => hk.2) (.int .i64 t451)) (fun _ hk => hk.1)⟩;have n2_ : za (Kd.R (Kd.int .i64) 3 ((w62.setCell ⟨gb452, 0, none⟩ (.int .i64 t450)).setCell ⟨gb452, 1, none⟩ (.int .i64 t451)) w.heap.size (fun _ => True) (.slice (some ad449) x7_3.length co59) x7_3) := ⟨by (with_reducible repeat (first | apply Kd.zck | apply Kd.zcn | apply Kd.zca)); exact Kd.zbq (Kd.zeq (p := ⟨gb452, 1, none⟩) (Kd.zeq (p := ⟨gb452, 0, none⟩) (Kd.zea HO_7.out BK452.out (by decide)) (fun _ hk => hk.2) (.int .i64 t450)) (fun _ hk => hk.2) (.int .i64 t451)) (fun _ hk => trivial)⟩;have n3_ : za (Kd.Qc (Kd.int .i64) 3 ((w62.setCell ⟨gb452, 0, none⟩ (.int .i64 t450)).setCell ⟨gb452, 1, none⟩ (.int .i64 t451)) w.heap.size (fun k_ => some k_ ≠ (.slice (some ad445) t431.length co14 : Value).ownBlock ∧ some k_ ≠ (.slice (some ad449) x7_3.length co59 : Value).ownBlock) (.slice (some ad447) (zbi t431 x8_2).length c445_0) (zbi t431 x8_2)) := ⟨by (with_reducible repeat (first | apply Kd.zc8 | apply Kd.zc7 | apply Kd.zcw)); exact Kd.zdf (Kd.ze7 (p := ⟨gb452, 1, none⟩) (Kd.ze7 (p := ⟨gb452, 0, none⟩) (Kd.zfw HL445_0.out BK452.out (by decide)) (fun _ hk => hk.2) (.int .i64 t450)) (fun _ hk => hk.2) (.int .i64 t451)) (fun _ hk => ⟨hk.1.1, hk.1.2⟩)⟩
                      have n4_ : za (Kd.Qc (Kd.int .i64) 3 ((w62.setCell ⟨gb452, 0, none⟩ (.int .i64 t450)).setCell ⟨gb452, 1, none⟩ (.int .i64 t451)) w.heap.size (fun k_ => some k_ ≠ (.slice (some ad445) t431.length co14 : Value).ownBlock ∧ some k_ ≠ (.slice (some ad449) x7_3.length co59 : Value).ownBlock) (.slice (some ad447) (zbi t431 x8_2).length c445_0) (zbi t431 x8_2)) := ⟨by (with_reducible repeat (first | apply Kd.zc8 | apply Kd.zc7 | apply Kd.zcw)); exact Kd.zdf (Kd.ze7 (p := ⟨gb452, 1, none⟩) (Kd.ze7 (p := ⟨gb452, 0, none⟩) (Kd.zfw HL446_0.out BK452.out (by decide)) (fun _ hk => hk.2) (.int .i64 t450)) (fun _ hk => hk.2) (.int .i64 t451)) (fun _ hk => ⟨hk.1.1, hk.1.2⟩)⟩;have n5_ : za (((w62.setCell ⟨gb452, 0, none⟩ (.int .i64 t450)).setCell ⟨gb452, 1, none⟩ (.int .i64 t451)).heap[gb440]? = some (.cells #[.int .i64 t438, .int .i64 t439] 30 (0, 0))) := ⟨by (with_reducible repeat (first | refine zbb ?_ _ | refine zy ?_ | refine zba ?_ _)); refine zdg ?_ NB440_452.out _; (with_reducible repeat (first | refine zbb ?_ _ | refine zy ?_ | refine zba ?_ _)); refine zdg ?_ NB440_452.out _; (with_reducible repeat (first | refine zbb ?_ _ | refine zy ?_ | refine zba ?_ _)); exact BK440.out⟩;have n6_ : za (((w62.setCell ⟨gb452, 0, none⟩ (.int .i64 t450)).setCell ⟨gb452, 1, none⟩ (.int .i64 t451)).heap[gb452]? = some (.cells #[.int .i64 t450, .int .i64 t451] 39 (0, 0))) := ⟨by (with_reducible repeat (first | refine zbb ?_ _ | refine zy ?_ | refine zba ?_ _)); refine zcg (cs := #[.int .i64 t450, .int .i64 0]) ?_ 1 _ rfl; (with_reducible repeat (first | refine zbb ?_ _ | refine zy ?_ | refine zba ?_ _)); refine zcg (cs := #[.int .i64 0, .int .i64 0]) ?_ 0 _ rfl; (with_reducible repeat (first | refine zbb ?_ _ | refine zy ?_ | refine zba ?_ _)); exact BK452.out⟩;have n7_ : za (Below w.heap.size w ((w62.setCell ⟨gb452, 0, none⟩ (.int .i64 t450)).setCell ⟨gb452, 1, none⟩ (.int .i64 t451))) := ⟨Zq19 HB GE440 GE452⟩;(try clear HO_3);(try clear HO_5);(try clear HO_7);(try clear HL445_0);(try clear HL446_0);(try clear BK440);(try clear BK452);(try clear HB);generalize ((w62.setCell ⟨gb452, 0, none⟩ (.int .i64 t450)).setCell ⟨gb452, 1, none⟩ (.int .i64 t451)) = w65 at n0_ n1_ n2_ n3_ n4_ n5_ n6_ n7_ ⊢;have HO_3 := n0_;have HO_5 := n1_;have HO_7 := n2_;have HL445_0 := n3_;have HL446_0 := n4_;have BK440 := n5_;have BK452 := n6_;have HB := n7_;clear n0_ n1_ n2_ n3_ n4_ n5_ n6_ n7_;have hnb66 := NB452_440.out;have hnc66 := NB440_452.out;have hcz67_0 : w65.cell? ⟨gb452, 0, none⟩ = some (.int .i64 t450) := (ze BK452.out 0).trans rfl;have hcz67_1 : w65.cell? ⟨gb452, 1, none⟩ = some (.int .i64 t451) := (ze BK452.out 1).trans rfl;have hfz67_0 := zm BK452.out 0;have hfz67_1 := zm BK452.out 1;have p453 : 0 ≤ ((rd (zbi t431 x8_2) x9_3) : Int) := of_decide_eq_true Zas;have q453 : (rd (zbi t431 x8_2) x9_3) < (x7_3.length : Int) := of_decide_eq_true Zas;obtain ⟨ad453, e453, hx453_0⟩ := Kd.zcc (Kd.zbp HO_7.out).2.2 (rd (zbi t431 x8_2) x9_3) p453 q453;obtain rfl : ad449 = ad453 := (by injection e453);replace p453 := eq_true p453;replace q453 := eq_true q453;have p57 : 0 ≤ ((rd (zbi t431 x8_2) x9_3) : Int) := of_decide_eq_true Zas;have q57 : ((rd (zbi t431 x8_2) x9_3) : Int) < ((x7_3.length : Int) : Int) := of_decide_eq_true Zas;obtain ⟨go57, co57, eo57, gb57, gl57, cl57, HG57⟩ := Kd.zhy HO_7.out (by omega);(first | cases eo57 | (injection eo57 with ea_ en_ ec_; (first | subst ea_ | (injection ea_ with ea_; subst ea_)); subst ec_; clear en_));have GB57 := za.mk gb57;have GG57 := za.mk HG57;clear gb57 gl57 HG57;(first | simp only [add_plain] at hx449_0 | skip);(first | simp only [add_plain] at hx453_0 | skip);obtain ⟨hx57_0, hf57_0⟩ := Kd.zf8 0 HO_7.out ((rd (zbi t431 x8_2) x9_3) : Int) p57 q57;replace p57 := eq_true p57;replace q57 := eq_true q57;obtain ⟨hy68_, hz68_⟩ := Kd.zf8 0 HO_7.out ((rd (zbi t431 x8_2) x9_3) : Int) (of_decide_eq_true Zas) (of_decide_eq_true Zas);have HP68 := Kd.R_putg HO_7.out ((rd (zbi t431 x8_2) x9_3) : Int) (wrap64 ((rd x7_3 (rd (zbi t431 x8_2) x9_3)) + 1))
                      try go_wp2_with (first | ((with_reducible refine zhz (t := 3) (p := 94) rfl ?_); refine zgz (t := 3) (p := 94) (v := ?vo_w69) (w1 := (w65.setCell ⟨go57, ((rd (zbi t431 x8_2) x9_3) : Int).toNat, none⟩ (.int .i64 (wrap64 ((rd x7_3 (rd (zbi t431 x8_2) x9_3)) + 1))))) ?hg ?ho ?hn ?hr ?_; (case ho => rfl); (case hg => rfl); (case hn => rfl); (case hr => first | (go_simp; done) | (go_simp; rfl)); intro w69 hw; have hg : w65.grownBy w69 (some go57) := (by rw [hw]; exact HP68.2); have hp_ : Kd.R (Kd.int .i64) 3 w69 w.heap.size (fun _ => True) (.slice (some ⟨go57, 0, none⟩) x7_3.length co59) y454 := (by rw [hw, Ny454.out]; exact HP68.1); clear HP68; have n0_ := za.mk (Kd.R_over' (v := (.slice (some ⟨go57, 0, none⟩) x7_3.length co59)) (Zq12 HO_3) (Kd.R_typed HO_7.out) (by decide) hg); have n1_ := za.mk (Kd.zir (v := (.slice (some ⟨go57, 0, none⟩) x7_3.length co59)) (v1 := (.slice (some ⟨go57, 0, none⟩) x7_3.length co59)) (ok := (fun _ => True)) (by (with_reducible repeat (first | apply Kd.zc8 | apply Kd.zc7 | apply Kd.zcw)); exact Kd.zdf HO_5.out (fun _ hk => ⟨trivial, hk⟩)) hg (.inl rfl)); have n2_ := za.mk (hp_); have n3_ := za.mk (zgt (g := gb440) (o := .cells #[.int .i64 t438, .int .i64 t439] 30 (0, 0)) (Zq2 BK440) hg (Kd.R_ne HO_7.out BK440.out (by decide))); have n4_ := za.mk (Kd.zir (v := (.slice (some ⟨go57, 0, none⟩) x7_3.length co59)) (v1 := (.slice (some ⟨go57, 0, none⟩) x7_3.length co59)) (ok := (fun k_ => some k_ ≠ (.slice (some ad445) t431.length co14 : Value).ownBlock)) (Zq21 HL445_0) hg (.inl rfl)); have n5_ := za.mk (Kd.zir (v := (.slice (some ⟨go57, 0, none⟩) x7_3.length co59)) (v1 := (.slice (some ⟨go57, 0, none⟩) x7_3.length co59)) (ok := (fun k_ => some k_ ≠ (.slice (some ad445) t431.length co14 : Value).ownBlock)) (Zq21 HL446_0) hg (.inl rfl)); have n6_ := za.mk (zgt (g := gb452) (o := .cells #[.int .i64 t450, .int .i64 t451] 39 (0, 0)) (Zq2 BK452) hg (Kd.R_ne HO_7.out BK452.out (by decide))); have n7_ := za.mk ((by rw [hw]; exact zdv (HB.out) GB57.out : Below w.heap.size w w69)); clear HO_3; clear HO_5; clear HO_7; clear BK440; clear HL445_0; clear HL446_0; clear BK452; clear HB; have HO_3 := n0_; have HO_5 := n1_; have HO_7 := n2_; have BK440 := n3_; have HL445_0 := n4_; have HL446_0 := n5_; have BK452 := n6_; have HB := n7_; clear n0_ n1_ n2_ n3_ n4_ n5_ n6_ n7_; clear hg hw hp_))
                      go_roundg k3
                      case measure => have := HJ8.out; have := HK2.out; have := HK3.out; omega
                      case rel => exact ⟨(y454), (wrap64 (x9_3 + 1)), Zrs, H', ⟨by have := HJ8.out; have := HK2.out; have := HK3.out; omega⟩, ⟨Zq12 HO_3⟩, ⟨by (with_reducible repeat (first | apply Kd.zc8 | apply Kd.zc7 | apply Kd.zcw)); exact Kd.zdf HO_5.out (fun _ hk => hk.2)⟩, ⟨Zq12 HO_7⟩, ⟨Zq2 BK440⟩, ⟨Zq19 HB GE440 GE452⟩⟩
                   ·rw [if_neg c35] at H
                    exact absurd H (by simp)
                  ·rw [if_neg c34] at H
                   exact absurd H (by simp)
                 ·rw [if_neg c33] at H
                  exact absurd H (by simp)
                ·rw [if_neg c32] at H
                 exact absurd H (by simp)
               ·rw [if_neg c31] at H
                have c31b0 : decide (x9_3 < ((zbi t431 x8_2).length : Int)) = false := decide_eq_false c31;clear c31;have H' := za.mk H;clear H;have p445 : 0 ≤ (x8_2 : Int) := of_decide_eq_true Zas;have q445 : x8_2 < (t431.length : Int) := of_decide_eq_true Zas;obtain ⟨ad445, A445_0, c445_0, e445, hx445_0, hl445_0, hi445_0⟩ := zg7 (Kd.zcu HO_5.out).2.2 x8_2 p445 q445
                cases e445
                obtain ⟨ce445, hce445, hMe445, hcc445⟩ := Kd.zhc HO_5.out [] x8_2 p445 (by first | exact q445 | exact of_decide_eq_true Zas | (have e_ := (Kd.zcu HO_5.out).1; omega));obtain ⟨ve445_0, rfl, ge445_0⟩ := hMe445;have hv445_0 := hcc445 0 _ rfl;rw [Nat.add_zero, show ((Kd.cut 3 (Kd.int .i64))).sz = 1 from rfl, Nat.mul_one] at hv445_0;replace hv445_0 := Option.some.inj (hv445_0.symm.trans hx445_0);rw [hv445_0] at ge445_0;have HL445_0 := za.mk (show Kd.Qc (Kd.int .i64) 3 _ _ _ _ (zbi t431 x8_2) from ge445_0);clear hv445_0 ge445_0;clear hcc445 hce445;have HR445_0 := za.mk hi445_0;have HC445_0 := za.mk hl445_0;clear hi445_0 hl445_0;replace p445 := eq_true p445;replace q445 := eq_true q445;go_wp2
                go_loopg [12] k3 (fun kq v12 w' => ∃ (x12_4 : Int), v12 = .int .i64 x12_4 ∧ za (laws_FnFairWindows.l2 kq t427 t431 x7_3 x8_2 x12_4 = some r) ∧ za (kq ≤ k3) ∧ za (Kd.R k35 35 w' w.heap.size (fun _ => True) (.slice Ao11 t427.length co11) t427) ∧ za (Kd.Qc (Kd.cut 3 (Kd.int .i64)) 33 w' w.heap.size (fun k_ => some k_ ≠ (v443 : Value).ownBlock) (.slice (some ad445) t431.length co14) t431) ∧ za (Kd.R (Kd.int .i64) 3 w' w.heap.size (fun _ => True) v443 x7_3) ∧ za (w'.heap[gb440]? = some (.cells #[.int .i64 t438, .int .i64 t439] 30 (0, 0))) ∧ za (Kd.C (Kd.int .i64) w' A445_0 (zbi t431 x8_2).length (zbi t431 x8_2)) ∧ za (Below w.heap.size w w'))
                case atStart => exact ⟨(0), Zrs, H', ⟨Nat.le_refl _⟩, ⟨Zq12 HO_3⟩, ⟨Zq21 HO_5⟩, ⟨Zq12 HO_7⟩, ⟨Zq2 BK440⟩, ⟨by repeat (first | (with_reducible exact HR445_0.out) | (with_reducible refine Kd.zcp ?_ _) | (with_reducible refine Kd.zcs ?_ _) | (with_reducible refine Kd.zcx ?_) | exact HR445_0.out)⟩, ⟨Zq3 HB GE440⟩⟩
                case round =>
                 clear H'
                 (try clear c1);(try clear p2);(try clear c3);(try clear c4);(try clear p4);(try clear q4);(try clear hx4);(try clear c5);(try clear p5);(try clear q5);(try clear hx5);(try clear hf5);(try clear c6);(try clear p6);(try clear c16);(try clear c31);(try clear c31b0);(try clear c32);(try clear c33);(try clear c34);(try clear c35);(try clear c44);(try clear p44);(try clear q44);(try clear hx44);(try clear p45);(try clear q45);(try clear hx45);(try clear c47);(try clear c47b0);(try clear c55);(try clear p57);(try clear q57);(try clear hx57);(try clear hf57);(try clear p64);(try clear c66);(try clear hcz56_0);(try clear hcz56_1);(try clear hcz67_0);(try clear hcz67_1);(try clear hfz56_0);(try clear hfz56_1);(try clear hfz67_0);(try clear hfz67_1);(try clear hx445_0);(try clear hx446_0);(try clear hx447_0);(try clear hx448_0);(try clear hx448_1);(try clear hx448_2);(try clear hx449_0);(try clear hx453_0);(try clear hx57_0);(try clear p445);(try clear p446);(try clear p447);(try clear p448);(try clear p449);(try clear p453);(try clear p57);(try clear q445);(try clear q446);(try clear q447);(try clear q448);(try clear q449);(try clear q453);(try clear q57)
                 obtain ⟨x12_4, rfl, HA, HK4, HO_3, HO_5, HO_7, BK440, HR445_0, HB⟩ := hrel
                 cases gk with
                 | zero => exact absurd HA.out (by simp [laws_FnFairWindows.l2])
                 | succ k4 =>
                  have H := HA.out;clear HA;simp only [laws_FnFairWindows.l2] at H;by_cases c70 : x12_4 < (t427.length : Int)
                  ·rw [if_pos c70] at H
                   have c70b0 : decide (x12_4 < (t427.length : Int)) = true := decide_eq_true c70;clear c70;by_cases c71 : 0 ≤ x12_4
                   ·rw [if_pos c71] at H
                    have c71b0 : decide (0 ≤ x12_4) = true := decide_eq_true c71;clear c71;by_cases c72 : x12_4 < (x7_3.length : Int)
                    ·rw [if_pos c72] at H
                     have c72b0 : decide (x12_4 < (x7_3.length : Int)) = true := decide_eq_true c72;clear c72;replace H := Option.bind_eq_some_iff.mp H;obtain ⟨⟨t457, t458⟩, A730, H⟩ := H;replace H : (if t458 ≤ (wrap64 (x8_2 + 1)) then (some false) else (laws_FnFairWindows.l2 k4 t427 t431 x7_3 x8_2 (wrap64 (x12_4 + 1)))) = some r := H;have A73 := za.mk A730;clear A730;by_cases c74 : t458 ≤ (wrap64 (x8_2 + 1))
                     ·rw [if_pos c74] at H
                      have c74b0 : decide (t458 ≤ (wrap64 (x8_2 + 1))) = true := decide_eq_true c74;clear c74;obtain rfl := Option.some.inj H
                      try go_wp2
                      have n0_ := za.mk (Kd.zca HO_3.out);have n1_ := za.mk (Kd.zcw HO_5.out);have n2_ := za.mk (Kd.zca HO_7.out);have n3_ := za.mk (zy BK440.out);have n4_ := za.mk (Kd.zcx HR445_0.out);have n5_ := za.mk (zbj HB.out);clear HO_3;clear HO_5;clear HO_7;clear BK440;clear HR445_0;clear HB;have HO_3 := n0_;have HO_5 := n1_;have HO_7 := n2_;have BK440 := n3_;have HR445_0 := n4_;have HB := n5_;clear n0_ n1_ n2_ n3_ n4_ n5_;have p455 : 0 ≤ (x12_4 : Int) := of_decide_eq_true Zas;have q455 : x12_4 < (t427.length : Int) := of_decide_eq_true Zas;obtain ⟨ad455, e455, hx455_0, hx455_1, hx455_2⟩ := zcz (Kd.zbp HO_3.out).2.2 x12_4 p455 q455
                      cases e455
                      replace p455 := eq_true p455;replace q455 := eq_true q455;obtain ⟨Ao76, co76, eo76⟩ := Kd.zcv HO_7.out;(first | subst eo76 | (injection eo76 with f1_ f2_ f3_; have f4_ := f1_.symm; have f5_ := f3_.symm; clear f1_ f2_ f3_; subst f4_; subst f5_));have p456 : 0 ≤ (x12_4 : Int) := of_decide_eq_true Zas;have q456 : x12_4 < (x7_3.length : Int) := of_decide_eq_true Zas;obtain ⟨ad456, e456, hx456_0⟩ := Kd.zcc (Kd.zbp HO_7.out).2.2 x12_4 p456 q456
                      cases e456
                      replace p456 := eq_true p456;replace q456 := eq_true q456;refine zcr (n := 13) (S := fun w' => w'.cell? (ad455.add ((x12_4).toNat * 3)) = some (.int .i64 ((zf t427 x12_4).f0)) ∧ w'.cell? ⟨(ad455.add ((x12_4).toNat * 3)).block, (ad455.add ((x12_4).toNat * 3)).off + 1, none⟩ = some (.int .i64 ((zf t427 x12_4).f1)) ∧ w'.cell? ⟨(ad455.add ((x12_4).toNat * 3)).block, (ad455.add ((x12_4).toNat * 3)).off + 2, none⟩ = some (.int .i64 ((zf t427 x12_4).f2)) ∧ w'.cell? (ad456.add (x12_4).toNat) = some (.int .i64 (rd x7_3 x12_4))) (ds := []) #[false, false, false, false, false, false, false, false, false, false, false, false, false] (by kernel_rfl) rfl rfl ⟨hx455_0, hx455_1, hx455_2, hx456_0⟩ (fun hHeld => ?_); refine zbr laws_FnFairWindows.tab25 laws_FnFairWindows.bits25 (fun HT_ HW_ => ?_);generalize wr.drew = w75 at HO_3 HO_5 HO_7 BK440 HR445_0 HB hx455_0 hx455_1 hx455_2 hx456_0 hHeld ⊢;refine zo (i := 0) (N := some 101) (v := ?_) (a' := ?_) #[true, false, false, false, false, false, false, false, false, false, false, false, false] rfl rfl (zg HT_.out (by kernel_rfl)) (fun _ _ _ h => h) (Or.inl ⟨by rfl, ?_⟩) ?_ ?_;rotate_left
                      ·intro w'
                       go_simp;with_reducible rfl
                      rotate_left
                      ·simp only [Act.put, Zs1, Zs2, Zs3, zh, zi]
                       rfl
                      refine zo (i := 1) (N := some 102) (v := ?_) (a' := ?_) #[true, true, false, false, false, false, false, false, false, false, false, false, false] rfl rfl (zg HT_.out (by kernel_rfl)) (fun _ _ _ h => h) (Or.inl ⟨by rfl, ?_⟩) ?_ ?_;rotate_left
                      ·intro w'
                       go_simp;with_reducible rfl
                      rotate_left
                      ·simp only [Act.put, Zs1, Zs2, Zs3, zh, zi]
                       rfl
                      refine zo (i := 2) (N := some 103) (v := ?_) (a' := ?_) #[true, true, true, false, false, false, false, false, false, false, false, false, false] rfl rfl (zg HT_.out (by kernel_rfl)) (fun _ _ _ h => h) (Or.inl ⟨by rfl, ?_⟩) ?_ ?_;rotate_left
                      ·intro w'
                       go_simp;with_reducible rfl
                      rotate_left
                      ·simp only [Act.put, Zs1, Zs2, Zs3, zh, zi]
                       rfl
                      refine zo (i := 4) (N := some 105) (v := ?_) (a' := ?_) #[true, true, true, false, true, false, false, false, false, false, false, false, false] rfl rfl (zg HT_.out (by kernel_rfl)) (fun _ _ _ h => h) (Or.inl ⟨by rfl, ?_⟩) ?_ ?_;rotate_left
                      ·intro w'
                       go_simp;with_reducible rfl
                      rotate_left
                      ·simp only [Act.put, Zs1, Zs2, Zs3, zh, zi]
                       rfl
                      refine zo (i := 5) (N := some 106) (v := ?_) (a' := ?_) #[true, true, true, false, true, true, false, false, false, false, false, false, false] rfl rfl (zg HT_.out (by kernel_rfl)) (fun _ _ _ h => h) (Or.inl ⟨by rfl, ?_⟩) ?_ ?_;rotate_left
                      ·intro w'
                       go_simp;with_reducible rfl
                      rotate_left
                      ·simp only [Act.put, Zs1, Zs2, Zs3, zh, zi]
                       rfl
                      refine zo (i := 6) (N := some 107) (v := ?_) (a' := ?_) #[true, true, true, false, true, true, true, false, false, false, false, false, false] rfl rfl (zg HT_.out (by kernel_rfl)) (fun _ _ _ h => h) (Or.inl ⟨by rfl, ?_⟩) ?_ ?_;rotate_left
                      ·intro w'
                       go_simp;with_reducible rfl
                      rotate_left
                      ·simp only [Act.put, Zs1, Zs2, Zs3, zh, zi]
                       rfl
                      refine zo (i := 10) (N := some 111) (v := ?_) (a' := ?_) #[true, true, true, false, true, true, true, false, false, false, true, false, false] rfl rfl (zg HT_.out (by kernel_rfl)) (fun _ _ _ h => h) (Or.inl ⟨by rfl, ?_⟩) ?_ ?_;rotate_left
                      ·intro w'
                       go_simp;with_reducible rfl
                      rotate_left
                      ·simp only [Act.put, Zs1, Zs2, Zs3, zh, zi]
                       rfl
                      refine zo (i := 11) (N := some 112) (v := ?_) (a' := ?_) #[true, true, true, false, true, true, true, false, false, false, true, true, false] rfl rfl (zg HT_.out (by kernel_rfl)) (fun _ _ _ h => h) (Or.inl ⟨by rfl, ?_⟩) ?_ ?_;rotate_left
                      ·intro w'
                       go_simp;with_reducible rfl
                      rotate_left
                      ·simp only [Act.put, Zs1, Zs2, Zs3, zh, zi]
                       rfl
                      refine zb2 (i := 3) (N := some 104) (v := ?_) (a' := ?_) #[true, true, true, true, true, true, true, false, false, false, true, true, false] rfl rfl (zbf HT_.out HW_.out (by kernel_rfl)) (fun _ _ _ h => h) (Or.inl ⟨by rfl, ?_⟩) hHeld ?_ ?_;rotate_left
                      ·rintro w' ⟨s0, s1, s2, s3⟩
                       go_simp;with_reducible rfl
                      rotate_left
                      ·simp only [Act.put, Zs1, Zs2, Zs3, zh, zi]
                       rfl
                      refine zb2 (i := 7) (N := some 108) (v := ?_) (a' := ?_) #[true, true, true, true, true, true, true, true, false, false, true, true, false] rfl rfl (zbf HT_.out HW_.out (by kernel_rfl)) (fun _ _ _ h => h) (Or.inl ⟨by rfl, ?_⟩) hHeld ?_ ?_;rotate_left
                      ·rintro w' ⟨s0, s1, s2, s3⟩
                       go_simp;with_reducible rfl
                      rotate_left
                      ·simp only [Act.put, Zs1, Zs2, Zs3, zh, zi]
                       rfl
                      refine one_ (i := 8) (N := some 109) #[true, true, true, true, true, true, true, true, true, false, true, true, false] rfl rfl (zby HT_.out (by kernel_rfl)) (by decide) (fun K hK => ?_);refine zct Try.func16 (by kernel_rfl) rfl #[.agg #[.int .i64 ((zf t427 x12_4).f0), .int .i64 ((zf t427 x12_4).f1), .int .i64 ((zf t427 x12_4).f2)], .int .i64 (rd x7_3 x12_4)] (by rfl) rfl rfl Zmt ?_;with_reducible refine (zb5.calls ((zf t427 x12_4).f0) ((zf t427 x12_4).f1) ((zf t427 x12_4).f2) (rd x7_3 x12_4) t457 t458 _ A73.out).mono ?_
                      rintro e w77 ⟨rfl, hb⟩;have HS0_ := (hb.cell (World.block_lt_of_cell? _ _ (hHeld.1))).trans (hHeld.1);have HS1_ := (hb.cell (World.block_lt_of_cell? _ _ (hHeld.2.1))).trans (hHeld.2.1);have HS2_ := (hb.cell (World.block_lt_of_cell? _ _ (hHeld.2.2.1))).trans (hHeld.2.2.1);have HS3_ := (hb.cell (World.block_lt_of_cell? _ _ (hHeld.2.2.2))).trans (hHeld.2.2.2);refine ⟨_, rfl, ?_⟩;have n0_ := za.mk (Kd.zb3 (Zq12 HO_3) hb);have n1_ := za.mk (Kd.zb7 (Zq21 HO_5) hb);have n2_ := za.mk (Kd.zb3 (Zq12 HO_7) hb);have n3_ := za.mk (zbc (g := gb440) (o := .cells #[.int .i64 t438, .int .i64 t439] 30 (0, 0)) (Zq2 BK440) hb);have n4_ := za.mk (Kd.zcf (by repeat (first | (with_reducible exact HR445_0.out) | (with_reducible refine Kd.zcp ?_ _) | (with_reducible refine Kd.zcs ?_ _) | (with_reducible refine Kd.zcx ?_) | exact HR445_0.out)) hb);have n5_ := za.mk (zl (Zq3 HB GE440) hb);clear HO_3;clear HO_5;clear HO_7;clear BK440;clear HR445_0;clear HB;have HO_3 := n0_;have HO_5 := n1_;have HO_7 := n2_;have BK440 := n3_;have HR445_0 := n4_;have HB := n5_;clear n0_ n1_ n2_ n3_ n4_ n5_;(try clear hb);(try clear hb2);(try clear hk);(try clear hi);refine hK.out _ _ ⟨HS0_, HS1_, HS2_, HS3_⟩ (fun hHeld => ?_);clear hK K;refine zb6 (a' := ?_) ?_ ?_;rotate_left
                      ·show Act.put _ (some 109) _ = _
                       simp only [Act.put, Zs1, Zs2, Zs3, zh, zi];rfl
                      refine zo (i := 9) (N := some 110) (v := ?_) (a' := ?_) #[true, true, true, true, true, true, true, true, true, true, true, true, false] rfl rfl (zg HT_.out (by kernel_rfl)) (fun _ _ _ h => h) (Or.inl ⟨by rfl, ?_⟩) ?_ ?_;rotate_left
                      ·intro w'
                       go_simp;with_reducible rfl
                      rotate_left
                      ·simp only [Act.put, Zs1, Zs2, Zs3, zh, zi]
                       rfl
                      refine zo (i := 12) (N := some 113) (v := ?_) (a' := ?_) #[true, true, true, true, true, true, true, true, true, true, true, true, true] rfl rfl (zg HT_.out (by kernel_rfl)) (fun _ _ _ h => h) (Or.inl ⟨by rfl, ?_⟩) ?_ ?_;rotate_left
                      ·intro w'
                       go_simp;with_reducible rfl
                      rotate_left
                      ·simp only [Act.put, Zs1, Zs2, Zs3, zh, zi]
                       rfl
                      refine zdb (zcb HT_.out (by kernel_rfl)) ?_
                      try go_wp2
                      go_ret;exact ⟨by first | rfl | (simp [zq, zt] <;> rfl) | (simp [*, zq, zt] <;> rfl), Zq3 HB GE440⟩
                     ·rw [if_neg c74] at H
                      have c74b0 : decide (t458 ≤ (wrap64 (x8_2 + 1))) = false := decide_eq_false c74;clear c74;have H' := za.mk H;clear H
                      try go_wp2
                      have n0_ := za.mk (Kd.zca HO_3.out);have n1_ := za.mk (Kd.zcw HO_5.out);have n2_ := za.mk (Kd.zca HO_7.out);have n3_ := za.mk (zy BK440.out);have n4_ := za.mk (Kd.zcx HR445_0.out);have n5_ := za.mk (zbj HB.out);clear HO_3;clear HO_5;clear HO_7;clear BK440;clear HR445_0;clear HB;have HO_3 := n0_;have HO_5 := n1_;have HO_7 := n2_;have BK440 := n3_;have HR445_0 := n4_;have HB := n5_;clear n0_ n1_ n2_ n3_ n4_ n5_;have p455 : 0 ≤ (x12_4 : Int) := of_decide_eq_true Zas;have q455 : x12_4 < (t427.length : Int) := of_decide_eq_true Zas;obtain ⟨ad455, e455, hx455_0, hx455_1, hx455_2⟩ := zcz (Kd.zbp HO_3.out).2.2 x12_4 p455 q455
                      cases e455
                      replace p455 := eq_true p455;replace q455 := eq_true q455;obtain ⟨Ao79, co79, eo79⟩ := Kd.zcv HO_7.out;(first | subst eo79 | (injection eo79 with f1_ f2_ f3_; have f4_ := f1_.symm; have f5_ := f3_.symm; clear f1_ f2_ f3_; subst f4_; subst f5_));have p456 : 0 ≤ (x12_4 : Int) := of_decide_eq_true Zas;have q456 : x12_4 < (x7_3.length : Int) := of_decide_eq_true Zas;obtain ⟨ad456, e456, hx456_0⟩ := Kd.zcc (Kd.zbp HO_7.out).2.2 x12_4 p456 q456
                      cases e456
                      replace p456 := eq_true p456;replace q456 := eq_true q456;refine zcr (n := 13) (S := fun w' => w'.cell? (ad455.add ((x12_4).toNat * 3)) = some (.int .i64 ((zf t427 x12_4).f0)) ∧ w'.cell? ⟨(ad455.add ((x12_4).toNat * 3)).block, (ad455.add ((x12_4).toNat * 3)).off + 1, none⟩ = some (.int .i64 ((zf t427 x12_4).f1)) ∧ w'.cell? ⟨(ad455.add ((x12_4).toNat * 3)).block, (ad455.add ((x12_4).toNat * 3)).off + 2, none⟩ = some (.int .i64 ((zf t427 x12_4).f2)) ∧ w'.cell? (ad456.add (x12_4).toNat) = some (.int .i64 (rd x7_3 x12_4))) (ds := []) #[false, false, false, false, false, false, false, false, false, false, false, false, false] (by kernel_rfl) rfl rfl ⟨hx455_0, hx455_1, hx455_2, hx456_0⟩ (fun hHeld => ?_); refine zbr laws_FnFairWindows.tab25 laws_FnFairWindows.bits25 (fun HT_ HW_ => ?_);generalize wr.drew = w78 at HO_3 HO_5 HO_7 BK440 HR445_0 HB hx455_0 hx455_1 hx455_2 hx456_0 hHeld ⊢;refine zo (i := 0) (N := some 101) (v := ?_) (a' := ?_) #[true, false, false, false, false, false, false, false, false, false, false, false, false] rfl rfl (zg HT_.out (by kernel_rfl)) (fun _ _ _ h => h) (Or.inl ⟨by rfl, ?_⟩) ?_ ?_;rotate_left
                      ·intro w'
                       go_simp;with_reducible rfl
                      rotate_left
                      ·simp only [Act.put, Zs1, Zs2, Zs3, zh, zi]
                       rfl
                      refine zo (i := 1) (N := some 102) (v := ?_) (a' := ?_) #[true, true, false, false, false, false, false, false, false, false, false, false, false] rfl rfl (zg HT_.out (by kernel_rfl)) (fun _ _ _ h => h) (Or.inl ⟨by rfl, ?_⟩) ?_ ?_;rotate_left
                      ·intro w'
                       go_simp;with_reducible rfl
                      rotate_left
                      ·simp only [Act.put, Zs1, Zs2, Zs3, zh, zi]
                       rfl
                      refine zo (i := 2) (N := some 103) (v := ?_) (a' := ?_) #[true, true, true, false, false, false, false, false, false, false, false, false, false] rfl rfl (zg HT_.out (by kernel_rfl)) (fun _ _ _ h => h) (Or.inl ⟨by rfl, ?_⟩) ?_ ?_;rotate_left
                      ·intro w'
                       go_simp;with_reducible rfl
                      rotate_left
                      ·simp only [Act.put, Zs1, Zs2, Zs3, zh, zi]
                       rfl
                      refine zo (i := 4) (N := some 105) (v := ?_) (a' := ?_) #[true, true, true, false, true, false, false, false, false, false, false, false, false] rfl rfl (zg HT_.out (by kernel_rfl)) (fun _ _ _ h => h) (Or.inl ⟨by rfl, ?_⟩) ?_ ?_;rotate_left
                      ·intro w'
                       go_simp;with_reducible rfl
                      rotate_left
                      ·simp only [Act.put, Zs1, Zs2, Zs3, zh, zi]
                       rfl
                      refine zo (i := 5) (N := some 106) (v := ?_) (a' := ?_) #[true, true, true, false, true, true, false, false, false, false, false, false, false] rfl rfl (zg HT_.out (by kernel_rfl)) (fun _ _ _ h => h) (Or.inl ⟨by rfl, ?_⟩) ?_ ?_;rotate_left
                      ·intro w'
                       go_simp;with_reducible rfl
                      rotate_left
                      ·simp only [Act.put, Zs1, Zs2, Zs3, zh, zi]
                       rfl
                      refine zo (i := 6) (N := some 107) (v := ?_) (a' := ?_) #[true, true, true, false, true, true, true, false, false, false, false, false, false] rfl rfl (zg HT_.out (by kernel_rfl)) (fun _ _ _ h => h) (Or.inl ⟨by rfl, ?_⟩) ?_ ?_;rotate_left
                      ·intro w'
                       go_simp;with_reducible rfl
                      rotate_left
                      ·simp only [Act.put, Zs1, Zs2, Zs3, zh, zi]
                       rfl
                      refine zo (i := 10) (N := some 111) (v := ?_) (a' := ?_) #[true, true, true, false, true, true, true, false, false, false, true, false, false] rfl rfl (zg HT_.out (by kernel_rfl)) (fun _ _ _ h => h) (Or.inl ⟨by rfl, ?_⟩) ?_ ?_;rotate_left
                      ·intro w'
                       go_simp;with_reducible rfl
                      rotate_left
                      ·simp only [Act.put, Zs1, Zs2, Zs3, zh, zi]
                       rfl
                      refine zo (i := 11) (N := some 112) (v := ?_) (a' := ?_) #[true, true, true, false, true, true, true, false, false, false, true, true, false] rfl rfl (zg HT_.out (by kernel_rfl)) (fun _ _ _ h => h) (Or.inl ⟨by rfl, ?_⟩) ?_ ?_;rotate_left
                      ·intro w'
                       go_simp;with_reducible rfl
                      rotate_left
                      ·simp only [Act.put, Zs1, Zs2, Zs3, zh, zi]
                       rfl
                      refine zb2 (i := 3) (N := some 104) (v := ?_) (a' := ?_) #[true, true, true, true, true, true, true, false, false, false, true, true, false] rfl rfl (zbf HT_.out HW_.out (by kernel_rfl)) (fun _ _ _ h => h) (Or.inl ⟨by rfl, ?_⟩) hHeld ?_ ?_;rotate_left
                      ·rintro w' ⟨s0, s1, s2, s3⟩
                       go_simp;with_reducible rfl
                      rotate_left
                      ·simp only [Act.put, Zs1, Zs2, Zs3, zh, zi]
                       rfl
                      refine zb2 (i := 7) (N := some 108) (v := ?_) (a' := ?_) #[true, true, true, true, true, true, true, true, false, false, true, true, false] rfl rfl (zbf HT_.out HW_.out (by kernel_rfl)) (fun _ _ _ h => h) (Or.inl ⟨by rfl, ?_⟩) hHeld ?_ ?_;rotate_left
                      ·rintro w' ⟨s0, s1, s2, s3⟩
                       go_simp;with_reducible rfl
                      rotate_left
                      ·simp only [Act.put, Zs1, Zs2, Zs3, zh, zi]
                       rfl
                      refine one_ (i := 8) (N := some 109) #[true, true, true, true, true, true, true, true, true, false, true, true, false] rfl rfl (zby HT_.out (by kernel_rfl)) (by decide) (fun K hK => ?_);refine zct Try.func16 (by kernel_rfl) rfl #[.agg #[.int .i64 ((zf t427 x12_4).f0), .int .i64 ((zf t427 x12_4).f1), .int .i64 ((zf t427 x12_4).f2)], .int .i64 (rd x7_3 x12_4)] (by rfl) rfl rfl Zmt ?_;with_reducible refine (zb5.calls ((zf t427 x12_4).f0) ((zf t427 x12_4).f1) ((zf t427 x12_4).f2) (rd x7_3 x12_4) t457 t458 _ A73.out).mono ?_
                      rintro e w80 ⟨rfl, hb⟩;have HS0_ := (hb.cell (World.block_lt_of_cell? _ _ (hHeld.1))).trans (hHeld.1);have HS1_ := (hb.cell (World.block_lt_of_cell? _ _ (hHeld.2.1))).trans (hHeld.2.1);have HS2_ := (hb.cell (World.block_lt_of_cell? _ _ (hHeld.2.2.1))).trans (hHeld.2.2.1);have HS3_ := (hb.cell (World.block_lt_of_cell? _ _ (hHeld.2.2.2))).trans (hHeld.2.2.2);refine ⟨_, rfl, ?_⟩;have n0_ := za.mk (Kd.zb3 (Zq12 HO_3) hb);have n1_ := za.mk (Kd.zb7 (Zq21 HO_5) hb);have n2_ := za.mk (Kd.zb3 (Zq12 HO_7) hb);have n3_ := za.mk (zbc (g := gb440) (o := .cells #[.int .i64 t438, .int .i64 t439] 30 (0, 0)) (Zq2 BK440) hb);have n4_ := za.mk (Kd.zcf (by repeat (first | (with_reducible exact HR445_0.out) | (with_reducible refine Kd.zcp ?_ _) | (with_reducible refine Kd.zcs ?_ _) | (with_reducible refine Kd.zcx ?_) | exact HR445_0.out)) hb);have n5_ := za.mk (zl (Zq3 HB GE440) hb);clear HO_3;clear HO_5;clear HO_7;clear BK440;clear HR445_0;clear HB;have HO_3 := n0_;have HO_5 := n1_;have HO_7 := n2_;have BK440 := n3_;have HR445_0 := n4_;have HB := n5_;clear n0_ n1_ n2_ n3_ n4_ n5_;(try clear hb);(try clear hb2);(try clear hk);(try clear hi);refine hK.out _ _ ⟨HS0_, HS1_, HS2_, HS3_⟩ (fun hHeld => ?_);clear hK K;refine zb6 (a' := ?_) ?_ ?_;rotate_left
                      ·show Act.put _ (some 109) _ = _
                       simp only [Act.put, Zs1, Zs2, Zs3, zh, zi];rfl
                      refine zo (i := 9) (N := some 110) (v := ?_) (a' := ?_) #[true, true, true, true, true, true, true, true, true, true, true, true, false] rfl rfl (zg HT_.out (by kernel_rfl)) (fun _ _ _ h => h) (Or.inl ⟨by rfl, ?_⟩) ?_ ?_;rotate_left
                      ·intro w'
                       go_simp;with_reducible rfl
                      rotate_left
                      ·simp only [Act.put, Zs1, Zs2, Zs3, zh, zi]
                       rfl
                      refine zo (i := 12) (N := some 113) (v := ?_) (a' := ?_) #[true, true, true, true, true, true, true, true, true, true, true, true, true] rfl rfl (zg HT_.out (by kernel_rfl)) (fun _ _ _ h => h) (Or.inl ⟨by rfl, ?_⟩) ?_ ?_;rotate_left
                      ·intro w'
                       go_simp;with_reducible rfl
                      rotate_left
                      ·simp only [Act.put, Zs1, Zs2, Zs3, zh, zi]
                       rfl
                      refine zdb (zcb HT_.out (by kernel_rfl)) ?_
                      try go_wp2
                      go_roundg k4
                      case measure => have := HJ8.out; have := HK2.out; have := HK3.out; have := HK4.out; omega
                      case rel => exact ⟨(wrap64 (x12_4 + 1)), Zrs, H', ⟨by have := HJ8.out; have := HK2.out; have := HK3.out; have := HK4.out; omega⟩, ⟨Zq12 HO_3⟩, ⟨Zq21 HO_5⟩, ⟨Zq12 HO_7⟩, ⟨Zq2 BK440⟩, ⟨by repeat (first | (with_reducible exact HR445_0.out) | (with_reducible refine Kd.zcp ?_ _) | (with_reducible refine Kd.zcs ?_ _) | (with_reducible refine Kd.zcx ?_) | exact HR445_0.out)⟩, ⟨Zq3 HB GE440⟩⟩
                    ·rw [if_neg c72] at H
                     exact absurd H (by simp)
                   ·rw [if_neg c71] at H
                    exact absurd H (by simp)
                  ·rw [if_neg c70] at H
                   have c70b0 : decide (x12_4 < (t427.length : Int)) = false := decide_eq_false c70;clear c70;have H' := za.mk H;clear H;go_wp2;go_roundg k4
                   case measure => have := HJ8.out; have := HK2.out; have := HK3.out; have := HK4.out; omega
                   case rel => exact ⟨(x7_3), (wrap64 (x8_2 + 1)), Zrs, H', ⟨by have := HJ8.out; have := HK2.out; have := HK3.out; have := HK4.out; omega⟩, ⟨Zq12 HO_3⟩, ⟨Zq21 HO_5⟩, ⟨Zq12 HO_7⟩, ⟨Zq2 BK440⟩, ⟨Zq3 HB GE440⟩⟩
              ·rw [if_neg c30] at H
               exact absurd H (by simp)
             ·rw [if_neg c29] at H
              exact absurd H (by simp)
          ·rw [if_neg c28] at H
           have c28b0 : decide (x8_2 < 120) = false := decide_eq_false c28;clear c28;obtain rfl := Option.some.inj H;go_wp2;go_ret;exact ⟨by first | rfl | (simp [zq, zt] <;> rfl) | (simp [*, zq, zt] <;> rfl), Zq3 HB GE440⟩
       ·rw [if_neg c25] at H
        exact absurd H (by simp)
      ·rw [if_neg c24] at H
       exact absurd H (by simp)
  ·replace c7 := Bool.eq_false_iff.mpr c7
   subst c7;have H1 : (some false) = some r := by rw [if_neg (show ¬ (false = true) by decide)] at H; exact H
   clear H;have H := H1;clear H1;obtain rfl := Option.some.inj H;go_enter Try.func5, Try.ntmps5;go_wp2_with (first | ((with_reducible refine zx (f := 9) rfl ?_); refine zbz (some 18) rfl rfl Try.func9 (by kernel_rfl) rfl #[.slice A0 l0.length c0] rfl Zmt ?_; (with_reducible refine (zc9.calls k _ _ l0 t427 t428 _ ?side1 ?side2 A3.out).mono ?_); (case side1 => exact Zq17 HR0); (case side2 => exact HC0.out); rintro e w81 ⟨v429, rfl, ho0, hb⟩; refine ⟨_, rfl, ?_⟩; have n0_ := za.mk (Kd.zc6 ho0 (zu (Zq1 HB))); have n1_ := za.mk (zl (Zq1 HB) hb); clear HB; have HO430 := n0_; have HB := n1_; clear n0_ n1_; (try clear hb); (try clear hb2); (try clear hk); (try clear hi); (try clear ho0); obtain ⟨Ao82, co82, eo82⟩ := Kd.zcv HO430.out; subst eo82) | ((with_reducible refine zx (f := 10) rfl ?_); refine zbz (some 23) rfl rfl Try.func10 (by kernel_rfl) rfl #[.slice Ao82 t427.length co82, .int .i64 t428] rfl Zmt ?_; (with_reducible refine (zb0.calls k _ _ t427 t428 t431 _ ?side1 ?side2 A4.out).mono ?_); (case side1 => exact Zq18 ((Kd.zbp HO430.out).2.2)); (case side2 => exact (Kd.zbp HO430.out).2.1); rintro e w83 ⟨v432, rfl, ho0, hb⟩; refine ⟨_, rfl, ?_⟩; have n0_ := za.mk (Kd.zb3 (Zq12 HO430) hb); have n1_ := za.mk (Kd.zfh ho0 (zu (Zq1 HB))); have n2_ := za.mk (zl (Zq1 HB) hb); clear HO430; clear HB; have HO430 := n0_; have HO433 := n1_; have HB := n2_; clear n0_ n1_ n2_; (try clear hb); (try clear hb2); (try clear hk); (try clear hi); (try clear ho0)) | ((with_reducible refine zx (f := 12) rfl ?_); refine zbz (some 27) rfl rfl Try.func12 (by kernel_rfl) rfl #[.slice Ao82 t427.length co82, .int .i64 t428] rfl Zmt ?_; (with_reducible refine (zw.calls k _ _ t427 t428 t434 _ ?side1 ?side2 A5.out).mono ?_); (case side1 => exact Zq18 ((Kd.zbp HO430.out).2.2)); (case side2 => exact (Kd.zbp HO430.out).2.1); rintro e w84 ⟨v435, rfl, ho0, hb⟩; replace ho0 := Kd.Qc_of_S ho0; refine ⟨_, rfl, ?_⟩; have n0_ := za.mk (Kd.zb3 (Zq12 HO430) hb); have n1_ := za.mk (Kd.zg9 (Zq21 HO433) (Kd.Qc_base ho0) hb); have n2_ := za.mk (Kd.zfh (Kd.Qc_new' ho0 (Kd.Qc_lt (Zq21 HO433))) (zu (Zq1 HB))); have n3_ := za.mk (zl (Zq1 HB) hb); clear HO430; clear HO433; clear HB; have HO430 := n0_; have HO433 := n1_; have HO436 := n2_; have HB := n3_; clear n0_ n1_ n2_ n3_; (try clear hb); (try clear hb2); (try clear hk); (try clear hi); (try clear ho0); obtain ⟨Ao85, co85, eo85⟩ := Kd.zfx HO433.out; subst eo85; obtain ⟨Ao86, co86, eo86⟩ := Kd.zfx HO436.out; subst eo86) | ((with_reducible refine zx (f := 11) rfl ?_); refine zbz (some 28) rfl rfl Try.func11 (by kernel_rfl) rfl #[.slice Ao85 t431.length co85, .slice Ao86 t434.length co86] rfl Zmt ?_; (with_reducible refine (zb1.calls k _ _ t431 _ _ t434 false _ ?side1 ?side2 ?side3 ?side4 A6.out).mono ?_); (case side1 => exact Zq18 ((Kd.zcu HO433.out).2.2)); (case side2 => exact (Kd.zcu HO433.out).2.1); (case side3 => exact Zq18 ((Kd.zcu HO436.out).2.2)); (case side4 => exact (Kd.zcu HO436.out).2.1); rintro e w' ⟨rfl, ⟨nd, rfl⟩⟩; refine ⟨_, rfl, ?_⟩));go_ret;exact ⟨by first | rfl | (simp [zq, zt] <;> rfl) | (simp [*, zq, zt] <;> rfl), Zq1 HB⟩
def laws_FnFairWindows.Pure : Prop := ∀ (l0 : List Int), l0.length * 1 ≤ 140737488351232 → (l0.length ≤ maxLen ∧ ∀ y0 ∈ l0, (Lit.int .u8 y0).wf = true) → ∃ k, laws_FnFairWindows.f k l0 = some true
end Go.Proofs.Ytnilnaabjpcfjaa.P
namespace Go.Proofs.Ytnilnaabjpcfjaa.Base
open Go.RowKit Go.Proofs.Ytnilnaabjpcfjaa.P Go.Proofs.YtnilnaabjpcfjaaW.PrintWords Go.Proofs.YtnilnaabjpcfjaaW.PrintLast Go.Proofs.YtnilnaabjpcfjaaW.PrintMore
theorem w64 {x : Int} (h0 : -9223372036854775808 ≤ x) (h1 : x < 9223372036854775808) : wrap64 x = x := by unfold wrap64; omega
theorem zhd {a b A B : Int} (ha : 0 ≤ a) (hA : a ≤ A) (hb : 0 ≤ b) (hB : b ≤ B) : 0 ≤ a * b ∧ a * b ≤ A * B :=
  ⟨Int.mul_nonneg ha hb, Int.mul_le_mul hA hB hb (by omega)⟩
theorem in_f (a b c : Int) : zda.f a b c = some (decide (b ≤ a ∧ a ≤ c)) := by
  unfold zda.f
  by_cases h : a ≥ b
  · rw [if_pos h]; simp [show b ≤ a from h]
  · rw [if_neg h]; simp [show ¬ b ≤ a from h]
theorem l1In_f (a b c : Int) : zcm.f a b c = some (decide (b ≤ a ∧ a ≤ c)) := by
  unfold zcm.f
  by_cases h : a ≥ b
  · rw [if_pos h]; simp [show b ≤ a from h]
  · rw [if_neg h]; simp [show ¬ b ≤ a from h]
theorem ze2 {α : Type} (p : Prop) [Decidable p] (x y : Option α) : (some (decide p)).bind (fun t => if t = true then x else y) = if p then x else y := by
  by_cases hp : p <;> simp [hp]
theorem zfj {a b : Int} (h : 0 ≤ a) : Int.tdiv a b = a / b := Int.tdiv_eq_ediv_of_nonneg h
theorem tmod_pos {a b : Int} (h : 0 ≤ a) : Int.tmod a b = a % b := Int.tmod_eq_emod_of_nonneg h
end Go.Proofs.Ytnilnaabjpcfjaa.Base
namespace Go.Proofs.Ytnilnaabjpcfjaa.Alive
open Go.RowKit Go.Proofs.Ytnilnaabjpcfjaa.P Go.Proofs.Ytnilnaabjpcfjaa.Base Go.Proofs.YtnilnaabjpcfjaaW.PrintWords Go.Proofs.YtnilnaabjpcfjaaW.PrintLast
def TV (c d p : Int) : Prop := 1 ≤ c ∧ c ≤ 8 ∧ c ≤ d ∧ d ≤ p ∧ p ≤ 12
instance (c d p : Int) : Decidable (TV c d p) := by unfold TV; infer_instance
theorem task_f (c d p : Int) : zc0.f c d p = some (decide (TV c d p)) := by
  unfold zc0.f
  rw [in_f, in_f, ze2, ze2]
  by_cases h1 : 1 ≤ c ∧ c ≤ 8
  · by_cases h2 : c ≤ d ∧ d ≤ p
    · rw [if_pos h1, if_pos h2]; congr 1; rw [decide_eq_decide]; unfold TV; omega
    · rw [if_pos h1, if_neg h2]; congr 1; symm; rw [decide_eq_false_iff_not]; unfold TV; omega
  · rw [if_neg h1]; congr 1; symm; rw [decide_eq_false_iff_not]; unfold TV; omega
theorem alive_f : zd6.f = some true := by
  unfold zd6.f
  rw [task_f]; rfl
end Go.Proofs.Ytnilnaabjpcfjaa.Alive
namespace Go.Proofs.Ytnilnaabjpcfjaa.Win
open Go.RowKit Go.Proofs.Ytnilnaabjpcfjaa.P Go.Proofs.Ytnilnaabjpcfjaa.Base Go.Proofs.Ytnilnaabjpcfjaa.Alive Go.Proofs.YtnilnaabjpcfjaaW.PrintWords Go.Proofs.YtnilnaabjpcfjaaW.PrintLast
def wr (c p k : Int) : Int := k * p / c
def wd (c p k : Int) : Int := ((k + 1) * p + c - 1) / c
theorem div_sp {x c : Int} (hc : 1 ≤ c) : x / c * c ≤ x ∧ x < x / c * c + c := by
  have h3 := Int.mul_ediv_add_emod x c
  have h4 := Int.emod_nonneg x (show c ≠ 0 by omega)
  have h5 := Int.emod_lt_of_pos x (show 0 < c by omega)
  rw [Int.mul_comm] at h3
  omega
theorem wr_sp {c p k : Int} (hc : 1 ≤ c) : wr c p k * c ≤ k * p ∧ k * p < wr c p k * c + c := div_sp hc
theorem wd_sp {c p k : Int} (hc : 1 ≤ c) : (k + 1) * p ≤ wd c p k * c ∧ wd c p k * c < (k + 1) * p + c := by
  have := div_sp (x := (k + 1) * p + c - 1) hc
  unfold wd; omega
theorem wr_bd {c p k : Int} (hc : 1 ≤ c) (hp : 0 ≤ p) (hp2 : p ≤ 12) (hk : 0 ≤ k) (hk2 : k ≤ 2000000) : 0 ≤ k * p ∧ k * p ≤ 24000000 ∧ 0 ≤ wr c p k ∧ wr c p k ≤ 24000000 := by
  have h := zhd (a := k) (b := p) (A := 2000000) (B := 12) hk hk2 hp hp2
  have h0 := Int.ediv_nonneg h.1 (show 0 ≤ c by omega)
  have h1 := Int.ediv_le_self c h.1
  unfold wr; omega
theorem wd_bd {c p k : Int} (hc : 1 ≤ c) (hc2 : c ≤ 8) (hp : 0 ≤ p) (hp2 : p ≤ 12) (hk : 0 ≤ k) (hk2 : k ≤ 2000000) : 0 ≤ (k + 1) * p ∧ (k + 1) * p ≤ 24000012 ∧ 0 ≤ wd c p k ∧ wd c p k ≤ 24000100 := by
  have h := zhd (a := k + 1) (b := p) (A := 2000001) (B := 12) (by omega) (by omega) hp hp2
  have h0 := Int.ediv_nonneg (show 0 ≤ (k + 1) * p + c - 1 by omega) (show 0 ≤ c by omega)
  have h1 := Int.ediv_le_self c (show 0 ≤ (k + 1) * p + c - 1 by omega)
  unfold wd; omega
theorem zjl {c d p k : Int} (hv : TV c d p) (hk : 0 ≤ k) (hk2 : k ≤ 2000000) : zbn.f c d p k = some (wr c p k, wd c p k) := by
  unfold TV at hv
  have h1 := wr_bd (c := c) (p := p) (k := k) (by omega) (by omega) (by omega) hk hk2
  have h2 := wd_bd (c := c) (p := p) (k := k) (by omega) (by omega) (by omega) (by omega) hk hk2
  unfold zbn.f zeh.f
  rw [if_neg (by omega), if_neg (by omega)]
  simp only [Option.bind_some]
  rw [w64 (x := k + 1) (by omega) (by omega), w64 (x := (k + 1) * p) (by omega) (by omega), w64 (x := k * p) (by omega) (by omega), w64 (x := (k + 1) * p + c) (by omega) (by omega), w64 (x := (k + 1) * p + c - 1) (by omega) (by omega), zfj (by omega), zfj (by omega)]
  show some (wrap64 (wr c p k), wrap64 (wd c p k)) = _
  rw [w64 (by omega) (by omega), w64 (by omega) (by omega)]
theorem zgm {c d p k : Int} (hv : TV c d p) (hk : 0 ≤ k) (hk2 : k ≤ 2000000) : zbg.f c d p k = some (wr c p k, wd c p k) := by
  unfold TV at hv
  have h1 := wr_bd (c := c) (p := p) (k := k) (by omega) (by omega) (by omega) hk hk2
  have h2 := wd_bd (c := c) (p := p) (k := k) (by omega) (by omega) (by omega) (by omega) hk hk2
  unfold zbg.f
  rw [if_neg (by omega)]
  rw [w64 (x := k + 1) (by omega) (by omega), w64 (x := (k + 1) * p) (by omega) (by omega), w64 (x := k * p) (by omega) (by omega), w64 (x := (k + 1) * p + c) (by omega) (by omega), w64 (x := (k + 1) * p + c - 1) (by omega) (by omega), zfj (by omega), zfj (by omega)]
  show some (wrap64 (wr c p k), wrap64 (wd c p k)) = _
  rw [w64 (by omega) (by omega), w64 (by omega) (by omega)]
end Go.Proofs.Ytnilnaabjpcfjaa.Win
namespace Go.Proofs.Ytnilnaabjpcfjaa.Set
open Go.RowKit Go.Proofs.Ytnilnaabjpcfjaa.P Go.Proofs.Ytnilnaabjpcfjaa.Base Go.Proofs.Ytnilnaabjpcfjaa.Alive Go.Proofs.YtnilnaabjpcfjaaW.PrintWords Go.Proofs.YtnilnaabjpcfjaaW.PrintLast
abbrev Task := S35
def TVt (t : Task) : Prop := TV t.f0 t.f1 t.f2
instance (t : Task) : Decidable (TVt t) := by unfold TVt; infer_instance
def zed (l : List Task) : Prop := l.length ≤ 5 ∧ ∀ t ∈ l, TVt t
instance (l : List Task) : Decidable (zed l) := by unfold zed; infer_instance
def Impl (l : List Task) : Prop := zed l ∧ ∀ t ∈ l, t.f1 = t.f2
instance (l : List Task) : Decidable (Impl l) := by unfold Impl; infer_instance
theorem taskOk_iff (t : Task) : taskOk t = decide (TVt t) := by
  unfold taskOk
  rw [decide_eq_decide]; unfold TVt TV; omega
theorem zka (l : List Task) : zdh.f l = some (decide (¬ ∀ t ∈ l, TVt t)) := by
  unfold zdh.f
  congr 1
  rw [Bool.eq_iff_iff, List.any_eq_true]
  simp [zdh.bad, taskOk_iff]
theorem set_f (l : List Task) : zc1.f l = some (decide (zed l)) := by
  unfold zc1.f
  by_cases h : (l.length : Int) ≤ 5
  · rw [if_pos h, zka]
    simp only [Option.bind_some]
    congr 1
    rw [Bool.eq_iff_iff]
    unfold zed
    have : l.length ≤ 5 := by omega
    simp [this]
  · rw [if_neg h]
    congr 1; symm; rw [decide_eq_false_iff_not]
    unfold zed; omega
theorem any_late_f (l : List Task) : zdj.f l = some (decide (¬ ∀ t ∈ l, t.f1 = t.f2)) := by
  unfold zdj.f
  congr 1
  rw [Bool.eq_iff_iff, List.any_eq_true]
  simp [zdj.bad]
theorem impl_f (l : List Task) : zcq.f l = some (decide (Impl l)) := by
  unfold zcq.f
  rw [set_f, ze2, any_late_f]
  simp only [Option.bind_some]
  by_cases h : zed l
  · rw [if_pos h]
    congr 1
    rw [Bool.eq_iff_iff]
    unfold Impl
    simp [h]
  · rw [if_neg h]
    congr 1; symm; rw [decide_eq_false_iff_not]
    exact fun h' => h h'.1
end Go.Proofs.Ytnilnaabjpcfjaa.Set
set_option linter.unusedVariables false
set_option linter.unusedSectionVars false
namespace Go.Proofs.Ytnilnaabjpcfjaa.Pd2
def sm (f : Nat → Int) : Nat → Int
  | 0 => 0
  | n + 1 => sm f n + f n
theorem zf0 {f g : Nat → Int} : ∀ n, (∀ k, k < n → f k ≤ g k) → sm f n ≤ sm g n
  | 0, _ => Int.le_refl _
  | n + 1, h => by
    have h1 := zf0 n (fun k hk => h k (by omega))
    have h2 := h n (by omega)
    simp only [sm]
    omega
theorem zd7 {f g : Nat → Int} (n : Nat) (h : ∀ k, k < n → f k = g k) : sm f n = sm g n := by
  have h1 := zf0 n (fun k hk => Int.le_of_eq (h k hk))
  have h2 := zf0 n (fun k hk => Int.le_of_eq (h k hk).symm)
  omega
theorem zjm (f g : Nat → Int) : ∀ n, sm (fun k => f k + g k) n = sm f n + sm g n
  | 0 => rfl
  | n + 1 => by have := zjm f g n; simp only [sm]; omega
theorem sm_sub (f g : Nat → Int) : ∀ n, sm (fun k => f k - g k) n = sm f n - sm g n
  | 0 => rfl
  | n + 1 => by have := sm_sub f g n; simp only [sm]; omega
theorem zjn (c : Int) (f : Nat → Int) : ∀ n, sm (fun k => c * f k) n = c * sm f n
  | 0 => by simp [sm]
  | n + 1 => by have := zjn c f n; simp only [sm]; rw [this, Int.mul_add]
theorem zgf : ∀ n, sm (fun _ => 0) n = 0
  | 0 => rfl
  | n + 1 => by have := zgf n; simp only [sm]; omega
theorem zf1 {f : Nat → Int} (n : Nat) (h : ∀ k, k < n → 0 ≤ f k) : 0 ≤ sm f n := by
  have := zf0 (f := fun _ => 0) n h
  rw [zgf] at this; exact this
theorem sm_pick {f : Nat → Int} : ∀ n j, j < n → (∀ k, k < n → k ≠ j → f k = 0) → sm f n = f j
  | 0, j, h, _ => by omega
  | n + 1, j, hj, h => by
    simp only [sm]
    by_cases hn : j = n
    · subst hn
      have h1 : sm f j = sm (fun _ => 0) j := zd7 j (fun k hk => h k (by omega) (by omega))
      rw [zgf] at h1; omega
    · have h1 := sm_pick n j (by omega) (fun k hk hkj => h k (by omega) hkj)
      have h2 := h n (by omega) (by omega)
      omega
theorem zem (f : Nat → Int) (n j : Nat) (hj : j < n) : sm f n = sm (fun k => if k = j then 0 else f k) n + f j := by
  have h1 : sm f n = sm (fun k => (if k = j then 0 else f k) + (if k = j then f j else 0)) n :=
    zd7 n (fun k _ => by by_cases h : k = j <;> simp [h])
  rw [h1, zjm]
  have h2 := sm_pick (f := fun k => if k = j then f j else 0) n j hj (fun k _ hk => by simp [hk])
  simp only [if_true] at h2
  rw [h2]
theorem sm_one_le {f : Nat → Int} (n j : Nat) (hj : j < n) (h : ∀ k, k < n → 0 ≤ f k) : f j ≤ sm f n := by
  rw [zem f n j hj]
  have := zf1 (f := fun k => if k = j then 0 else f k) n (fun k hk => by by_cases h' : k = j <;> simp [h', h k hk])
  omega
def on (p : Bool) : Int := if p then 1 else 0
theorem zhe (p : Bool) : 0 ≤ on p := by cases p <;> decide
theorem on_le (p : Bool) : on p ≤ 1 := by cases p <;> decide
theorem on_mono {p q : Bool} (h : p = true → q = true) : on p ≤ on q := by
  cases p <;> cases q <;> simp_all [on]
def ct (p : Nat → Bool) (n : Nat) : Int := sm (fun k => on (p k)) n
theorem zgg {p q : Nat → Bool} (n : Nat) (h : ∀ k, k < n → p k = true → q k = true) : ct p n ≤ ct q n :=
  zf0 n (fun k hk => on_mono (h k hk))
theorem ct_congr {p q : Nat → Bool} (n : Nat) (h : ∀ k, k < n → p k = q k) : ct p n = ct q n := zd7 n (fun k hk => by rw [h k hk])
theorem ex_max (p : Nat → Bool) (κ : Nat → Int) : ∀ n, (∃ k, k < n ∧ p k = true) → ∃ k, k < n ∧ p k = true ∧ ∀ j, j < n → p j = true → κ j ≤ κ k
  | 0, h => by obtain ⟨k, hk, _⟩ := h; omega
  | n + 1, h => by
    by_cases h1 : ∃ k, k < n ∧ p k = true
    · obtain ⟨k, hk, hp, hm⟩ := ex_max p κ n h1
      by_cases h2 : p n = true ∧ κ k < κ n
      · refine ⟨n, by omega, h2.1, fun j hj hpj => ?_⟩
        by_cases h3 : j = n
        · subst h3; exact Int.le_refl _
        · have := hm j (by omega) hpj; omega
      · refine ⟨k, by omega, hp, fun j hj hpj => ?_⟩
        by_cases h3 : j = n
        · subst h3
          by_cases h4 : κ k < κ j
          · exact absurd ⟨hpj, h4⟩ h2
          · omega
        · exact hm j (by omega) hpj
    · obtain ⟨k, hk, hp⟩ := h
      have hkn : k = n := by
        by_cases h3 : k = n
        · exact h3
        · exact absurd ⟨k, by omega, hp⟩ h1
      subst hkn
      refine ⟨k, hk, hp, fun j hj hpj => ?_⟩
      by_cases h3 : j = k
      · subst h3; exact Int.le_refl _
      · exact absurd ⟨j, by omega, hpj⟩ h1
def ch (e : Nat → Bool) (κ : Nat → Int) (n : Nat) (m : Int) (k : Nat) : Bool :=
  decide (k < n) && e k && decide (ct (fun j => e j && decide (κ j < κ k)) n < m)
section
variable {e : Nat → Bool} {κ : Nat → Int} {n : Nat} {m : Int}
theorem zh7 {k : Nat} : ch e κ n m k = true ↔ k < n ∧ e k = true ∧ ct (fun j => e j && decide (κ j < κ k)) n < m := by
  unfold ch; simp [and_assoc]
theorem zkb {k j : Nat} (h : ch e κ n m k = true) (hj : j < n) (hej : e j = true) (hk : κ j < κ k) : ch e κ n m j = true := by
  rw [zh7] at h ⊢
  refine ⟨hj, hej, Int.lt_of_le_of_lt (zgg n (fun i _ hi => ?_)) h.2.2⟩
  simp only [Bool.and_eq_true, decide_eq_true_eq] at hi ⊢
  exact ⟨hi.1, by omega⟩
theorem ch_le (hm : 0 ≤ m) (hinj : ∀ i j, i < n → j < n → e i = true → e j = true → κ i = κ j → i = j) : ct (ch e κ n m) n ≤ m := by
  by_cases h0 : ∃ k, k < n ∧ ch e κ n m k = true
  · obtain ⟨k, hk, hc, hmax⟩ := ex_max (ch e κ n m) κ n h0
    have h1 := (zh7.1 hc).2.2
    have h2 : ct (ch e κ n m) n ≤ ct (fun j => e j && decide (κ j < κ k)) n + 1 := by
      unfold ct
      rw [zem (fun j => on (ch e κ n m j)) n k hk]
      have h3 := zf0 (f := fun j => if j = k then 0 else on (ch e κ n m j)) (g := fun j => on (e j && decide (κ j < κ k))) n (fun j hj => by
        show (if j = k then 0 else on (ch e κ n m j)) ≤ _
        by_cases hjk : j = k
        · rw [if_pos hjk]; exact zhe _
        · rw [if_neg hjk]
          apply on_mono
          intro hcj
          have := hmax j hj hcj
          have he := (zh7.1 hcj).2.1
          simp only [Bool.and_eq_true, decide_eq_true_eq]
          refine ⟨he, ?_⟩
          by_cases hl : κ j < κ k
          · exact hl
          · exact absurd (hinj j k hj hk he (zh7.1 hc).2.1 (by omega)) hjk)
      have h4 := on_le (ch e κ n m k)
      exact Int.add_le_add h3 h4
    omega
  · have : ct (ch e κ n m) n ≤ ct (fun _ => false) n := zgg n (fun k hk hc => absurd ⟨k, hk, hc⟩ h0)
    have h2 : ct (fun _ => false) n = 0 := zgf n
    omega
theorem ch_full {k : Nat} (hk : k < n) (hek : e k = true) (hn : ch e κ n m k = false) : m ≤ ct (ch e κ n m) n := by
  obtain ⟨k, hk, hp, hmin⟩ := ex_max (fun k => e k && !(ch e κ n m k)) (fun k => - κ k) n ⟨k, hk, by simp [hek, hn]⟩
  simp only [Bool.and_eq_true, Bool.not_eq_true'] at hp
  have h1 : ¬ ct (fun j => e j && decide (κ j < κ k)) n < m := by
    intro h
    have := zh7.2 ⟨hk, hp.1, h⟩
    rw [hp.2] at this; cases this
  have h2 : ct (fun j => e j && decide (κ j < κ k)) n ≤ ct (ch e κ n m) n := zgg n (fun j hj h => by
    simp only [Bool.and_eq_true, decide_eq_true_eq] at h
    by_cases hc : ch e κ n m j = true
    · exact hc
    · have := hmin j hj (by simp [h.1, hc])
      omega)
  omega
end
def fl (L W : Int) (k u : Nat) : Int := max 0 (min L (W * (u : Int) - L * (k : Int)))
def sh (L W : Int) (k u : Nat) : Int := fl L W k (u + 1) - fl L W k u
section
variable {L W : Int} {r d : Nat → Nat} (hL : 0 < L) (hW : 0 < W) (hWL : W ≤ L)
  (hr : ∀ k u : Nat, r k ≤ u ↔ L * (k : Int) < W * ((u : Int) + 1)) (hd : ∀ k u : Nat, d k ≤ u ↔ L * ((k : Int) + 1) ≤ W * (u : Int))
theorem mul1 (a b : Int) : a * (b + 1) = a * b + a := by rw [Int.mul_add, Int.mul_one]
theorem mulc (a : Int) (k : Nat) : a * ((k + 1 : Nat) : Int) = a * (k : Int) + a := by rw [← mul1]; congr 1
include hr hWL hL in
theorem r_lt (k : Nat) : r k < r (k + 1) := by
  have h1 := (hr (k + 1) (r (k + 1))).1 (Nat.le_refl _)
  rw [mulc, mul1] at h1
  by_cases h0 : r (k + 1) = 0
  · rw [h0] at h1
    have h2 : 0 ≤ L * (k : Int) := Int.mul_nonneg (by omega) (by omega)
    simp at h1; omega
  · obtain ⟨v, hv⟩ : ∃ v, r (k + 1) = v + 1 := ⟨r (k + 1) - 1, by omega⟩
    rw [hv] at h1 ⊢
    rw [mulc] at h1
    have := (hr k v).2 (by rw [mul1]; omega)
    omega
include hd hL hWL in
theorem d_lt (k : Nat) : d k < d (k + 1) := by
  have h1 := (hd (k + 1) (d (k + 1))).1 (Nat.le_refl _)
  rw [mul1, mulc] at h1
  by_cases h0 : d (k + 1) = 0
  · rw [h0] at h1
    have h2 : 0 ≤ L * (k : Int) := Int.mul_nonneg (by omega) (by omega)
    simp at h1; omega
  · obtain ⟨v, hv⟩ : ∃ v, d (k + 1) = v + 1 := ⟨d (k + 1) - 1, by omega⟩
    rw [hv] at h1 ⊢
    rw [mulc] at h1
    have := (hd k v).2 (by rw [mul1]; omega)
    omega
theorem zei {g : Nat → Nat} (h : ∀ k, g k < g (k + 1)) {i j : Nat} (hij : i < j) : g i < g j := by
  induction j with
  | zero => omega
  | succ j ih =>
    have := h j
    by_cases hj : i = j
    · subst hj; exact this
    · have := ih (by omega); omega
theorem st_inj {g : Nat → Nat} (h : ∀ k, g k < g (k + 1)) {i j : Nat} (hij : g i = g j) : i = j := by
  by_cases h1 : i < j
  · have := zei h h1; omega
  · by_cases h2 : j < i
    · have := zei h h2; omega
    · omega
include hr hd in
theorem ov (k : Nat) : d k ≤ r (k + 1) + 1 := by
  have h1 := (hr (k + 1) (r (k + 1))).1 (Nat.le_refl _)
  refine (hd k (r (k + 1) + 1)).2 ?_
  rw [mulc] at h1
  rw [mul1]
  push_cast
  omega
include hr hd hL in
theorem r_lt_d (k : Nat) : r k < d k := by
  have h1 := (hd k (d k)).1 (Nat.le_refl _)
  rw [mul1] at h1
  have h2 : 0 ≤ L * (k : Int) := Int.mul_nonneg (by omega) (by omega)
  by_cases h0 : d k = 0
  · rw [h0] at h1; simp at h1; omega
  · obtain ⟨v, hv⟩ : ∃ v, d k = v + 1 := ⟨d k - 1, by omega⟩
    rw [hv] at h1 ⊢
    have h3 : W * ((v + 1 : Nat) : Int) = W * ((v : Int) + 1) := by congr 1
    rw [h3] at h1
    have := (hr k v).2 (by omega)
    omega
include hr hd hL in
theorem heavy_of (k : Nat) (h : d k ≤ r k + 2) : L ≤ 2 * W := by
  have h1 := (hd k (r k + 2)).1 h
  rw [mul1] at h1
  by_cases h0 : r k = 0
  · rw [h0] at h1
    have h2 : 0 ≤ L * (k : Int) := Int.mul_nonneg (by omega) (by omega)
    simp at h1; omega
  · obtain ⟨v, hv⟩ : ∃ v, r k = v + 1 := ⟨r k - 1, by omega⟩
    have h2 : ¬ r k ≤ v := by omega
    rw [hr k v, mul1] at h2
    rw [hv, show ((v + 1 + 2 : Nat) : Int) = (v : Int) + 1 + 1 + 1 by omega, mul1, mul1, mul1] at h1
    omega
include hr hd in
theorem heavy_len (k : Nat) (h : L ≤ 2 * W) : d k ≤ r k + 3 := by
  have h1 := (hr k (r k)).1 (Nat.le_refl _)
  refine (hd k (r k + 3)).2 ?_
  rw [show ((r k + 3 : Nat) : Int) = (r k : Int) + 1 + 1 + 1 by omega, mul1, mul1, mul1, mul1]
  rw [mul1] at h1
  omega
include hW in
theorem wu (u : Nat) : 0 ≤ W * (u : Int) := Int.mul_nonneg (by omega) (by omega)
include hL in
theorem lk (k : Nat) : 0 ≤ L * (k : Int) := Int.mul_nonneg (by omega) (by omega)
include hW in
theorem zjo (k u : Nat) : 0 ≤ sh L W k u := by
  unfold sh fl; rw [mulc]; omega
include hW in
theorem sh_le (k u : Nat) : sh L W k u ≤ W := by
  unfold sh fl; rw [mulc]; omega
include hL hW hr hd in
theorem sh_zero (k u : Nat) (h : ¬ (r k ≤ u ∧ u < d k)) : sh L W k u = 0 := by
  unfold sh fl; rw [mulc]
  by_cases h1 : r k ≤ u
  · have h2 : d k ≤ u := by omega
    rw [hd, mul1] at h2
    omega
  · rw [hr, mul1] at h1
    omega
include hL in
theorem fl_start (k : Nat) : fl L W k 0 = 0 := by
  have := lk hL k
  unfold fl; simp; omega
include hL hd in
theorem fl_end (k u : Nat) (h : d k ≤ u) : fl L W k u = L := by
  rw [hd, mul1] at h
  unfold fl; omega
include hL hW in
theorem fl_sum (u : Nat) : ∀ n : Nat, sm (fun k => fl L W k u) n = min (W * (u : Int)) (L * (n : Int))
  | 0 => by have := wu hW u; simp [sm]; omega
  | n + 1 => by
    have h1 := fl_sum u n
    have h2 := lk hL n
    have h3 := wu hW u
    simp only [sm]
    rw [h1, mulc]
    unfold fl
    omega
include hL hW in
theorem sh_sum (u n : Nat) : sm (fun k => sh L W k u) n ≤ W := by
  have h1 : sm (fun k => sh L W k u) n = sm (fun k => fl L W k (u + 1)) n - sm (fun k => fl L W k u) n := sm_sub _ _ n
  rw [h1, fl_sum hL hW, fl_sum hL hW, mulc]
  omega
include hL hW hWL hr hd in
theorem sh_after (j n t : Nat) (h1 : d j = t + 1) (h2 : r (j + n + 1) ≤ t + n) (h3 : t + n + 1 < d (j + n + 1)) : sh L W j t ≤ sh L W (j + n + 1) (t + n + 1) := by
  have e1 := (hr (j + n + 1) (t + n)).1 h2
  have e2 : ¬ d (j + n + 1) ≤ t + n + 1 := by omega
  rw [hd] at e2
  have e3 := sh_le (L := L) hW j t
  have e4 : 0 ≤ (L - W) * ((n : Int) + 1) := Int.mul_nonneg (by omega) (by omega)
  have e5 : (L - W) * ((n : Int) + 1) = L * (n : Int) + L - (W * (n : Int) + W) := by rw [Int.sub_mul, mul1, mul1]
  have a1 : W * (((t + n : Nat) : Int) + 1) = W * (t : Int) + W * (n : Int) + W := by rw [mul1]; push_cast; rw [Int.mul_add]
  have a2 : L * ((j + n + 1 : Nat) : Int) = L * (j : Int) + L * (n : Int) + L := by rw [mulc]; push_cast; rw [Int.mul_add]
  have a3 : L * (((j + n + 1 : Nat) : Int) + 1) = L * (j : Int) + L * (n : Int) + L + L := by rw [mul1, a2]
  have a4 : W * ((t + n + 1 : Nat) : Int) = W * (t : Int) + W * (n : Int) + W := by rw [mulc]; push_cast; rw [Int.mul_add]
  have a5 : W * ((t + n + 1 + 1 : Nat) : Int) = W * (t : Int) + W * (n : Int) + W + W := by rw [mulc, a4]
  have e6 := (hd j (t + 1)).1 (by omega)
  rw [a1, a2] at e1
  rw [a3, a4] at e2
  unfold sh fl at e3 ⊢
  rw [a5, a4, a2]
  rw [mulc] at e3 ⊢
  omega
end
structure Sys where
  N : Nat
  M : Int
  L : Int
  W : Nat → Int
  r : Nat → Nat → Nat
  d : Nat → Nat → Nat
  b : Nat → Nat → Bool
  D : Nat → Nat → Int
  K : Nat → Nat → Int
structure Good (S : Sys) : Prop where
  M0 : 0 ≤ S.M
  L0 : 0 < S.L
  W0 : ∀ T, T < S.N → 0 < S.W T
  WL : ∀ T, T < S.N → S.W T ≤ S.L
  hr : ∀ T, T < S.N → ∀ k u : Nat, S.r T k ≤ u ↔ S.L * (k : Int) < S.W T * ((u : Int) + 1)
  hd : ∀ T, T < S.N → ∀ k u : Nat, S.d T k ≤ u ↔ S.L * ((k : Int) + 1) ≤ S.W T * (u : Int)
  hb : ∀ T, T < S.N → ∀ k, S.b T k = true ↔ S.r T (k + 1) + 1 = S.d T k
  Kne : ∀ T V, T < S.N → V < S.N → T ≠ V → ∀ k l, S.K T k ≠ S.K V l
  Kd : ∀ T V, T < S.N → V < S.N → ∀ k l, S.K T k ≤ S.K V l → S.d T k ≤ S.d V l
  Kb : ∀ T V, T < S.N → V < S.N → ∀ k l, S.K T k ≤ S.K V l → S.d T k = S.d V l → S.b V l = true → S.b T k = true ∧ S.D V l ≤ S.D T k
  Dl : ∀ T, T < S.N → 2 * S.W T < S.L → ∀ k, S.D T k = 0
  Dh : ∀ T, T < S.N → S.L ≤ 2 * S.W T → ∀ k, ∃ i, k ≤ i ∧ (∀ l, k ≤ l → l < i → S.b T l = true ∧ (k < l → S.d T l < S.r T l + 3)) ∧
    ((k < i ∧ S.r T i + 3 ≤ S.d T i ∧ S.D T k = (S.d T i : Int) - 1) ∨ (¬ (k < i ∧ S.r T i + 3 ≤ S.d T i) ∧ S.b T i = false ∧ S.D T k = (S.d T i : Int)))
  U : sm S.W S.N ≤ S.M * S.L
namespace Sys
variable (S : Sys)
abbrev St := Nat → List Nat
def el (P : St) (u T : Nat) : Bool := match P T with | [] => false | k :: _ => decide (S.r T k ≤ u)
def key (P : St) (T : Nat) : Int := S.K T ((P T).headD 0)
def sel (P : St) (u T : Nat) : Bool := ch (S.el P u) (S.key P) S.N S.M T
def nxt (P : St) (u : Nat) : St := fun T => if S.sel P u T then (P T).tail else P T
def run (Z : St) : Nat → St
  | 0 => Z
  | u + 1 => S.nxt (run Z u) u
def nsel (P : St) (u : Nat) : Int := ct (S.sel P u) S.N
def Rm (P P' : St) (T c : Nat) : Prop := c ∈ P T ∧ P' T = (P T).erase c ∧ ∀ V, V ≠ T → P' V = P V
def Srt (P : St) : Prop := ∀ T, (P T).Pairwise (· < ·)
variable {S}
theorem zhf {P : St} {u T : Nat} : S.el P u T = true ↔ ∃ k l, P T = k :: l ∧ S.r T k ≤ u := by
  unfold el
  cases h : P T with
  | nil => simp
  | cons k l => simp
theorem zeb {P : St} {u T : Nat} : S.sel P u T = true ↔ T < S.N ∧ S.el P u T = true ∧ ct (fun j => S.el P u j && decide (S.key P j < S.key P T)) S.N < S.M := zh7
theorem zen {P : St} {u T : Nat} (h : S.sel P u T = true) : T < S.N := (zeb.1 h).1
theorem zjq {P : St} {u T : Nat} (h : S.sel P u T = true) : S.el P u T = true := (zeb.1 h).2.1
theorem zis {P : St} {u T : Nat} (h : S.sel P u T = true) : ∃ k l, P T = k :: l ∧ S.r T k ≤ u := zhf.1 (zjq h)
theorem srt_nxt {P : St} {u : Nat} (h : Srt P) : Srt (S.nxt P u) := by
  intro T
  unfold nxt
  split
  · exact (h T).sublist (List.tail_sublist _)
  · exact h T
theorem zgh {Z : St} (h : Srt Z) : ∀ u, Srt (S.run Z u)
  | 0 => h
  | u + 1 => srt_nxt (zgh h u)
theorem zgi {P : St} {u T k : Nat} (h : k ∈ S.nxt P u T) : k ∈ P T := by
  unfold nxt at h
  split at h
  · exact List.mem_of_mem_tail h
  · exact h
theorem zit {Z : St} {T k : Nat} {u v : Nat} (huv : u ≤ v) (h : k ∈ S.run Z v T) : k ∈ S.run Z u T := by
  induction v with
  | zero => obtain rfl : u = 0 := by omega
            exact h
  | succ v ih =>
    by_cases e : u = v + 1
    · subst e; exact h
    · exact ih (by omega) (zgi h)
theorem zec {P : St} {u T : Nat} (h : S.sel P u T = false) : S.nxt P u T = P T := by unfold nxt; simp [h]
theorem zeo {P : St} {u T k : Nat} {l : List Nat} (h : S.sel P u T = true) (hp : P T = k :: l) : S.nxt P u T = l := by unfold nxt; simp [h, hp]
theorem head_not {P : St} (hs : Srt P) {T k : Nat} {l : List Nat} (h : P T = k :: l) : k ∉ l := by
  have := hs T
  rw [h, List.pairwise_cons] at this
  intro hk
  have := this.1 k hk
  omega
section
variable (G : Good S)
include G
theorem inj {P : St} {u i j : Nat} (hi : i < S.N) (hj : j < S.N) (h : S.key P i = S.key P j) : i = j := by
  by_cases e : i = j
  · exact e
  · exact absurd h (G.Kne i j hi hj e _ _)
theorem nsel_le (P : St) (u : Nat) : S.nsel P u ≤ S.M := ch_le G.M0 (fun i j hi hj _ _ h => inj G (u := u) hi hj h)
theorem zhu {T : Nat} (hT : T < S.N) (k : Nat) : S.d T k < S.d T (k + 1) := Go.Proofs.Ytnilnaabjpcfjaa.Pd2.d_lt G.L0 (G.WL T hT) (G.hd T hT) k
theorem r_inc {T : Nat} (hT : T < S.N) (k : Nat) : S.r T k < S.r T (k + 1) := Go.Proofs.Ytnilnaabjpcfjaa.Pd2.r_lt G.L0 (G.WL T hT) (G.hr T hT) k
theorem r_d {T : Nat} (hT : T < S.N) (k : Nat) : S.r T k < S.d T k := Go.Proofs.Ytnilnaabjpcfjaa.Pd2.r_lt_d G.L0 (G.hr T hT) (G.hd T hT) k
theorem over {T : Nat} (hT : T < S.N) (k : Nat) : S.d T k ≤ S.r T (k + 1) + 1 := Go.Proofs.Ytnilnaabjpcfjaa.Pd2.ov (G.hr T hT) (G.hd T hT) k
theorem K_inc {T : Nat} (hT : T < S.N) {k l : Nat} (h : k < l) : S.K T k < S.K T l := by
  by_cases e : S.K T k < S.K T l
  · exact e
  · have h1 := G.Kd T T hT hT l k (by omega)
    have h2 := zei (zhu G hT) h
    omega
omit G in
theorem full {P : St} {u T : Nat} (hT : T < S.N) (he : S.el P u T = true) (h : S.sel P u T = false) : S.M ≤ S.nsel P u := ch_full hT he h
omit G in
theorem zf2 {P : St} {u T : Nat} (hh : S.nsel P u < S.M) (hT : T < S.N) (he : S.el P u T = true) : S.sel P u T = true := by
  cases h : S.sel P u T with
  | true => rfl
  | false => have := full hT he h; omega
omit G in
theorem zjr {P P' : St} {u : Nat} (he : ∀ T, T < S.N → S.el P' u T = S.el P u T) (hk : ∀ T, T < S.N → S.el P u T = true → S.key P' T = S.key P T) (T : Nat) : S.sel P' u T = S.sel P u T := by
  have h1 : ∀ V, V < S.N → S.el P u V = true → ct (fun j => S.el P' u j && decide (S.key P' j < S.key P' V)) S.N = ct (fun j => S.el P u j && decide (S.key P j < S.key P V)) S.N := by
    intro V hV hVe
    apply ct_congr
    intro j hj
    rw [he j hj]
    cases hje : S.el P u j with
    | false => rfl
    | true => rw [hk j hj hje, hk V hV hVe]
  by_cases hs : S.sel P u T = true
  · rw [hs]
    have h2 := zeb.1 hs
    exact zeb.2 ⟨h2.1, by rw [he T h2.1]; exact h2.2.1, by rw [h1 T h2.1 h2.2.1]; exact h2.2.2⟩
  · have hs' : S.sel P u T = false := by simpa using hs
    rw [hs']
    by_cases hs2 : S.sel P' u T = true
    · have h2 := zeb.1 hs2
      have h3 : S.el P u T = true := by rw [← he T h2.1]; exact h2.2.1
      exact absurd (zeb.2 ⟨h2.1, h3, by rw [← h1 T h2.1 h3]; exact h2.2.2⟩) hs
    · simpa using hs2
theorem zh8 {P P' : St} {u T c : Nat} (hs : Srt P) (hT : T < S.N) (h : Rm P P' T c) :
    (¬ (S.sel P u T = true ∧ ∃ l, P T = c :: l) ∧ Rm (S.nxt P u) (S.nxt P' u) T c) ∨
    (S.sel P u T = true ∧ (∃ l, P T = c :: l) ∧ ((∀ V, S.nxt P' u V = S.nxt P u V) ∨
      ∃ V y, V < S.N ∧ Rm (S.nxt P u) (S.nxt P' u) V y ∧ S.K T c < S.K V y ∧ S.r V y ≤ u ∧ (∃ l, S.nxt P u V = y :: l) ∧ (V ≠ T → S.el P u V = true ∧ S.sel P u V = false))) := by
  obtain ⟨hc, hPT, hPV⟩ := h
  have hkV : ∀ V, V ≠ T → S.key P' V = S.key P V := fun V hV => by unfold key; rw [hPV V hV]
  have heV : ∀ V, V ≠ T → S.el P' u V = S.el P u V := fun V hV => by unfold el; rw [hPV V hV]
  cases hP : P T with
  | nil => rw [hP] at hc; cases hc
  | cons k l =>
    by_cases hkc : k = c
    ·
      subst hkc
      have hl : P' T = l := by rw [hPT, hP]; simp
      cases hsel : S.sel P u T with
      | true =>
        right
        refine ⟨rfl, ⟨l, rfl⟩, ?_⟩
        have hT1 : S.nxt P u T = l := zeo hsel hP
        have heT : S.el P u T = true := zjq hsel
        have hstay : ∀ V, V ≠ T → S.sel P u V = true → S.sel P' u V = true := by
          intro V hV hsV
          have h2 := zeb.1 hsV
          refine zeb.2 ⟨h2.1, by rw [heV V hV]; exact h2.2.1, Int.lt_of_le_of_lt (zgg S.N (fun j hj hj2 => ?_)) h2.2.2⟩
          simp only [Bool.and_eq_true, decide_eq_true_eq] at hj2 ⊢
          rw [hkV V hV] at hj2
          by_cases hjT : j = T
          · subst hjT
            refine ⟨heT, ?_⟩
            have h3 : S.key P j < S.key P' j := by
              unfold key
              rw [hP, hl]
              cases l with
              | nil => have := hj2.1; unfold el at this; rw [hl] at this; cases this
              | cons y l2 =>
                have := hs j
                rw [hP, List.pairwise_cons] at this
                exact K_inc G hT (this.1 y (by simp))
            omega
          · rw [heV j hjT, hkV j hjT] at hj2
            exact hj2
        by_cases hex : ∃ V, V < S.N ∧ S.sel P' u V = true ∧ ¬ (V ≠ T ∧ S.sel P u V = true)
        · obtain ⟨V, hV, hsV, hnV⟩ := hex
          have hone : ∀ V2, V2 < S.N → V2 ≠ V → S.sel P' u V2 = true → V2 ≠ T ∧ S.sel P u V2 = true := by
            intro V2 hV2 hne hs2
            by_cases hd : V2 ≠ T ∧ S.sel P u V2 = true
            · exact hd
            · exfalso
              by_cases hh : S.nsel P u < S.M
              · have hall : ∀ X, X < S.N → S.sel P' u X = true → ¬ (X ≠ T ∧ S.sel P u X = true) → X = T := by
                  intro X hX hsX hnX
                  by_cases hXT : X = T
                  · exact hXT
                  · exact absurd ⟨hXT, zf2 hh hX (by rw [← heV X hXT]; exact zjq hsX)⟩ hnX
                exact hne ((hall V2 hV2 hs2 hd).trans (hall V hV hsV hnV).symm)
              · have hM' := nsel_le G P' u
                unfold nsel ct at hM' hh
                rw [zem _ S.N T hT] at hh
                rw [zem _ S.N V hV, zem _ S.N V2 hV2] at hM'
                simp only [hsel, hsV, hs2, if_neg hne] at hh hM'
                have hq : sm (fun k => if k = T then 0 else on (S.sel P u k)) S.N ≤ sm (fun k => if k = V2 then 0 else if k = V then 0 else on (S.sel P' u k)) S.N := by
                  apply zf0
                  intro j hj
                  show (if j = T then 0 else on (S.sel P u j)) ≤ (if j = V2 then 0 else if j = V then 0 else on (S.sel P' u j))
                  by_cases hjT : j = T
                  · rw [if_pos hjT]
                    split
                    · exact Int.le_refl _
                    · split
                      · exact Int.le_refl _
                      · exact zhe _
                  · rw [if_neg hjT]
                    cases hsj : S.sel P u j with
                    | false =>
                      show (0 : Int) ≤ _
                      split
                      · exact Int.le_refl _
                      · split
                        · exact Int.le_refl _
                        · exact zhe _
                    | true =>
                      rw [if_neg (fun e => hd (by subst e; exact ⟨hjT, hsj⟩)), if_neg (fun e => hnV (by subst e; exact ⟨hjT, hsj⟩)), hstay j hjT hsj]
                      exact Int.le_refl _
                have ho : on true = 1 := rfl
                rw [ho] at hh hM'
                omega
          have hrest : ∀ X, X ≠ V → X ≠ T → S.nxt P' u X = S.nxt P u X := by
            intro X hXV hXT
            have : S.sel P' u X = S.sel P u X := by
              cases h1 : S.sel P u X with
              | true => exact hstay X hXT h1
              | false =>
                cases h2 : S.sel P' u X with
                | false => rfl
                | true => have := (hone X (zen h2) hXV h2).2; rw [h1] at this; cases this
            unfold nxt; rw [this, hPV X hXT]
          obtain ⟨y, l2, hy, hry⟩ := zis hsV
          right
          by_cases hVT : V = T
          · subst hVT
            rw [hl] at hy
            refine ⟨V, y, hV, ⟨?_, ?_, ?_⟩, ?_, hry, ⟨l2, by rw [hT1, hy]⟩, fun h => absurd rfl h⟩
            · rw [hT1, hy]; simp
            · rw [hT1, hy, zeo hsV (by rw [hl, hy])]; simp
            · intro X hX; exact hrest X hX hX
            · have := hs V
              rw [hP, hy, List.pairwise_cons] at this
              exact K_inc G hT (this.1 y (by simp))
          · have hnsel : S.sel P u V = false := by
              cases h1 : S.sel P u V with
              | false => rfl
              | true => exact absurd ⟨hVT, h1⟩ hnV
            have heV2 : S.el P u V = true := by rw [← heV V hVT]; exact zjq hsV
            have hy2 : P V = y :: l2 := by rw [← hPV V hVT]; exact hy
            refine ⟨V, y, hV, ⟨?_, ?_, ?_⟩, ?_, hry, ⟨l2, by rw [zec hnsel, hy2]⟩, fun _ => ⟨heV2, hnsel⟩⟩
            · rw [zec hnsel, hy2]; simp
            · rw [zec hnsel, hy2, zeo hsV hy]; simp
            · intro X hX
              by_cases hXT : X = T
              · subst hXT
                have hn : S.sel P' u X = false := by
                  cases h1 : S.sel P' u X with
                  | false => rfl
                  | true => exact absurd rfl (hone X hT hX h1).1
                rw [zec hn, hT1, hl]
              · exact hrest X hX hXT
            · have h3 : ¬ S.key P V < S.key P T := by
                intro h4
                have := zkb hsel hV heV2 h4
                rw [show ch (S.el P u) (S.key P) S.N S.M V = S.sel P u V from rfl, hnsel] at this
                cases this
              have h4 := G.Kne T V hT hV (fun e => hVT e.symm) k y
              unfold key at h3
              rw [hy2, hP] at h3
              simp only [List.headD_cons] at h3
              omega
        · left
          intro V
          by_cases hVT : V = T
          · subst hVT
            have hn : S.sel P' u V = false := by
              cases h1 : S.sel P' u V with
              | false => rfl
              | true => exact absurd ⟨V, hT, h1, fun h => h.1 rfl⟩ hex
            rw [zec hn, hT1, hl]
          · have : S.sel P' u V = S.sel P u V := by
              cases h1 : S.sel P u V with
              | true => exact hstay V hVT h1
              | false =>
                cases h2 : S.sel P' u V with
                | false => rfl
                | true => exact absurd ⟨V, zen h2, h2, fun h => by rw [h1] at h; cases h.2⟩ hex
            unfold nxt; rw [this, hPV V hVT]
      | false =>
        left
        refine ⟨fun h => by simp at h, ?_⟩
        have hnextK : S.el P' u T = true → S.key P T < S.key P' T := by
          intro he
          obtain ⟨y, l2, hy, hry⟩ := zhf.1 he
          unfold key
          rw [hP, hy]
          have := hs T
          rw [hP, ← hl, hy, List.pairwise_cons] at this
          exact K_inc G hT (this.1 y (by simp))
        have hnextE : S.el P' u T = true → S.el P u T = true := by
          intro he
          obtain ⟨y, l2, hy, hry⟩ := zhf.1 he
          refine zhf.2 ⟨k, l, hP, ?_⟩
          have h5 := hs T
          rw [hP, ← hl, hy, List.pairwise_cons] at h5
          have := zei (r_inc G hT) (h5.1 y (by simp))
          omega
        have hsame : ∀ V, S.sel P' u V = S.sel P u V := by
          cases heT : S.el P u T with
          | false =>
            have he' : S.el P' u T = false := by
              cases h1 : S.el P' u T with
              | false => rfl
              | true => have := hnextE h1; rw [heT] at this; cases this
            apply zjr
            · intro V hV
              by_cases hVT : V = T
              · subst hVT; rw [he', heT]
              · exact heV V hVT
            · intro V hV he
              by_cases hVT : V = T
              · subst hVT; rw [heT] at he; cases he
              · exact hkV V hVT
          | true =>
            have hM := full hT heT hsel
            have hbef : ∀ V, S.sel P u V = true → V ≠ T ∧ S.key P V < S.key P T := by
              intro V hsV
              have hVT : V ≠ T := by rintro rfl; rw [hsel] at hsV; cases hsV
              refine ⟨hVT, ?_⟩
              by_cases h1 : S.key P V < S.key P T
              · exact h1
              · have h2 : S.key P V ≠ S.key P T := fun h => hVT (inj G (u := u) (zen hsV) hT h)
                have := zkb hsV hT heT (by omega)
                rw [show ch (S.el P u) (S.key P) S.N S.M T = S.sel P u T from rfl, hsel] at this
                cases this
            intro V
            cases hsV : S.sel P u V with
            | true =>
              obtain ⟨hVT, hlt⟩ := hbef V hsV
              have h2 := zeb.1 hsV
              refine zeb.2 ⟨h2.1, by rw [heV V hVT]; exact h2.2.1, Int.lt_of_le_of_lt (zgg S.N (fun j hj hj2 => ?_)) h2.2.2⟩
              simp only [Bool.and_eq_true, decide_eq_true_eq] at hj2 ⊢
              rw [hkV V hVT] at hj2
              by_cases hjT : j = T
              · subst hjT
                have := hnextK hj2.1
                omega
              · rw [heV j hjT, hkV j hjT] at hj2
                exact hj2
            | false =>
              cases hsV' : S.sel P' u V with
              | false => rfl
              | true =>
                exfalso
                have h2 := zeb.1 hsV'
                have h3 : S.M ≤ ct (fun j => S.el P' u j && decide (S.key P' j < S.key P' V)) S.N := by
                  refine Int.le_trans hM (zgg S.N (fun j hj hj2 => ?_))
                  obtain ⟨hjT, hlt⟩ := hbef j hj2
                  simp only [Bool.and_eq_true, decide_eq_true_eq]
                  rw [heV j hjT, hkV j hjT]
                  refine ⟨zjq hj2, ?_⟩
                  by_cases hVT : V = T
                  · subst hVT
                    have := hnextK h2.2.1
                    omega
                  · rw [hkV V hVT]
                    by_cases h4 : S.key P j < S.key P V
                    · exact h4
                    · have hjV : j ≠ V := by rintro rfl; rw [hsV] at hj2; cases hj2
                      have h5 : S.key P j ≠ S.key P V := fun h => hjV (inj G (u := u) hj h2.1 h)
                      have := zkb hj2 h2.1 (by rw [← heV V hVT]; exact h2.2.1) (by omega)
                      rw [show ch (S.el P u) (S.key P) S.N S.M V = S.sel P u V from rfl, hsV] at this
                      cases this
                omega
        refine ⟨by rw [zec hsel]; exact hc, ?_, ?_⟩
        · rw [zec hsel, zec (by rw [hsame]; exact hsel)]; exact hPT
        · intro V hV
          unfold nxt
          rw [hsame, hPV V hV]
    ·
      left
      refine ⟨?_, ?_⟩
      · rintro ⟨_, l2, h2⟩
        injection h2 with h3 h4
        exact hkc h3
      · have hP' : P' T = k :: l.erase c := by
          rw [hPT, hP, List.erase_cons_tail]
          simpa using hkc
        have hcl : c ∈ l := by
          rw [hP] at hc
          rcases List.mem_cons.1 hc with h | h
          · exact absurd h.symm hkc
          · exact h
        have hsame : ∀ V, S.sel P' u V = S.sel P u V := by
          apply zjr
          · intro V _
            by_cases hVT : V = T
            · subst hVT; unfold el; rw [hP', hP]
            · exact heV V hVT
          · intro V _ _
            by_cases hVT : V = T
            · subst hVT; unfold key; rw [hP', hP]; rfl
            · exact hkV V hVT
        refine ⟨?_, ?_, ?_⟩
        · unfold nxt; split
          · rw [hP]; exact hcl
          · exact hc
        · unfold nxt; rw [hsame]; split
          · rw [hP', hP]; rfl
          · exact hPT
        · intro V hV
          unfold nxt
          rw [hsame, hPV V hV]
end
end Sys
namespace Sys
variable {S : Sys}
def Nm (S : Sys) (Z : St) (u : Nat) : Prop := ∀ T, T < S.N → ∀ k, k ∈ S.run Z u T → u < S.d T k
theorem run_eq {Z Z' : St} {u v : Nat} (huv : u ≤ v) (h : ∀ T, S.run Z' u T = S.run Z u T) : ∀ T, S.run Z' v T = S.run Z v T := by
  induction v with
  | zero => obtain rfl : u = 0 := by omega
            exact h
  | succ v ih =>
    by_cases e : u = v + 1
    · subst e; exact h
    · have := funext (ih (by omega))
      intro T
      show S.nxt (S.run Z' v) v T = S.nxt (S.run Z v) v T
      rw [this]
section
variable (G : Good S) {Z : St} (hs : Srt Z)
include G hs
theorem chain {Z' : St} {T0 x : Nat} (hT0 : T0 < S.N) (h : Rm Z Z' T0 x) : ∀ u, (∀ V, S.run Z' u V = S.run Z u V) ∨
    ∃ T c, T < S.N ∧ Rm (S.run Z u) (S.run Z' u) T c ∧ S.K T0 x ≤ S.K T c ∧ (x ∈ S.run Z u T0 → T = T0 ∧ c = x) ∧ (x ∉ S.run Z u T0 → (∃ l, S.run Z u T = c :: l) ∧ S.r T c < u)
  | 0 => Or.inr ⟨T0, x, hT0, h, Int.le_refl _, fun _ => ⟨rfl, rfl⟩, fun hn => absurd h.1 hn⟩
  | u + 1 => by
    rcases chain hT0 h u with h1 | ⟨T, c, hT, hR, hK, hin, hout⟩
    · exact Or.inl (run_eq (Nat.le_succ u) h1)
    · have hsu := zgh (S := S) hs u
      rcases zh8 (u := u) G hsu hT hR with ⟨hns, hR2⟩ | ⟨hsel, ⟨l, hl⟩, h2⟩
      · right
        refine ⟨T, c, hT, hR2, hK, fun hx => hin (zgi hx), fun hx => ?_⟩
        by_cases hxu : x ∈ S.run Z u T0
        · obtain ⟨e1, e2⟩ := hin hxu
          subst e1; subst e2
          exact absurd hR2.1 hx
        · obtain ⟨⟨l, hl⟩, hr⟩ := hout hxu
          have hn : S.sel (S.run Z u) u T = false := by
            cases e : S.sel (S.run Z u) u T with
            | false => rfl
            | true => exact absurd ⟨e, l, hl⟩ hns
          exact ⟨⟨l, by rw [show S.run Z (u + 1) = S.nxt (S.run Z u) u from rfl, zec hn, hl]⟩, by omega⟩
      · rcases h2 with h2 | ⟨V, y, hV, hR2, hK2, hry, hy, hVT⟩
        · exact Or.inl h2
        · right
          refine ⟨V, y, hV, hR2, by omega, fun hx => ?_, fun _ => ⟨hy, by omega⟩⟩
          exfalso
          obtain ⟨e1, e2⟩ := hin (zgi hx)
          subst e1; subst e2
          have : S.run Z (u + 1) T = l := zeo hsel hl
          rw [this] at hx
          exact head_not hsu hl hx
structure Mis (S : Sys) (Z : St) (td Tm m : Nat) : Prop where
  hTm : Tm < S.N
  hm : m ∈ S.run Z td Tm
  hmd : S.d Tm m ≤ td
  first : ∀ u, u < td → Nm S Z u
  less : ∀ T, T < S.N → ∀ x, x ∈ Z T → ∃ Z', Rm Z Z' T x ∧ Nm S Z' td
variable {td Tm m : Nat} (H : Mis S Z td Tm m)
include H
omit hs in
theorem hmd : S.d Tm m = td := by
  have h1 := H.hmd
  by_cases e : td = 0
  · have := r_d G H.hTm m; omega
  · have := H.first (td - 1) (by omega) Tm H.hTm m (zit (by omega) H.hm)
    omega
omit G hs in
theorem apart {Z' : St} (hN : Nm S Z' td) {u : Nat} (hu : u ≤ td) : ¬ (∀ V, S.run Z' u V = S.run Z u V) := by
  intro h
  have h1 := run_eq hu h Tm
  have h2 := H.hm
  rw [← h1] at h2
  have h3 := hN Tm H.hTm m h2
  have h4 := H.hmd
  omega
theorem all_d {T x : Nat} (hT : T < S.N) (hx : x ∈ Z T) : S.d T x ≤ td := by
  obtain ⟨Z', hR, hN⟩ := H.less T hT x hx
  rcases chain G hs hT hR td with h | ⟨V, c, hV, hR2, hK, _, _⟩
  · exact absurd h (apart H hN (Nat.le_refl _))
  · have hmn : m ∉ S.run Z' td Tm := fun h => by
      have h3 := hN Tm H.hTm m h
      have h4 := H.hmd
      omega
    have e1 : Tm = V := by
      by_cases e : Tm = V
      · exact e
      · exact absurd (by rw [hR2.2.2 Tm e]; exact H.hm) hmn
    subst e1
    have e2 : m = c := by
      by_cases e : m = c
      · exact e
      · rw [hR2.2.1] at hmn
        exact absurd ((List.mem_erase_of_ne e).2 H.hm) hmn
    subst e2
    have := G.Kd T Tm hT hV x m hK
    have := hmd G H
    omega
theorem hole {t T0 x : Nat} (ht : t < td) (hh : S.nsel (S.run Z t) t < S.M) (hT0 : T0 < S.N) (hx : x ∈ Z T0) (hxn : x ∉ S.run Z (t + 1) T0) :
    ∃ T c l, S.sel (S.run Z t) t T = true ∧ S.run Z t T = c :: (c + 1) :: l ∧ S.K T0 x ≤ S.K T c ∧ S.d T c = t + 1 ∧ S.b T c = true ∧ (x ∈ S.run Z t T0 → T = T0 ∧ c = x) := by
  obtain ⟨Z', hR, hN⟩ := H.less T0 hT0 x hx
  have hst := zgh (S := S) hs t
  rcases chain G hs hT0 hR t with h | ⟨T, c, hT, hR2, hK, hin, hout⟩
  · exact absurd h (apart H hN (by omega))
  · rcases zh8 (u := t) G hst hT hR2 with ⟨hns, hR3⟩ | ⟨hsel, ⟨l, hl⟩, h2⟩
    · exfalso
      by_cases hxt : x ∈ S.run Z t T0
      · obtain ⟨e1, e2⟩ := hin hxt
        subst e1; subst e2
        exact hxn hR3.1
      · obtain ⟨⟨l, hl⟩, hr⟩ := hout hxt
        exact hns ⟨zf2 hh hT (zhf.2 ⟨c, l, hl, by omega⟩), l, hl⟩
    · rcases h2 with h2 | ⟨V, y, hV, hR3, hK2, hry, ⟨l2, hy⟩, hVT⟩
      · exact absurd h2 (apart (u := t + 1) H hN (by omega))
      · have e : V = T := by
          by_cases e : V = T
          · exact e
          · have h3 := hVT e
            have := zf2 hh hV h3.1
            rw [h3.2] at this; cases this
        subst e
        rw [zeo hsel hl] at hy
        have hcy : c < y := by
          have := hst V
          rw [hl, hy, List.pairwise_cons] at this
          exact this.1 y (by simp)
        have h1 := H.first t ht V hV c (by rw [hl]; simp)
        have h3 := over G hV c
        have h4 : y = c + 1 := by
          by_cases e : y = c + 1
          · exact e
          · have := zei (r_inc G hV) (show c + 1 < y by omega)
            omega
        subst h4
        exact ⟨V, c, l2, hsel, by rw [hl, hy], hK, by omega, (G.hb V hV c).2 (by omega), hin⟩
end
end Sys
def ls (g : Nat → Int) : List Nat → Int
  | [] => 0
  | k :: l => g k + ls g l
theorem ls_sm (g : Nat → Int) (B : Nat) : ∀ l : List Nat, l.Nodup → (∀ k ∈ l, k < B) → ls g l = sm (fun k => if k ∈ l then g k else 0) B
  | [], _, _ => by
    have : sm (fun k => if k ∈ ([] : List Nat) then g k else 0) B = sm (fun _ => 0) B := zd7 B (fun k _ => by simp)
    rw [this, zgf]; rfl
  | a :: l, hn, hB => by
    have hn' := List.nodup_cons.1 hn
    have ih := ls_sm g B l hn'.2 (fun k hk => hB k (List.mem_cons_of_mem _ hk))
    rw [zem _ B a (hB a (by simp))]
    simp only [List.mem_cons, true_or, if_true]
    have : sm (fun k => if k = a then 0 else if k = a ∨ k ∈ l then g k else 0) B = sm (fun k => if k ∈ l then g k else 0) B := zd7 B (fun k _ => by
      show (if k = a then 0 else if k = a ∨ k ∈ l then g k else 0) = (if k ∈ l then g k else 0)
      by_cases h : k = a
      · subst h; rw [if_pos rfl, if_neg hn'.1]
      · rw [if_neg h]; simp [h])
    rw [this, ← ih]
    simp only [ls]; omega
theorem bounded : ∀ l : List Nat, ∃ B, ∀ k ∈ l, k < B
  | [] => ⟨0, by simp⟩
  | a :: l => by
    obtain ⟨B, h⟩ := bounded l
    refine ⟨B + a + 1, fun k hk => ?_⟩
    rcases List.mem_cons.1 hk with e | e
    · omega
    · have := h k e; omega
theorem ls_le_sm {g : Nat → Int} (h0 : ∀ k, 0 ≤ g k) (B : Nat) {l : List Nat} (hn : l.Nodup) (hB : ∀ k ∈ l, k < B) : ls g l ≤ sm g B := by
  rw [ls_sm g B l hn hB]
  apply zf0
  intro k _
  show (if k ∈ l then g k else 0) ≤ g k
  split
  · exact Int.le_refl _
  · exact h0 k
theorem ls_sub (f g : Nat → Int) : ∀ l, ls (fun k => f k - g k) l = ls f l - ls g l
  | [] => rfl
  | k :: l => by have := ls_sub f g l; simp only [ls]; omega
theorem ze3 (c : Int) {g : Nat → Int} : ∀ l : List Nat, (∀ k ∈ l, g k = c) → ls g l = c * (l.length : Int)
  | [], _ => by simp [ls]
  | k :: l, h => by
    have h1 := ze3 c l (fun k hk => h k (List.mem_cons_of_mem _ hk))
    have h2 := h k (by simp)
    simp only [ls, List.length_cons]
    rw [h1, h2, mulc]; omega
theorem ls_one {g : Nat → Int} {j : Nat} (h0 : 0 ≤ g j) : ∀ l : List Nat, l.Nodup → (∀ k ∈ l, k ≠ j → g k = 0) → ls g l ≤ g j
  | [], _, _ => h0
  | k :: l, hn, h => by
    have hn' := List.nodup_cons.1 hn
    simp only [ls]
    by_cases e : k = j
    · subst e
      have h1 := ze3 0 (g := g) l (fun i hi => h i (List.mem_cons_of_mem _ hi) (by rintro rfl; exact hn'.1 hi))
      omega
    · have h1 := h k (by simp) e
      have h2 := ls_one h0 l hn'.2 (fun i hi => h i (List.mem_cons_of_mem _ hi))
      omega
theorem ziu {l : List Nat} (h : l.Pairwise (· < ·)) : l.Nodup := h.imp (fun h => by omega)
theorem last {p : Nat → Prop} : ∀ n, p 0 → ¬ p n → ∃ t, t < n ∧ p t ∧ ∀ u, t < u → u ≤ n → ¬ p u
  | 0, h0, hn => absurd h0 hn
  | n + 1, h0, hn => by
    by_cases h : p n
    · exact ⟨n, by omega, h, fun u h1 h2 => by obtain rfl : u = n + 1 := by omega
                                               exact hn⟩
    · obtain ⟨t, h1, h2, h3⟩ := last n h0 h
      refine ⟨t, by omega, h2, fun u h4 h5 => ?_⟩
      by_cases e : u = n + 1
      · subst e; exact hn
      · exact h3 u h4 (by omega)
namespace Sys
variable {S : Sys}
def lag (S : Sys) (Z : St) (u : Nat) : Int := sm (fun T => ls (fun k => fl S.L (S.W T) k u) (Z T) - S.L * (((Z T).length : Int) - ((S.run Z u T).length : Int))) S.N
def idl (S : Sys) (Z : St) (u T : Nat) : Int := ls (fun k => sh S.L (S.W T) k u) (Z T)
section
variable (G : Good S) {Z : St} (hs : Srt Z)
theorem len_step (u T : Nat) : ((S.run Z (u + 1) T).length : Int) = ((S.run Z u T).length : Int) - on (S.sel (S.run Z u) u T) := by
  show ((S.nxt (S.run Z u) u T).length : Int) = _
  cases e : S.sel (S.run Z u) u T with
  | false => rw [zec e]; simp [on]
  | true =>
    obtain ⟨k, l, hp, _⟩ := zis e
    rw [zeo e hp, hp]; simp [on]
theorem zgp (u : Nat) : lag S Z (u + 1) = lag S Z u + sm (idl S Z u) S.N - S.L * S.nsel (S.run Z u) u := by
  have h1 : lag S Z (u + 1) = sm (fun T => (ls (fun k => fl S.L (S.W T) k u) (Z T) - S.L * (((Z T).length : Int) - ((S.run Z u T).length : Int))) + (idl S Z u T - S.L * on (S.sel (S.run Z u) u T))) S.N := by
    apply zd7
    intro T hT
    show ls (fun k => fl S.L (S.W T) k (u + 1)) (Z T) - S.L * (((Z T).length : Int) - ((S.run Z (u + 1) T).length : Int)) = _
    rw [len_step u T]
    have h2 : idl S Z u T = ls (fun k => fl S.L (S.W T) k (u + 1)) (Z T) - ls (fun k => fl S.L (S.W T) k u) (Z T) := ls_sub _ _ _
    rw [h2]
    have h3 : S.L * (((Z T).length : Int) - (((S.run Z u T).length : Int) - on (S.sel (S.run Z u) u T))) = S.L * (((Z T).length : Int) - ((S.run Z u T).length : Int)) + S.L * on (S.sel (S.run Z u) u T) := by
      rw [← Int.mul_add]; congr 1; omega
    rw [h3]; omega
  rw [h1, zjm, sm_sub (idl S Z u), zjn]
  unfold lag nsel ct
  omega
include G
theorem lag_start : lag S Z 0 = 0 := by
  have h1 : lag S Z 0 = sm (fun _ => 0) S.N := by
    apply zd7
    intro T hT
    show ls (fun k => fl S.L (S.W T) k 0) (Z T) - S.L * (((Z T).length : Int) - ((Z T).length : Int)) = 0
    rw [ze3 0 (Z T) (fun k _ => fl_start G.L0 k)]
    simp
  rw [h1, zgf]
theorem zjs {T : Nat} (hT : T < S.N) (u : Nat) {l : List Nat} (hn : l.Nodup) : ls (fun k => sh S.L (S.W T) k u) l ≤ S.W T := by
  obtain ⟨B, hB⟩ := bounded l
  exact Int.le_trans (ls_le_sm (fun k => zjo (G.W0 T hT) k u) B hn hB) (sh_sum G.L0 (G.W0 T hT) u B)
theorem b_two {T : Nat} (hT : T < S.N) {k : Nat} (hb : S.b T k = true) : S.r T k + 2 ≤ S.d T k := by
  have h1 := (G.hb T hT k).1 hb
  have h2 := r_inc G hT k
  omega
include hs
theorem idl_le {T : Nat} (hT : T < S.N) (u : Nat) : idl S Z u T ≤ S.W T := zjs G hT u (ziu (hs T))
theorem idl_less {T : Nat} (hT : T < S.N) (u : Nat) {j : Nat} (hj : j ∉ Z T) : idl S Z u T + sh S.L (S.W T) j u ≤ S.W T := by
  have := zjs G hT u (l := j :: Z T) (List.nodup_cons.2 ⟨hj, ziu (hs T)⟩)
  simp only [ls] at this
  unfold idl
  omega
omit hs in
theorem idl_zero {T : Nat} (hT : T < S.N) (u : Nat) (h : ∀ k ∈ Z T, ¬ (S.r T k ≤ u ∧ u < S.d T k)) : idl S Z u T = 0 := by
  have h1 := ze3 0 (g := fun k => sh S.L (S.W T) k u) (Z T) (fun k hk => sh_zero G.L0 (G.W0 T hT) (G.hr T hT) (G.hd T hT) k u (h k hk))
  rw [Int.zero_mul] at h1
  exact h1
theorem idl_one {T : Nat} (hT : T < S.N) (u j : Nat) (h : ∀ k ∈ Z T, k ≠ j → ¬ (S.r T k ≤ u ∧ u < S.d T k)) : idl S Z u T ≤ sh S.L (S.W T) j u :=
  ls_one (g := fun k => sh S.L (S.W T) k u) (j := j) (zjo (G.W0 T hT) j u) (Z T) (ziu (hs T)) (fun k hk hkj => sh_zero G.L0 (G.W0 T hT) (G.hr T hT) (G.hd T hT) k u (h k hk hkj))
end
end Sys
namespace Sys
variable {S : Sys}
section
variable (G : Good S) {Z : St} (hs : Srt Z) {td Tm m : Nat} (H : Mis S Z td Tm m)
include G hs H
theorem zgq {t T : Nat} (ht : t < td) (hh : S.nsel (S.run Z t) t < S.M) (hsel : S.sel (S.run Z t) t T = true) :
    ∃ c l, S.run Z t T = c :: (c + 1) :: l ∧ S.d T c = t + 1 ∧ S.b T c = true := by
  obtain ⟨c, l, hc, hrc⟩ := zis hsel
  have hst := zgh (S := S) hs t
  have hn : c ∉ S.run Z (t + 1) T := by
    rw [show S.run Z (t + 1) T = l from zeo hsel hc]
    exact head_not hst hc
  obtain ⟨T2, c2, l2, h1, h2, h3, h4, h5, h6⟩ := hole G hs H ht hh (zen hsel) (zit (by omega : 0 ≤ t) (by rw [hc]; simp)) hn
  obtain ⟨e1, e2⟩ := h6 (by rw [hc]; simp)
  subst e1; subst e2
  exact ⟨c2, l2, h2, h4, h5⟩
theorem ze9 {t T x : Nat} (hh : S.nsel (S.run Z t) t < S.M) (hT : T < S.N) (hn : S.sel (S.run Z t) t T = false) (hr : S.r T x ≤ t) : x ∉ S.run Z t T := by
  intro hx
  have hst := zgh (S := S) hs t
  cases hp : S.run Z t T with
  | nil => rw [hp] at hx; cases hx
  | cons k l =>
    have hk : S.r T k ≤ t := by
      rw [hp] at hx
      rcases List.mem_cons.1 hx with e | e
      · subst e; exact hr
      · have h1 := hst T
        rw [hp, List.pairwise_cons] at h1
        have := zei (r_inc G hT) (h1.1 x e)
        omega
    have := zf2 hh hT (zhf.2 ⟨k, l, hp, hk⟩)
    rw [hn] at this; cases this
def Pn (S : Sys) (Z : St) (td t n : Nat) (i : Nat → Nat) : Prop :=
  t + n < td ∧ S.nsel (S.run Z (t + n)) (t + n) < S.M ∧ (∀ T, S.sel (S.run Z (t + n)) (t + n) T = S.sel (S.run Z t) t T) ∧
    ∀ T, S.sel (S.run Z t) t T = true → (∃ l, S.run Z (t + n) T = (i T + n) :: (i T + n + 1) :: l) ∧ S.d T (i T + n) = t + n + 1 ∧ S.b T (i T + n) = true
variable {t : Nat} {i : Nat → Nat}
theorem idl_other {n : Nat} (ht : t < td) (hh : S.nsel (S.run Z t) t < S.M) (hP : ∀ n', n' ≤ n → Pn S Z td t n' i) {n' : Nat} (h0 : 0 < n') (hn : n' ≤ n) {T : Nat} (hT : T < S.N) (hA : S.sel (S.run Z t) t T = false) : idl S Z (t + n') T = 0 := by
  apply idl_zero G hT
  rintro k hk ⟨h1, h2⟩
  obtain ⟨p1, p2, p3, p4⟩ := hP n' hn
  have h3 := ze9 G hs H p2 hT (by rw [p3]; exact hA) h1
  have h3' : k ∉ S.run Z (t + n' + 1) T := fun h => h3 (zgi h)
  obtain ⟨T2, c2, l2, a1, a2, a3, a4, a5, a6⟩ := hole G hs H p1 p2 hT hk h3'
  have h4 := G.Kd T T2 hT (zen a1) k c2 a3
  have h5 : k ∉ S.run Z (t + 1) T := by
    intro h6
    have h7 : ∀ q, 1 ≤ q → q ≤ n' → k ∈ S.run Z (t + q) T := by
      intro q
      induction q with
      | zero => intro h; omega
      | succ q ih =>
        intro _ hq
        by_cases e : q = 0
        · subst e; exact h6
        · have h8 := ih (by omega) (by omega)
          have h9 := (hP q (by omega)).2.2.1 T
          rw [hA] at h9
          rw [show S.run Z (t + (q + 1)) T = S.nxt (S.run Z (t + q)) (t + q) T from rfl, zec h9]
          exact h8
    exact h3 (h7 n' h0 (Nat.le_refl _))
  obtain ⟨T3, c3, l3, b1, b2, b3, b4, b5, b6⟩ := hole G hs H ht hh hT hk h5
  have h10 := G.Kd T T3 hT (zen b1) k c3 b3
  omega
omit hs H in
theorem D_far {T : Nat} (hT : T < S.N) (hw : S.L ≤ 2 * S.W T) {k n t : Nat} (h : ∀ n', n' ≤ n → S.d T (k + n') = t + n' + 1 ∧ S.b T (k + n') = true) : (t : Int) + n + 2 ≤ S.D T k := by
  obtain ⟨j, hj, _, h2⟩ := G.Dh T hT hw k
  have hrk : ∀ n', n' ≤ n → S.r T (k + n' + 1) = t + n' := by
    intro n' hn'
    have h3 := h n' hn'
    have h4 := (G.hb T hT (k + n')).1 h3.2
    omega
  have h5 : k + n < j := by
    by_cases e : k + n < j
    · exact e
    · exfalso
      obtain ⟨q, rfl⟩ : ∃ q, j = k + q := ⟨j - k, by omega⟩
      have h6 := h q (by omega)
      rcases h2 with ⟨a1, a2, a3⟩ | ⟨a1, a2, a3⟩
      · obtain ⟨q', rfl⟩ : ∃ q', q = q' + 1 := ⟨q - 1, by omega⟩
        have h7 := hrk q' (by omega)
        rw [show k + (q' + 1) = k + q' + 1 by omega] at a2 h6
        omega
      · rw [h6.2] at a2; cases a2
  have h6 : t + n + 1 < S.d T (k + n + 1) := by
    have h7 := zhu G hT (k + n)
    have := (h n (Nat.le_refl _)).1
    omega
  by_cases e : j = k + n + 1
  · subst e
    have h7 := hrk n (Nat.le_refl _)
    rcases h2 with ⟨a1, a2, a3⟩ | ⟨a1, a2, a3⟩ <;> omega
  · have h7 := zei (zhu G hT) (show k + n + 1 < j by omega)
    rcases h2 with ⟨a1, a2, a3⟩ | ⟨a1, a2, a3⟩ <;> omega
omit hs H in
theorem D_near {T : Nat} (hT : T < S.N) {k n t : Nat} (hd : S.d T k = t + 1) (hb : S.b T k = true) (hD : (t : Int) + n + 2 ≤ S.D T k) : ∀ n', n' ≤ n → S.d T (k + n') = t + n' + 1 ∧ S.b T (k + n') = true := by
  have hw : S.L ≤ 2 * S.W T := by
    by_cases e : S.L ≤ 2 * S.W T
    · exact e
    · have := G.Dl T hT (by omega) k; omega
  obtain ⟨j, hj, h1, h2⟩ := G.Dh T hT hw k
  intro n'
  induction n' with
  | zero => intro _; exact ⟨hd, hb⟩
  | succ q ih =>
    intro hq
    obtain ⟨e1, e2⟩ := ih (by omega)
    have h3 := (G.hb T hT (k + q)).1 e2
    have h4 := r_inc G hT (k + q + 1)
    have h5 := zhu G hT (k + q)
    have h6 := heavy_len (G.hr T hT) (G.hd T hT) (k + q + 1) hw
    have hne : j ≠ k + q + 1 := by
      rintro rfl
      rcases h2 with ⟨a1, a2, a3⟩ | ⟨a1, a2, a3⟩
      · omega
      · have : S.d T (k + q + 1) < S.r T (k + q + 1) + 3 := by
          by_cases e : S.d T (k + q + 1) < S.r T (k + q + 1) + 3
          · exact e
          · exact absurd ⟨by omega, by omega⟩ a1
        omega
    have hlt : k + q + 1 < j := by
      by_cases e : k + q + 1 < j
      · exact e
      · exfalso
        obtain ⟨q2, rfl⟩ : ∃ q2, j = k + q2 := ⟨j - k, by omega⟩
        rcases h2 with ⟨a1, a2, a3⟩ | ⟨a1, a2, a3⟩
        · have h7 := zei (zhu G hT) (show k + q2 < k + q + 1 by omega)
          have h8 : S.d T (k + q2) ≤ S.d T (k + q) := by
            by_cases e3 : q2 = q
            · subst e3; exact Nat.le_refl _
            · exact Nat.le_of_lt (zei (zhu G hT) (by omega))
          omega
        · have h8 : S.d T (k + q2) ≤ S.d T (k + q) := by
            by_cases e3 : q2 = q
            · subst e3; exact Nat.le_refl _
            · exact Nat.le_of_lt (zei (zhu G hT) (by omega))
          omega
    have h9 := h1 (k + q + 1) (by omega) hlt
    have h10 := h9.2 (by omega)
    rw [show k + (q + 1) = k + q + 1 by omega]
    exact ⟨by omega, h9.1⟩
theorem next_hole {n : Nat} (hl : lag S Z t < S.L) (hl2 : ∀ u, t < u → u ≤ td → S.L ≤ lag S Z u) (ht : t < td) (hh : S.nsel (S.run Z t) t < S.M) (hP : ∀ n', n' ≤ n → Pn S Z td t n' i) (htn : t + n + 1 < td) : S.nsel (S.run Z (t + n + 1)) (t + n + 1) < S.M := by
  by_cases hfull : S.nsel (S.run Z (t + n + 1)) (t + n + 1) < S.M
  · exact hfull
  exfalso
  have hL0 := G.L0
  have hcnt : ∀ q, q ≤ n → lag S Z (t + q + 1) ≤ lag S Z t + sm (fun T => if S.sel (S.run Z t) t T = true then 0 else idl S Z t T) S.N := by
    intro q
    induction q with
    | zero =>
      intro _
      have h1 : lag S Z (t + 1) = lag S Z t + sm (idl S Z t) S.N - S.L * S.nsel (S.run Z t) t := zgp t
      have h2 : sm (idl S Z t) S.N ≤ sm (fun T => (if S.sel (S.run Z t) t T = true then 0 else idl S Z t T) + S.L * on (S.sel (S.run Z t) t T)) S.N := by
        apply zf0
        intro T hT
        show idl S Z t T ≤ (if S.sel (S.run Z t) t T = true then 0 else idl S Z t T) + S.L * on (S.sel (S.run Z t) t T)
        cases e : S.sel (S.run Z t) t T with
        | true =>
          have h3 := idl_le G hs hT t
          have h4 := G.WL T hT
          simp [on]; omega
        | false => simp [on]
      rw [zjm, zjn] at h2
      unfold nsel ct at h1
      show lag S Z (t + 1) ≤ _
      omega
    | succ q ih =>
      intro hq
      have h0 := ih (by omega)
      obtain ⟨p1, p2, p3, p4⟩ := hP (q + 1) hq
      have h1 : lag S Z (t + (q + 1) + 1) = lag S Z (t + (q + 1)) + sm (idl S Z (t + (q + 1))) S.N - S.L * S.nsel (S.run Z (t + (q + 1))) (t + (q + 1)) := zgp _
      have h2 : sm (idl S Z (t + (q + 1))) S.N ≤ sm (fun T => S.L * on (S.sel (S.run Z (t + (q + 1))) (t + (q + 1)) T)) S.N := by
        apply zf0
        intro T hT
        show idl S Z (t + (q + 1)) T ≤ S.L * on (S.sel (S.run Z (t + (q + 1))) (t + (q + 1)) T)
        rw [p3]
        cases e : S.sel (S.run Z t) t T with
        | true =>
          have h3 := idl_le G hs hT (t + (q + 1))
          have h4 := G.WL T hT
          simp [on]; omega
        | false => rw [idl_other G hs H ht hh hP (by omega) hq hT e]; simp [on]
      rw [zjn] at h2
      unfold nsel ct at h1
      rw [show t + (q + 1) = t + q + 1 by omega] at *
      omega
  have h1 : lag S Z (t + n + 1 + 1) = lag S Z (t + n + 1) + sm (idl S Z (t + n + 1)) S.N - S.L * S.nsel (S.run Z (t + n + 1)) (t + n + 1) := zgp _
  have h2 := hcnt n (Nat.le_refl _)
  have h3 := hl2 (t + n + 1 + 1) (by omega) (by omega)
  have h4 : S.L * S.M ≤ S.L * S.nsel (S.run Z (t + n + 1)) (t + n + 1) := Int.mul_le_mul_of_nonneg_left (by omega) (by omega)
  have h5 : sm (idl S Z (t + n + 1)) S.N ≤ sm (fun T => S.W T - (if S.sel (S.run Z t) t T = true then 0 else idl S Z t T)) S.N := by
    apply zf0
    intro T hT
    show idl S Z (t + n + 1) T ≤ S.W T - (if S.sel (S.run Z t) t T = true then 0 else idl S Z t T)
    have h6 := idl_le G hs hT (t + n + 1)
    cases hA : S.sel (S.run Z t) t T with
    | true => simp; exact h6
    | false =>
      simp only [Bool.false_eq_true, if_false]
      have hone : ∀ k ∈ Z T, S.r T k ≤ t → t < S.d T k → S.d T k = t + 1 ∧ S.b T k = true ∧ ∃ T2 c, S.sel (S.run Z t) t T2 = true ∧ (∃ l, S.run Z t T2 = c :: l) ∧ S.D T2 c ≤ S.D T k := by
        intro k hk hr1 hr2
        have e1 := ze9 G hs H hh hT hA hr1
        obtain ⟨T2, c, l, a1, a2, a3, a4, a5, a6⟩ := hole G hs H ht hh hT hk (fun h => e1 (zgi h))
        have e2 := G.Kd T T2 hT (zen a1) k c a3
        have e3 : S.d T k = S.d T2 c := by omega
        have e4 := G.Kb T T2 hT (zen a1) k c a3 e3 a5
        exact ⟨by omega, e4.1, T2, c, a1, ⟨_, a2⟩, e4.2⟩
      by_cases hB : ∃ k, k ∈ Z T ∧ S.r T k ≤ t ∧ t < S.d T k
      · obtain ⟨j, hj, hj1, hj2⟩ := hB
        obtain ⟨e1, e2, T2, c, a1, ⟨l, a2⟩, a3⟩ := hone j hj hj1 hj2
        have hle : idl S Z t T ≤ sh S.L (S.W T) j t := by
          apply idl_one G hs hT
          rintro k hk hkj ⟨q1, q2⟩
          have := (hone k hk q1 q2).1
          exact hkj (st_inj (zhu G hT) (by omega))
        have hi : c = i T2 := by
          obtain ⟨⟨l3, g1⟩, _⟩ := (hP 0 (by omega)).2.2.2 T2 a1
          rw [show t + 0 = t by omega, a2] at g1
          injection g1 with g2 _
        have hfar : ∀ n', n' ≤ n → S.d T2 (c + n') = t + n' + 1 ∧ S.b T2 (c + n') = true := by
          intro n' hn'
          rw [hi]
          exact ((hP n' hn').2.2.2 T2 a1).2
        have hchain : ∀ n', n' ≤ n → S.d T (j + n') = t + n' + 1 ∧ S.b T (j + n') = true := by
          by_cases en : n = 0
          · subst en
            intro n' hn'
            obtain rfl : n' = 0 := by omega
            exact ⟨e1, e2⟩
          · have hT2 := zen a1
            have hw : S.L ≤ 2 * S.W T2 := by
              have g1 := hfar 0 (by omega)
              have g2 := hfar 1 (by omega)
              have g3 := (G.hb T2 hT2 (c + 0)).1 g1.2
              exact heavy_of G.L0 (G.hr T2 hT2) (G.hd T2 hT2) (c + 1) (by rw [show c + 0 + 1 = c + 1 by omega] at g3; omega)
            have hD := D_far G hT2 hw hfar
            exact D_near G hT e1 e2 (by omega)
        have hlast := hchain n (Nat.le_refl _)
        have hrl : S.r T (j + n + 1) = t + n := by
          have := (G.hb T hT (j + n)).1 hlast.2
          omega
        have hdl : t + n + 1 < S.d T (j + n + 1) := by have := zhu G hT (j + n); omega
        have hnot : j + n + 1 ∉ Z T := by
          intro hin
          obtain ⟨p1, p2, p3, p4⟩ := hP n (Nat.le_refl _)
          have g1 := ze9 G hs H p2 hT (by rw [p3]; exact hA) (show S.r T (j + n + 1) ≤ t + n by omega)
          obtain ⟨T3, c3, l3, b1, b2, b3, b4, b5, b6⟩ := hole G hs H p1 p2 hT hin (fun h => g1 (zgi h))
          have := G.Kd T T3 hT (zen b1) _ c3 b3
          omega
        have g1 := idl_less G hs hT (t + n + 1) hnot
        have g2 := sh_after G.L0 (G.W0 T hT) (G.WL T hT) (G.hr T hT) (G.hd T hT) j n t e1 (by omega) hdl
        omega
      · have : idl S Z t T = 0 := idl_zero G hT t (fun k hk h => hB ⟨k, hk, h.1, h.2⟩)
        omega
  rw [sm_sub S.W] at h5
  have h6 := G.U
  rw [Int.mul_comm] at h6
  omega
end
end Sys
namespace Sys
variable {S : Sys}
section
variable (G : Good S) {Z : St} (hs : Srt Z)
include G hs
theorem no_mis {td Tm m : Nat} (H : Mis S Z td Tm m) : False := by
  have hL0 := G.L0
  have hend : ¬ lag S Z td < S.L := by
    have h1 : sm (fun T => S.L * ((S.run Z td T).length : Int)) S.N ≤ lag S Z td := by
      apply zf0
      intro T hT
      show S.L * ((S.run Z td T).length : Int) ≤ ls (fun k => fl S.L (S.W T) k td) (Z T) - S.L * (((Z T).length : Int) - ((S.run Z td T).length : Int))
      rw [ze3 S.L (g := fun k => fl S.L (S.W T) k td) (Z T) (fun k hk => fl_end G.L0 (G.hd T hT) k td (all_d G hs H hT hk)), Int.mul_sub]
      omega
    have h2 := sm_one_le (f := fun T => S.L * ((S.run Z td T).length : Int)) S.N Tm H.hTm (fun k _ => Int.mul_nonneg (by omega) (by omega))
    have h3 : 1 ≤ (S.run Z td Tm).length := List.length_pos_of_mem H.hm
    have h4 : S.L * 1 ≤ S.L * ((S.run Z td Tm).length : Int) := Int.mul_le_mul_of_nonneg_left (by omega) (by omega)
    have h5 : S.L * ((S.run Z td Tm).length : Int) ≤ sm (fun T => S.L * ((S.run Z td T).length : Int)) S.N := h2
    omega
  obtain ⟨t, ht, hl, hl2⟩ := last (p := fun u => lag S Z u < S.L) td (by show lag S Z 0 < S.L; rw [lag_start G]; omega) hend
  have hl3 : ∀ u, t < u → u ≤ td → S.L ≤ lag S Z u := fun u h1 h2 => by have := hl2 u h1 h2; omega
  have hh : S.nsel (S.run Z t) t < S.M := by
    by_cases e : S.nsel (S.run Z t) t < S.M
    · exact e
    · exfalso
      have h1 : lag S Z (t + 1) = lag S Z t + sm (idl S Z t) S.N - S.L * S.nsel (S.run Z t) t := zgp t
      have h2 : sm (idl S Z t) S.N ≤ sm S.W S.N := zf0 S.N (fun T hT => idl_le G hs hT t)
      have h3 := G.U
      have h4 : S.L * S.M ≤ S.L * S.nsel (S.run Z t) t := Int.mul_le_mul_of_nonneg_left (by omega) (by omega)
      have h5 := hl3 (t + 1) (by omega) (by omega)
      rw [Int.mul_comm] at h3
      omega
  have hall : ∀ n, Pn S Z td t n (fun T => (S.run Z t T).headD 0) := by
    intro n
    induction n using Nat.strongRecOn with
    | ind n ih =>
      cases n with
      | zero =>
        refine ⟨ht, hh, fun T => rfl, fun T hT => ?_⟩
        obtain ⟨c, l, h1, h2, h3⟩ := zgq G hs H ht hh hT
        show (∃ l, S.run Z t T = ((S.run Z t T).headD 0 + 0) :: ((S.run Z t T).headD 0 + 0 + 1) :: l) ∧ S.d T ((S.run Z t T).headD 0 + 0) = t + 0 + 1 ∧ S.b T ((S.run Z t T).headD 0 + 0) = true
        rw [h1]
        exact ⟨⟨l, rfl⟩, h2, h3⟩
      | succ n =>
        have hP : ∀ n', n' ≤ n → Pn S Z td t n' (fun T => (S.run Z t T).headD 0) := fun n' h => ih n' (by omega)
        obtain ⟨p1, p2, p3, p4⟩ := hP n (Nat.le_refl _)
        have hmd := hmd G H
        have htn : t + n + 1 < td := by
          by_cases e : t + n + 1 < td
          · exact e
          · exfalso
            have e2 : td = t + n + 1 := by omega
            have h1 := r_d G H.hTm m
            have hm2 : m ∈ S.run Z (t + n) Tm := zit (by omega) H.hm
            cases hsel : S.sel (S.run Z (t + n)) (t + n) Tm with
            | false => exact ze9 G hs H p2 H.hTm hsel (by omega) hm2
            | true =>
              obtain ⟨c, l, h2, h3, h4⟩ := zgq G hs H p1 p2 hsel
              have h5 := H.hm
              rw [e2, show S.run Z (t + n + 1) Tm = (c + 1) :: l from zeo hsel h2] at h5
              have h6 := zgh (S := S) hs (t + n) Tm
              rw [h2, List.pairwise_cons] at h6
              have h7 := zei (zhu G H.hTm) (h6.1 m h5)
              omega
        have hh2 := next_hole G hs H hl hl3 ht hh hP htn
        have hold : ∀ T, S.sel (S.run Z t) t T = true → ∃ l, S.run Z (t + n + 1) T = ((S.run Z t T).headD 0 + n + 1) :: l ∧ S.r T ((S.run Z t T).headD 0 + n + 1) = t + n := by
          intro T hT
          obtain ⟨⟨l, h1⟩, h2, h3⟩ := p4 T hT
          have h4 := (G.hb T (zen hT) ((S.run Z t T).headD 0 + n)).1 h3
          have h5 : S.d T ((S.run Z t T).headD 0 + n) = t + n + 1 := h2
          exact ⟨l, zeo (by rw [p3]; exact hT) h1, by omega⟩
        have hsame : ∀ T, S.sel (S.run Z (t + n + 1)) (t + n + 1) T = S.sel (S.run Z t) t T := by
          intro T
          cases hA : S.sel (S.run Z t) t T with
          | true =>
            obtain ⟨l, h1, h2⟩ := hold T hA
            exact zf2 hh2 (zen hA) (zhf.2 ⟨_, l, h1, by omega⟩)
          | false =>
            cases hV : S.sel (S.run Z (t + n + 1)) (t + n + 1) T with
            | false => rfl
            | true =>
              exfalso
              obtain ⟨c, l, h1, h2, h3⟩ := zgq G hs H htn hh2 hV
              have h4 := b_two G (zen hV) h3
              have h5 : S.sel (S.run Z (t + n)) (t + n) T = false := by rw [p3]; exact hA
              exact ze9 G hs H p2 (zen hV) h5 (show S.r T c ≤ t + n by omega) (zit (by omega : t + n ≤ t + n + 1) (by rw [h1]; simp))
        refine ⟨htn, hh2, hsame, fun T hT => ?_⟩
        obtain ⟨l, h1, h2⟩ := hold T hT
        obtain ⟨c, l2, h3, h4, h5⟩ := zgq G hs H htn hh2 (by rw [hsame]; exact hT)
        rw [h1] at h3
        injection h3 with e1 e2
        refine ⟨⟨l2, ?_⟩, ?_, ?_⟩
        · show S.run Z (t + n + 1) T = _
          rw [h1, e2, ← e1]; rfl
        · show S.d T ((S.run Z t T).headD 0 + n + 1) = _
          rw [e1, h4]; omega
        · show S.b T ((S.run Z t T).headD 0 + n + 1) = true
          rw [e1]; exact h5
  have := (hall td).1
  omega
end
def size (S : Sys) (Z : St) : Int := sm (fun T => ((Z T).length : Int)) S.N
theorem size_rm {Z Z' : St} {T c : Nat} (hT : T < S.N) (h : Rm Z Z' T c) : size S Z' + 1 = size S Z := by
  unfold size
  rw [zem (fun T => ((Z T).length : Int)) S.N T hT, zem (fun T => ((Z' T).length : Int)) S.N T hT]
  have h1 : sm (fun k => if k = T then 0 else ((Z' k).length : Int)) S.N = sm (fun k => if k = T then 0 else ((Z k).length : Int)) S.N := by
    apply zd7
    intro k _
    show (if k = T then 0 else ((Z' k).length : Int)) = (if k = T then 0 else ((Z k).length : Int))
    by_cases e : k = T
    · rw [if_pos e, if_pos e]
    · rw [if_neg e, if_neg e, h.2.2 k e]
  have h2 := List.length_erase_of_mem h.1
  have h3 := List.length_pos_of_mem h.1
  rw [h1, h.2.1, h2]
  show _ + ((((Z T).length - 1 : Nat)) : Int) + 1 = _ + ((Z T).length : Int)
  omega
theorem zhg (G : Good S) : ∀ (n : Nat) (Z : St), Srt Z → size S Z ≤ n → ∀ u, Nm S Z u
  | n, Z, hs, hn, u => by
    induction u using Nat.strongRecOn with
    | ind td ihu =>
      intro T hT k hk
      by_cases e : td < S.d T k
      · exact e
      · exfalso
        refine no_mis G hs (td := td) (Tm := T) (m := k) ⟨hT, hk, by omega, fun u hu => ihu u hu, fun T2 hT2 x hx => ?_⟩
        have hR : Rm Z (fun V => if V = T2 then (Z V).erase x else Z V) T2 x := ⟨hx, if_pos rfl, fun V hV => if_neg hV⟩
        refine ⟨_, hR, ?_⟩
        have h1 := size_rm (S := S) hT2 hR
        match n, hn with
        | 0, hn =>
          have : 0 ≤ size S (fun V => if V = T2 then (Z V).erase x else Z V) := zf1 S.N (fun k _ => by omega)
          omega
        | n + 1, hn =>
          refine zhg G n _ ?_ (by omega) td
          intro V
          show (if V = T2 then (Z V).erase x else Z V).Pairwise (· < ·)
          split
          · exact (hs V).sublist (List.erase_sublist)
          · exact hs V
end Sys
end Go.Proofs.Ytnilnaabjpcfjaa.Pd2
namespace Go.Proofs.Ytnilnaabjpcfjaa.Fair
open Go.RowKit Go.Proofs.Ytnilnaabjpcfjaa.P Go.Proofs.Ytnilnaabjpcfjaa.Base Go.Proofs.Ytnilnaabjpcfjaa.Alive Go.Proofs.Ytnilnaabjpcfjaa.Win Go.Proofs.Ytnilnaabjpcfjaa.Set Go.Proofs.YtnilnaabjpcfjaaW.PrintWords Go.Proofs.YtnilnaabjpcfjaaW.PrintLast
set_option linter.unusedVariables false
def lap (c p k : Int) : Bool := decide (wd c p k > wr c p (k + 1))
def gsc (c p k0 : Int) : Nat → Int → Int
  | 0, _ => 0
  | f + 1, i => if k0 < i ∧ 3 ≤ wd c p i - wr c p i ∧ wd c p k0 ≤ wd c p i - 1 then wd c p i - 1 else if lap c p i = true then gsc c p k0 f (i + 1) else wd c p i
def gd (c p k : Int) : Int := if 2 * c < p then 0 else gsc c p k 8 k
def key (c p k T : Int) : Int := ((2 * wd c p k + (if lap c p k = true then 0 else 1)) * 32 + (31 - (if lap c p k = true then (if 2 * c < p then 0 else gd c p k - wd c p k + 1) else 0))) * 8 + T
section
variable {c p : Int} (hc : 1 ≤ c) (hc8 : c ≤ 8) (hcp : c ≤ p) (hp : p ≤ 12)
include hc in
theorem wr_iff (k u : Int) : wr c p k ≤ u ↔ k * p < c * (u + 1) := by
  have h := wr_sp (c := c) (p := p) (k := k) hc
  rw [Int.mul_comm c, Int.add_mul]
  constructor
  · intro h1
    have := Int.mul_le_mul_of_nonneg_right h1 (show 0 ≤ c by omega)
    omega
  · intro h1
    apply Classical.byContradiction
    intro h2
    have := Int.mul_le_mul_of_nonneg_right (show u + 1 ≤ wr c p k by omega) (show 0 ≤ c by omega)
    rw [Int.add_mul] at this
    omega
include hc in
theorem zh9 (k u : Int) : wd c p k ≤ u ↔ (k + 1) * p ≤ c * u := by
  have h := wd_sp (c := c) (p := p) (k := k) hc
  rw [Int.mul_comm c]
  constructor
  · intro h1
    have := Int.mul_le_mul_of_nonneg_right h1 (show 0 ≤ c by omega)
    omega
  · intro h1
    apply Classical.byContradiction
    intro h2
    have := Int.mul_le_mul_of_nonneg_right (show u + 1 ≤ wd c p k by omega) (show 0 ≤ c by omega)
    rw [Int.add_mul] at this
    omega
include hc hcp in
theorem wr_nn {k : Int} (hk : 0 ≤ k) : 0 ≤ wr c p k := Int.ediv_nonneg (Int.mul_nonneg hk (by omega)) (by omega)
include hc hcp in
theorem zhh {k : Int} (hk : 0 ≤ k) : 1 ≤ wd c p k := by
  apply Classical.byContradiction
  intro h
  have h1 := (zh9 (p := p) hc k 0).1 (by omega)
  have h2 := Int.mul_pos (show 0 < k + 1 by omega) (show 0 < p by omega)
  simp at h1; omega
include hc in
theorem zkc (m : Int) : lap c p (c * m + (c - 1)) = false := by
  unfold lap
  rw [decide_eq_false_iff_not]
  have e : c * m + (c - 1) + 1 = c * (m + 1) := by rw [Int.mul_add, Int.mul_one]; omega
  have h1 := (zh9 (p := p) hc (c * m + (c - 1)) ((m + 1) * p)).2 (by rw [e, Int.mul_assoc]; exact Int.le_refl _)
  have h2 : ¬ wr c p (c * m + (c - 1) + 1) ≤ (m + 1) * p - 1 := by
    rw [wr_iff hc, e, Int.mul_assoc, show (m + 1) * p - 1 + 1 = (m + 1) * p by omega]
    omega
  omega
include hc in
theorem gsc_ok (k0 : Int) : ∀ (f : Nat) (i : Int), k0 ≤ i → (∃ m, i ≤ c * m + (c - 1) ∧ c * m + (c - 1) < i + f) → (∀ l, k0 ≤ l → l < i → lap c p l = true ∧ (k0 < l → wd c p l < wr c p l + 3)) →
    (∀ l, k0 < l → wd c p k0 ≤ wd c p l - 1) → ∃ j, i ≤ j ∧ j < i + f ∧ (∀ l, k0 ≤ l → l < j → lap c p l = true ∧ (k0 < l → wd c p l < wr c p l + 3)) ∧
      ((k0 < j ∧ wr c p j + 3 ≤ wd c p j ∧ gsc c p k0 f i = wd c p j - 1) ∨ (¬ (k0 < j ∧ wr c p j + 3 ≤ wd c p j) ∧ lap c p j = false ∧ gsc c p k0 f i = wd c p j)) := by
  intro f
  induction f with
  | zero => rintro i _ ⟨m, h1, h2⟩; omega
  | succ f ih =>
    rintro i hi ⟨m, h1, h2⟩ hno hw
    rw [gsc]
    by_cases e1 : k0 < i ∧ 3 ≤ wd c p i - wr c p i ∧ wd c p k0 ≤ wd c p i - 1
    · rw [if_pos e1]
      exact ⟨i, Int.le_refl _, by omega, hno, Or.inl ⟨e1.1, by omega, rfl⟩⟩
    · rw [if_neg e1]
      have e2 : ¬ (k0 < i ∧ wr c p i + 3 ≤ wd c p i) := fun h => e1 ⟨h.1, by omega, hw i h.1⟩
      cases hl : lap c p i with
      | false => rw [if_neg (by decide)]; exact ⟨i, Int.le_refl _, by omega, hno, Or.inr ⟨e2, hl, rfl⟩⟩
      | true =>
        rw [if_pos rfl]
        have hne : i ≠ c * m + (c - 1) := by
          intro h
          rw [h, zkc hc] at hl
          cases hl
        obtain ⟨j, h3, h4, h5, h6⟩ := ih (i + 1) (by omega) ⟨m, by omega, by omega⟩ (fun l q1 q2 => by
          by_cases e : l = i
          · subst e
            refine ⟨hl, fun h => ?_⟩
            apply Classical.byContradiction
            intro h7
            exact e2 ⟨h, by omega⟩
          · exact hno l q1 (by omega)) hw
        exact ⟨j, by omega, by omega, h5, h6⟩
include hc hcp in
theorem wd_inc (k l : Int) (h : k < l) : wd c p k ≤ wd c p l - 1 := by
  have h1 := wd_sp (c := c) (p := p) (k := l) hc
  rw [zh9 hc]
  have h2 : wd c p l * c = c * wd c p l := Int.mul_comm _ _
  have h3 := Int.mul_le_mul_of_nonneg_right (show k + 1 + 1 ≤ l + 1 by omega) (show 0 ≤ p by omega)
  rw [Int.add_mul, Int.one_mul] at h3
  rw [Int.mul_sub, Int.mul_one]
  omega
include hc hcp hc8 in
theorem gd_ok {k : Int} (hk : 0 ≤ k) (hh : ¬ 2 * c < p) : ∃ j, k ≤ j ∧ j < k + 8 ∧ (∀ l, k ≤ l → l < j → lap c p l = true ∧ (k < l → wd c p l < wr c p l + 3)) ∧
      ((k < j ∧ wr c p j + 3 ≤ wd c p j ∧ gd c p k = wd c p j - 1) ∨ (¬ (k < j ∧ wr c p j + 3 ≤ wd c p j) ∧ lap c p j = false ∧ gd c p k = wd c p j)) := by
  unfold gd
  rw [if_neg hh]
  have h1 := Int.mul_ediv_add_emod k c
  have h2 := Int.emod_nonneg k (show c ≠ 0 by omega)
  have h3 := Int.emod_lt_of_pos k (show 0 < c by omega)
  obtain ⟨j, a1, a2, a3, a4⟩ := gsc_ok (p := p) hc k 8 k (Int.le_refl _) ⟨k / c, by omega, by omega⟩ (fun l q1 q2 => by omega) (fun l h => wd_inc hc hcp k l h)
  exact ⟨j, a1, by omega, a3, a4⟩
include hc hcp hc8 in
theorem gd_bd {k : Int} (hk : 0 ≤ k) (hh : ¬ 2 * c < p) : wd c p k ≤ gd c p k ∧ gd c p k ≤ wd c p k + 14 := by
  obtain ⟨j, h1, h2, _, h3⟩ := gd_ok hc hc8 hcp hk hh
  have h4 : wd c p j ≤ wd c p k + 14 := by
    rw [zh9 hc, Int.mul_add]
    have h5 := (wd_sp (c := c) (p := p) (k := k) hc).1
    have h6 : wd c p k * c = c * wd c p k := Int.mul_comm _ _
    have h7 : (j + 1) * p ≤ (k + 1) * p + 7 * p := by
      rw [← Int.add_mul]
      exact Int.mul_le_mul_of_nonneg_right (show j + 1 ≤ (k + 1) + 7 by omega) (show 0 ≤ p by omega)
    omega
  by_cases e : j = k
  · subst e
    rcases h3 with ⟨a, _, _⟩ | ⟨_, _, b⟩ <;> omega
  · have := wd_inc hc hcp k j (by omega)
    rcases h3 with ⟨_, _, a⟩ | ⟨_, _, b⟩ <;> omega
end
theorem per (p : Int) (h1 : 1 ≤ p) (h2 : p ≤ 12) : 27720 / p * p = 27720 := by
  have : p = 1 ∨ p = 2 ∨ p = 3 ∨ p = 4 ∨ p = 5 ∨ p = 6 ∨ p = 7 ∨ p = 8 ∨ p = 9 ∨ p = 10 ∨ p = 11 ∨ p = 12 := by omega
  rcases this with rfl | rfl | rfl | rfl | rfl | rfl | rfl | rfl | rfl | rfl | rfl | rfl <;> decide
end Go.Proofs.Ytnilnaabjpcfjaa.Fair
namespace Go.Proofs.Ytnilnaabjpcfjaa.Gen
open Go.RowKit Go.Proofs.YtnilnaabjpcfjaaW.PrintWords Go.Proofs.YtnilnaabjpcfjaaW.PrintLast
def Tot {α : Type} (g : Nat → Option α) (P : α → Prop) : Prop := ∃ r, Ev g r ∧ P r
theorem Tot.ret {α : Type} {P : α → Prop} (a : α) (h : P a) : Tot (fun _ => some a) P := ⟨a, Ev.now a, h⟩
theorem Tot.mono {α : Type} {P Q : α → Prop} {g : Nat → Option α} (h : Tot g P) (hpq : ∀ a, P a → Q a) : Tot g Q := by
  obtain ⟨r, h1, h2⟩ := h
  exact ⟨r, h1, hpq r h2⟩
theorem Tot.congr {α : Type} {P : α → Prop} {g f : Nat → Option α} (e : ∀ k, g k = f k) (h : Tot f P) : Tot g P := by
  have : g = f := funext e
  rw [this]; exact h
theorem Tot.step {α : Type} {P : α → Prop} {g f : Nat → Option α} (e : ∀ k, g (k + 1) = f k) (h : Tot f P) : Tot g P := by
  obtain ⟨r, h1, h2⟩ := h
  exact ⟨r, Ev.step e h1, h2⟩
theorem Tot.bind {α β : Type} {P : α → Prop} {Q : β → Prop} {g : Nat → Option α} {f : Nat → α → Option β} (h : Tot g P) (hf : ∀ a, P a → Tot (fun k => f k a) Q) : Tot (fun k => (g k).bind (f k)) Q := by
  obtain ⟨r, h1, h2⟩ := h
  obtain ⟨q, h3, h4⟩ := hf r h2
  exact ⟨q, Ev.bind h1 h3, h4⟩
theorem Tot.zd5 {α β : Type} {Q : β → Prop} {g : Option α} {f : Nat → α → Option β} {a : α} (h : g = some a) (hf : Tot (fun k => f k a) Q) : Tot (fun k => g.bind (f k)) Q := by
  subst h; exact hf
theorem Tot.yes {α : Type} {P : α → Prop} {c : Prop} [Decidable c] {g f : Nat → Option α} (hc : c) (h : Tot g P) : Tot (fun k => if c then g k else f k) P := by
  simp only [if_pos hc]; exact h
theorem Tot.no {α : Type} {P : α → Prop} {c : Prop} [Decidable c] {g f : Nat → Option α} (hc : ¬ c) (h : Tot f P) : Tot (fun k => if c then g k else f k) P := by
  simp only [if_neg hc]; exact h
theorem Tot.ite {α : Type} {P : α → Prop} {c : Prop} [Decidable c] {g f : Nat → Option α} (h1 : c → Tot g P) (h2 : ¬ c → Tot f P) : Tot (fun k => if c then g k else f k) P := by
  by_cases hc : c
  · exact Tot.yes hc (h1 hc)
  · exact Tot.no hc (h2 hc)
theorem Tot.rounds {g : Nat → Option Bool} (h : Tot g (fun r => r = true)) : ∃ k, g k = some true := by
  obtain ⟨r, h1, rfl⟩ := h
  exact h1.rounds
theorem Tot.val {α : Type} {g : Nat → Option α} {a : α} (h : Ev g a) : Tot g (fun r => r = a) := ⟨a, h, rfl⟩
theorem Tot.ev {α : Type} {g : Nat → Option α} {a : α} (h : Tot g (fun r => r = a)) : Ev g a := by
  obtain ⟨r, h1, rfl⟩ := h
  exact h1
theorem Tot.loop {σ ρ : Type} {P : ρ → Prop} (F : Nat → Nat → σ → Option ρ) (n : Nat) (Inv : Nat → σ → Prop)
    (hstep : ∀ i s, i < n → Inv i s → (∀ s', Inv (i + 1) s' → Tot (fun k => F k (i + 1) s') P) → Tot (fun k => F k i s) P)
    (hend : ∀ s, Inv n s → Tot (fun k => F k n s) P) : ∀ i s, i ≤ n → Inv i s → Tot (fun k => F k i s) P := by
  have key : ∀ d i s, i + d = n → Inv i s → Tot (fun k => F k i s) P := by
    intro d
    induction d with
    | zero => intro i s hi h; obtain rfl : i = n := by omega
              exact hend s h
    | succ d ih => intro i s hi h; exact hstep i s (by omega) h (fun s' hs' => ih (i + 1) s' (by omega) hs')
  intro i s hi h
  exact key (n - i) i s (by omega) h
theorem zkd {α : Type} (d : α) (xs : List α) (i : Nat) (h : i < xs.length) : rdOf d xs (i : Int) = xs[i] := by
  unfold rdOf
  rw [List.getD_eq_getElem?_getD, Int.toNat_natCast, List.getElem?_eq_getElem h]
  rfl
theorem zeu (xs : List Int) (i : Nat) (h : i < xs.length) : rd xs (i : Int) = xs[i] := by
  unfold rd
  rw [List.getD_eq_getElem?_getD, Int.toNat_natCast, List.getElem?_eq_getElem h]
  rfl
theorem Tot.look {ρ : Type} {r : ρ} (F : Nat → Int → Option ρ) (n : Nat) (hstep : ∀ k (i : Nat), i < n → F (k + 1) (i : Int) = F k ((i : Int) + 1)) (hend : ∀ k, F (k + 1) (n : Int) = some r) : Tot (fun k => F k 0) (fun q => q = r) := by
  have key : ∀ d (i : Nat), i + d = n → Tot (fun k => F k (i : Int)) (fun q => q = r) := by
    intro d
    induction d with
    | zero => intro i hi; obtain rfl : i = n := by omega
              exact Tot.step (f := fun _ => some r) (fun k => hend k) (Tot.ret _ rfl)
    | succ d ih => intro i hi; exact Tot.step (fun k => hstep k i (by omega)) (by simpa using ih (i + 1) (by omega))
  simpa using key n 0 (by omega)
end Go.Proofs.Ytnilnaabjpcfjaa.Gen
namespace Go.Proofs.Ytnilnaabjpcfjaa.Fair
open Go.RowKit Go.Proofs.Ytnilnaabjpcfjaa.P Go.Proofs.Ytnilnaabjpcfjaa.Base Go.Proofs.Ytnilnaabjpcfjaa.Gen Go.Proofs.Ytnilnaabjpcfjaa.Alive Go.Proofs.Ytnilnaabjpcfjaa.Win Go.Proofs.Ytnilnaabjpcfjaa.Set Go.Proofs.YtnilnaabjpcfjaaW.PrintWords Go.Proofs.YtnilnaabjpcfjaaW.PrintLast
open Go.Proofs.Ytnilnaabjpcfjaa.Pd2
set_option linter.unusedVariables false
def tk (l : List Task) (i : Int) : Task := zf l i
def cs (l : List Task) (T : Nat) : Int := (tk l (T : Int)).f0
def ps (l : List Task) (T : Nat) : Int := (tk l (T : Int)).f2
def wt (l : List Task) (T : Nat) : Int := 27720 / ps l T * cs l T
def zep (l : List Task) (m : Int) : Pd2.Sys where
  N := l.length
  M := m
  L := 27720
  W := wt l
  r := fun T k => (wr (cs l T) (ps l T) (k : Int)).toNat
  d := fun T k => (wd (cs l T) (ps l T) (k : Int)).toNat
  b := fun T k => lap (cs l T) (ps l T) (k : Int)
  D := fun T k => gd (cs l T) (ps l T) (k : Int)
  K := fun T k => key (cs l T) (ps l T) (k : Int) (T : Int)
theorem zgn {l : List Task} {T : Nat} (h : T < l.length) : tk l (T : Int) ∈ l := by
  unfold tk
  rw [show zf l (T : Int) = l[T] from zkd _ l T h]
  exact List.getElem_mem h
section
variable {l : List Task} (hI : Impl l)
include hI
theorem tv {T : Nat} (h : T < l.length) : 1 ≤ cs l T ∧ cs l T ≤ 8 ∧ cs l T ≤ ps l T ∧ ps l T ≤ 12 := by
  have h1 := hI.1.2 _ (zgn h)
  have h2 := hI.2 _ (zgn h)
  unfold TVt TV at h1
  unfold cs ps
  omega
theorem quo {T : Nat} (h : T < l.length) : 27720 / ps l T * ps l T = 27720 ∧ 0 < 27720 / ps l T := by
  have h1 := tv hI h
  have h2 := per (ps l T) (by omega) h1.2.2.2
  refine ⟨h2, ?_⟩
  apply Classical.byContradiction
  intro h3
  have := Int.mul_le_mul_of_nonneg_right (show 27720 / ps l T ≤ 0 by omega) (show 0 ≤ ps l T by omega)
  omega
theorem lt_scale {T : Nat} (h : T < l.length) (x y : Int) : 27720 * x < wt l T * y ↔ x * ps l T < cs l T * y := by
  obtain ⟨h1, h2⟩ := quo hI h
  unfold wt
  have e1 : (27720 : Int) * x = 27720 / ps l T * (x * ps l T) := by
    rw [Int.mul_comm x, ← Int.mul_assoc, h1]
  rw [e1, Int.mul_assoc]
  exact Int.mul_lt_mul_left h2
theorem le_scale {T : Nat} (h : T < l.length) (x y : Int) : 27720 * x ≤ wt l T * y ↔ x * ps l T ≤ cs l T * y := by
  obtain ⟨h1, h2⟩ := quo hI h
  unfold wt
  have e1 : (27720 : Int) * x = 27720 / ps l T * (x * ps l T) := by
    rw [Int.mul_comm x, ← Int.mul_assoc, h1]
  rw [e1, Int.mul_assoc]
  exact Int.mul_le_mul_left h2
theorem zjt {T : Nat} (h : T < l.length) : 2 * wt l T < 27720 ↔ 2 * cs l T < ps l T := by
  obtain ⟨h1, h2⟩ := quo hI h
  unfold wt
  have e1 : 2 * (27720 / ps l T * cs l T) = 27720 / ps l T * (2 * cs l T) := by rw [Int.mul_left_comm]
  have e2 : 27720 / ps l T * ps l T = 27720 := h1
  have h3 := Int.mul_lt_mul_left (b := 2 * cs l T) (c := ps l T) h2
  rw [e1]
  omega
theorem zev {T : Nat} (h : T < l.length) (k : Nat) : ∃ e g : Int, key (cs l T) (ps l T) (k : Int) (T : Int) = ((2 * wd (cs l T) (ps l T) (k : Int) + e) * 32 + (31 - g)) * 8 + (T : Int) ∧ 0 ≤ g ∧ g ≤ 15 ∧ (T : Int) < 8 ∧
    ((lap (cs l T) (ps l T) (k : Int) = true ∧ e = 0 ∧ ((2 * cs l T < ps l T ∧ g = 0 ∧ gd (cs l T) (ps l T) (k : Int) = 0) ∨ (¬ 2 * cs l T < ps l T ∧ g = gd (cs l T) (ps l T) (k : Int) - wd (cs l T) (ps l T) (k : Int) + 1 ∧ 1 ≤ g ∧ 0 ≤ gd (cs l T) (ps l T) (k : Int)))) ∨
      (lap (cs l T) (ps l T) (k : Int) = false ∧ e = 1)) := by
  obtain ⟨h1, h2, h3, h4⟩ := tv hI h
  have hN := hI.1.1
  unfold key
  cases hl : lap (cs l T) (ps l T) (k : Int) with
  | false => exact ⟨1, 0, by simp, by omega, by omega, by omega, Or.inr ⟨rfl, rfl⟩⟩
  | true =>
    by_cases hh : 2 * cs l T < ps l T
    · exact ⟨0, 0, by simp [hh], by omega, by omega, by omega, Or.inl ⟨rfl, rfl, Or.inl ⟨hh, rfl, by unfold gd; rw [if_pos hh]⟩⟩⟩
    · have h5 := gd_bd h1 h2 h3 (show 0 ≤ (k : Int) by omega) hh
      have h6 := zhh h1 h3 (show 0 ≤ (k : Int) by omega)
      exact ⟨0, gd (cs l T) (ps l T) (k : Int) - wd (cs l T) (ps l T) (k : Int) + 1, by simp [hh], by omega, by omega, by omega, Or.inl ⟨rfl, rfl, Or.inr ⟨hh, rfl, by omega, by omega⟩⟩⟩
theorem good {m : Int} (hm : 1 ≤ m) (hU : sm (wt l) l.length ≤ m * 27720) : Pd2.Good (zep l m) where
  M0 := by show 0 ≤ m; omega
  L0 := by show (0 : Int) < 27720; omega
  W0 := fun T hT => by
    obtain ⟨h1, h2⟩ := quo hI hT
    exact Int.mul_pos h2 (by have := (tv hI hT).1; omega)
  WL := fun T hT => by
    obtain ⟨h1, h2⟩ := quo hI hT
    show 27720 / ps l T * cs l T ≤ 27720
    have := Int.mul_le_mul_of_nonneg_left (tv hI hT).2.2.1 (show 0 ≤ 27720 / ps l T by omega)
    omega
  hr := fun T hT k u => by
    obtain ⟨h1, h2, h3, h4⟩ := tv hI hT
    have h5 := wr_nn h1 h3 (show 0 ≤ (k : Int) by omega)
    show (wr (cs l T) (ps l T) (k : Int)).toNat ≤ u ↔ 27720 * (k : Int) < wt l T * ((u : Int) + 1)
    rw [lt_scale hI hT, ← wr_iff h1]
    omega
  hd := fun T hT k u => by
    obtain ⟨h1, h2, h3, h4⟩ := tv hI hT
    have h5 := zhh h1 h3 (show 0 ≤ (k : Int) by omega)
    show (wd (cs l T) (ps l T) (k : Int)).toNat ≤ u ↔ 27720 * ((k : Int) + 1) ≤ wt l T * (u : Int)
    rw [le_scale hI hT, ← zh9 h1]
    omega
  hb := fun T hT k => by
    obtain ⟨h1, h2, h3, h4⟩ := tv hI hT
    have h5 := wr_nn h1 h3 (show 0 ≤ (k : Int) + 1 by omega)
    have h6 := zhh h1 h3 (show 0 ≤ (k : Int) by omega)
    have h7 : wd (cs l T) (ps l T) (k : Int) ≤ wr (cs l T) (ps l T) ((k : Int) + 1) + 1 := by
      rw [zh9 h1]
      have := (wr_iff (p := ps l T) h1 ((k : Int) + 1) (wr (cs l T) (ps l T) ((k : Int) + 1))).1 (Int.le_refl _)
      omega
    show lap (cs l T) (ps l T) (k : Int) = true ↔ (wr (cs l T) (ps l T) ((k + 1 : Nat) : Int)).toNat + 1 = (wd (cs l T) (ps l T) (k : Int)).toNat
    rw [show ((k + 1 : Nat) : Int) = (k : Int) + 1 by omega]
    unfold lap
    rw [decide_eq_true_eq]
    omega
  Kne := fun T V hT hV hne k k2 => by
    obtain ⟨e1, g1, a1, a2, a3, a4, _⟩ := zev hI hT k
    obtain ⟨e2, g2, b1, b2, b3, b4, _⟩ := zev hI hV k2
    show key (cs l T) (ps l T) (k : Int) (T : Int) ≠ key (cs l V) (ps l V) (k2 : Int) (V : Int)
    rw [a1, b1]
    omega
  Kd := fun T V hT hV k k2 hk => by
    obtain ⟨e1, g1, a1, a2, a3, a4, a5⟩ := zev hI hT k
    obtain ⟨e2, g2, b1, b2, b3, b4, b5⟩ := zev hI hV k2
    show (wd (cs l T) (ps l T) (k : Int)).toNat ≤ (wd (cs l V) (ps l V) (k2 : Int)).toNat
    have hk' : key (cs l T) (ps l T) (k : Int) (T : Int) ≤ key (cs l V) (ps l V) (k2 : Int) (V : Int) := hk
    rw [a1, b1] at hk'
    have h1 : 0 ≤ e1 ∧ e1 ≤ 1 := by rcases a5 with h | h <;> omega
    have h2 : 0 ≤ e2 ∧ e2 ≤ 1 := by rcases b5 with h | h <;> omega
    omega
  Kb := fun T V hT hV k k2 hk hd hb => by
    obtain ⟨e1, g1, a1, a2, a3, a4, a5⟩ := zev hI hT k
    obtain ⟨e2, g2, b1, b2, b3, b4, b5⟩ := zev hI hV k2
    obtain ⟨t1, t2, t3, t4⟩ := tv hI hT
    obtain ⟨v1, v2, v3, v4⟩ := tv hI hV
    have w1 := zhh t1 t3 (show 0 ≤ (k : Int) by omega)
    have w2 := zhh v1 v3 (show 0 ≤ (k2 : Int) by omega)
    have hk' : key (cs l T) (ps l T) (k : Int) (T : Int) ≤ key (cs l V) (ps l V) (k2 : Int) (V : Int) := hk
    have hd' : (wd (cs l T) (ps l T) (k : Int)).toNat = (wd (cs l V) (ps l V) (k2 : Int)).toNat := hd
    have hb' : lap (cs l V) (ps l V) (k2 : Int) = true := hb
    show lap (cs l T) (ps l T) (k : Int) = true ∧ gd (cs l V) (ps l V) (k2 : Int) ≤ gd (cs l T) (ps l T) (k : Int)
    rw [a1, b1] at hk'
    rcases b5 with ⟨q1, q2, q3⟩ | ⟨q1, _⟩
    · rcases a5 with ⟨p1, p2, p3⟩ | ⟨p1, p2⟩
      · refine ⟨p1, ?_⟩
        rcases q3 with q3 | q3 <;> rcases p3 with p3 | p3 <;> omega
      · exfalso; omega
    · rw [hb'] at q1; cases q1
  Dl := fun T hT hw k => by
    show gd (cs l T) (ps l T) (k : Int) = 0
    unfold gd
    rw [if_pos ((zjt hI hT).1 hw)]
  Dh := fun T hT hw k => by
    obtain ⟨t1, t2, t3, t4⟩ := tv hI hT
    have hh : ¬ 2 * cs l T < ps l T := fun h => by
      have h1 := (zjt hI hT).2 h
      have h2 : (27720 : Int) ≤ 2 * wt l T := hw
      omega
    obtain ⟨j, j1, j2, j3, j4⟩ := gd_ok t1 t2 t3 (show 0 ≤ (k : Int) by omega) hh
    obtain ⟨i, rfl⟩ := Int.eq_ofNat_of_zero_le (show 0 ≤ j by omega)
    have wn : ∀ q : Nat, 0 ≤ wr (cs l T) (ps l T) (q : Int) := fun q => wr_nn t1 t3 (by omega)
    have dn : ∀ q : Nat, 1 ≤ wd (cs l T) (ps l T) (q : Int) := fun q => zhh t1 t3 (by omega)
    refine ⟨i, by omega, fun q q1 q2 => ?_, ?_⟩
    · have h3 := j3 (q : Int) (by omega) (by omega)
      refine ⟨h3.1, fun h => ?_⟩
      have h4 := h3.2 (by omega)
      have := wn q
      have := dn q
      show (wd (cs l T) (ps l T) (q : Int)).toNat < (wr (cs l T) (ps l T) (q : Int)).toNat + 3
      omega
    · have h1 := wn i
      have h2 := dn i
      show (k < i ∧ (wr (cs l T) (ps l T) (i : Int)).toNat + 3 ≤ (wd (cs l T) (ps l T) (i : Int)).toNat ∧ gd (cs l T) (ps l T) (k : Int) = ((wd (cs l T) (ps l T) (i : Int)).toNat : Int) - 1) ∨
        (¬ (k < i ∧ (wr (cs l T) (ps l T) (i : Int)).toNat + 3 ≤ (wd (cs l T) (ps l T) (i : Int)).toNat) ∧ lap (cs l T) (ps l T) (i : Int) = false ∧ gd (cs l T) (ps l T) (k : Int) = ((wd (cs l T) (ps l T) (i : Int)).toNat : Int))
      rcases j4 with ⟨a, b, c⟩ | ⟨a, b, c⟩
      · left; exact ⟨by omega, by omega, by omega⟩
      · right; exact ⟨fun h => a ⟨by omega, by omega⟩, b, by omega⟩
  U := hU
end
end Go.Proofs.Ytnilnaabjpcfjaa.Fair
namespace Go.Proofs.Ytnilnaabjpcfjaa.Fair
open Go.RowKit Go.Proofs.Ytnilnaabjpcfjaa.P Go.Proofs.Ytnilnaabjpcfjaa.Base Go.Proofs.Ytnilnaabjpcfjaa.Gen Go.Proofs.Ytnilnaabjpcfjaa.Alive Go.Proofs.Ytnilnaabjpcfjaa.Win Go.Proofs.Ytnilnaabjpcfjaa.Set Go.Proofs.YtnilnaabjpcfjaaW.PrintWords Go.Proofs.YtnilnaabjpcfjaaW.PrintLast
set_option linter.unusedVariables false
theorem wrd_bd {c p k : Int} (hc : 1 ≤ c) (hc8 : c ≤ 8) (hcp : c ≤ p) (hp : p ≤ 12) (hk : 0 ≤ k) (hk2 : k ≤ 1000000) : 0 ≤ wr c p k ∧ wr c p k ≤ 24000000 ∧ 0 ≤ wd c p k ∧ wd c p k ≤ 24000100 := by
  have h1 := wr_bd (c := c) (p := p) (k := k) hc (by omega) hp hk (by omega)
  have h2 := wd_bd (c := c) (p := p) (k := k) hc hc8 (by omega) hp hk (by omega)
  omega
section
variable {c d p : Int} (hv : TV c d p)
include hv
theorem over_f {k : Int} (hk : 0 ≤ k) (hk2 : k ≤ 1000000) : zbs.f c d p k = some (lap c p k) := by
  unfold zbs.f
  rw [w64 (x := k + 1) (by omega) (by omega), zjl hv hk (by omega), zjl hv (show 0 ≤ k + 1 by omega) (by omega)]
  rfl
theorem zke {k : Int} (hk : 0 ≤ k) (hk2 : k ≤ 1000000) : zbl.f c d p k = some (if lap c p k = true then 1 else 0) := by
  unfold zbl.f
  rw [w64 (x := k + 1) (by omega) (by omega), zgm hv hk (by omega), zgm hv (show 0 ≤ k + 1 by omega) (by omega)]
  simp only [Option.bind_some]
  unfold lap
  by_cases h : wd c p k > wr c p (k + 1)
  · rw [if_pos h, if_pos (decide_eq_true h)]
  · rw [if_neg h, if_neg (by simpa using h)]
theorem group_l0 (k0 : Int) (hk0 : 0 ≤ k0) : ∀ (f : Nat) (i : Int), k0 ≤ i → i ≤ 900000 - f → (∃ m, i ≤ c * m + (c - 1) ∧ c * m + (c - 1) < i + f) →
    Tot (fun k => zbe.l0 k k0 (wd c p k0) i c d p) (fun r => r = gsc c p k0 f i) := by
  have hv' := hv
  unfold TV at hv'
  intro f
  induction f with
  | zero => rintro i _ _ ⟨m, h1, h2⟩; omega
  | succ f ih =>
    rintro i hi hib ⟨m, h1, h2⟩
    have hb := wrd_bd (c := c) (p := p) (k := i) (by omega) (by omega) (by omega) (by omega) (by omega) (by omega)
    have hj : ∀ x : Bool, (x = true ↔ k0 < i ∧ 3 ≤ wd c p i - wr c p i ∧ wd c p k0 ≤ wd c p i - 1) → Tot (fun k => zbe.j1 k k0 (wd c p k0) i x c d p (wr c p i) (wd c p i)) (fun r => r = gsc c p k0 (f + 1) i) := by
      intro x hx
      refine Tot.step (fun k => by rw [zbe.j1]) ?_
      rw [gsc]
      by_cases e : x = true
      · refine Tot.yes e (Tot.ret _ ?_)
        rw [if_pos (hx.1 e), w64 (by omega) (by omega)]
      · refine Tot.no e (Tot.zd5 (over_f hv (by omega) (by omega)) ?_)
        rw [if_neg (fun h => e (hx.2 h))]
        cases hl : lap c p i with
        | false => exact Tot.no (by decide) (Tot.ret _ rfl)
        | true =>
          refine Tot.yes rfl ?_
          rw [w64 (x := i + 1) (by omega) (by omega), if_pos rfl]
          have hne : i ≠ c * m + (c - 1) := by
            intro h
            rw [h, zkc (by omega)] at hl
            cases hl
          exact ih (i + 1) (by omega) (by omega) ⟨m, by omega, by omega⟩
    refine Tot.step (fun k => by rw [zbe.l0]) (Tot.zd5 (zjl hv (by omega) (by omega)) ?_)
    rw [w64 (x := wd c p i - wr c p i) (by omega) (by omega), w64 (x := wd c p i - 1) (by omega) (by omega)]
    refine Tot.ite (fun c1 => Tot.ite (fun c2 => hj _ ?_) (fun c2 => hj _ ?_)) (fun c1 => hj _ ?_)
    · rw [decide_eq_true_eq]
      exact ⟨fun h => ⟨by omega, by omega, by omega⟩, fun h => by omega⟩
    · exact ⟨fun h => absurd h (by decide), fun h => by omega⟩
    · exact ⟨fun h => absurd h (by decide), fun h => by omega⟩
theorem zju {k : Int} (hk : 0 ≤ k) (hk2 : k ≤ 800000) : Tot (fun n => zbe.f n c d p k) (fun r => r = gd c p k) := by
  have hv' := hv
  unfold TV at hv'
  unfold zbe.f gd
  rw [w64 (by omega) (by omega)]
  by_cases e : 2 * c < p
  · rw [if_pos e]; exact Tot.yes e (Tot.ret _ rfl)
  · rw [if_neg e]
    refine Tot.no e (Tot.zd5 (zjl hv hk (by omega)) ?_)
    have h1 := Int.mul_ediv_add_emod k c
    have h2 := Int.emod_nonneg k (show c ≠ 0 by omega)
    have h3 := Int.emod_lt_of_pos k (show 0 < c by omega)
    exact group_l0 hv k hk 8 k (Int.le_refl _) (by omega) ⟨k / c, by omega, by omega⟩
theorem sgroup_l0 (k0 : Int) (hk0 : 0 ≤ k0) : ∀ (f : Nat) (i : Int), k0 ≤ i → i ≤ 900000 - f → (∃ m, i ≤ c * m + (c - 1) ∧ c * m + (c - 1) < i + f) →
    Tot (fun k => zbk.l0 k k0 (wd c p k0) i c d p) (fun r => r = gsc c p k0 f i) := by
  have hv' := hv
  unfold TV at hv'
  intro f
  induction f with
  | zero => rintro i _ _ ⟨m, h1, h2⟩; omega
  | succ f ih =>
    rintro i hi hib ⟨m, h1, h2⟩
    have hb := wrd_bd (c := c) (p := p) (k := i) (by omega) (by omega) (by omega) (by omega) (by omega) (by omega)
    have hj : ∀ x : Bool, (x = true ↔ k0 < i ∧ 3 ≤ wd c p i - wr c p i ∧ wd c p k0 ≤ wd c p i - 1) → Tot (fun k => zbk.j1 k k0 (wd c p k0) i x c d p (wr c p i) (wd c p i)) (fun r => r = gsc c p k0 (f + 1) i) := by
      intro x hx
      refine Tot.step (fun k => by rw [zbk.j1]) ?_
      rw [gsc]
      by_cases e : x = true
      · refine Tot.yes e (Tot.ret _ ?_)
        rw [if_pos (hx.1 e), w64 (by omega) (by omega)]
      · refine Tot.no e (Tot.zd5 (zke hv (by omega) (by omega)) ?_)
        rw [if_neg (fun h => e (hx.2 h))]
        cases hl : lap c p i with
        | false => exact Tot.yes (by decide) (Tot.ret _ rfl)
        | true =>
          refine Tot.no (by decide) ?_
          rw [w64 (x := i + 1) (by omega) (by omega), if_pos rfl]
          have hne : i ≠ c * m + (c - 1) := by
            intro h
            rw [h, zkc (by omega)] at hl
            cases hl
          exact ih (i + 1) (by omega) (by omega) ⟨m, by omega, by omega⟩
    refine Tot.step (fun k => by rw [zbk.l0]) (Tot.zd5 (zgm hv (by omega) (by omega)) ?_)
    rw [w64 (x := wd c p i - wr c p i) (by omega) (by omega), w64 (x := wd c p i - 1) (by omega) (by omega)]
    refine Tot.ite (fun c1 => Tot.ite (fun c2 => hj _ ?_) (fun c2 => hj _ ?_)) (fun c1 => hj _ ?_)
    · rw [decide_eq_true_eq]
      exact ⟨fun h => ⟨by omega, by omega, by omega⟩, fun h => by omega⟩
    · exact ⟨fun h => absurd h (by decide), fun h => by omega⟩
    · exact ⟨fun h => absurd h (by decide), fun h => by omega⟩
theorem zia {k : Int} (hk : 0 ≤ k) (hk2 : k ≤ 800000) : Tot (fun n => zbk.f n c d p k) (fun r => r = gd c p k) := by
  have hv' := hv
  unfold TV at hv'
  unfold zbk.f gd
  rw [w64 (by omega) (by omega)]
  by_cases e : 2 * c < p
  · rw [if_pos e]; exact Tot.yes e (Tot.ret _ rfl)
  · rw [if_neg e]
    refine Tot.no e (Tot.zd5 (zgm hv hk (by omega)) ?_)
    have h1 := Int.mul_ediv_add_emod k c
    have h2 := Int.emod_nonneg k (show c ≠ 0 by omega)
    have h3 := Int.emod_lt_of_pos k (show 0 < c by omega)
    exact sgroup_l0 hv k hk 8 k (Int.le_refl _) (by omega) ⟨k / c, by omega, by omega⟩
theorem zgo {k : Int} (hk : 0 ≤ k) : ∃ e g : Int, (∀ T, key c p k T = ((2 * wd c p k + e) * 32 + (31 - g)) * 8 + T) ∧ 0 ≤ g ∧ g ≤ 15 ∧
    ((lap c p k = true ∧ e = 0 ∧ ((g = 0 ∧ gd c p k = 0) ∨ (g = gd c p k - wd c p k + 1 ∧ 1 ≤ g ∧ 0 < gd c p k))) ∨ (lap c p k = false ∧ e = 1 ∧ g = 0)) := by
  have hv' := hv
  unfold TV at hv'
  unfold key
  cases hl : lap c p k with
  | false => exact ⟨1, 0, fun T => by simp, by omega, by omega, Or.inr ⟨rfl, rfl, rfl⟩⟩
  | true =>
    by_cases hh : 2 * c < p
    · exact ⟨0, 0, fun T => by simp [hh], by omega, by omega, Or.inl ⟨rfl, rfl, Or.inl ⟨rfl, by unfold gd; rw [if_pos hh]⟩⟩⟩
    · have h5 := gd_bd (c := c) (p := p) (by omega) (by omega) (by omega) hk hh
      have h6 := zhh (c := c) (p := p) (by omega) (by omega) hk
      exact ⟨0, gd c p k - wd c p k + 1, fun T => by simp [hh], by omega, by omega, Or.inl ⟨rfl, rfl, Or.inr ⟨rfl, by omega, by omega⟩⟩⟩
end
theorem cmp_f (a b : Int) : cmp_Compare_int.f a b = some (if a < b then -1 else if a > b then 1 else 0) := by
  unfold cmp_Compare_int.f cmp_isNaN_int.f
  by_cases h1 : a < b
  · simp [h1]
  · by_cases h2 : a > b
    · simp [h1, h2]
    · simp [h1, h2]
theorem ahead_tot {c d p c2 d2 p2 i j : Int} (hv : TV c d p) (hv2 : TV c2 d2 p2) (hi : 0 ≤ i) (hi2 : i ≤ 800000) (hj : 0 ≤ j) (hj2 : j ≤ 800000) :
    Tot (fun n => zbh.f n c d p i c2 d2 p2 j) (fun v => v < 0 ↔ key c p i 0 < key c2 p2 j 0) := by
  obtain ⟨e1, g1, a1, a2, a3, a4⟩ := zgo hv hi
  obtain ⟨e2, g2, b1, b2, b3, b4⟩ := zgo hv2 hj
  rw [a1, b1]
  unfold zbh.f
  refine Tot.zd5 (zjl hv hi (by omega)) (Tot.zd5 (zjl hv2 hj (by omega)) (Tot.zd5 (cmp_f _ _) ?_))
  simp only
  have h1 : 0 ≤ e1 ∧ e1 ≤ 1 := by rcases a4 with h | h <;> omega
  have h2 : 0 ≤ e2 ∧ e2 ≤ 1 := by rcases b4 with h | h <;> omega
  by_cases q1 : wd c p i < wd c2 p2 j
  · rw [if_pos q1]
    refine Tot.no (by decide) (Tot.ret _ ?_)
    exact ⟨fun _ => by omega, fun _ => by omega⟩
  · rw [if_neg q1]
    by_cases q2 : wd c p i > wd c2 p2 j
    · rw [if_pos q2]
      refine Tot.no (by decide) (Tot.ret _ ?_)
      exact ⟨fun h => by omega, fun h => by omega⟩
    · rw [if_neg q2]
      refine Tot.yes rfl (Tot.zd5 (over_f hv hi (by omega)) (Tot.zd5 (over_f hv2 hj (by omega)) ?_))
      rcases a4 with ⟨u1, u2, u3⟩ | ⟨u1, u2, u3⟩ <;> rcases b4 with ⟨v1, v2, v3⟩ | ⟨v1, v2, v3⟩ <;> rw [u1, v1]
      ·
        refine Tot.yes rfl (Tot.step (fun k => by rw [zbh.j0]) (Tot.no (by decide) (Tot.yes rfl (Tot.step (fun k => by rw [zbh.j1]) (Tot.no (by decide) (Tot.yes rfl ?_))))))
        refine Tot.bind (zju hv2 hj hj2) ?_
        rintro _ rfl
        refine Tot.bind (zju hv hi hi2) ?_
        rintro _ rfl
        refine Tot.zd5 (cmp_f _ _) (Tot.ret _ ?_)
        have hg : g1 = g2 ∧ gd c p i = gd c2 p2 j ∨ g1 < g2 ∧ gd c p i < gd c2 p2 j ∨ g2 < g1 ∧ gd c2 p2 j < gd c p i := by
          rcases u3 with u3 | u3 <;> rcases v3 with v3 | v3 <;> omega
        rcases hg with h | h | h
        · rw [if_neg (by omega), if_neg (by omega)]; exact ⟨fun h => by omega, fun h => by omega⟩
        · rw [if_neg (by omega), if_pos (by omega)]; exact ⟨fun h => by omega, fun h => by omega⟩
        · rw [if_pos (by omega)]; exact ⟨fun h => by omega, fun h => by omega⟩
      · refine Tot.yes rfl ?_
        refine Tot.step (fun k => by rw [zbh.j0]) ?_
        refine Tot.yes (by decide) (Tot.ret _ ?_)
        exact ⟨fun _ => by omega, fun _ => by omega⟩
      · refine Tot.no (by decide) ?_
        refine Tot.step (fun k => by rw [zbh.j0]) ?_
        refine Tot.no (by decide) (Tot.yes rfl ?_)
        refine Tot.step (fun k => by rw [zbh.j1]) ?_
        refine Tot.yes (by decide) (Tot.ret _ ?_)
        exact ⟨fun h => by omega, fun h => by omega⟩
      · refine Tot.no (by decide) (Tot.step (fun k => by rw [zbh.j0]) (Tot.no (by decide) (Tot.no (by decide) (Tot.step (fun k => by rw [zbh.j1]) (Tot.no (by decide) (Tot.no (by decide) (Tot.ret _ ?_)))))))
        exact ⟨fun h => by omega, fun h => by omega⟩
def kf (l : List Task) (nx : List Int) (i : Int) : Int := key (tk l i).f0 (tk l i).f2 (rd nx i) i
theorem before_tot {l : List Task} {nx : List Int} {a b : Int} (ha : 0 ≤ a ∧ a < (l.length : Int)) (hb : 0 ≤ b ∧ b < (l.length : Int)) (hn : nx.length = l.length) (hl5 : l.length ≤ 5) (hv : TVt (tk l a)) (hv2 : TVt (tk l b)) (hi : 0 ≤ rd nx a) (hi2 : rd nx a ≤ 800000) (hj : 0 ≤ rd nx b) (hj2 : rd nx b ≤ 800000) :
    Tot (fun n => zn.f n l nx a b) (fun v => v = decide (kf l nx a < kf l nx b)) := by
  unfold TVt at hv hv2
  obtain ⟨e1, g1, a1, a2, a3, a4⟩ := zgo hv hi
  obtain ⟨e2, g2, b1, b2, b3, b4⟩ := zgo hv2 hj
  unfold kf
  rw [a1, b1]
  unfold zn.f
  refine Tot.yes ha.1 (Tot.yes ha.2 (Tot.yes (by rw [hn]; exact ha.2) (Tot.zd5 (zgm hv hi (by omega)) (Tot.yes hb.1 (Tot.yes hb.2 (Tot.yes (by rw [hn]; exact hb.2) (Tot.zd5 (zgm hv2 hj (by omega)) ?_)))))))
  simp only
  have h1 : 0 ≤ e1 ∧ e1 ≤ 1 := by rcases a4 with h | h <;> omega
  have h2 : 0 ≤ e2 ∧ e2 ≤ 1 := by rcases b4 with h | h <;> omega
  refine Tot.ite (fun q => ?_) (fun q => Tot.ret _ ?_)
  · have q' : wd (tk l a).f0 (tk l a).f2 (rd nx a) = wd (tk l b).f0 (tk l b).f2 (rd nx b) := q
    refine Tot.zd5 (zke hv hi (by omega)) (Tot.zd5 (zke hv2 hj (by omega)) ?_)
    rcases a4 with ⟨u1, u2, u3⟩ | ⟨u1, u2, u3⟩ <;> rcases b4 with ⟨v1, v2, v3⟩ | ⟨v1, v2, v3⟩ <;> rw [u1, v1]
    · refine Tot.yes rfl (Tot.yes rfl ?_)
      refine Tot.bind (zia hv hi hi2) ?_
      rintro _ rfl
      refine Tot.bind (zia hv2 hj hj2) ?_
      rintro _ rfl
      have hg : g1 = g2 ∧ gd (tk l a).f0 (tk l a).f2 (rd nx a) = gd (tk l b).f0 (tk l b).f2 (rd nx b) ∨ g1 < g2 ∧ gd (tk l a).f0 (tk l a).f2 (rd nx a) < gd (tk l b).f0 (tk l b).f2 (rd nx b) ∨ g2 < g1 ∧ gd (tk l b).f0 (tk l b).f2 (rd nx b) < gd (tk l a).f0 (tk l a).f2 (rd nx a) := by
        rcases u3 with u3 | u3 <;> rcases v3 with v3 | v3 <;> omega
      refine Tot.ite (fun r => Tot.ret _ ?_) (fun r => Tot.ret _ ?_)
      · rw [decide_eq_decide]; omega
      · rw [decide_eq_decide]; omega
    · refine Tot.no (by decide) (Tot.ret _ ?_)
      symm; rw [show decide ((if true = true then (1 : Int) else 0) > (if false = true then 1 else 0)) = true by decide]; rw [decide_eq_true_eq]; omega
    · refine Tot.no (by decide) (Tot.ret _ ?_)
      symm; rw [show decide ((if false = true then (1 : Int) else 0) > (if true = true then 1 else 0)) = false by decide]; rw [decide_eq_false_iff_not]; omega
    · refine Tot.yes rfl (Tot.no (by decide) (Tot.ret _ ?_))
      rw [decide_eq_decide]; omega
  · have q' : ¬ wd (tk l a).f0 (tk l a).f2 (rd nx a) = wd (tk l b).f0 (tk l b).f2 (rd nx b) := q
    show decide (wd (tk l a).f0 (tk l a).f2 (rd nx a) < wd (tk l b).f0 (tk l b).f2 (rd nx b)) = _
    rw [decide_eq_decide]; omega
end Go.Proofs.Ytnilnaabjpcfjaa.Fair
namespace Go.Proofs.Ytnilnaabjpcfjaa.Isort
open Go.RowKit Go.Proofs.Ytnilnaabjpcfjaa.P Go.Proofs.Ytnilnaabjpcfjaa.Base Go.Proofs.Ytnilnaabjpcfjaa.Gen Go.Proofs.YtnilnaabjpcfjaaW.PrintWords Go.Proofs.YtnilnaabjpcfjaaW.PrintLast
set_option linter.unusedVariables false
theorem zhi (l : List Int) (i : Nat) (x : Int) (h : i < l.length) : rd (l.set i x) (i : Int) = x := by
  rw [zeu _ i (by simpa using h)]
  simp
theorem zf3 (l : List Int) (i a : Nat) (x : Int) (h : a ≠ i) : rd (l.set i x) (a : Int) = rd l (a : Int) := by
  unfold rd
  rw [List.getD_eq_getElem?_getD, List.getD_eq_getElem?_getD, Int.toNat_natCast, List.getElem?_set_ne (by omega)]
theorem ziv (l : List Int) (j : Nat) (h : j + 1 < l.length) : (swl l j).Perm l := by
  have := Go.Sort.perm_set_set l (j + 1) j h (by omega)
  unfold swl
  have e1 : rd l (j : Int) = l[j] := zeu l j (by omega)
  have e2 : rd l ((j : Int) + 1) = l[j + 1] := zeu l (j + 1) h
  rw [e1, e2]
  simpa [List.getElem_set] using this
section
variable (cf : Int → Int → Int) (K : Int → Int)
def But (l : List Int) (j i : Nat) : Prop := (∀ p q : Nat, p < q → q ≤ i → p ≠ j → q ≠ j → K (rd l p) ≤ K (rd l q)) ∧ ∀ q : Nat, j < q → q ≤ i → K (rd l j) ≤ K (rd l q)
def Srt (l : List Int) (i : Nat) : Prop := ∀ p q : Nat, p < q → q < i → K (rd l p) ≤ K (rd l q)
theorem inn_perm : ∀ (j : Nat) (l : List Int), j < l.length → (inn cf j l).Perm l := by
  intro j
  induction j with
  | zero => intro l _; exact List.Perm.refl _
  | succ j ih =>
    intro l hj
    rw [inn]
    split
    · exact (ih _ (by rw [zd2]; omega)).trans (ziv l j hj)
    · exact List.Perm.refl _
theorem zhj (l : List Int) (j : Nat) (h : j + 1 < l.length) : rd (swl l j) (j : Int) = rd l ((j + 1 : Nat) : Int) := by
  unfold swl
  rw [zhi _ _ _ (by rw [List.length_set]; omega)]
  rfl
theorem zf4 (l : List Int) (j : Nat) (h : j + 1 < l.length) : rd (swl l j) ((j + 1 : Nat) : Int) = rd l (j : Int) := by
  unfold swl
  rw [zf3 _ _ _ _ (by omega), zhi _ _ _ h]
theorem zd9 (l : List Int) (j p : Nat) (h1 : p ≠ j) (h2 : p ≠ j + 1) : rd (swl l j) (p : Int) = rd l (p : Int) := by
  unfold swl
  rw [zf3 _ _ _ _ h1, zf3 _ _ _ _ h2]
theorem inn_srt (i : Nat) : ∀ (j : Nat) (l : List Int), (∀ x ∈ l, ∀ y ∈ l, cf x y < 0 ↔ K x < K y) → j ≤ i → i < l.length → But K l j i → Srt K (inn cf j l) (i + 1) := by
  intro j
  induction j with
  | zero =>
    intro l _ _ _ hb p q hpq hq
    rw [inn]
    by_cases e : p = 0
    · subst e; exact hb.2 q hpq (by omega)
    · exact hb.1 p q hpq (by omega) e (by omega)
  | succ j ih =>
    intro l hcf hji hil hb
    have hj1 : j + 1 < l.length := by omega
    have m0 : rd l (j : Int) ∈ l := by rw [zeu l j (by omega)]; exact List.getElem_mem _
    have m1 : rd l ((j + 1 : Nat) : Int) ∈ l := by rw [zeu l (j + 1) hj1]; exact List.getElem_mem _
    have hc := hcf _ m1 _ m0
    rw [inn]
    by_cases h : cf (rd l ((j : Int) + 1)) (rd l (j : Int)) < 0
    · rw [if_pos h]
      have hK : K (rd l ((j + 1 : Nat) : Int)) < K (rd l (j : Int)) := hc.1 h
      refine ih _ (fun x hx y hy => hcf x ((ziv l j hj1).mem_iff.1 hx) y ((ziv l j hj1).mem_iff.1 hy)) (by omega) (by rw [zd2]; exact hil) ⟨fun p q hpq hq hpj hqj => ?_, fun q hq hqi => ?_⟩
      · by_cases e1 : q = j + 1
        · subst e1
          rw [zf4 l j hj1, zd9 l j p hpj (by omega)]
          exact hb.1 p j (by omega) (by omega) (by omega) (by omega)
        · by_cases e2 : p = j + 1
          · subst e2
            rw [zf4 l j hj1, zd9 l j q hqj e1]
            exact hb.1 j q (by omega) hq (by omega) e1
          · rw [zd9 l j p hpj e2, zd9 l j q hqj e1]
            exact hb.1 p q hpq hq e2 e1
      · rw [zhj l j hj1]
        by_cases e1 : q = j + 1
        · subst e1
          rw [zf4 l j hj1]; omega
        · rw [zd9 l j q (by omega) e1]
          exact hb.2 q (by omega) hqi
    · rw [if_neg h]
      have hK : K (rd l (j : Int)) ≤ K (rd l ((j + 1 : Nat) : Int)) := by
        apply Classical.byContradiction
        intro hn
        exact h (hc.2 (by omega))
      intro p q hpq hq
      by_cases e1 : q = j + 1
      · subst e1
        by_cases e2 : p = j
        · subst e2; exact hK
        · have := hb.1 p j (by omega) (by omega) (by omega) (by omega)
          omega
      · by_cases e2 : p = j + 1
        · subst e2; exact hb.2 q hpq (by omega)
        · exact hb.1 p q hpq (by omega) e2 e1
theorem outr_ok : ∀ (d i : Nat) (l : List Int), (∀ x ∈ l, ∀ y ∈ l, cf x y < 0 ↔ K x < K y) → i + d ≤ l.length → Srt K l i → (outr cf d i l).Perm l ∧ Srt K (outr cf d i l) (i + d) := by
  intro d
  induction d with
  | zero => intro i l _ _ h; exact ⟨List.Perm.refl _, h⟩
  | succ d ih =>
    intro i l hcf hi h
    have hp := inn_perm cf i l (by omega)
    have hs := inn_srt cf K i i l hcf (Nat.le_refl _) (by omega) ⟨fun p q hpq hq h1 h2 => h p q hpq (by omega), fun q h1 h2 => by omega⟩
    have := ih (i + 1) (inn cf i l) (fun x hx y hy => hcf x (hp.mem_iff.1 hx) y (hp.mem_iff.1 hy)) (by rw [hp.length_eq]; omega) hs
    refine ⟨this.1.trans hp, ?_⟩
    rw [show i + (d + 1) = i + 1 + d by omega]
    exact this.2
theorem isort_ok (l : List Int) (hcf : ∀ x ∈ l, ∀ y ∈ l, cf x y < 0 ↔ K x < K y) : (zd3 cf l).Perm l ∧ Srt K (zd3 cf l) l.length := by
  unfold zd3
  rcases Nat.eq_zero_or_pos l.length with h0 | h0
  · obtain rfl := List.eq_nil_of_length_eq_zero h0
    exact ⟨List.Perm.refl _, fun p q _ h => by simp at h⟩
  · have := outr_ok cf K (l.length - 1) 1 l hcf (by omega) (fun p q h1 h2 => by omega)
    rw [show 1 + (l.length - 1) = l.length by omega] at this
    exact this
end
theorem inn_at (cf : Int → Int → Int) : ∀ (j : Nat) (l : List Int), j < l.length → (∀ q : Nat, j < q → rd (inn cf j l) (q : Int) = rd l (q : Int)) ∧ ∀ p : Nat, p ≤ j → ∃ p' : Nat, p' ≤ j ∧ rd (inn cf j l) (p : Int) = rd l (p' : Int) := by
  intro j
  induction j with
  | zero => intro l _; exact ⟨fun q _ => rfl, fun p hp => ⟨p, hp, rfl⟩⟩
  | succ j ih =>
    intro l hj
    rw [inn]
    split
    · obtain ⟨h1, h2⟩ := ih (swl l j) (by rw [zd2]; omega)
      refine ⟨fun q hq => ?_, fun p hp => ?_⟩
      · rw [h1 q (by omega), zd9 l j q (by omega) (by omega)]
      · by_cases e : p = j + 1
        · subst e
          rw [h1 (j + 1) (by omega), zf4 l j hj]
          exact ⟨j, by omega, rfl⟩
        · obtain ⟨p', h3, h4⟩ := h2 p (by omega)
          rw [h4]
          by_cases e2 : p' = j
          · subst e2; rw [zhj l p' hj]; exact ⟨p' + 1, by omega, rfl⟩
          · rw [zd9 l j p' e2 (by omega)]; exact ⟨p', by omega, rfl⟩
    · exact ⟨fun q _ => rfl, fun p hp => ⟨p, hp, rfl⟩⟩
theorem inn_same {cf cg : Int → Int → Int} : ∀ (j : Nat) (l : List Int), j < l.length → (∀ p : Nat, p < j → (cf (rd l (j : Int)) (rd l (p : Int)) < 0 ↔ cg (rd l (j : Int)) (rd l (p : Int)) < 0)) → inn cf j l = inn cg j l := by
  intro j
  induction j with
  | zero => intro l _ _; rfl
  | succ j ih =>
    intro l hj h
    have h1 : cf (rd l ((j : Int) + 1)) (rd l (j : Int)) < 0 ↔ cg (rd l ((j : Int) + 1)) (rd l (j : Int)) < 0 := h j (by omega)
    rw [inn, inn]
    by_cases e : cf (rd l ((j : Int) + 1)) (rd l (j : Int)) < 0
    · rw [if_pos e, if_pos (h1.1 e)]
      refine ih _ (by rw [zd2]; omega) (fun p hp => ?_)
      rw [zhj l j hj, zd9 l j p (by omega) (by omega)]
      exact h p (by omega)
    · rw [if_neg e, if_neg (fun h2 => e (h1.2 h2))]
theorem outr_same {cf cg : Int → Int → Int} (h : ∀ x y : Int, y < x → (cf x y < 0 ↔ cg x y < 0)) : ∀ (d i : Nat) (l : List Int), i + d ≤ l.length → (∀ p q : Nat, p < q → i ≤ q → q < l.length → rd l (p : Int) < rd l (q : Int)) → outr cf d i l = outr cg d i l := by
  intro d
  induction d with
  | zero => intro i l _ _; rfl
  | succ d ih =>
    intro i l hi hs
    have h1 : inn cf i l = inn cg i l := inn_same i l (by omega) (fun p hp => h _ _ (hs p i hp (Nat.le_refl _) (by omega)))
    rw [outr, outr, h1]
    obtain ⟨h2, h3⟩ := inn_at cg i l (by omega)
    refine ih (i + 1) _ (by rw [zee]; omega) (fun p q hpq hq hql => ?_)
    rw [zee] at hql
    rw [h2 q (by omega)]
    by_cases e : p ≤ i
    · obtain ⟨p', h4, h5⟩ := h3 p e
      rw [h5]
      exact hs p' q (by omega) (by omega) hql
    · rw [h2 p (by omega)]
      exact hs p q hpq (by omega) hql
theorem isort_same {cf cg : Int → Int → Int} (h : ∀ x y : Int, y < x → (cf x y < 0 ↔ cg x y < 0)) {l : List Int} (hl : l.Pairwise (· < ·)) : zd3 cf l = zd3 cg l := by
  unfold zd3
  rcases Nat.eq_zero_or_pos l.length with h0 | h0
  · rw [h0]; rfl
  · refine outr_same h _ _ l (by omega) (fun p q hpq _ hq => ?_)
    rw [zeu l p (by omega), zeu l q hq]
    exact List.pairwise_iff_getElem.1 hl p q (by omega) hq hpq
end Go.Proofs.Ytnilnaabjpcfjaa.Isort
