/- The law FnFairRows for every input, part 3 of its proof: what the program's functions answer, and the plain law. No condition. -/
import Derived.Test.YtnilnaabjpcfjaaMFnFairRows1
import Derived.Test.YtnilnaabjpcfjaaMFnFairRows2
set_option maxRecDepth 100000
namespace Go.Proofs.Ytnilnaabjpcfjaa.P
open Go.RowKit Go.Proofs.YtnilnaabjpcfjaaW.PrintWords Go.Proofs.YtnilnaabjpcfjaaW.PrintLast Go.Proofs.YtnilnaabjpcfjaaW.PrintMore
attribute [local go_sem] zfh zfi zgq zgr zet zeu zfj zfk
set_option linter.unusedVariables false
set_option linter.unusedSimpArgs false
def zcq.f (a0_0 : Int) (a0_1 : Int) (a0_2 : Int) : Option (Bool) := (zdf.f a0_0 1 8).bind fun t222 => (if t222 = true then ((zdf.f a0_1 a0_0 a0_2).bind fun t223 => (if t223 = true then (some (decide (a0_2 ≤ 12))) else (some false))) else (some false))
set_option maxHeartbeats 8000000 in
theorem zcq.calls (a0_0 : Int) (a0_1 : Int) (a0_2 : Int) (r : Bool) (w : World) (h : zcq.f a0_0 a0_1 a0_2 = some r) :
  Calls Try.prog 43 #[.agg #[.int .i64 a0_0, .int .i64 a0_1, .int .i64 a0_2]] w fun e w' => e = .returned (.bool r) ∧ Below w.heap.size w w' := by
 have hu35 := Try.underlying35
 have HB := za.mk (Below.refl w.heap.size w)
 have H : ((zdf.f a0_0 1 8).bind fun t222 => (if t222 = true then ((zdf.f a0_1 a0_0 a0_2).bind fun t223 => (if t223 = true then (some (decide (a0_2 ≤ 12))) else (some false))) else (some false))) = some r := h
 clear h
 replace H := Option.bind_eq_some_iff.mp H
 obtain ⟨t222, A20, H⟩ := H
 replace H : (if t222 = true then ((zdf.f a0_1 a0_0 a0_2).bind fun t223 => (if t223 = true then (some (decide (a0_2 ≤ 12))) else (some false))) else (some false)) = some r := H
 have A2 := za.mk A20
 clear A20
 by_cases c3 : t222 = true
 ·subst c3
  have H1 : ((zdf.f a0_1 a0_0 a0_2).bind fun t223 => (if t223 = true then (some (decide (a0_2 ≤ 12))) else (some false))) = some r := by rw [if_pos rfl] at H; exact H
  clear H;have H := H1;clear H1;replace H := Option.bind_eq_some_iff.mp H;obtain ⟨t223, A40, H⟩ := H;replace H : (if t223 = true then (some (decide (a0_2 ≤ 12))) else (some false)) = some r := H;have A4 := za.mk A40;clear A40;by_cases c5 : t223 = true
  ·subst c5
   have H1 : (some (decide (a0_2 ≤ 12))) = some r := by rw [if_pos rfl] at H; exact H
   clear H;have H := H1;clear H1;obtain rfl := Option.some.inj H;go_enter Try.func43, Try.ntmps43;go_wp2_with (first | ((with_reducible refine zb4 (N := 1) rfl ?_); refine zcb ?hg (N := 1) ?hd (cs := #[.int .i64 a0_0, .int .i64 a0_1, .int .i64 a0_2]) (t := 35) ?hr ?_; (case hd => rfl); (case hg => rfl); (case hr => first | (go_simp; done) | (go_simp; rfl)); intro gb221 hg w6 hbox hb; have n0_ := za.mk (zl (Zq1 HB) hb); have n1_ := za.mk (hbox); have n2_ := za.mk ((by rw [hg]; exact (zu (Zq1 HB)) : w.heap.size ≤ gb221)); have n3_ := za.mk ((by rw [hg]; exact (zu (Zq1 HB)) : w.heap.size ≤ gb221)); clear HB; have HB := n0_; have BK221 := n1_; have GW221 := n2_; have GE221 := n3_; clear n0_ n1_ n2_ n3_; clear hb hbox hg; have hcz7_0 : w6.cell? ⟨gb221, 0, none⟩ = some (.int .i64 a0_0) := (ze BK221.out 0).trans rfl; have hcz7_1 : w6.cell? ⟨gb221, 1, none⟩ = some (.int .i64 a0_1) := (ze BK221.out 1).trans rfl; have hcz7_2 : w6.cell? ⟨gb221, 2, none⟩ = some (.int .i64 a0_2) := (ze BK221.out 2).trans rfl; have hfz7_0 := zw BK221.out 0; have hfz7_1 := zw BK221.out 1; have hfz7_2 := zw BK221.out 2) | ((with_reducible refine zbd (f := 45) rfl ?_); refine zb6 (some 5) rfl rfl Try.func45 (by kernel_rfl) rfl #[.int .i64 a0_0, .int .i64 1, .int .i64 8] rfl Zmt ?_; (with_reducible refine (zdf.calls a0_0 1 8 true _ A2.out).mono ?_); rintro e w' ⟨rfl, ⟨nd, rfl⟩⟩; refine ⟨_, rfl, ?_⟩) | (go_at_call 45; (with_reducible refine (zdf.calls a0_1 a0_0 a0_2 true _ A4.out).mono ?_); rintro e w' ⟨rfl, ⟨nd, rfl⟩⟩));go_ret;exact ⟨by first | rfl | (simp [zq, zt] <;> rfl) | (simp [*, zq, zt] <;> rfl), Zq3 HB GE221⟩
  ·replace c5 := Bool.eq_false_iff.mpr c5
   subst c5;have H1 : (some false) = some r := by rw [if_neg (show ¬ (false = true) by decide)] at H; exact H
   clear H;have H := H1;clear H1;obtain rfl := Option.some.inj H;go_enter Try.func43, Try.ntmps43;go_wp2_with (first | ((with_reducible refine zb4 (N := 1) rfl ?_); refine zcb ?hg (N := 1) ?hd (cs := #[.int .i64 a0_0, .int .i64 a0_1, .int .i64 a0_2]) (t := 35) ?hr ?_; (case hd => rfl); (case hg => rfl); (case hr => first | (go_simp; done) | (go_simp; rfl)); intro gb221 hg w8 hbox hb; have n0_ := za.mk (zl (Zq1 HB) hb); have n1_ := za.mk (hbox); have n2_ := za.mk ((by rw [hg]; exact (zu (Zq1 HB)) : w.heap.size ≤ gb221)); have n3_ := za.mk ((by rw [hg]; exact (zu (Zq1 HB)) : w.heap.size ≤ gb221)); clear HB; have HB := n0_; have BK221 := n1_; have GW221 := n2_; have GE221 := n3_; clear n0_ n1_ n2_ n3_; clear hb hbox hg; have hcz9_0 : w8.cell? ⟨gb221, 0, none⟩ = some (.int .i64 a0_0) := (ze BK221.out 0).trans rfl; have hcz9_1 : w8.cell? ⟨gb221, 1, none⟩ = some (.int .i64 a0_1) := (ze BK221.out 1).trans rfl; have hcz9_2 : w8.cell? ⟨gb221, 2, none⟩ = some (.int .i64 a0_2) := (ze BK221.out 2).trans rfl; have hfz9_0 := zw BK221.out 0; have hfz9_1 := zw BK221.out 1; have hfz9_2 := zw BK221.out 2) | ((with_reducible refine zbd (f := 45) rfl ?_); refine zb6 (some 5) rfl rfl Try.func45 (by kernel_rfl) rfl #[.int .i64 a0_0, .int .i64 1, .int .i64 8] rfl Zmt ?_; (with_reducible refine (zdf.calls a0_0 1 8 true _ A2.out).mono ?_); rintro e w' ⟨rfl, ⟨nd, rfl⟩⟩; refine ⟨_, rfl, ?_⟩) | (go_at_call 45; (with_reducible refine (zdf.calls a0_1 a0_0 a0_2 false _ A4.out).mono ?_); rintro e w' ⟨rfl, ⟨nd, rfl⟩⟩));go_ret;exact ⟨by first | rfl | (simp [zq, zt] <;> rfl) | (simp [*, zq, zt] <;> rfl), Zq3 HB GE221⟩
 ·replace c3 := Bool.eq_false_iff.mpr c3
  subst c3;have H1 : (some false) = some r := by rw [if_neg (show ¬ (false = true) by decide)] at H; exact H
  clear H;have H := H1;clear H1;obtain rfl := Option.some.inj H;go_enter Try.func43, Try.ntmps43;go_wp2_with (first | ((with_reducible refine zb4 (N := 1) rfl ?_); refine zcb ?hg (N := 1) ?hd (cs := #[.int .i64 a0_0, .int .i64 a0_1, .int .i64 a0_2]) (t := 35) ?hr ?_; (case hd => rfl); (case hg => rfl); (case hr => first | (go_simp; done) | (go_simp; rfl)); intro gb221 hg w10 hbox hb; have n0_ := za.mk (zl (Zq1 HB) hb); have n1_ := za.mk (hbox); have n2_ := za.mk ((by rw [hg]; exact (zu (Zq1 HB)) : w.heap.size ≤ gb221)); have n3_ := za.mk ((by rw [hg]; exact (zu (Zq1 HB)) : w.heap.size ≤ gb221)); clear HB; have HB := n0_; have BK221 := n1_; have GW221 := n2_; have GE221 := n3_; clear n0_ n1_ n2_ n3_; clear hb hbox hg; have hcz11_0 : w10.cell? ⟨gb221, 0, none⟩ = some (.int .i64 a0_0) := (ze BK221.out 0).trans rfl; have hcz11_1 : w10.cell? ⟨gb221, 1, none⟩ = some (.int .i64 a0_1) := (ze BK221.out 1).trans rfl; have hcz11_2 : w10.cell? ⟨gb221, 2, none⟩ = some (.int .i64 a0_2) := (ze BK221.out 2).trans rfl; have hfz11_0 := zw BK221.out 0; have hfz11_1 := zw BK221.out 1; have hfz11_2 := zw BK221.out 2) | ((with_reducible refine zbd (f := 45) rfl ?_); refine zb6 (some 5) rfl rfl Try.func45 (by kernel_rfl) rfl #[.int .i64 a0_0, .int .i64 1, .int .i64 8] rfl Zmt ?_; (with_reducible refine (zdf.calls a0_0 1 8 false _ A2.out).mono ?_); rintro e w' ⟨rfl, ⟨nd, rfl⟩⟩; refine ⟨_, rfl, ?_⟩));go_ret;exact ⟨by first | rfl | (simp [zq, zt] <;> rfl) | (simp [*, zq, zt] <;> rfl), Zq3 HB GE221⟩
def zdn.f (a0_0 : Int) (a0_1 : Int) (a0_2 : Int) : Option (Bool) := (zcq.f a0_0 a0_1 a0_2).bind fun t225 => (some (!t225))
set_option maxHeartbeats 8000000 in
theorem zdn.calls (a0_0 : Int) (a0_1 : Int) (a0_2 : Int) (r : Bool) (w : World) (h : zdn.f a0_0 a0_1 a0_2 = some r) :
  Calls Try.prog 67 #[.agg #[.int .i64 a0_0, .int .i64 a0_1, .int .i64 a0_2]] w fun e w' => e = .returned (.bool r) ∧ Below w.heap.size w w' := by
 have hu35 := Try.underlying35
 have HB := za.mk (Below.refl w.heap.size w)
 have H : ((zcq.f a0_0 a0_1 a0_2).bind fun t225 => (some (!t225))) = some r := h
 clear h
 replace H := Option.bind_eq_some_iff.mp H
 obtain ⟨t225, A20, H⟩ := H
 replace H : (some (!t225)) = some r := H
 have A2 := za.mk A20
 clear A20
 obtain rfl := Option.some.inj H
 go_enter Try.func67, Try.ntmps67
 go_wp2_with (first | ((with_reducible refine zb4 (N := 1) rfl ?_); refine zcb ?hg (N := 1) ?hd (cs := #[.int .i64 a0_0, .int .i64 a0_1, .int .i64 a0_2]) (t := 35) ?hr ?_; (case hd => rfl); (case hg => rfl); (case hr => first | (go_simp; done) | (go_simp; rfl)); intro gb224 hg w3 hbox hb; have n0_ := za.mk (zl (Zq1 HB) hb); have n1_ := za.mk (hbox); have n2_ := za.mk ((by rw [hg]; exact (zu (Zq1 HB)) : w.heap.size ≤ gb224)); have n3_ := za.mk ((by rw [hg]; exact (zu (Zq1 HB)) : w.heap.size ≤ gb224)); clear HB; have HB := n0_; have BK224 := n1_; have GW224 := n2_; have GE224 := n3_; clear n0_ n1_ n2_ n3_; clear hb hbox hg; have hcz4_0 : w3.cell? ⟨gb224, 0, none⟩ = some (.int .i64 a0_0) := (ze BK224.out 0).trans rfl; have hcz4_1 : w3.cell? ⟨gb224, 1, none⟩ = some (.int .i64 a0_1) := (ze BK224.out 1).trans rfl; have hcz4_2 : w3.cell? ⟨gb224, 2, none⟩ = some (.int .i64 a0_2) := (ze BK224.out 2).trans rfl; have hfz4_0 := zw BK224.out 0; have hfz4_1 := zw BK224.out 1; have hfz4_2 := zw BK224.out 2) | ((with_reducible refine zbd (f := 43) rfl ?_); refine zb6 (some 4) rfl rfl Try.func43 (by kernel_rfl) rfl #[.agg #[.int .i64 a0_0, .int .i64 a0_1, .int .i64 a0_2]] rfl Zmt ?_; (with_reducible refine (zcq.calls a0_0 a0_1 a0_2 t225 _ A2.out).mono ?_); rintro e w5 ⟨rfl, hb⟩; refine ⟨_, rfl, ?_⟩; have n0_ := za.mk (zbm (g := gb224) (o := .cells #[.int .i64 a0_0, .int .i64 a0_1, .int .i64 a0_2] 35 (0, 0)) (Zq2 BK224) hb); have n1_ := za.mk (zl (Zq3 HB GE224) hb); clear BK224; clear HB; have BK224 := n0_; have HB := n1_; clear n0_ n1_; (try clear hb); (try clear hb2); (try clear hk); (try clear hi)))
 go_ret
 exact ⟨by first | rfl | (simp [zq, zt] <;> rfl) | (simp [*, zq, zt] <;> rfl), Zq3 HB GE224⟩
def taskOk (x : S35) : Bool := decide (1 ≤ x.f0 ∧ x.f0 ≤ 8 ∧ x.f0 ≤ x.f1 ∧ x.f1 ≤ x.f2 ∧ x.f2 ≤ 12)
def zc4.bad (x : S35) : Bool := !(taskOk x)
theorem zc4.is (x : S35) : zdn.f x.f0 x.f1 x.f2 = some (zc4.bad x) := by
  unfold zdn.f zcq.f zdf.f zc4.bad taskOk
  by_cases h1 : x.f0 ≥ 1 <;> by_cases h2 : x.f0 ≤ 8 <;> by_cases h3 : x.f1 ≥ x.f0 <;> by_cases h4 : x.f1 ≤ x.f2 <;> by_cases h5 : x.f2 ≤ 12 <;> simp [h1, h2, h3, h4, h5]
  all_goals first | omega | (intros; omega) | skip
def zc4.f (l0 : List S35) : Option Bool := some (l0.any zc4.bad)
theorem zc4.calls (A0 : Option Addr) (c0 : Nat) (l0 : List S35) (r : Bool) (w : World) (hr0 : Kd.C k35 w A0 l0.length l0) (hc0 : l0.length ≤ c0) (h : zc4.f l0 = some r) :
    Calls Try.prog 54 #[.slice A0 l0.length c0, .func (.func 67) #[] #[]] w fun e w' => e = .returned (.bool r) ∧ Below w.heap.size w w' := by
  obtain rfl := Option.some.inj h
  exact zfn zc4.bad 67 #[] (enters_of Try.func67 (by kernel_rfl) rfl) A0 c0 l0 w (fun W' x _ => (zdn.calls x.f0 x.f1 x.f2 _ W' (zc4.is x)).mono fun e w' hh => ⟨hh.1, hh.2⟩) hr0
theorem Zq17 {X0 P : Prop} (x0 : za X0) (h : X0 → P := by intro x0; repeat (first | exact x0 | (with_reducible refine Kd.zc3 ?_ _) | (with_reducible refine Kd.zdb ?_ _) | (with_reducible refine Kd.zdt ?_))) : P := h x0.out
def zc8.f (l0 : List (S35)) : Option (Bool) := if (l0.length : Int) ≤ 5 then ((zc4.f l0).bind fun t226 => (some (!t226))) else (some false)
set_option maxHeartbeats 8000000 in
theorem zc8.calls (A0 : Option Addr) (c0 : Nat) (l0 : List (S35)) (r : Bool) (w : World) (hr0 : Kd.C k35 w A0 l0.length l0) (hc0 : l0.length ≤ c0) (h : zc8.f l0 = some r) :
  Calls Try.prog 39 #[.slice A0 l0.length c0] w fun e w' => e = .returned (.bool r) ∧ Below w.heap.size w w' := by
 have HR0 := za.mk hr0
 have HC0 := za.mk hc0
 clear hr0 hc0
 have HB := za.mk (Below.refl w.heap.size w)
 have H : (if (l0.length : Int) ≤ 5 then ((zc4.f l0).bind fun t226 => (some (!t226))) else (some false)) = some r := h
 clear h
 by_cases c2 : (l0.length : Int) ≤ 5
 ·rw [if_pos c2] at H
  have c2b0 : decide ((l0.length : Int) ≤ 5) = true := decide_eq_true c2;have c2b1 : decide (l0.length ≤ 5) = true := decide_eq_true (by omega);clear c2;replace H := Option.bind_eq_some_iff.mp H;obtain ⟨t226, A30, H⟩ := H;replace H : (some (!t226)) = some r := H;have A3 := za.mk A30;clear A30;obtain rfl := Option.some.inj H;go_enter Try.func39, Try.ntmps39;go_wp2_with (first | (go_at_call 54; (with_reducible refine (zc4.calls _ _ l0  t226 _ ?side1 ?side2 A3.out).mono ?_); (case side1 => exact Zq17 HR0); (case side2 => exact HC0.out); rintro e w4 ⟨rfl, hb⟩; have n0_ := za.mk (zl (Zq1 HB) hb); clear HB; have HB := n0_; clear n0_; (try clear hb); (try clear hb2); (try clear hk); (try clear hi)));go_ret;exact ⟨by first | rfl | (simp [zq, zt] <;> rfl) | (simp [*, zq, zt] <;> rfl), Zq1 HB⟩
 ·rw [if_neg c2] at H
  have c2b0 : decide ((l0.length : Int) ≤ 5) = false := decide_eq_false c2;have c2b1 : decide (l0.length ≤ 5) = false := decide_eq_false (by omega);clear c2;obtain rfl := Option.some.inj H;go_enter Try.func39, Try.ntmps39;go_wp2;go_ret;exact ⟨by first | rfl | (simp [zq, zt] <;> rfl) | (simp [*, zq, zt] <;> rfl), Zq1 HB⟩
theorem Zq18 {X0 P : Prop} (x0 : X0) (h : X0 → P := by intro x0; repeat (first | exact x0 | (with_reducible refine Kd.zc3 ?_ _) | (with_reducible refine Kd.zdb ?_ _) | (with_reducible refine Kd.zdt ?_))) : P := h x0
def zc2.f (l0 : List (S35)) : Option (Bool) := (zc8.f l0).bind fun t228 => (if t228 = true then ((zc7.f l0).bind fun t229 => (some (!t229))) else (some false))
set_option maxHeartbeats 8000000 in
theorem zc2.calls (A0 : Option Addr) (c0 : Nat) (l0 : List (S35)) (r : Bool) (w : World) (hr0 : Kd.C k35 w A0 l0.length l0) (hc0 : l0.length ≤ c0) (h : zc2.f l0 = some r) :
  Calls Try.prog 28 #[.slice A0 l0.length c0] w fun e w' => e = .returned (.bool r) ∧ Below w.heap.size w w' := by
 have HR0 := za.mk hr0
 have HC0 := za.mk hc0
 clear hr0 hc0
 have HB := za.mk (Below.refl w.heap.size w)
 have H : ((zc8.f l0).bind fun t228 => (if t228 = true then ((zc7.f l0).bind fun t229 => (some (!t229))) else (some false))) = some r := h
 clear h
 replace H := Option.bind_eq_some_iff.mp H
 obtain ⟨t228, A20, H⟩ := H
 replace H : (if t228 = true then ((zc7.f l0).bind fun t229 => (some (!t229))) else (some false)) = some r := H
 have A2 := za.mk A20
 clear A20
 by_cases c3 : t228 = true
 ·subst c3
  have H1 : ((zc7.f l0).bind fun t229 => (some (!t229))) = some r := by rw [if_pos rfl] at H; exact H
  clear H;have H := H1;clear H1;replace H := Option.bind_eq_some_iff.mp H;obtain ⟨t229, A40, H⟩ := H;replace H : (some (!t229)) = some r := H;have A4 := za.mk A40;clear A40;obtain rfl := Option.some.inj H;go_enter Try.func28, Try.ntmps28;go_wp2_with (first | ((with_reducible refine zbd (f := 39) rfl ?_); refine zb6 (some 4) rfl rfl Try.func39 (by kernel_rfl) rfl #[.slice A0 l0.length c0] rfl Zmt ?_; (with_reducible refine (zc8.calls _ _ l0 true _ ?side1 ?side2 A2.out).mono ?_); (case side1 => exact Zq17 HR0); (case side2 => exact HC0.out); rintro e w5 ⟨rfl, hb⟩; refine ⟨_, rfl, ?_⟩; have n0_ := za.mk (zl (Zq1 HB) hb); clear HB; have HB := n0_; clear n0_; (try clear hb); (try clear hb2); (try clear hk); (try clear hi)) | (go_at_call 54; (with_reducible refine (zc7.calls _ _ l0  t229 _ ?side1 ?side2 A4.out).mono ?_); (case side1 => exact Zq18 (Kd.zdq HR0.out HB.out)); (case side2 => exact HC0.out); rintro e w6 ⟨rfl, hb⟩; have n0_ := za.mk (zl (Zq1 HB) hb); clear HB; have HB := n0_; clear n0_; (try clear hb); (try clear hb2); (try clear hk); (try clear hi)));go_ret;exact ⟨by first | rfl | (simp [zq, zt] <;> rfl) | (simp [*, zq, zt] <;> rfl), Zq1 HB⟩
 ·replace c3 := Bool.eq_false_iff.mpr c3
  subst c3;have H1 : (some false) = some r := by rw [if_neg (show ¬ (false = true) by decide)] at H; exact H
  clear H;have H := H1;clear H1;obtain rfl := Option.some.inj H;go_enter Try.func28, Try.ntmps28;go_wp2_with (first | ((with_reducible refine zbd (f := 39) rfl ?_); refine zb6 (some 4) rfl rfl Try.func39 (by kernel_rfl) rfl #[.slice A0 l0.length c0] rfl Zmt ?_; (with_reducible refine (zc8.calls _ _ l0 false _ ?side1 ?side2 A2.out).mono ?_); (case side1 => exact Zq17 HR0); (case side2 => exact HC0.out); rintro e w7 ⟨rfl, hb⟩; refine ⟨_, rfl, ?_⟩; have n0_ := za.mk (zl (Zq1 HB) hb); clear HB; have HB := n0_; clear n0_; (try clear hb); (try clear hb2); (try clear hk); (try clear hi)));go_ret;exact ⟨by first | rfl | (simp [zq, zt] <;> rfl) | (simp [*, zq, zt] <;> rfl), Zq1 HB⟩
def zde.f (a0 : Int) : Option (Bool) := (zdf.f a0 1 5).bind fun t230 => (some t230)
set_option maxHeartbeats 8000000 in
theorem zde.calls (a0 : Int) (r : Bool) (w : World) (h : zde.f a0 = some r) :
  Calls Try.prog 29 #[.int .i64 a0] w fun e w' => e = .returned (.bool r) ∧ zbx w w' := by
 have H : ((zdf.f a0 1 5).bind fun t230 => (some t230)) = some r := h
 clear h
 replace H := Option.bind_eq_some_iff.mp H
 obtain ⟨t230, A20, H⟩ := H
 replace H : (some t230) = some r := H
 have A2 := za.mk A20
 clear A20
 obtain rfl := Option.some.inj H
 go_enter Try.func29, Try.ntmps29
 go_wp2_with (first | ((with_reducible refine zbd (f := 45) rfl ?_); refine zb6 (some 4) rfl rfl Try.func45 (by kernel_rfl) rfl #[.int .i64 a0, .int .i64 1, .int .i64 5] rfl Zmt ?_; (with_reducible refine (zdf.calls a0 1 5 t230 _ A2.out).mono ?_); rintro e w' ⟨rfl, ⟨nd, rfl⟩⟩; refine ⟨_, rfl, ?_⟩))
 go_ret
 exact ⟨by first | rfl | (simp; done) | (simp [*]; done), by repeat (first | exact zbx.refl _ | apply zbx.step)⟩
def zed.f (a0 : Int) (a1 : Int) : Option (Int) := if a1 = 0 then (none) else (some (wrap64 (Int.tdiv (wrap64 ((wrap64 (a0 + a1)) - 1)) a1)))
set_option maxHeartbeats 8000000 in
theorem zed.calls (a0 : Int) (a1 : Int) (r : Int) (w : World) (h : zed.f a0 a1 = some r) :
  Calls Try.prog 56 #[.int .i64 a0, .int .i64 a1] w fun e w' => e = .returned (.int .i64 r) ∧ zbx w w' := by
 have H : (if a1 = 0 then (none) else (some (wrap64 (Int.tdiv (wrap64 ((wrap64 (a0 + a1)) - 1)) a1)))) = some r := h
 clear h
 by_cases c3 : a1 = 0
 ·rw [if_pos c3] at H
  exact absurd H (by simp)
 ·rw [if_neg c3] at H
  have c3b0 : (a1 == 0) = false := beq_eq_false_iff_ne.mpr c3;have c3b1 : (a1 != 0) = true := bne_iff_ne.mpr c3;obtain rfl := Option.some.inj H;go_enter Try.func56, Try.ntmps56;go_wp2;go_ret;exact ⟨by first | rfl | (simp; done) | (simp [*]; done), by repeat (first | exact zbx.refl _ | apply zbx.step)⟩
theorem Zq19 {X0 X1 X2 P : Prop} (x0 : za X0) (x1 : za X1) (x2 : za X2) (h : X0 → X1 → X2 → P := by intro x0 x1 x2; repeat (first | (with_reducible first | exact x0 | apply zca | apply zce | apply zbk | refine zcz ?_ x1 | refine zcz ?_ x2) | exact x0)) : P := h x0.out x1.out x2.out
def zbr.f (a0_0 : Int) (a0_1 : Int) (a0_2 : Int) (a1 : Int) : Option (Int × Int) := if a0_0 = 0 then (none) else ((zed.f (wrap64 ((wrap64 (a1 + 1)) * a0_2)) a0_0).bind fun t233 => (some (wrap64 (Int.tdiv (wrap64 (a1 * a0_2)) a0_0), t233)))
def zbr.T1 : Bool × List (List Nat × List Nat) := (true, [([], []), ([], []), ([1], [1]), ([0, 2], [0, 2]), ([], []), ([4], [4]), ([3, 5], [3, 5]), ([], []), ([7], [7]), ([], []), ([9], [9]), ([8, 10], [8, 10]), ([], []), ([12], [12]), ([11, 13], [11, 13]), ([6, 14], [6, 14]), ([15, 14, 0, 1, 2, 3, 4, 5, 6, 7, 8, 9, 10, 11, 12, 13, 14, 15], [15])])
def zbr.B1 : List Nat := [0, 0, 2, 7, 0, 16, 63, 0, 128, 0, 512, 1920, 0, 4096, 16256, 32767, 65535]
theorem zbr.tab1 : rtab .any (opsOf Try.f30 1) = zbr.T1 := by kernel_rfl
theorem zbr.zen : zcw zbr.T1.2 zbr.B1 = true := by kernel_rfl
set_option maxHeartbeats 8000000 in
theorem zbr.calls (a0_0 : Int) (a0_1 : Int) (a0_2 : Int) (a1 : Int) (r1 : Int) (r2 : Int) (w : World) (h : zbr.f a0_0 a0_1 a0_2 a1 = some (r1, r2)) :
  Calls Try.prog 30 #[.agg #[.int .i64 a0_0, .int .i64 a0_1, .int .i64 a0_2], .int .i64 a1] w fun e w' => e = .returned (.agg #[.int .i64 r1, .int .i64 r2]) ∧ Below w.heap.size w w' := by
 have hu35 := Try.underlying35
 have hu39 := Try.underlying39
 have HB := za.mk (Below.refl w.heap.size w)
 have H : (if a0_0 = 0 then (none) else ((zed.f (wrap64 ((wrap64 (a1 + 1)) * a0_2)) a0_0).bind fun t233 => (some (wrap64 (Int.tdiv (wrap64 (a1 * a0_2)) a0_0), t233)))) = some (r1, r2) := h
 clear h
 by_cases c3 : a0_0 = 0
 ·rw [if_pos c3] at H
  exact absurd H (by simp)
 ·rw [if_neg c3] at H
  have c3b0 : (a0_0 == 0) = false := beq_eq_false_iff_ne.mpr c3;have c3b1 : (a0_0 != 0) = true := bne_iff_ne.mpr c3;replace H := Option.bind_eq_some_iff.mp H;obtain ⟨t233, A40, H⟩ := H;replace H : (some (wrap64 (Int.tdiv (wrap64 (a1 * a0_2)) a0_0), t233)) = some (r1, r2) := H;have A4 := za.mk A40;clear A40;simp only [Option.some.injEq, Prod.mk.injEq] at H;obtain ⟨rfl, rfl⟩ := H;go_enter Try.func30, Try.ntmps30
  try go_wp2_with (first | ((with_reducible refine zb4 (N := 2) rfl ?_); refine zcb ?hg (N := 2) ?hd (cs := #[.int .i64 a0_0, .int .i64 a0_1, .int .i64 a0_2]) (t := 35) ?hr ?_; (case hd => rfl); (case hg => rfl); (case hr => first | (go_simp; done) | (go_simp; rfl)); intro gb231 hg w5 hbox hb; have n0_ := za.mk (zl (Zq1 HB) hb); have n1_ := za.mk (hbox); have n2_ := za.mk ((by rw [hg]; exact (zu (Zq1 HB)) : w.heap.size ≤ gb231)); have n3_ := za.mk ((by rw [hg]; exact (zu (Zq1 HB)) : w.heap.size ≤ gb231)); clear HB; have HB := n0_; have BK231 := n1_; have GW231 := n2_; have GE231 := n3_; clear n0_ n1_ n2_ n3_; clear hb hbox hg) | ((with_reducible refine zb4 (N := 4) rfl ?_); refine zcb ?hg (N := 4) ?hd (cs := #[.int .i64 0, .int .i64 0]) (t := 39) ?hr ?_; (case hd => rfl); (case hg => rfl); (case hr => first | (go_simp; done) | (go_simp; rfl)); intro gb232 hg w6 hbox hb; have n0_ := za.mk (zbm (g := gb231) (o := .cells #[.int .i64 a0_0, .int .i64 a0_1, .int .i64 a0_2] 35 (0, 0)) (Zq2 BK231) hb); have n1_ := za.mk (zl (Zq3 HB GE231) hb); have n2_ := za.mk (hbox); have n3_ := za.mk ((by rw [hg]; exact (zu (Zq3 HB GE231)) : w.heap.size ≤ gb232)); have n4_ := za.mk ((by rw [hg]; exact (zu (Zq3 HB GE231)) : w.heap.size ≤ gb232)); have n5_ := za.mk ((by rw [hg]; exact Nat.ne_of_lt (zds (g := gb231) (o := .cells #[.int .i64 a0_0, .int .i64 a0_1, .int .i64 a0_2] 35 (0, 0)) (Zq2 BK231)) : gb231 ≠ gb232)); have n6_ := za.mk ((by rw [hg]; exact Nat.ne_of_gt (zds (g := gb231) (o := .cells #[.int .i64 a0_0, .int .i64 a0_1, .int .i64 a0_2] 35 (0, 0)) (Zq2 BK231)) : gb232 ≠ gb231)); clear BK231; clear HB; have BK231 := n0_; have HB := n1_; have BK232 := n2_; have GW232 := n3_; have GE232 := n4_; have NB231_232 := n5_; have NB232_231 := n6_; clear n0_ n1_ n2_ n3_ n4_ n5_ n6_; clear hb hbox hg))
  have n0_ := za.mk (zbf BK231.out);have n1_ := za.mk (zbf BK232.out);have n2_ := za.mk (zbk HB.out);clear BK231;clear BK232;clear HB;have BK231 := n0_;have BK232 := n1_;have HB := n2_;clear n0_ n1_ n2_;refine zcn (n := 17) (S := fun w' => w'.cell? ⟨gb231, 0, none⟩ = some (.int .i64 a0_0) ∧ w'.cell? ⟨gb231, 1, none⟩ = some (.int .i64 a0_1) ∧ w'.cell? ⟨gb231, 2, none⟩ = some (.int .i64 a0_2)) (ds := []) #[false, false, false, false, false, false, false, false, false, false, false, false, false, false, false, false, false] (by kernel_rfl) rfl rfl ⟨(ze BK231.out 0).trans rfl, (ze BK231.out 1).trans rfl, (ze BK231.out 2).trans rfl⟩ (fun hHeld => ?_); refine zbw zbr.tab1 zbr.zen (fun HT_ HW_ => ?_);generalize w6.drew = w7 at BK231 BK232 HB hHeld ⊢;refine zn (i := 0) (N := some 5) (v := ?_) (a' := ?_) #[true, false, false, false, false, false, false, false, false, false, false, false, false, false, false, false, false] rfl rfl (zg HT_.out (by kernel_rfl)) (fun _ _ _ h => h) (Or.inl ⟨by rfl, ?_⟩) ?_ ?_;rotate_left
  ·intro w'
   go_simp;with_reducible rfl
  rotate_left
  ·simp only [Act.put, Zs1, Zs2, Zs3, zh, zi]
   rfl
  refine zn (i := 1) (N := some 6) (v := ?_) (a' := ?_) #[true, true, false, false, false, false, false, false, false, false, false, false, false, false, false, false, false] rfl rfl (zg HT_.out (by kernel_rfl)) (fun _ _ _ h => h) (Or.inl ⟨by rfl, ?_⟩) ?_ ?_;rotate_left
  ·intro w'
   go_simp;with_reducible rfl
  rotate_left
  ·simp only [Act.put, Zs1, Zs2, Zs3, zh, zi]
   rfl
  refine zn (i := 4) (N := some 9) (v := ?_) (a' := ?_) #[true, true, false, false, true, false, false, false, false, false, false, false, false, false, false, false, false] rfl rfl (zg HT_.out (by kernel_rfl)) (fun _ _ _ h => h) (Or.inl ⟨by rfl, ?_⟩) ?_ ?_;rotate_left
  ·intro w'
   go_simp;with_reducible rfl
  rotate_left
  ·simp only [Act.put, Zs1, Zs2, Zs3, zh, zi]
   rfl
  refine zn (i := 7) (N := some 12) (v := ?_) (a' := ?_) #[true, true, false, false, true, false, false, true, false, false, false, false, false, false, false, false, false] rfl rfl (zg HT_.out (by kernel_rfl)) (fun _ _ _ h => h) (Or.inl ⟨by rfl, ?_⟩) ?_ ?_;rotate_left
  ·intro w'
   go_simp;with_reducible rfl
  rotate_left
  ·simp only [Act.put, Zs1, Zs2, Zs3, zh, zi]
   rfl
  refine zn (i := 8) (N := some 13) (v := ?_) (a' := ?_) #[true, true, false, false, true, false, false, true, true, false, false, false, false, false, false, false, false] rfl rfl (zg HT_.out (by kernel_rfl)) (fun _ _ _ h => h) (Or.inl ⟨by rfl, ?_⟩) ?_ ?_;rotate_left
  ·intro w'
   go_simp;with_reducible rfl
  rotate_left
  ·simp only [Act.put, Zs1, Zs2, Zs3, zh, zi]
   rfl
  refine zn (i := 9) (N := some 14) (v := ?_) (a' := ?_) #[true, true, false, false, true, false, false, true, true, true, false, false, false, false, false, false, false] rfl rfl (zg HT_.out (by kernel_rfl)) (fun _ _ _ h => h) (Or.inl ⟨by rfl, ?_⟩) ?_ ?_;rotate_left
  ·intro w'
   go_simp;with_reducible rfl
  rotate_left
  ·simp only [Act.put, Zs1, Zs2, Zs3, zh, zi]
   rfl
  refine zn (i := 12) (N := some 17) (v := ?_) (a' := ?_) #[true, true, false, false, true, false, false, true, true, true, false, false, true, false, false, false, false] rfl rfl (zg HT_.out (by kernel_rfl)) (fun _ _ _ h => h) (Or.inl ⟨by rfl, ?_⟩) ?_ ?_;rotate_left
  ·intro w'
   go_simp;with_reducible rfl
  rotate_left
  ·simp only [Act.put, Zs1, Zs2, Zs3, zh, zi]
   rfl
  refine zb3 (i := 2) (N := some 7) (v := ?_) (a' := ?_) #[true, true, true, false, true, false, false, true, true, true, false, false, true, false, false, false, false] rfl rfl (zbc HT_.out HW_.out (by kernel_rfl)) (fun _ _ _ h => h) (Or.inl ⟨by rfl, ?_⟩) hHeld ?_ ?_;rotate_left
  ·rintro w' ⟨s0, s1, s2⟩
   go_simp;with_reducible rfl
  rotate_left
  ·simp only [Act.put, Zs1, Zs2, Zs3, zh, zi]
   rfl
  refine zn (i := 3) (N := some 8) (v := ?_) (a' := ?_) #[true, true, true, true, true, false, false, true, true, true, false, false, true, false, false, false, false] rfl rfl (zg HT_.out (by kernel_rfl)) (fun _ _ _ h => h) (Or.inl ⟨by rfl, ?_⟩) ?_ ?_;rotate_left
  ·intro w'
   go_simp;with_reducible rfl
  rotate_left
  ·simp only [Act.put, Zs1, Zs2, Zs3, zh, zi]
   rfl
  refine zb3 (i := 5) (N := some 10) (v := ?_) (a' := ?_) #[true, true, true, true, true, true, false, true, true, true, false, false, true, false, false, false, false] rfl rfl (zbc HT_.out HW_.out (by kernel_rfl)) (fun _ _ _ h => h) (Or.inl ⟨by rfl, ?_⟩) hHeld ?_ ?_;rotate_left
  ·rintro w' ⟨s0, s1, s2⟩
   go_simp;with_reducible rfl
  rotate_left
  ·simp only [Act.put, Zs1, Zs2, Zs3, zh, zi]
   rfl
  refine zn (i := 6) (N := some 11) (v := ?_) (a' := ?_) #[true, true, true, true, true, true, true, true, true, true, false, false, true, false, false, false, false] rfl rfl (zg HT_.out (by kernel_rfl)) (fun _ _ _ h => h) (Or.inl ⟨by rfl, ?_⟩) ?_ ?_;rotate_left
  ·intro w'
   go_simp;with_reducible rfl
  rotate_left
  ·simp only [Act.put, Zs1, Zs2, Zs3, zh, zi]
   rfl
  refine zb3 (i := 10) (N := some 15) (v := ?_) (a' := ?_) #[true, true, true, true, true, true, true, true, true, true, true, false, true, false, false, false, false] rfl rfl (zbc HT_.out HW_.out (by kernel_rfl)) (fun _ _ _ h => h) (Or.inl ⟨by rfl, ?_⟩) hHeld ?_ ?_;rotate_left
  ·rintro w' ⟨s0, s1, s2⟩
   go_simp;with_reducible rfl
  rotate_left
  ·simp only [Act.put, Zs1, Zs2, Zs3, zh, zi]
   rfl
  refine zn (i := 11) (N := some 16) (v := ?_) (a' := ?_) #[true, true, true, true, true, true, true, true, true, true, true, true, true, false, false, false, false] rfl rfl (zg HT_.out (by kernel_rfl)) (fun _ _ _ h => h) (Or.inl ⟨by rfl, ?_⟩) ?_ ?_;rotate_left
  ·intro w'
   go_simp;with_reducible rfl
  rotate_left
  ·simp only [Act.put, Zs1, Zs2, Zs3, zh, zi]
   rfl
  refine zb3 (i := 13) (N := some 18) (v := ?_) (a' := ?_) #[true, true, true, true, true, true, true, true, true, true, true, true, true, true, false, false, false] rfl rfl (zbc HT_.out HW_.out (by kernel_rfl)) (fun _ _ _ h => h) (Or.inl ⟨by rfl, ?_⟩) hHeld ?_ ?_;rotate_left
  ·rintro w' ⟨s0, s1, s2⟩
   go_simp;with_reducible rfl
  rotate_left
  ·simp only [Act.put, Zs1, Zs2, Zs3, zh, zi]
   rfl
  refine one_ (i := 14) (N := some 19) #[true, true, true, true, true, true, true, true, true, true, true, true, true, true, true, false, false] rfl rfl (zb0 HT_.out (by kernel_rfl)) (by decide) (fun K hK => ?_);refine zcs Try.func56 (by kernel_rfl) rfl #[.int .i64 (wrap64 ((wrap64 (a1 + 1)) * a0_2)), .int .i64 a0_0] (by rfl) rfl rfl Zmt ?_;with_reducible refine (zed.calls (wrap64 ((wrap64 (a1 + 1)) * a0_2)) a0_0 t233 _ A4.out).mono ?_
  rintro e w' ⟨rfl, ⟨nd, rfl⟩⟩;refine ⟨_, rfl, ?_⟩;refine hK.out _ _ ⟨(ze BK231.out 0).trans rfl, (ze BK231.out 1).trans rfl, (ze BK231.out 2).trans rfl⟩ (fun hHeld => ?_);clear hK K;refine zcd (a' := ?_) ?_ ?_;rotate_left
  ·show Act.put _ (some 19) _ = _
   simp only [Act.put, Zs1, Zs2, Zs3, zh, zi];rfl
  refine zn (i := 15) (N := some 20) (v := ?_) (a' := ?_) #[true, true, true, true, true, true, true, true, true, true, true, true, true, true, true, true, false] rfl rfl (zg HT_.out (by kernel_rfl)) (fun _ _ _ h => h) (Or.inl ⟨by rfl, ?_⟩) ?_ ?_;rotate_left
  ·intro w'
   go_simp;with_reducible rfl
  rotate_left
  ·simp only [Act.put, Zs1, Zs2, Zs3, zh, zi]
   rfl
  refine one_ (i := 16) (N := none) #[true, true, true, true, true, true, true, true, true, true, true, true, true, true, true, true, true] rfl rfl (zb0 HT_.out (by kernel_rfl)) (by decide) (fun K hK => ?_);have hs8 : w7.cell? ⟨gb232, 0, none⟩ = some (.int .i64 0) := (ze BK232.out 0).trans rfl;have hfs8 := zw BK232.out 0;have hns8_0 := NB231_232.out;have hms8_0 := NB232_231.out;have hs9 : w7.cell? ⟨gb232, 1, none⟩ = some (.int .i64 0) := (ze BK232.out 1).trans rfl;have hfs9 := zw BK232.out 1;have hns9_0 := NB231_232.out;have hms9_0 := NB232_231.out;refine zi6 (w1 := ?_) (by rfl) rfl ?_ ?_;rotate_left
  ·go_simp
   rfl
  refine hK.out _ _ ⟨((cell_far (p := ⟨gb232, _, none⟩) NB231_232.out _).trans (((cell_far (p := ⟨gb232, _, none⟩) NB231_232.out _).trans (hHeld.1)))), ((cell_far (p := ⟨gb232, _, none⟩) NB231_232.out _).trans (((cell_far (p := ⟨gb232, _, none⟩) NB231_232.out _).trans (hHeld.2.1)))), ((cell_far (p := ⟨gb232, _, none⟩) NB231_232.out _).trans (((cell_far (p := ⟨gb232, _, none⟩) NB231_232.out _).trans (hHeld.2.2))))⟩ (fun hHeld => ?_);clear hK K;refine zc5 (zb9 HT_.out (by kernel_rfl)) ?_
  try go_wp2
  refine bodyPost_ret (results_cell_row rfl _ _ gb232 39 #[.int .i64 (wrap64 (Int.tdiv (wrap64 (a1 * a0_2)) a0_0)), .int .i64 t233] (0, 0) _ rfl (by (with_reducible repeat (first | refine zbi ?_ _ | refine zbf ?_ | refine zbh ?_ _)); refine zcv (cs := #[.int .i64 (wrap64 (Int.tdiv (wrap64 (a1 * a0_2)) a0_0)), .int .i64 0]) ?_ 1 _ rfl; (with_reducible repeat (first | refine zbi ?_ _ | refine zbf ?_ | refine zbh ?_ _)); refine zcv (cs := #[.int .i64 0, .int .i64 0]) ?_ 0 _ rfl; (with_reducible repeat (first | refine zbi ?_ _ | refine zbf ?_ | refine zbh ?_ _)); exact BK232.out) Try.underlying39 rfl (by kernel_rfl)) rfl ?_;exact ⟨by first | rfl | (simp [zq, zt] <;> rfl) | (simp [*, zq, zt] <;> rfl), Zq19 HB GE231 GE232⟩
def cmp_isNaN_int.f (a0 : Int) : Option (Bool) := some (a0 != a0)
set_option maxHeartbeats 8000000 in
theorem cmp_isNaN_int.calls (a0 : Int) (r : Bool) (w : World) (h : cmp_isNaN_int.f a0 = some r) :
  Calls Try.prog 75 #[.int .i64 a0] w fun e w' => e = .returned (.bool r) ∧ zbx w w' := by
 have H : (some (a0 != a0)) = some r := h
 clear h
 obtain rfl := Option.some.inj H
 go_enter Try.func75, Try.ntmps75
 go_wp2
 go_ret
 exact ⟨by first | rfl | (simp; done) | (simp [*]; done), by repeat (first | exact zbx.refl _ | apply zbx.step)⟩
def cmp_Compare_int.f (a0 : Int) (a1 : Int) : Option (Int) := (cmp_isNaN_int.f a0).bind fun t234 => ((cmp_isNaN_int.f a1).bind fun t235 => (if t234 = true then (if t235 = true then (some 0) else (some (-1))) else (if t235 = true then (some 1) else (if a0 < a1 then (some (-1)) else (if a0 > a1 then (some 1) else (some 0))))))
set_option maxHeartbeats 8000000 in
theorem cmp_Compare_int.calls (a0 : Int) (a1 : Int) (r : Int) (w : World) (h : cmp_Compare_int.f a0 a1 = some r) :
  Calls Try.prog 58 #[.int .i64 a0, .int .i64 a1] w fun e w' => e = .returned (.int .i64 r) ∧ zbx w w' := by
 have H : ((cmp_isNaN_int.f a0).bind fun t234 => ((cmp_isNaN_int.f a1).bind fun t235 => (if t234 = true then (if t235 = true then (some 0) else (some (-1))) else (if t235 = true then (some 1) else (if a0 < a1 then (some (-1)) else (if a0 > a1 then (some 1) else (some 0))))))) = some r := h
 clear h
 replace H := Option.bind_eq_some_iff.mp H
 obtain ⟨t234, A30, H⟩ := H
 replace H : ((cmp_isNaN_int.f a1).bind fun t235 => (if t234 = true then (if t235 = true then (some 0) else (some (-1))) else (if t235 = true then (some 1) else (if a0 < a1 then (some (-1)) else (if a0 > a1 then (some 1) else (some 0)))))) = some r := H
 have A3 := za.mk A30
 clear A30
 replace H := Option.bind_eq_some_iff.mp H
 obtain ⟨t235, A40, H⟩ := H
 replace H : (if t234 = true then (if t235 = true then (some 0) else (some (-1))) else (if t235 = true then (some 1) else (if a0 < a1 then (some (-1)) else (if a0 > a1 then (some 1) else (some 0))))) = some r := H
 have A4 := za.mk A40
 clear A40
 by_cases c5 : t234 = true
 ·subst c5
  have H1 : (if t235 = true then (some 0) else (some (-1))) = some r := by rw [if_pos rfl] at H; exact H
  clear H;have H := H1;clear H1;by_cases c6 : t235 = true
  ·subst c6
   have H1 : (some 0) = some r := by rw [if_pos rfl] at H; exact H
   clear H;have H := H1;clear H1;obtain rfl := Option.some.inj H;go_enter Try.func58, Try.ntmps58;go_wp2_with (first | ((with_reducible refine zbd (f := 75) rfl ?_); refine zb6 (some 8) rfl rfl Try.func75 (by kernel_rfl) rfl #[.int .i64 a0] rfl Zmt ?_; (with_reducible refine (cmp_isNaN_int.calls a0 true _ A3.out).mono ?_); rintro e w' ⟨rfl, ⟨nd, rfl⟩⟩; refine ⟨_, rfl, ?_⟩) | ((with_reducible refine zbd (f := 75) rfl ?_); refine zb6 (some 10) rfl rfl Try.func75 (by kernel_rfl) rfl #[.int .i64 a1] rfl Zmt ?_; (with_reducible refine (cmp_isNaN_int.calls a1 true _ A4.out).mono ?_); rintro e w' ⟨rfl, ⟨nd, rfl⟩⟩; refine ⟨_, rfl, ?_⟩));go_ret;exact ⟨by first | rfl | (simp; done) | (simp [*]; done), by repeat (first | exact zbx.refl _ | apply zbx.step)⟩
  ·replace c6 := Bool.eq_false_iff.mpr c6
   subst c6;have H1 : (some (-1)) = some r := by rw [if_neg (show ¬ (false = true) by decide)] at H; exact H
   clear H;have H := H1;clear H1;obtain rfl := Option.some.inj H;go_enter Try.func58, Try.ntmps58;go_wp2_with (first | ((with_reducible refine zbd (f := 75) rfl ?_); refine zb6 (some 8) rfl rfl Try.func75 (by kernel_rfl) rfl #[.int .i64 a0] rfl Zmt ?_; (with_reducible refine (cmp_isNaN_int.calls a0 true _ A3.out).mono ?_); rintro e w' ⟨rfl, ⟨nd, rfl⟩⟩; refine ⟨_, rfl, ?_⟩) | ((with_reducible refine zbd (f := 75) rfl ?_); refine zb6 (some 10) rfl rfl Try.func75 (by kernel_rfl) rfl #[.int .i64 a1] rfl Zmt ?_; (with_reducible refine (cmp_isNaN_int.calls a1 false _ A4.out).mono ?_); rintro e w' ⟨rfl, ⟨nd, rfl⟩⟩; refine ⟨_, rfl, ?_⟩));go_ret;exact ⟨by first | rfl | (simp; done) | (simp [*]; done), by repeat (first | exact zbx.refl _ | apply zbx.step)⟩
 ·replace c5 := Bool.eq_false_iff.mpr c5
  subst c5;have H1 : (if t235 = true then (some 1) else (if a0 < a1 then (some (-1)) else (if a0 > a1 then (some 1) else (some 0)))) = some r := by rw [if_neg (show ¬ (false = true) by decide)] at H; exact H
  clear H;have H := H1;clear H1;by_cases c7 : t235 = true
  ·subst c7
   have H1 : (some 1) = some r := by rw [if_pos rfl] at H; exact H
   clear H;have H := H1;clear H1;obtain rfl := Option.some.inj H;go_enter Try.func58, Try.ntmps58;go_wp2_with (first | ((with_reducible refine zbd (f := 75) rfl ?_); refine zb6 (some 8) rfl rfl Try.func75 (by kernel_rfl) rfl #[.int .i64 a0] rfl Zmt ?_; (with_reducible refine (cmp_isNaN_int.calls a0 false _ A3.out).mono ?_); rintro e w' ⟨rfl, ⟨nd, rfl⟩⟩; refine ⟨_, rfl, ?_⟩) | ((with_reducible refine zbd (f := 75) rfl ?_); refine zb6 (some 10) rfl rfl Try.func75 (by kernel_rfl) rfl #[.int .i64 a1] rfl Zmt ?_; (with_reducible refine (cmp_isNaN_int.calls a1 true _ A4.out).mono ?_); rintro e w' ⟨rfl, ⟨nd, rfl⟩⟩; refine ⟨_, rfl, ?_⟩));go_ret;exact ⟨by first | rfl | (simp; done) | (simp [*]; done), by repeat (first | exact zbx.refl _ | apply zbx.step)⟩
  ·replace c7 := Bool.eq_false_iff.mpr c7
   subst c7;have H1 : (if a0 < a1 then (some (-1)) else (if a0 > a1 then (some 1) else (some 0))) = some r := by rw [if_neg (show ¬ (false = true) by decide)] at H; exact H
   clear H;have H := H1;clear H1;by_cases c8 : a0 < a1
   ·rw [if_pos c8] at H
    have c8b0 : decide (a0 < a1) = true := decide_eq_true c8;clear c8;obtain rfl := Option.some.inj H;go_enter Try.func58, Try.ntmps58;go_wp2_with (first | ((with_reducible refine zbd (f := 75) rfl ?_); refine zb6 (some 8) rfl rfl Try.func75 (by kernel_rfl) rfl #[.int .i64 a0] rfl Zmt ?_; (with_reducible refine (cmp_isNaN_int.calls a0 false _ A3.out).mono ?_); rintro e w' ⟨rfl, ⟨nd, rfl⟩⟩; refine ⟨_, rfl, ?_⟩) | ((with_reducible refine zbd (f := 75) rfl ?_); refine zb6 (some 10) rfl rfl Try.func75 (by kernel_rfl) rfl #[.int .i64 a1] rfl Zmt ?_; (with_reducible refine (cmp_isNaN_int.calls a1 false _ A4.out).mono ?_); rintro e w' ⟨rfl, ⟨nd, rfl⟩⟩; refine ⟨_, rfl, ?_⟩));go_ret;exact ⟨by first | rfl | (simp; done) | (simp [*]; done), by repeat (first | exact zbx.refl _ | apply zbx.step)⟩
   ·rw [if_neg c8] at H
    have c8b0 : decide (a0 < a1) = false := decide_eq_false c8;clear c8;by_cases c9 : a0 > a1
    ·rw [if_pos c9] at H
     have c9b0 : decide (a1 < a0) = true := decide_eq_true c9;clear c9;obtain rfl := Option.some.inj H;go_enter Try.func58, Try.ntmps58;go_wp2_with (first | ((with_reducible refine zbd (f := 75) rfl ?_); refine zb6 (some 8) rfl rfl Try.func75 (by kernel_rfl) rfl #[.int .i64 a0] rfl Zmt ?_; (with_reducible refine (cmp_isNaN_int.calls a0 false _ A3.out).mono ?_); rintro e w' ⟨rfl, ⟨nd, rfl⟩⟩; refine ⟨_, rfl, ?_⟩) | ((with_reducible refine zbd (f := 75) rfl ?_); refine zb6 (some 10) rfl rfl Try.func75 (by kernel_rfl) rfl #[.int .i64 a1] rfl Zmt ?_; (with_reducible refine (cmp_isNaN_int.calls a1 false _ A4.out).mono ?_); rintro e w' ⟨rfl, ⟨nd, rfl⟩⟩; refine ⟨_, rfl, ?_⟩));go_ret;exact ⟨by first | rfl | (simp; done) | (simp [*]; done), by repeat (first | exact zbx.refl _ | apply zbx.step)⟩
    ·rw [if_neg c9] at H
     have c9b0 : decide (a1 < a0) = false := decide_eq_false c9;clear c9;obtain rfl := Option.some.inj H;go_enter Try.func58, Try.ntmps58;go_wp2_with (first | ((with_reducible refine zbd (f := 75) rfl ?_); refine zb6 (some 8) rfl rfl Try.func75 (by kernel_rfl) rfl #[.int .i64 a0] rfl Zmt ?_; (with_reducible refine (cmp_isNaN_int.calls a0 false _ A3.out).mono ?_); rintro e w' ⟨rfl, ⟨nd, rfl⟩⟩; refine ⟨_, rfl, ?_⟩) | ((with_reducible refine zbd (f := 75) rfl ?_); refine zb6 (some 10) rfl rfl Try.func75 (by kernel_rfl) rfl #[.int .i64 a1] rfl Zmt ?_; (with_reducible refine (cmp_isNaN_int.calls a1 false _ A4.out).mono ?_); rintro e w' ⟨rfl, ⟨nd, rfl⟩⟩; refine ⟨_, rfl, ?_⟩));go_ret;exact ⟨by first | rfl | (simp; done) | (simp [*]; done), by repeat (first | exact zbx.refl _ | apply zbx.step)⟩
def zbt.f (a0_0 : Int) (a0_1 : Int) (a0_2 : Int) (a1 : Int) : Option (Bool) := (zbr.f a0_0 a0_1 a0_2 a1).bind fun bt237 => ((zbr.f a0_0 a0_1 a0_2 (wrap64 (a1 + 1))).bind fun bt239 => (some (decide (bt237.2 > bt239.1))))
def zbt.T1 : Bool × List (List Nat × List Nat) := (true, [([], []), ([], []), ([0, 1], [0, 1]), ([2], [2]), ([], []), ([], []), ([5], [5]), ([4, 6, 2], [4, 6]), ([7], [7]), ([3, 8], [3, 8]), ([9, 7, 0, 1, 2, 3, 4, 5, 6, 7, 8, 9], [9])])
def zbt.B1 : List Nat := [0, 0, 3, 7, 0, 0, 32, 119, 247, 511, 1023]
theorem zbt.tab1 : rtab .any (opsOf Try.f59 1) = zbt.T1 := by kernel_rfl
theorem zbt.zen : zcw zbt.T1.2 zbt.B1 = true := by kernel_rfl
set_option maxHeartbeats 8000000 in
theorem zbt.calls (a0_0 : Int) (a0_1 : Int) (a0_2 : Int) (a1 : Int) (r : Bool) (w : World) (h : zbt.f a0_0 a0_1 a0_2 a1 = some r) :
  Calls Try.prog 59 #[.agg #[.int .i64 a0_0, .int .i64 a0_1, .int .i64 a0_2], .int .i64 a1] w fun e w' => e = .returned (.bool r) ∧ Below w.heap.size w w' := by
 have hfld39_0 : ∀ (v0_ v1_ : Value) (W : World), (Instr.field 39 (.agg #[v0_, v1_]) 0).run Try.prog W = .ok v0_ W := fun _ _ _ => rfl
 have hfld39_1 : ∀ (v0_ v1_ : Value) (W : World), (Instr.field 39 (.agg #[v0_, v1_]) 1).run Try.prog W = .ok v1_ W := fun _ _ _ => rfl
 have hu35 := Try.underlying35
 have HB := za.mk (Below.refl w.heap.size w)
 have H : ((zbr.f a0_0 a0_1 a0_2 a1).bind fun bt237 => ((zbr.f a0_0 a0_1 a0_2 (wrap64 (a1 + 1))).bind fun bt239 => (some (decide (bt237.2 > bt239.1))))) = some r := h
 clear h
 replace H := Option.bind_eq_some_iff.mp H
 obtain ⟨⟨t237, t238⟩, A30, H⟩ := H
 replace H : ((zbr.f a0_0 a0_1 a0_2 (wrap64 (a1 + 1))).bind fun bt239 => (some (decide (t238 > bt239.1)))) = some r := H
 have A3 := za.mk A30
 clear A30
 replace H := Option.bind_eq_some_iff.mp H
 obtain ⟨⟨t239, t240⟩, A40, H⟩ := H
 replace H : (some (decide (t238 > t239))) = some r := H
 have A4 := za.mk A40
 clear A40
 obtain rfl := Option.some.inj H
 go_enter Try.func59, Try.ntmps59
 try go_wp2_with (first | ((with_reducible refine zb4 (N := 2) rfl ?_); refine zcb ?hg (N := 2) ?hd (cs := #[.int .i64 a0_0, .int .i64 a0_1, .int .i64 a0_2]) (t := 35) ?hr ?_; (case hd => rfl); (case hg => rfl); (case hr => first | (go_simp; done) | (go_simp; rfl)); intro gb236 hg w5 hbox hb; have n0_ := za.mk (zl (Zq1 HB) hb); have n1_ := za.mk (hbox); have n2_ := za.mk ((by rw [hg]; exact (zu (Zq1 HB)) : w.heap.size ≤ gb236)); have n3_ := za.mk ((by rw [hg]; exact (zu (Zq1 HB)) : w.heap.size ≤ gb236)); clear HB; have HB := n0_; have BK236 := n1_; have GW236 := n2_; have GE236 := n3_; clear n0_ n1_ n2_ n3_; clear hb hbox hg))
 have n0_ := za.mk (zbf BK236.out)
 have n1_ := za.mk (zbk HB.out)
 clear BK236
 clear HB
 have BK236 := n0_
 have HB := n1_
 clear n0_ n1_
 refine zcn (n := 11) (S := fun w' => w'.cell? ⟨gb236, 0, none⟩ = some (.int .i64 a0_0) ∧ w'.cell? ⟨gb236, 1, none⟩ = some (.int .i64 a0_1) ∧ w'.cell? ⟨gb236, 2, none⟩ = some (.int .i64 a0_2)) (ds := []) #[false, false, false, false, false, false, false, false, false, false, false] (by kernel_rfl) rfl rfl ⟨(ze BK236.out 0).trans rfl, (ze BK236.out 1).trans rfl, (ze BK236.out 2).trans rfl⟩ (fun hHeld => ?_); refine zbw zbt.tab1 zbt.zen (fun HT_ HW_ => ?_)
 generalize w5.drew = w6 at BK236 HB hHeld ⊢
 refine zn (i := 1) (N := some 6) (v := ?_) (a' := ?_) #[false, true, false, false, false, false, false, false, false, false, false] rfl rfl (zg HT_.out (by kernel_rfl)) (fun _ _ _ h => h) (Or.inl ⟨by rfl, ?_⟩) ?_ ?_
 rotate_left
 ·intro w'
  go_simp;with_reducible rfl
 rotate_left
 ·simp only [Act.put, Zs1, Zs2, Zs3, zh, zi]
  rfl
 refine zn (i := 5) (N := some 10) (v := ?_) (a' := ?_) #[false, true, false, false, false, true, false, false, false, false, false] rfl rfl (zg HT_.out (by kernel_rfl)) (fun _ _ _ h => h) (Or.inl ⟨by rfl, ?_⟩) ?_ ?_
 rotate_left
 ·intro w'
  go_simp;with_reducible rfl
 rotate_left
 ·simp only [Act.put, Zs1, Zs2, Zs3, zh, zi]
  rfl
 refine zn (i := 6) (N := some 11) (v := ?_) (a' := ?_) #[false, true, false, false, false, true, true, false, false, false, false] rfl rfl (zg HT_.out (by kernel_rfl)) (fun _ _ _ h => h) (Or.inl ⟨by rfl, ?_⟩) ?_ ?_
 rotate_left
 ·intro w'
  go_simp;with_reducible rfl
 rotate_left
 ·simp only [Act.put, Zs1, Zs2, Zs3, zh, zi]
  rfl
 refine zb3 (i := 0) (N := some 5) (v := ?_) (a' := ?_) #[true, true, false, false, false, true, true, false, false, false, false] rfl rfl (zbc HT_.out HW_.out (by kernel_rfl)) (fun _ _ _ h => h) (Or.inl ⟨by rfl, ?_⟩) hHeld ?_ ?_
 rotate_left
 ·rintro w' ⟨s0, s1, s2⟩
  go_simp;with_reducible rfl
 rotate_left
 ·simp only [Act.put, Zs1, Zs2, Zs3, zh, zi]
  rfl
 refine zb3 (i := 4) (N := some 9) (v := ?_) (a' := ?_) #[true, true, false, false, true, true, true, false, false, false, false] rfl rfl (zbc HT_.out HW_.out (by kernel_rfl)) (fun _ _ _ h => h) (Or.inl ⟨by rfl, ?_⟩) hHeld ?_ ?_
 rotate_left
 ·rintro w' ⟨s0, s1, s2⟩
  go_simp;with_reducible rfl
 rotate_left
 ·simp only [Act.put, Zs1, Zs2, Zs3, zh, zi]
  rfl
 refine one_ (i := 2) (N := some 7) #[true, true, true, false, true, true, true, false, false, false, false] rfl rfl (zb0 HT_.out (by kernel_rfl)) (by decide) (fun K hK => ?_)
 refine zcs Try.func30 (by kernel_rfl) rfl #[.agg #[.int .i64 a0_0, .int .i64 a0_1, .int .i64 a0_2], .int .i64 a1] (by rfl) rfl rfl Zmt ?_
 with_reducible refine (zbr.calls a0_0 a0_1 a0_2 a1 t237 t238 _ A3.out).mono ?_
 rintro e w7 ⟨rfl, hb⟩
 refine ⟨_, rfl, ?_⟩
 have n0_ := za.mk (zbm (g := gb236) (o := .cells #[.int .i64 a0_0, .int .i64 a0_1, .int .i64 a0_2] 35 (0, 0)) (Zq2 BK236) hb)
 have n1_ := za.mk (zl (Zq3 HB GE236) hb)
 clear BK236
 clear HB
 have BK236 := n0_
 have HB := n1_
 clear n0_ n1_
 (try clear hb)
 (try clear hb2)
 (try clear hk)
 (try clear hi)
 refine hK.out _ _ ⟨(ze BK236.out 0).trans rfl, (ze BK236.out 1).trans rfl, (ze BK236.out 2).trans rfl⟩ (fun hHeld => ?_)
 clear hK K
 refine zcd (a' := ?_) ?_ ?_
 rotate_left
 ·show Act.put _ (some 7) _ = _
  simp only [Act.put, Zs1, Zs2, Zs3, zh, zi];rfl
 refine zn (i := 3) (N := some 8) (v := ?_) (a' := ?_) #[true, true, true, true, true, true, true, false, false, false, false] rfl rfl (zg HT_.out (by kernel_rfl)) (fun _ _ _ h => h) (Or.inl ⟨by rfl, ?_⟩) ?_ ?_
 rotate_left
 ·intro w'
  go_simp;with_reducible rfl
 rotate_left
 ·simp only [Act.put, Zs1, Zs2, Zs3, zh, zi]
  rfl
 refine one_ (i := 7) (N := some 12) #[true, true, true, true, true, true, true, true, false, false, false] rfl rfl (zb0 HT_.out (by kernel_rfl)) (by decide) (fun K hK => ?_)
 refine zcs Try.func30 (by kernel_rfl) rfl #[.agg #[.int .i64 a0_0, .int .i64 a0_1, .int .i64 a0_2], .int .i64 (wrap64 (a1 + 1))] (by rfl) rfl rfl Zmt ?_
 with_reducible refine (zbr.calls a0_0 a0_1 a0_2 (wrap64 (a1 + 1)) t239 t240 _ A4.out).mono ?_
 rintro e w8 ⟨rfl, hb⟩
 refine ⟨_, rfl, ?_⟩
 have n0_ := za.mk (zbm (g := gb236) (o := .cells #[.int .i64 a0_0, .int .i64 a0_1, .int .i64 a0_2] 35 (0, 0)) (Zq2 BK236) hb)
 have n1_ := za.mk (zl (Zq3 HB GE236) hb)
 clear BK236
 clear HB
 have BK236 := n0_
 have HB := n1_
 clear n0_ n1_
 (try clear hb)
 (try clear hb2)
 (try clear hk)
 (try clear hi)
 refine hK.out _ _ ⟨(ze BK236.out 0).trans rfl, (ze BK236.out 1).trans rfl, (ze BK236.out 2).trans rfl⟩ (fun hHeld => ?_)
 clear hK K
 refine zcd (a' := ?_) ?_ ?_
 rotate_left
 ·show Act.put _ (some 12) _ = _
  simp only [Act.put, Zs1, Zs2, Zs3, zh, zi];rfl
 refine zn (i := 8) (N := some 13) (v := ?_) (a' := ?_) #[true, true, true, true, true, true, true, true, true, false, false] rfl rfl (zg HT_.out (by kernel_rfl)) (fun _ _ _ h => h) (Or.inl ⟨by rfl, ?_⟩) ?_ ?_
 rotate_left
 ·intro w'
  go_simp;with_reducible rfl
 rotate_left
 ·simp only [Act.put, Zs1, Zs2, Zs3, zh, zi]
  rfl
 refine zn (i := 9) (N := some 14) (v := ?_) (a' := ?_) #[true, true, true, true, true, true, true, true, true, true, false] rfl rfl (zg HT_.out (by kernel_rfl)) (fun _ _ _ h => h) (Or.inl ⟨by rfl, ?_⟩) ?_ ?_
 rotate_left
 ·intro w'
  go_simp;with_reducible rfl
 rotate_left
 ·simp only [Act.put, Zs1, Zs2, Zs3, zh, zi]
  rfl
 refine zn (i := 10) (N := some 4) (v := ?_) (a' := ?_) #[true, true, true, true, true, true, true, true, true, true, true] rfl rfl (zg HT_.out (by kernel_rfl)) (fun _ _ _ h => h) (Or.inl ⟨by rfl, ?_⟩) ?_ ?_
 rotate_left
 ·intro w'
  go_simp;with_reducible rfl
 rotate_left
 ·simp only [Act.put, Zs1, Zs2, Zs3, zh, zi]
  rfl
 refine zc5 (zb9 HT_.out (by kernel_rfl)) ?_
 try go_wp2
 go_ret
 exact ⟨by first | rfl | (simp [zq, zt] <;> rfl) | (simp [*, zq, zt] <;> rfl), Zq3 HB GE236⟩
mutual
def zba.l0 : Nat → Int → Int → Int → Int → Int → Int → Option (Int)
 | 0, _, _, _, _, _, _ => none
 | k + 1, x1, x5, x6, x242000, x242001, x242002 => (zbr.f x242000 x242001 x242002 x6).bind fun bt244 => (if x6 > x1 then (if (wrap64 (bt244.2 - bt244.1)) ≥ 3 then (zba.j1 k x1 x5 x6 (decide ((wrap64 (bt244.2 - 1)) ≥ x5)) x242000 x242001 x242002 bt244.1 bt244.2) else (zba.j1 k x1 x5 x6 false x242000 x242001 x242002 bt244.1 bt244.2)) else (zba.j1 k x1 x5 x6 false x242000 x242001 x242002 bt244.1 bt244.2))
def zba.j1 : Nat → Int → Int → Int → Bool → Int → Int → Int → Int → Int → Option (Int)
 | 0, _, _, _, _, _, _, _, _, _ => none
 | k + 1, x1, x5, x6, x24, x242000, x242001, x242002, x247000, x247001 => if x24 = true then (some (wrap64 (x247001 - 1))) else ((zbt.f x242000 x242001 x242002 x6).bind fun t247 => (if t247 = true then (zba.l0 k x1 x5 (wrap64 (x6 + 1)) x242000 x242001 x242002) else (some x247001)))
end
def zba.f (k : Nat) (a0_0 : Int) (a0_1 : Int) (a0_2 : Int) (a1 : Int) : Option (Int) := if (wrap64 (2 * a0_0)) < a0_2 then (some 0) else ((zbr.f a0_0 a0_1 a0_2 a1).bind fun bt242 => (zba.l0 k a1 bt242.2 a1 a0_0 a0_1 a0_2))
set_option maxHeartbeats 8000000 in
theorem zba.calls (k : Nat) (a0_0 : Int) (a0_1 : Int) (a0_2 : Int) (a1 : Int) (r : Int) (w : World) (h : zba.f k a0_0 a0_1 a0_2 a1 = some r) :
  Calls Try.prog 60 #[.agg #[.int .i64 a0_0, .int .i64 a0_1, .int .i64 a0_2], .int .i64 a1] w fun e w' => e = .returned (.int .i64 r) ∧ Below w.heap.size w w' := by
 have hfld39_0 : ∀ (v0_ v1_ : Value) (W : World), (Instr.field 39 (.agg #[v0_, v1_]) 0).run Try.prog W = .ok v0_ W := fun _ _ _ => rfl
 have hfld39_1 : ∀ (v0_ v1_ : Value) (W : World), (Instr.field 39 (.agg #[v0_, v1_]) 1).run Try.prog W = .ok v1_ W := fun _ _ _ => rfl
 have hu35 := Try.underlying35
 have hu39 := Try.underlying39
 have HB := za.mk (Below.refl w.heap.size w)
 have H : (if (wrap64 (2 * a0_0)) < a0_2 then (some 0) else ((zbr.f a0_0 a0_1 a0_2 a1).bind fun bt242 => (zba.l0 k a1 bt242.2 a1 a0_0 a0_1 a0_2))) = some r := h
 clear h
 by_cases c3 : (wrap64 (2 * a0_0)) < a0_2
 ·rw [if_pos c3] at H
  have c3b0 : decide ((wrap64 (2 * a0_0)) < a0_2) = true := decide_eq_true c3;clear c3;obtain rfl := Option.some.inj H;go_enter Try.func60, Try.ntmps60;go_wp2_with (first | ((with_reducible refine zb4 (N := 2) rfl ?_); refine zcb ?hg (N := 2) ?hd (cs := #[.int .i64 a0_0, .int .i64 a0_1, .int .i64 a0_2]) (t := 35) ?hr ?_; (case hd => rfl); (case hg => rfl); (case hr => first | (go_simp; done) | (go_simp; rfl)); intro gb241 hg w4 hbox hb; have n0_ := za.mk (zl (Zq1 HB) hb); have n1_ := za.mk (hbox); have n2_ := za.mk ((by rw [hg]; exact (zu (Zq1 HB)) : w.heap.size ≤ gb241)); have n3_ := za.mk ((by rw [hg]; exact (zu (Zq1 HB)) : w.heap.size ≤ gb241)); clear HB; have HB := n0_; have BK241 := n1_; have GW241 := n2_; have GE241 := n3_; clear n0_ n1_ n2_ n3_; clear hb hbox hg; have hcz5_0 : w4.cell? ⟨gb241, 0, none⟩ = some (.int .i64 a0_0) := (ze BK241.out 0).trans rfl; have hcz5_1 : w4.cell? ⟨gb241, 1, none⟩ = some (.int .i64 a0_1) := (ze BK241.out 1).trans rfl; have hcz5_2 : w4.cell? ⟨gb241, 2, none⟩ = some (.int .i64 a0_2) := (ze BK241.out 2).trans rfl; have hfz5_0 := zw BK241.out 0; have hfz5_1 := zw BK241.out 1; have hfz5_2 := zw BK241.out 2));go_ret;exact ⟨by first | rfl | (simp [zq, zt] <;> rfl) | (simp [*, zq, zt] <;> rfl), Zq3 HB GE241⟩
 ·rw [if_neg c3] at H
  have c3b0 : decide ((wrap64 (2 * a0_0)) < a0_2) = false := decide_eq_false c3;clear c3;replace H := Option.bind_eq_some_iff.mp H;obtain ⟨⟨t242, t243⟩, A60, H⟩ := H;replace H : (zba.l0 k a1 t243 a1 a0_0 a0_1 a0_2) = some r := H;have A6 := za.mk A60;clear A60;have H' := za.mk H;clear H;go_enter Try.func60, Try.ntmps60;go_wp2_with (first | ((with_reducible refine zb4 (N := 2) rfl ?_); refine zcb ?hg (N := 2) ?hd (cs := #[.int .i64 a0_0, .int .i64 a0_1, .int .i64 a0_2]) (t := 35) ?hr ?_; (case hd => rfl); (case hg => rfl); (case hr => first | (go_simp; done) | (go_simp; rfl)); intro gb241 hg w7 hbox hb; have n0_ := za.mk (zl (Zq1 HB) hb); have n1_ := za.mk (hbox); have n2_ := za.mk ((by rw [hg]; exact (zu (Zq1 HB)) : w.heap.size ≤ gb241)); have n3_ := za.mk ((by rw [hg]; exact (zu (Zq1 HB)) : w.heap.size ≤ gb241)); clear HB; have HB := n0_; have BK241 := n1_; have GW241 := n2_; have GE241 := n3_; clear n0_ n1_ n2_ n3_; clear hb hbox hg; have hcz8_0 : w7.cell? ⟨gb241, 0, none⟩ = some (.int .i64 a0_0) := (ze BK241.out 0).trans rfl; have hcz8_1 : w7.cell? ⟨gb241, 1, none⟩ = some (.int .i64 a0_1) := (ze BK241.out 1).trans rfl; have hcz8_2 : w7.cell? ⟨gb241, 2, none⟩ = some (.int .i64 a0_2) := (ze BK241.out 2).trans rfl; have hfz8_0 := zw BK241.out 0; have hfz8_1 := zw BK241.out 1; have hfz8_2 := zw BK241.out 2) | ((with_reducible refine zbd (f := 30) rfl ?_); refine zb6 (some 16) rfl rfl Try.func30 (by kernel_rfl) rfl #[.agg #[.int .i64 a0_0, .int .i64 a0_1, .int .i64 a0_2], .int .i64 a1] rfl Zmt ?_; (with_reducible refine (zbr.calls a0_0 a0_1 a0_2 a1 t242 t243 _ A6.out).mono ?_); rintro e w9 ⟨rfl, hb⟩; refine ⟨_, rfl, ?_⟩; have n0_ := za.mk (zbm (g := gb241) (o := .cells #[.int .i64 a0_0, .int .i64 a0_1, .int .i64 a0_2] 35 (0, 0)) (Zq2 BK241) hb); have n1_ := za.mk (zl (Zq3 HB GE241) hb); clear BK241; clear HB; have BK241 := n0_; have HB := n1_; clear n0_ n1_; (try clear hb); (try clear hb2); (try clear hk); (try clear hi)))
  go_loopg [6] k (fun kq v6 w' => ∃ (x6_1 : Int), v6 = .int .i64 x6_1 ∧ za (zba.l0 kq a1 t243 x6_1 a0_0 a0_1 a0_2 = some r) ∧ za (kq ≤ k) ∧ za (w'.heap[gb241]? = some (.cells #[.int .i64 a0_0, .int .i64 a0_1, .int .i64 a0_2] 35 (0, 0))) ∧ za (Below w.heap.size w w'))
  case atStart => exact ⟨(a1), Zrs, H', ⟨Nat.le_refl _⟩, ⟨Zq2 BK241⟩, ⟨Zq3 HB GE241⟩⟩
  case round =>
   clear H'
   (try clear p2);(try clear c3);(try clear c3b0);(try clear c6);(try clear p6);(try clear hcz5_0);(try clear hcz5_1);(try clear hcz5_2);(try clear hcz8_0);(try clear hcz8_1);(try clear hcz8_2);(try clear hfz5_0);(try clear hfz5_1);(try clear hfz5_2);(try clear hfz8_0);(try clear hfz8_1);(try clear hfz8_2)
   obtain ⟨x6_1, rfl, HA, HK1, BK241, HB⟩ := hrel
   cases gk with
   | zero => exact absurd HA.out (by simp [zba.l0])
   | succ k1 =>
    have H := HA.out;clear HA;simp only [zba.l0] at H;replace H := Option.bind_eq_some_iff.mp H;obtain ⟨⟨t244, t245⟩, A100, H⟩ := H;replace H : (if x6_1 > a1 then (if (wrap64 (t245 - t244)) ≥ 3 then (zba.j1 k1 a1 t243 x6_1 (decide ((wrap64 (t245 - 1)) ≥ t243)) a0_0 a0_1 a0_2 t244 t245) else (zba.j1 k1 a1 t243 x6_1 false a0_0 a0_1 a0_2 t244 t245)) else (zba.j1 k1 a1 t243 x6_1 false a0_0 a0_1 a0_2 t244 t245)) = some r := H;have A10 := za.mk A100;clear A100;have HC11 := za.mk H;clear H;have hcz12_0 : wr.cell? ⟨gb241, 0, none⟩ = some (.int .i64 a0_0) := (ze BK241.out 0).trans rfl;have hcz12_1 : wr.cell? ⟨gb241, 1, none⟩ = some (.int .i64 a0_1) := (ze BK241.out 1).trans rfl;have hcz12_2 : wr.cell? ⟨gb241, 2, none⟩ = some (.int .i64 a0_2) := (ze BK241.out 2).trans rfl;have hfz12_0 := zw BK241.out 0;have hfz12_1 := zw BK241.out 1;have hfz12_2 := zw BK241.out 2
    go_upto_region 7 with (first | ((with_reducible refine zbd (f := 30) rfl ?_); refine zb6 (some 23) rfl rfl Try.func30 (by kernel_rfl) rfl #[.agg #[.int .i64 a0_0, .int .i64 a0_1, .int .i64 a0_2], .int .i64 x6_1] rfl Zmt ?_; (with_reducible refine (zbr.calls a0_0 a0_1 a0_2 x6_1 t244 t245 _ A10.out).mono ?_); rintro e w13 ⟨rfl, hb⟩; refine ⟨_, rfl, ?_⟩; have n0_ := za.mk (zbm (g := gb241) (o := .cells #[.int .i64 a0_0, .int .i64 a0_1, .int .i64 a0_2] 35 (0, 0)) (Zq2 BK241) hb); have n1_ := za.mk (zl (Zq3 HB GE241) hb); clear BK241; clear HB; have BK241 := n0_; have HB := n1_; clear n0_ n1_; (try clear hb); (try clear hb2); (try clear hk); (try clear hi)) | ((with_reducible refine zb4 (N := 7) rfl ?_); refine zcb ?hg (N := 7) ?hd (cs := #[.int .i64 0, .int .i64 0]) (t := 39) ?hr ?_; (case hd => rfl); (case hg => rfl); (case hr => first | (go_simp; done) | (go_simp; rfl)); intro gb246 hg w14 hbox hb; have n0_ := za.mk (zbm (g := gb241) (o := .cells #[.int .i64 a0_0, .int .i64 a0_1, .int .i64 a0_2] 35 (0, 0)) (Zq2 BK241) hb); have n1_ := za.mk (zl (Zq3 HB GE241) hb); have n2_ := za.mk (hbox); have n3_ := za.mk ((by rw [hg]; exact (zu (Zq3 HB GE241)) : w.heap.size ≤ gb246)); have n4_ := za.mk ((by rw [hg]; exact (zu (Zq3 HB GE241)) : w.heap.size ≤ gb246)); have n5_ := za.mk ((by rw [hg]; exact Nat.ne_of_lt (zds (g := gb241) (o := .cells #[.int .i64 a0_0, .int .i64 a0_1, .int .i64 a0_2] 35 (0, 0)) (Zq2 BK241)) : gb241 ≠ gb246)); have n6_ := za.mk ((by rw [hg]; exact Nat.ne_of_gt (zds (g := gb241) (o := .cells #[.int .i64 a0_0, .int .i64 a0_1, .int .i64 a0_2] 35 (0, 0)) (Zq2 BK241)) : gb246 ≠ gb241)); clear BK241; clear HB; have BK241 := n0_; have HB := n1_; have BK246 := n2_; have GW246 := n3_; have GE246 := n4_; have NB241_246 := n5_; have NB246_241 := n6_; clear n0_ n1_ n2_ n3_ n4_ n5_ n6_; clear hb hbox hg; have hnb15 := NB246_241.out; have hnc15 := NB241_246.out; have hcz16_0 : w14.cell? ⟨gb246, 0, none⟩ = some (.int .i64 0) := (ze BK246.out 0).trans rfl; have hcz16_1 : w14.cell? ⟨gb246, 1, none⟩ = some (.int .i64 0) := (ze BK246.out 1).trans rfl; have hfz16_0 := zw BK246.out 0; have hfz16_1 := zw BK246.out 1))
    (try simp only [Act.put, Zs1, Zs2, Zs3])
    go_cut [24] (fun v24 wc => ∃ (kq : Nat) (x24_10 : Bool), v24 = .bool x24_10 ∧ za (zba.j1 kq a1 t243 x6_1 x24_10 a0_0 a0_1 a0_2 t244 t245 = some r) ∧ za (kq ≤ k1) ∧ za (wc.heap[gb241]? = some (.cells #[.int .i64 a0_0, .int .i64 a0_1, .int .i64 a0_2] 35 (0, 0))) ∧ za (wc.heap[gb246]? = some (.cells #[.int .i64 t244, .int .i64 t245] 39 (0, 0))) ∧ za (Below w.heap.size w wc))
    case first =>
     have H := HC11.out;clear HC11;by_cases c17 : x6_1 > a1
     ·rw [if_pos c17] at H
      have c17b0 : decide (a1 < x6_1) = true := decide_eq_true c17;clear c17;(first | rw [c17b0] | (simp only [zh, zi]; rw [c17b0]) | skip);by_cases c18 : (wrap64 (t245 - t244)) ≥ 3
      ·rw [if_pos c18] at H
       have c18b0 : decide (3 ≤ (wrap64 (t245 - t244))) = true := decide_eq_true c18;clear c18;have H' := za.mk H;clear H;have hnb19 := NB246_241.out;have hnc19 := NB241_246.out;have hcz20_0 : w14.cell? ⟨gb246, 0, none⟩ = some (.int .i64 0) := (ze BK246.out 0).trans rfl;have hcz20_1 : w14.cell? ⟨gb246, 1, none⟩ = some (.int .i64 0) := (ze BK246.out 1).trans rfl;have hfz20_0 := zw BK246.out 0;have hfz20_1 := zw BK246.out 1;go_wp2;go_meet
       case rel => exact ⟨_, (decide ((wrap64 (t245 - 1)) ≥ t243)), Zrs, H', ⟨by have := HK1.out; first | omega | exact Nat.le_refl _⟩, ⟨by (with_reducible repeat (first | refine zbi ?_ _ | refine zbf ?_ | refine zbh ?_ _)); refine zc9 ?_ NB241_246.out _; (with_reducible repeat (first | refine zbi ?_ _ | refine zbf ?_ | refine zbh ?_ _)); refine zc9 ?_ NB241_246.out _; (with_reducible repeat (first | refine zbi ?_ _ | refine zbf ?_ | refine zbh ?_ _)); exact BK241.out⟩, ⟨by (with_reducible repeat (first | refine zbi ?_ _ | refine zbf ?_ | refine zbh ?_ _)); refine zcv (cs := #[.int .i64 t244, .int .i64 0]) ?_ 1 _ rfl; (with_reducible repeat (first | refine zbi ?_ _ | refine zbf ?_ | refine zbh ?_ _)); refine zcv (cs := #[.int .i64 0, .int .i64 0]) ?_ 0 _ rfl; (with_reducible repeat (first | refine zbi ?_ _ | refine zbf ?_ | refine zbh ?_ _)); exact BK246.out⟩, ⟨Zq19 HB GE241 GE246⟩⟩
      ·rw [if_neg c18] at H
       have c18b0 : decide (3 ≤ (wrap64 (t245 - t244))) = false := decide_eq_false c18;clear c18;have H' := za.mk H;clear H;have hnb21 := NB246_241.out;have hnc21 := NB241_246.out;have hcz22_0 : w14.cell? ⟨gb246, 0, none⟩ = some (.int .i64 0) := (ze BK246.out 0).trans rfl;have hcz22_1 : w14.cell? ⟨gb246, 1, none⟩ = some (.int .i64 0) := (ze BK246.out 1).trans rfl;have hfz22_0 := zw BK246.out 0;have hfz22_1 := zw BK246.out 1;go_wp2;go_meet
       case rel => exact ⟨_, (false), Zrs, H', ⟨by have := HK1.out; first | omega | exact Nat.le_refl _⟩, ⟨by (with_reducible repeat (first | refine zbi ?_ _ | refine zbf ?_ | refine zbh ?_ _)); refine zc9 ?_ NB241_246.out _; (with_reducible repeat (first | refine zbi ?_ _ | refine zbf ?_ | refine zbh ?_ _)); refine zc9 ?_ NB241_246.out _; (with_reducible repeat (first | refine zbi ?_ _ | refine zbf ?_ | refine zbh ?_ _)); exact BK241.out⟩, ⟨by (with_reducible repeat (first | refine zbi ?_ _ | refine zbf ?_ | refine zbh ?_ _)); refine zcv (cs := #[.int .i64 t244, .int .i64 0]) ?_ 1 _ rfl; (with_reducible repeat (first | refine zbi ?_ _ | refine zbf ?_ | refine zbh ?_ _)); refine zcv (cs := #[.int .i64 0, .int .i64 0]) ?_ 0 _ rfl; (with_reducible repeat (first | refine zbi ?_ _ | refine zbf ?_ | refine zbh ?_ _)); exact BK246.out⟩, ⟨Zq19 HB GE241 GE246⟩⟩
     ·rw [if_neg c17] at H
      have c17b0 : decide (a1 < x6_1) = false := decide_eq_false c17;clear c17;(first | rw [c17b0] | (simp only [zh, zi]; rw [c17b0]) | skip);have H' := za.mk H;clear H;go_wp2;go_meet
      case rel => exact ⟨_, (false), Zrs, H', ⟨by have := HK1.out; first | omega | exact Nat.le_refl _⟩, ⟨by (with_reducible repeat (first | refine zbi ?_ _ | refine zbf ?_ | refine zbh ?_ _)); refine zc9 ?_ NB241_246.out _; (with_reducible repeat (first | refine zbi ?_ _ | refine zbf ?_ | refine zbh ?_ _)); refine zc9 ?_ NB241_246.out _; (with_reducible repeat (first | refine zbi ?_ _ | refine zbf ?_ | refine zbh ?_ _)); exact BK241.out⟩, ⟨by (with_reducible repeat (first | refine zbi ?_ _ | refine zbf ?_ | refine zbh ?_ _)); refine zcv (cs := #[.int .i64 t244, .int .i64 0]) ?_ 1 _ rfl; (with_reducible repeat (first | refine zbi ?_ _ | refine zbf ?_ | refine zbh ?_ _)); refine zcv (cs := #[.int .i64 0, .int .i64 0]) ?_ 0 _ rfl; (with_reducible repeat (first | refine zbi ?_ _ | refine zbf ?_ | refine zbh ?_ _)); exact BK246.out⟩, ⟨Zq19 HB GE241 GE246⟩⟩
    case rest =>
     clear HC11
     (try clear c1);(try clear c2);(try clear p2);(try clear c3);(try clear c3b0);(try clear c6);(try clear p6);(try clear c15);(try clear c17);(try clear c17b0);(try clear c18);(try clear c18b0);(try clear c19);(try clear c21);(try clear hcz12_0);(try clear hcz12_1);(try clear hcz12_2);(try clear hcz16_0);(try clear hcz16_1);(try clear hcz20_0);(try clear hcz20_1);(try clear hcz22_0);(try clear hcz22_1);(try clear hcz5_0);(try clear hcz5_1);(try clear hcz5_2);(try clear hcz8_0);(try clear hcz8_1);(try clear hcz8_2);(try clear hfz12_0);(try clear hfz12_1);(try clear hfz12_2);(try clear hfz16_0);(try clear hfz16_1);(try clear hfz20_0);(try clear hfz20_1);(try clear hfz22_0);(try clear hfz22_1);(try clear hfz5_0);(try clear hfz5_1);(try clear hfz5_2);(try clear hfz8_0);(try clear hfz8_1);(try clear hfz8_2);(try clear p2);(try clear p6)
     obtain ⟨kq, x24_10, rfl, HA, HJ10, BK241, BK246, HB⟩ := hcut
     cases kq with
     | zero => exact absurd HA.out (by simp [zba.j1])
     | succ kj10 =>
      have H := HA.out;clear HA;simp only [zba.j1] at H;by_cases c23 : x24_10 = true
      ·subst c23
       have H1 : (some (wrap64 (t245 - 1))) = some r := by rw [if_pos rfl] at H; exact H
       clear H;have H := H1;clear H1;obtain rfl := Option.some.inj H;have hnb24 := NB246_241.out;have hnc24 := NB241_246.out;have hcz25_0 : wc.cell? ⟨gb246, 0, none⟩ = some (.int .i64 t244) := (ze BK246.out 0).trans rfl;have hcz25_1 : wc.cell? ⟨gb246, 1, none⟩ = some (.int .i64 t245) := (ze BK246.out 1).trans rfl;have hfz25_0 := zw BK246.out 0;have hfz25_1 := zw BK246.out 1;go_wp2;go_ret;exact ⟨by first | rfl | (simp [zq, zt] <;> rfl) | (simp [*, zq, zt] <;> rfl), Zq19 HB GE241 GE246⟩
      ·replace c23 := Bool.eq_false_iff.mpr c23
       subst c23;have H1 : ((zbt.f a0_0 a0_1 a0_2 x6_1).bind fun t247 => (if t247 = true then (zba.l0 kj10 a1 t243 (wrap64 (x6_1 + 1)) a0_0 a0_1 a0_2) else (some t245))) = some r := by rw [if_neg (show ¬ (false = true) by decide)] at H; exact H
       clear H;have H := H1;clear H1;replace H := Option.bind_eq_some_iff.mp H;obtain ⟨t247, A260, H⟩ := H;replace H : (if t247 = true then (zba.l0 kj10 a1 t243 (wrap64 (x6_1 + 1)) a0_0 a0_1 a0_2) else (some t245)) = some r := H;have A26 := za.mk A260;clear A260;by_cases c27 : t247 = true
       ·subst c27
        have H1 : (zba.l0 kj10 a1 t243 (wrap64 (x6_1 + 1)) a0_0 a0_1 a0_2) = some r := by rw [if_pos rfl] at H; exact H
        clear H;have H := H1;clear H1;have H' := za.mk H;clear H;have hnb28 := NB241_246.out;have hnc28 := NB246_241.out;have hcz29_0 : wc.cell? ⟨gb241, 0, none⟩ = some (.int .i64 a0_0) := (ze BK241.out 0).trans rfl;have hcz29_1 : wc.cell? ⟨gb241, 1, none⟩ = some (.int .i64 a0_1) := (ze BK241.out 1).trans rfl;have hcz29_2 : wc.cell? ⟨gb241, 2, none⟩ = some (.int .i64 a0_2) := (ze BK241.out 2).trans rfl;have hfz29_0 := zw BK241.out 0;have hfz29_1 := zw BK241.out 1;have hfz29_2 := zw BK241.out 2;go_wp2_with (first | ((with_reducible refine zbd (f := 59) rfl ?_); refine zb6 (some 49) rfl rfl Try.func59 (by kernel_rfl) rfl #[.agg #[.int .i64 a0_0, .int .i64 a0_1, .int .i64 a0_2], .int .i64 x6_1] rfl Zmt ?_; (with_reducible refine (zbt.calls a0_0 a0_1 a0_2 x6_1 true _ A26.out).mono ?_); rintro e w30 ⟨rfl, hb⟩; refine ⟨_, rfl, ?_⟩; have n0_ := za.mk (zbm (g := gb241) (o := .cells #[.int .i64 a0_0, .int .i64 a0_1, .int .i64 a0_2] 35 (0, 0)) (Zq2 BK241) hb); have n1_ := za.mk (zbm (g := gb246) (o := .cells #[.int .i64 t244, .int .i64 t245] 39 (0, 0)) (Zq2 BK246) hb); have n2_ := za.mk (zl (Zq19 HB GE241 GE246) hb); clear BK241; clear BK246; clear HB; have BK241 := n0_; have BK246 := n1_; have HB := n2_; clear n0_ n1_ n2_; (try clear hb); (try clear hb2); (try clear hk); (try clear hi)));go_roundg kj10
        case measure => have := HK1.out; have := HJ10.out; omega
        case rel => exact ⟨(wrap64 (x6_1 + 1)), Zrs, H', ⟨by have := HK1.out; have := HJ10.out; omega⟩, ⟨Zq2 BK241⟩, ⟨Zq19 HB GE241 GE246⟩⟩
       ·replace c27 := Bool.eq_false_iff.mpr c27
        subst c27;have H1 : (some t245) = some r := by rw [if_neg (show ¬ (false = true) by decide)] at H; exact H
        clear H;have H := H1;clear H1;obtain rfl := Option.some.inj H;have hnb31 := NB241_246.out;have hnc31 := NB246_241.out;have hcz32_0 : wc.cell? ⟨gb241, 0, none⟩ = some (.int .i64 a0_0) := (ze BK241.out 0).trans rfl;have hcz32_1 : wc.cell? ⟨gb241, 1, none⟩ = some (.int .i64 a0_1) := (ze BK241.out 1).trans rfl;have hcz32_2 : wc.cell? ⟨gb241, 2, none⟩ = some (.int .i64 a0_2) := (ze BK241.out 2).trans rfl;have hfz32_0 := zw BK241.out 0;have hfz32_1 := zw BK241.out 1;have hfz32_2 := zw BK241.out 2;go_wp2_with (first | ((with_reducible refine zbd (f := 59) rfl ?_); refine zb6 (some 49) rfl rfl Try.func59 (by kernel_rfl) rfl #[.agg #[.int .i64 a0_0, .int .i64 a0_1, .int .i64 a0_2], .int .i64 x6_1] rfl Zmt ?_; (with_reducible refine (zbt.calls a0_0 a0_1 a0_2 x6_1 false _ A26.out).mono ?_); rintro e w33 ⟨rfl, hb⟩; refine ⟨_, rfl, ?_⟩; have n0_ := za.mk (zbm (g := gb241) (o := .cells #[.int .i64 a0_0, .int .i64 a0_1, .int .i64 a0_2] 35 (0, 0)) (Zq2 BK241) hb); have n1_ := za.mk (zbm (g := gb246) (o := .cells #[.int .i64 t244, .int .i64 t245] 39 (0, 0)) (Zq2 BK246) hb); have n2_ := za.mk (zl (Zq19 HB GE241 GE246) hb); clear BK241; clear BK246; clear HB; have BK241 := n0_; have BK246 := n1_; have HB := n2_; clear n0_ n1_ n2_; (try clear hb); (try clear hb2); (try clear hk); (try clear hi); have hcz34_0 : w33.cell? ⟨gb246, 0, none⟩ = some (.int .i64 t244) := (ze BK246.out 0).trans rfl; have hcz34_1 : w33.cell? ⟨gb246, 1, none⟩ = some (.int .i64 t245) := (ze BK246.out 1).trans rfl; have hfz34_0 := zw BK246.out 0; have hfz34_1 := zw BK246.out 1));go_ret;exact ⟨by first | rfl | (simp [zq, zt] <;> rfl) | (simp [*, zq, zt] <;> rfl), Zq19 HB GE241 GE246⟩
mutual
def zbe.j0 : Nat → Int → Int → Bool → Bool → Bool → Int → Int → Int → Int → Int → Int → Option (Int)
 | 0, _, _, _, _, _, _, _, _, _, _, _ => none
 | k + 1, x1, x3, x10, x11, x30, x249000, x249001, x249002, x250000, x250001, x250002 => if x30 = true then (some (-1)) else (if x11 = true then (zbe.j1 k x1 x3 x10 (!x10) x249000 x249001 x249002 x250000 x250001 x250002) else (zbe.j1 k x1 x3 x10 false x249000 x249001 x249002 x250000 x250001 x250002))
def zbe.j1 : Nat → Int → Int → Bool → Bool → Int → Int → Int → Int → Int → Int → Option (Int)
 | 0, _, _, _, _, _, _, _, _, _, _ => none
 | k + 1, x1, x3, x10, x36, x249000, x249001, x249002, x250000, x250001, x250002 => if x36 = true then (some 1) else (if x10 = true then ((zba.f k x250000 x250001 x250002 x3).bind fun t257 => ((zba.f k x249000 x249001 x249002 x1).bind fun t258 => ((cmp_Compare_int.f t257 t258).bind fun t259 => (some t259)))) else (some 0))
end
def zbe.f (k : Nat) (a0_0 : Int) (a0_1 : Int) (a0_2 : Int) (a1 : Int) (a2_0 : Int) (a2_1 : Int) (a2_2 : Int) (a3 : Int) : Option (Int) := (zbr.f a0_0 a0_1 a0_2 a1).bind fun bt250 => ((zbr.f a2_0 a2_1 a2_2 a3).bind fun bt252 => ((cmp_Compare_int.f bt250.2 bt252.2).bind fun t254 => (if t254 = 0 then ((zbt.f a0_0 a0_1 a0_2 a1).bind fun t255 => ((zbt.f a2_0 a2_1 a2_2 a3).bind fun t256 => (if t255 = true then (zbe.j0 k a1 a3 t255 t256 (!t256) a0_0 a0_1 a0_2 a2_0 a2_1 a2_2) else (zbe.j0 k a1 a3 t255 t256 false a0_0 a0_1 a0_2 a2_0 a2_1 a2_2)))) else (some t254))))
def zbe.T1 : Bool × List (List Nat × List Nat) := (true, [([], []), ([], []), ([0, 1], [0, 1]), ([2], [2]), ([], []), ([], []), ([4, 5, 2], [4, 5]), ([6], [6]), ([3, 7, 6], [3, 7]), ([8, 8, 0, 1, 2, 3, 4, 5, 6, 7, 8], [8])])
def zbe.B1 : List Nat := [0, 0, 3, 7, 0, 0, 55, 119, 255, 511]
theorem zbe.tab1 : rtab .any (opsOf Try.f33 1) = zbe.T1 := by kernel_rfl
theorem zbe.zen : zcw zbe.T1.2 zbe.B1 = true := by kernel_rfl
def zbe.T4 : Bool × List (List Nat × List Nat) := (true, [([], []), ([], []), ([0, 1], [0, 1]), ([], []), ([], []), ([3, 4, 2], [3, 4]), ([2, 5, 0, 1, 2], [2]), ([5, 6, 0, 1, 2, 3, 4, 5, 6], [5])])
def zbe.B4 : List Nat := [0, 0, 3, 0, 0, 31, 63, 127]
theorem zbe.tab4 : rtab .any (opsOf Try.f33 4) = zbe.T4 := by kernel_rfl
theorem zbe.bits4 : zcw zbe.T4.2 zbe.B4 = true := by kernel_rfl
def zbe.T10 : Bool × List (List Nat × List Nat) := (true, [([], []), ([], []), ([0, 1], [0, 1]), ([], []), ([], []), ([3, 4, 2], [3, 4]), ([2, 5, 5], [2, 5]), ([6, 6, 0, 1, 2, 3, 4, 5, 6], [6])])
def zbe.B10 : List Nat := [0, 0, 3, 0, 0, 31, 63, 127]
theorem zbe.tab10 : rtab .any (opsOf Try.f33 10) = zbe.T10 := by kernel_rfl
theorem zbe.zhh : zcw zbe.T10.2 zbe.B10 = true := by kernel_rfl
set_option maxHeartbeats 8000000 in
theorem zbe.calls (k : Nat) (a0_0 : Int) (a0_1 : Int) (a0_2 : Int) (a1 : Int) (a2_0 : Int) (a2_1 : Int) (a2_2 : Int) (a3 : Int) (r : Int) (w : World) (h : zbe.f k a0_0 a0_1 a0_2 a1 a2_0 a2_1 a2_2 a3 = some r) :
  Calls Try.prog 33 #[.agg #[.int .i64 a0_0, .int .i64 a0_1, .int .i64 a0_2], .int .i64 a1, .agg #[.int .i64 a2_0, .int .i64 a2_1, .int .i64 a2_2], .int .i64 a3] w fun e w' => e = .returned (.int .i64 r) ∧ Below w.heap.size w w' := by
 have hfld39_0 : ∀ (v0_ v1_ : Value) (W : World), (Instr.field 39 (.agg #[v0_, v1_]) 0).run Try.prog W = .ok v0_ W := fun _ _ _ => rfl
 have hfld39_1 : ∀ (v0_ v1_ : Value) (W : World), (Instr.field 39 (.agg #[v0_, v1_]) 1).run Try.prog W = .ok v1_ W := fun _ _ _ => rfl
 have hu35 := Try.underlying35
 have HB := za.mk (Below.refl w.heap.size w)
 have H : ((zbr.f a0_0 a0_1 a0_2 a1).bind fun bt250 => ((zbr.f a2_0 a2_1 a2_2 a3).bind fun bt252 => ((cmp_Compare_int.f bt250.2 bt252.2).bind fun t254 => (if t254 = 0 then ((zbt.f a0_0 a0_1 a0_2 a1).bind fun t255 => ((zbt.f a2_0 a2_1 a2_2 a3).bind fun t256 => (if t255 = true then (zbe.j0 k a1 a3 t255 t256 (!t256) a0_0 a0_1 a0_2 a2_0 a2_1 a2_2) else (zbe.j0 k a1 a3 t255 t256 false a0_0 a0_1 a0_2 a2_0 a2_1 a2_2)))) else (some t254))))) = some r := h
 clear h
 replace H := Option.bind_eq_some_iff.mp H
 obtain ⟨⟨t250, t251⟩, A50, H⟩ := H
 replace H : ((zbr.f a2_0 a2_1 a2_2 a3).bind fun bt252 => ((cmp_Compare_int.f t251 bt252.2).bind fun t254 => (if t254 = 0 then ((zbt.f a0_0 a0_1 a0_2 a1).bind fun t255 => ((zbt.f a2_0 a2_1 a2_2 a3).bind fun t256 => (if t255 = true then (zbe.j0 k a1 a3 t255 t256 (!t256) a0_0 a0_1 a0_2 a2_0 a2_1 a2_2) else (zbe.j0 k a1 a3 t255 t256 false a0_0 a0_1 a0_2 a2_0 a2_1 a2_2)))) else (some t254)))) = some r := H
 have A5 := za.mk A50
 clear A50
 replace H := Option.bind_eq_some_iff.mp H
 obtain ⟨⟨t252, t253⟩, A60, H⟩ := H
 replace H : ((cmp_Compare_int.f t251 t253).bind fun t254 => (if t254 = 0 then ((zbt.f a0_0 a0_1 a0_2 a1).bind fun t255 => ((zbt.f a2_0 a2_1 a2_2 a3).bind fun t256 => (if t255 = true then (zbe.j0 k a1 a3 t255 t256 (!t256) a0_0 a0_1 a0_2 a2_0 a2_1 a2_2) else (zbe.j0 k a1 a3 t255 t256 false a0_0 a0_1 a0_2 a2_0 a2_1 a2_2)))) else (some t254))) = some r := H
 have A6 := za.mk A60
 clear A60
 replace H := Option.bind_eq_some_iff.mp H
 obtain ⟨t254, A70, H⟩ := H
 replace H : (if t254 = 0 then ((zbt.f a0_0 a0_1 a0_2 a1).bind fun t255 => ((zbt.f a2_0 a2_1 a2_2 a3).bind fun t256 => (if t255 = true then (zbe.j0 k a1 a3 t255 t256 (!t256) a0_0 a0_1 a0_2 a2_0 a2_1 a2_2) else (zbe.j0 k a1 a3 t255 t256 false a0_0 a0_1 a0_2 a2_0 a2_1 a2_2)))) else (some t254)) = some r := H
 have A7 := za.mk A70
 clear A70
 by_cases c8 : t254 = 0
 ·rw [if_pos c8] at H
  have c8b0 : (t254 == 0) = true := beq_iff_eq.mpr c8;have c8b1 : (t254 != 0) = false := bne_eq_false_iff_eq.mpr c8;clear c8;replace H := Option.bind_eq_some_iff.mp H;obtain ⟨t255, A90, H⟩ := H;replace H : ((zbt.f a2_0 a2_1 a2_2 a3).bind fun t256 => (if t255 = true then (zbe.j0 k a1 a3 t255 t256 (!t256) a0_0 a0_1 a0_2 a2_0 a2_1 a2_2) else (zbe.j0 k a1 a3 t255 t256 false a0_0 a0_1 a0_2 a2_0 a2_1 a2_2))) = some r := H;have A9 := za.mk A90;clear A90;replace H := Option.bind_eq_some_iff.mp H;obtain ⟨t256, A100, H⟩ := H;replace H : (if t255 = true then (zbe.j0 k a1 a3 t255 t256 (!t256) a0_0 a0_1 a0_2 a2_0 a2_1 a2_2) else (zbe.j0 k a1 a3 t255 t256 false a0_0 a0_1 a0_2 a2_0 a2_1 a2_2)) = some r := H;have A10 := za.mk A100;clear A100;have HC11 := za.mk H;clear H;go_enter Try.func33, Try.ntmps33
  try go_wp2_with (first | ((with_reducible refine zb4 (N := 4) rfl ?_); refine zcb ?hg (N := 4) ?hd (cs := #[.int .i64 a0_0, .int .i64 a0_1, .int .i64 a0_2]) (t := 35) ?hr ?_; (case hd => rfl); (case hg => rfl); (case hr => first | (go_simp; done) | (go_simp; rfl)); intro gb248 hg w12 hbox hb; have n0_ := za.mk (zl (Zq1 HB) hb); have n1_ := za.mk (hbox); have n2_ := za.mk ((by rw [hg]; exact (zu (Zq1 HB)) : w.heap.size ≤ gb248)); have n3_ := za.mk ((by rw [hg]; exact (zu (Zq1 HB)) : w.heap.size ≤ gb248)); clear HB; have HB := n0_; have BK248 := n1_; have GW248 := n2_; have GE248 := n3_; clear n0_ n1_ n2_ n3_; clear hb hbox hg) | ((with_reducible refine zb4 (N := 6) rfl ?_); refine zcb ?hg (N := 6) ?hd (cs := #[.int .i64 a2_0, .int .i64 a2_1, .int .i64 a2_2]) (t := 35) ?hr ?_; (case hd => rfl); (case hg => rfl); (case hr => first | (go_simp; done) | (go_simp; rfl)); intro gb249 hg w13 hbox hb; have n0_ := za.mk (zbm (g := gb248) (o := .cells #[.int .i64 a0_0, .int .i64 a0_1, .int .i64 a0_2] 35 (0, 0)) (Zq2 BK248) hb); have n1_ := za.mk (zl (Zq3 HB GE248) hb); have n2_ := za.mk (hbox); have n3_ := za.mk ((by rw [hg]; exact (zu (Zq3 HB GE248)) : w.heap.size ≤ gb249)); have n4_ := za.mk ((by rw [hg]; exact (zu (Zq3 HB GE248)) : w.heap.size ≤ gb249)); have n5_ := za.mk ((by rw [hg]; exact Nat.ne_of_lt (zds (g := gb248) (o := .cells #[.int .i64 a0_0, .int .i64 a0_1, .int .i64 a0_2] 35 (0, 0)) (Zq2 BK248)) : gb248 ≠ gb249)); have n6_ := za.mk ((by rw [hg]; exact Nat.ne_of_gt (zds (g := gb248) (o := .cells #[.int .i64 a0_0, .int .i64 a0_1, .int .i64 a0_2] 35 (0, 0)) (Zq2 BK248)) : gb249 ≠ gb248)); clear BK248; clear HB; have BK248 := n0_; have HB := n1_; have BK249 := n2_; have GW249 := n3_; have GE249 := n4_; have NB248_249 := n5_; have NB249_248 := n6_; clear n0_ n1_ n2_ n3_ n4_ n5_ n6_; clear hb hbox hg))
  have n0_ := za.mk (zbf BK248.out);have n1_ := za.mk (zbf BK249.out);have n2_ := za.mk (zbk HB.out);clear BK248;clear BK249;clear HB;have BK248 := n0_;have BK249 := n1_;have HB := n2_;clear n0_ n1_ n2_;refine zcn (n := 10) (S := fun w' => w'.cell? ⟨gb248, 0, none⟩ = some (.int .i64 a0_0) ∧ w'.cell? ⟨gb248, 1, none⟩ = some (.int .i64 a0_1) ∧ w'.cell? ⟨gb248, 2, none⟩ = some (.int .i64 a0_2) ∧ w'.cell? ⟨gb249, 0, none⟩ = some (.int .i64 a2_0) ∧ w'.cell? ⟨gb249, 1, none⟩ = some (.int .i64 a2_1) ∧ w'.cell? ⟨gb249, 2, none⟩ = some (.int .i64 a2_2)) (ds := []) #[false, false, false, false, false, false, false, false, false, false] (by kernel_rfl) rfl rfl ⟨(ze BK248.out 0).trans rfl, (ze BK248.out 1).trans rfl, (ze BK248.out 2).trans rfl, (ze BK249.out 0).trans rfl, (ze BK249.out 1).trans rfl, (ze BK249.out 2).trans rfl⟩ (fun hHeld => ?_); refine zbw zbe.tab1 zbe.zen (fun HT_ HW_ => ?_);generalize w13.drew = w14 at BK248 BK249 HB hHeld ⊢;refine zn (i := 1) (N := some 13) (v := ?_) (a' := ?_) #[false, true, false, false, false, false, false, false, false, false] rfl rfl (zg HT_.out (by kernel_rfl)) (fun _ _ _ h => h) (Or.inl ⟨by rfl, ?_⟩) ?_ ?_;rotate_left
  ·intro w'
   go_simp;with_reducible rfl
  rotate_left
  ·simp only [Act.put, Zs1, Zs2, Zs3, zh, zi]
   rfl
  refine zn (i := 5) (N := some 17) (v := ?_) (a' := ?_) #[false, true, false, false, false, true, false, false, false, false] rfl rfl (zg HT_.out (by kernel_rfl)) (fun _ _ _ h => h) (Or.inl ⟨by rfl, ?_⟩) ?_ ?_;rotate_left
  ·intro w'
   go_simp;with_reducible rfl
  rotate_left
  ·simp only [Act.put, Zs1, Zs2, Zs3, zh, zi]
   rfl
  refine zb3 (i := 0) (N := some 12) (v := ?_) (a' := ?_) #[true, true, false, false, false, true, false, false, false, false] rfl rfl (zbc HT_.out HW_.out (by kernel_rfl)) (fun _ _ _ h => h) (Or.inl ⟨by rfl, ?_⟩) hHeld ?_ ?_;rotate_left
  ·rintro w' ⟨s0, s1, s2, s3, s4, s5⟩
   go_simp;with_reducible rfl
  rotate_left
  ·simp only [Act.put, Zs1, Zs2, Zs3, zh, zi]
   rfl
  refine zb3 (i := 4) (N := some 16) (v := ?_) (a' := ?_) #[true, true, false, false, true, true, false, false, false, false] rfl rfl (zbc HT_.out HW_.out (by kernel_rfl)) (fun _ _ _ h => h) (Or.inl ⟨by rfl, ?_⟩) hHeld ?_ ?_;rotate_left
  ·rintro w' ⟨s0, s1, s2, s3, s4, s5⟩
   go_simp;with_reducible rfl
  rotate_left
  ·simp only [Act.put, Zs1, Zs2, Zs3, zh, zi]
   rfl
  refine one_ (i := 2) (N := some 14) #[true, true, true, false, true, true, false, false, false, false] rfl rfl (zb0 HT_.out (by kernel_rfl)) (by decide) (fun K hK => ?_);refine zcs Try.func30 (by kernel_rfl) rfl #[.agg #[.int .i64 a0_0, .int .i64 a0_1, .int .i64 a0_2], .int .i64 a1] (by rfl) rfl rfl Zmt ?_;with_reducible refine (zbr.calls a0_0 a0_1 a0_2 a1 t250 t251 _ A5.out).mono ?_
  rintro e w15 ⟨rfl, hb⟩;refine ⟨_, rfl, ?_⟩;have n0_ := za.mk (zbm (g := gb248) (o := .cells #[.int .i64 a0_0, .int .i64 a0_1, .int .i64 a0_2] 35 (0, 0)) (Zq2 BK248) hb);have n1_ := za.mk (zbm (g := gb249) (o := .cells #[.int .i64 a2_0, .int .i64 a2_1, .int .i64 a2_2] 35 (0, 0)) (Zq2 BK249) hb);have n2_ := za.mk (zl (Zq19 HB GE248 GE249) hb);clear BK248;clear BK249;clear HB;have BK248 := n0_;have BK249 := n1_;have HB := n2_;clear n0_ n1_ n2_;(try clear hb);(try clear hb2);(try clear hk);(try clear hi);refine hK.out _ _ ⟨(ze BK248.out 0).trans rfl, (ze BK248.out 1).trans rfl, (ze BK248.out 2).trans rfl, (ze BK249.out 0).trans rfl, (ze BK249.out 1).trans rfl, (ze BK249.out 2).trans rfl⟩ (fun hHeld => ?_);clear hK K;refine zcd (a' := ?_) ?_ ?_;rotate_left
  ·show Act.put _ (some 14) _ = _
   simp only [Act.put, Zs1, Zs2, Zs3, zh, zi];rfl
  refine zn (i := 3) (N := some 15) (v := ?_) (a' := ?_) #[true, true, true, true, true, true, false, false, false, false] rfl rfl (zg HT_.out (by kernel_rfl)) (fun _ _ _ h => h) (Or.inl ⟨by rfl, ?_⟩) ?_ ?_;rotate_left
  ·intro w'
   go_simp;with_reducible rfl
  rotate_left
  ·simp only [Act.put, Zs1, Zs2, Zs3, zh, zi]
   rfl
  refine one_ (i := 6) (N := some 18) #[true, true, true, true, true, true, true, false, false, false] rfl rfl (zb0 HT_.out (by kernel_rfl)) (by decide) (fun K hK => ?_);refine zcs Try.func30 (by kernel_rfl) rfl #[.agg #[.int .i64 a2_0, .int .i64 a2_1, .int .i64 a2_2], .int .i64 a3] (by rfl) rfl rfl Zmt ?_;with_reducible refine (zbr.calls a2_0 a2_1 a2_2 a3 t252 t253 _ A6.out).mono ?_
  rintro e w16 ⟨rfl, hb⟩;refine ⟨_, rfl, ?_⟩;have n0_ := za.mk (zbm (g := gb248) (o := .cells #[.int .i64 a0_0, .int .i64 a0_1, .int .i64 a0_2] 35 (0, 0)) (Zq2 BK248) hb);have n1_ := za.mk (zbm (g := gb249) (o := .cells #[.int .i64 a2_0, .int .i64 a2_1, .int .i64 a2_2] 35 (0, 0)) (Zq2 BK249) hb);have n2_ := za.mk (zl (Zq19 HB GE248 GE249) hb);clear BK248;clear BK249;clear HB;have BK248 := n0_;have BK249 := n1_;have HB := n2_;clear n0_ n1_ n2_;(try clear hb);(try clear hb2);(try clear hk);(try clear hi);refine hK.out _ _ ⟨(ze BK248.out 0).trans rfl, (ze BK248.out 1).trans rfl, (ze BK248.out 2).trans rfl, (ze BK249.out 0).trans rfl, (ze BK249.out 1).trans rfl, (ze BK249.out 2).trans rfl⟩ (fun hHeld => ?_);clear hK K;refine zcd (a' := ?_) ?_ ?_;rotate_left
  ·show Act.put _ (some 18) _ = _
   simp only [Act.put, Zs1, Zs2, Zs3, zh, zi];rfl
  refine zn (i := 7) (N := some 19) (v := ?_) (a' := ?_) #[true, true, true, true, true, true, true, true, false, false] rfl rfl (zg HT_.out (by kernel_rfl)) (fun _ _ _ h => h) (Or.inl ⟨by rfl, ?_⟩) ?_ ?_;rotate_left
  ·intro w'
   go_simp;with_reducible rfl
  rotate_left
  ·simp only [Act.put, Zs1, Zs2, Zs3, zh, zi]
   rfl
  refine one_ (i := 8) (N := some 20) #[true, true, true, true, true, true, true, true, true, false] rfl rfl (zb0 HT_.out (by kernel_rfl)) (by decide) (fun K hK => ?_);refine zcs Try.func58 (by kernel_rfl) rfl #[.int .i64 t251, .int .i64 t253] (by rfl) rfl rfl Zmt ?_;with_reducible refine (cmp_Compare_int.calls t251 t253 t254 _ A7.out).mono ?_
  rintro e w' ⟨rfl, ⟨nd, rfl⟩⟩;refine ⟨_, rfl, ?_⟩;refine hK.out _ _ ⟨(ze BK248.out 0).trans rfl, (ze BK248.out 1).trans rfl, (ze BK248.out 2).trans rfl, (ze BK249.out 0).trans rfl, (ze BK249.out 1).trans rfl, (ze BK249.out 2).trans rfl⟩ (fun hHeld => ?_);clear hK K;refine zcd (a' := ?_) ?_ ?_;rotate_left
  ·show Act.put _ (some 20) _ = _
   simp only [Act.put, Zs1, Zs2, Zs3, zh, zi];rfl
  refine zn (i := 9) (N := some 9) (v := ?_) (a' := ?_) #[true, true, true, true, true, true, true, true, true, true] rfl rfl (zg HT_.out (by kernel_rfl)) (fun _ _ _ h => h) (Or.inl ⟨by rfl, ?_⟩) ?_ ?_;rotate_left
  ·intro w'
   go_simp;with_reducible rfl
  rotate_left
  ·simp only [Act.put, Zs1, Zs2, Zs3, zh, zi]
   rfl
  refine zc5 (zb9 HT_.out (by kernel_rfl)) ?_
  try go_wp2
  (try (rw [zdz w16]; generalize hq_ : World.drewN w16 _ = w16; have n0_ : za (w16.heap[gb248]? = some (.cells #[.int .i64 a0_0, .int .i64 a0_1, .int .i64 a0_2] 35 (0, 0))) := ⟨by rw [← hq_]; exact (Zq2 BK248)⟩; have n1_ : za (w16.heap[gb249]? = some (.cells #[.int .i64 a2_0, .int .i64 a2_1, .int .i64 a2_2] 35 (0, 0))) := ⟨by rw [← hq_]; exact (Zq2 BK249)⟩; have n2_ : za (Below w.heap.size w w16) := ⟨by rw [← hq_]; exact (Zq19 HB GE248 GE249)⟩; clear BK248 BK249 HB hq_; have BK248 := n0_; have BK249 := n1_; have HB := n2_; clear n0_ n1_ n2_));have n0_ := za.mk (zbf BK248.out);have n1_ := za.mk (zbf BK249.out);have n2_ := za.mk (zbk HB.out);clear BK248;clear BK249;clear HB;have BK248 := n0_;have BK249 := n1_;have HB := n2_;clear n0_ n1_ n2_;refine zcn (n := 8) (S := fun w' => w'.cell? ⟨gb248, 0, none⟩ = some (.int .i64 a0_0) ∧ w'.cell? ⟨gb248, 1, none⟩ = some (.int .i64 a0_1) ∧ w'.cell? ⟨gb248, 2, none⟩ = some (.int .i64 a0_2) ∧ w'.cell? ⟨gb249, 0, none⟩ = some (.int .i64 a2_0) ∧ w'.cell? ⟨gb249, 1, none⟩ = some (.int .i64 a2_1) ∧ w'.cell? ⟨gb249, 2, none⟩ = some (.int .i64 a2_2)) (ds := []) #[false, false, false, false, false, false, false, false] (by kernel_rfl) rfl rfl ⟨(ze BK248.out 0).trans rfl, (ze BK248.out 1).trans rfl, (ze BK248.out 2).trans rfl, (ze BK249.out 0).trans rfl, (ze BK249.out 1).trans rfl, (ze BK249.out 2).trans rfl⟩ (fun hHeld => ?_); refine zbw zbe.tab4 zbe.bits4 (fun HT_ HW_ => ?_);generalize w16.drew = w17 at BK248 BK249 HB hHeld ⊢;refine zn (i := 1) (N := some 25) (v := ?_) (a' := ?_) #[false, true, false, false, false, false, false, false] rfl rfl (zg HT_.out (by kernel_rfl)) (fun _ _ _ h => h) (Or.inl ⟨by rfl, ?_⟩) ?_ ?_;rotate_left
  ·intro w'
   go_simp;with_reducible rfl
  rotate_left
  ·simp only [Act.put, Zs1, Zs2, Zs3, zh, zi]
   rfl
  refine zn (i := 4) (N := some 28) (v := ?_) (a' := ?_) #[false, true, false, false, true, false, false, false] rfl rfl (zg HT_.out (by kernel_rfl)) (fun _ _ _ h => h) (Or.inl ⟨by rfl, ?_⟩) ?_ ?_;rotate_left
  ·intro w'
   go_simp;with_reducible rfl
  rotate_left
  ·simp only [Act.put, Zs1, Zs2, Zs3, zh, zi]
   rfl
  refine zb3 (i := 0) (N := some 24) (v := ?_) (a' := ?_) #[true, true, false, false, true, false, false, false] rfl rfl (zbc HT_.out HW_.out (by kernel_rfl)) (fun _ _ _ h => h) (Or.inl ⟨by rfl, ?_⟩) hHeld ?_ ?_;rotate_left
  ·rintro w' ⟨s0, s1, s2, s3, s4, s5⟩
   go_simp;with_reducible rfl
  rotate_left
  ·simp only [Act.put, Zs1, Zs2, Zs3, zh, zi]
   rfl
  refine zb3 (i := 3) (N := some 27) (v := ?_) (a' := ?_) #[true, true, false, true, true, false, false, false] rfl rfl (zbc HT_.out HW_.out (by kernel_rfl)) (fun _ _ _ h => h) (Or.inl ⟨by rfl, ?_⟩) hHeld ?_ ?_;rotate_left
  ·rintro w' ⟨s0, s1, s2, s3, s4, s5⟩
   go_simp;with_reducible rfl
  rotate_left
  ·simp only [Act.put, Zs1, Zs2, Zs3, zh, zi]
   rfl
  refine one_ (i := 2) (N := some 26) #[true, true, true, true, true, false, false, false] rfl rfl (zb0 HT_.out (by kernel_rfl)) (by decide) (fun K hK => ?_);refine zcs Try.func59 (by kernel_rfl) rfl #[.agg #[.int .i64 a0_0, .int .i64 a0_1, .int .i64 a0_2], .int .i64 a1] (by rfl) rfl rfl Zmt ?_;with_reducible refine (zbt.calls a0_0 a0_1 a0_2 a1 t255 _ A9.out).mono ?_
  rintro e w18 ⟨rfl, hb⟩;refine ⟨_, rfl, ?_⟩;have n0_ := za.mk (zbm (g := gb248) (o := .cells #[.int .i64 a0_0, .int .i64 a0_1, .int .i64 a0_2] 35 (0, 0)) (Zq2 BK248) hb);have n1_ := za.mk (zbm (g := gb249) (o := .cells #[.int .i64 a2_0, .int .i64 a2_1, .int .i64 a2_2] 35 (0, 0)) (Zq2 BK249) hb);have n2_ := za.mk (zl (Zq19 HB GE248 GE249) hb);clear BK248;clear BK249;clear HB;have BK248 := n0_;have BK249 := n1_;have HB := n2_;clear n0_ n1_ n2_;(try clear hb);(try clear hb2);(try clear hk);(try clear hi);refine hK.out _ _ ⟨(ze BK248.out 0).trans rfl, (ze BK248.out 1).trans rfl, (ze BK248.out 2).trans rfl, (ze BK249.out 0).trans rfl, (ze BK249.out 1).trans rfl, (ze BK249.out 2).trans rfl⟩ (fun hHeld => ?_);clear hK K;refine zcd (a' := ?_) ?_ ?_;rotate_left
  ·show Act.put _ (some 26) _ = _
   simp only [Act.put, Zs1, Zs2, Zs3, zh, zi];rfl
  refine one_ (i := 5) (N := some 29) #[true, true, true, true, true, true, false, false] rfl rfl (zb0 HT_.out (by kernel_rfl)) (by decide) (fun K hK => ?_);refine zcs Try.func59 (by kernel_rfl) rfl #[.agg #[.int .i64 a2_0, .int .i64 a2_1, .int .i64 a2_2], .int .i64 a3] (by rfl) rfl rfl Zmt ?_;with_reducible refine (zbt.calls a2_0 a2_1 a2_2 a3 t256 _ A10.out).mono ?_
  rintro e w19 ⟨rfl, hb⟩;refine ⟨_, rfl, ?_⟩;have n0_ := za.mk (zbm (g := gb248) (o := .cells #[.int .i64 a0_0, .int .i64 a0_1, .int .i64 a0_2] 35 (0, 0)) (Zq2 BK248) hb);have n1_ := za.mk (zbm (g := gb249) (o := .cells #[.int .i64 a2_0, .int .i64 a2_1, .int .i64 a2_2] 35 (0, 0)) (Zq2 BK249) hb);have n2_ := za.mk (zl (Zq19 HB GE248 GE249) hb);clear BK248;clear BK249;clear HB;have BK248 := n0_;have BK249 := n1_;have HB := n2_;clear n0_ n1_ n2_;(try clear hb);(try clear hb2);(try clear hk);(try clear hi);refine hK.out _ _ ⟨(ze BK248.out 0).trans rfl, (ze BK248.out 1).trans rfl, (ze BK248.out 2).trans rfl, (ze BK249.out 0).trans rfl, (ze BK249.out 1).trans rfl, (ze BK249.out 2).trans rfl⟩ (fun hHeld => ?_);clear hK K;refine zcd (a' := ?_) ?_ ?_;rotate_left
  ·show Act.put _ (some 29) _ = _
   simp only [Act.put, Zs1, Zs2, Zs3, zh, zi];rfl
  refine zn (i := 6) (N := some 10) (v := ?_) (a' := ?_) #[true, true, true, true, true, true, true, false] rfl rfl (zg HT_.out (by kernel_rfl)) (fun _ _ _ h => h) (Or.inl ⟨by rfl, ?_⟩) ?_ ?_;rotate_left
  ·intro w'
   go_simp;with_reducible rfl
  rotate_left
  ·simp only [Act.put, Zs1, Zs2, Zs3, zh, zi]
   rfl
  refine zn (i := 7) (N := some 11) (v := ?_) (a' := ?_) #[true, true, true, true, true, true, true, true] rfl rfl (zg HT_.out (by kernel_rfl)) (fun _ _ _ h => h) (Or.inl ⟨by rfl, ?_⟩) ?_ ?_;rotate_left
  ·intro w'
   go_simp;with_reducible rfl
  rotate_left
  ·simp only [Act.put, Zs1, Zs2, Zs3, zh, zi]
   rfl
  refine zc5 (zb9 HT_.out (by kernel_rfl)) ?_
  go_upto_region 5 with (fail)
  go_cut [30] (fun v30 wc => ∃ (kq : Nat) (x30_10 : Bool), v30 = .bool x30_10 ∧ za (zbe.j0 kq a1 a3 t255 t256 x30_10 a0_0 a0_1 a0_2 a2_0 a2_1 a2_2 = some r) ∧ za (kq ≤ k) ∧ za (wc.heap[gb248]? = some (.cells #[.int .i64 a0_0, .int .i64 a0_1, .int .i64 a0_2] 35 (0, 0))) ∧ za (wc.heap[gb249]? = some (.cells #[.int .i64 a2_0, .int .i64 a2_1, .int .i64 a2_2] 35 (0, 0))) ∧ za (Below w.heap.size w wc))
  case first =>
   have H := HC11.out;clear HC11;by_cases c20 : t255 = true
   ·subst c20
    have H1 : (zbe.j0 k a1 a3 true t256 (!t256) a0_0 a0_1 a0_2 a2_0 a2_1 a2_2) = some r := by rw [if_pos rfl] at H; exact H
    clear H;have H := H1;clear H1;have H' := za.mk H;clear H;go_wp2;go_meet
    case rel => exact ⟨_, (!t256), Zrs, H', ⟨by first | omega | exact Nat.le_refl _⟩, ⟨Zq2 BK248⟩, ⟨Zq2 BK249⟩, ⟨Zq19 HB GE248 GE249⟩⟩
   ·replace c20 := Bool.eq_false_iff.mpr c20
    subst c20;have H1 : (zbe.j0 k a1 a3 false t256 false a0_0 a0_1 a0_2 a2_0 a2_1 a2_2) = some r := by rw [if_neg (show ¬ (false = true) by decide)] at H; exact H
    clear H;have H := H1;clear H1;have H' := za.mk H;clear H;go_wp2;go_meet
    case rel => exact ⟨_, (false), Zrs, H', ⟨by first | omega | exact Nat.le_refl _⟩, ⟨Zq2 BK248⟩, ⟨Zq2 BK249⟩, ⟨Zq19 HB GE248 GE249⟩⟩
  case rest =>
   clear HC11
   (try clear c2);(try clear p2);(try clear c3);(try clear c5);(try clear c8);(try clear c8b0);(try clear c8b1);(try clear c20)
   obtain ⟨kq, x30_10, rfl, HA, HJ10, BK248, BK249, HB⟩ := hcut
   cases kq with
   | zero => exact absurd HA.out (by simp [zbe.j0])
   | succ kj10 =>
    have H := HA.out;clear HA;simp only [zbe.j0] at H;by_cases c21 : x30_10 = true
    ·subst c21
     have H1 : (some (-1)) = some r := by rw [if_pos rfl] at H; exact H
     clear H;have H := H1;clear H1;obtain rfl := Option.some.inj H;go_wp2;go_ret;exact ⟨by first | rfl | (simp [zq, zt] <;> rfl) | (simp [*, zq, zt] <;> rfl), Zq19 HB GE248 GE249⟩
    ·replace c21 := Bool.eq_false_iff.mpr c21
     subst c21;have H1 : (if t256 = true then (zbe.j1 kj10 a1 a3 t255 (!t255) a0_0 a0_1 a0_2 a2_0 a2_1 a2_2) else (zbe.j1 kj10 a1 a3 t255 false a0_0 a0_1 a0_2 a2_0 a2_1 a2_2)) = some r := by rw [if_neg (show ¬ (false = true) by decide)] at H; exact H
     clear H;have H := H1;clear H1;have HC22 := za.mk H;clear H
     go_upto_region 7 with (fail)
     go_cut [36] (fun v36 wc => ∃ (kq : Nat) (x36_21 : Bool), v36 = .bool x36_21 ∧ za (zbe.j1 kq a1 a3 t255 x36_21 a0_0 a0_1 a0_2 a2_0 a2_1 a2_2 = some r) ∧ za (kq ≤ kj10) ∧ za (wc.heap[gb248]? = some (.cells #[.int .i64 a0_0, .int .i64 a0_1, .int .i64 a0_2] 35 (0, 0))) ∧ za (wc.heap[gb249]? = some (.cells #[.int .i64 a2_0, .int .i64 a2_1, .int .i64 a2_2] 35 (0, 0))) ∧ za (Below w.heap.size w wc))
     case first =>
      have H := HC22.out;clear HC22;by_cases c23 : t256 = true
      ·subst c23
       have H1 : (zbe.j1 kj10 a1 a3 t255 (!t255) a0_0 a0_1 a0_2 a2_0 a2_1 a2_2) = some r := by rw [if_pos rfl] at H; exact H
       clear H;have H := H1;clear H1;have H' := za.mk H;clear H;go_wp2;go_meet
       case rel => exact ⟨_, (!t255), Zrs, H', ⟨by have := HJ10.out; first | omega | exact Nat.le_refl _⟩, ⟨Zq2 BK248⟩, ⟨Zq2 BK249⟩, ⟨Zq19 HB GE248 GE249⟩⟩
      ·replace c23 := Bool.eq_false_iff.mpr c23
       subst c23;have H1 : (zbe.j1 kj10 a1 a3 t255 false a0_0 a0_1 a0_2 a2_0 a2_1 a2_2) = some r := by rw [if_neg (show ¬ (false = true) by decide)] at H; exact H
       clear H;have H := H1;clear H1;have H' := za.mk H;clear H;go_wp2;go_meet
       case rel => exact ⟨_, (false), Zrs, H', ⟨by have := HJ10.out; first | omega | exact Nat.le_refl _⟩, ⟨Zq2 BK248⟩, ⟨Zq2 BK249⟩, ⟨Zq19 HB GE248 GE249⟩⟩
     case rest =>
      clear HC22
      (try clear c2);(try clear p2);(try clear c3);(try clear c5);(try clear c8);(try clear c8b0);(try clear c8b1);(try clear c20);(try clear c21);(try clear c23);(try clear p2)
      obtain ⟨kq, x36_21, rfl, HA, HJ21, BK248, BK249, HB⟩ := hcut
      cases kq with
      | zero => exact absurd HA.out (by simp [zbe.j1])
      | succ kj21 =>
       have H := HA.out;clear HA;simp only [zbe.j1] at H;by_cases c24 : x36_21 = true
       ·subst c24
        have H1 : (some 1) = some r := by rw [if_pos rfl] at H; exact H
        clear H;have H := H1;clear H1;obtain rfl := Option.some.inj H;go_wp2;go_ret;exact ⟨by first | rfl | (simp [zq, zt] <;> rfl) | (simp [*, zq, zt] <;> rfl), Zq19 HB GE248 GE249⟩
       ·replace c24 := Bool.eq_false_iff.mpr c24
        subst c24;have H1 : (if t255 = true then ((zba.f kj21 a2_0 a2_1 a2_2 a3).bind fun t257 => ((zba.f kj21 a0_0 a0_1 a0_2 a1).bind fun t258 => ((cmp_Compare_int.f t257 t258).bind fun t259 => (some t259)))) else (some 0)) = some r := by rw [if_neg (show ¬ (false = true) by decide)] at H; exact H
        clear H;have H := H1;clear H1;by_cases c25 : t255 = true
        ·subst c25
         have H1 : ((zba.f kj21 a2_0 a2_1 a2_2 a3).bind fun t257 => ((zba.f kj21 a0_0 a0_1 a0_2 a1).bind fun t258 => ((cmp_Compare_int.f t257 t258).bind fun t259 => (some t259)))) = some r := by rw [if_pos rfl] at H; exact H
         clear H;have H := H1;clear H1;replace H := Option.bind_eq_some_iff.mp H;obtain ⟨t257, A260, H⟩ := H;replace H : ((zba.f kj21 a0_0 a0_1 a0_2 a1).bind fun t258 => ((cmp_Compare_int.f t257 t258).bind fun t259 => (some t259))) = some r := H;have A26 := za.mk A260;clear A260;replace H := Option.bind_eq_some_iff.mp H;obtain ⟨t258, A270, H⟩ := H;replace H : ((cmp_Compare_int.f t257 t258).bind fun t259 => (some t259)) = some r := H;have A27 := za.mk A270;clear A270;replace H := Option.bind_eq_some_iff.mp H;obtain ⟨t259, A280, H⟩ := H;replace H : (some t259) = some r := H;have A28 := za.mk A280;clear A280;obtain rfl := Option.some.inj H
         try go_wp2
         have n0_ := za.mk (zbf BK248.out);have n1_ := za.mk (zbf BK249.out);have n2_ := za.mk (zbk HB.out);clear BK248;clear BK249;clear HB;have BK248 := n0_;have BK249 := n1_;have HB := n2_;clear n0_ n1_ n2_;refine zcn (n := 8) (S := fun w' => w'.cell? ⟨gb249, 0, none⟩ = some (.int .i64 a2_0) ∧ w'.cell? ⟨gb249, 1, none⟩ = some (.int .i64 a2_1) ∧ w'.cell? ⟨gb249, 2, none⟩ = some (.int .i64 a2_2) ∧ w'.cell? ⟨gb248, 0, none⟩ = some (.int .i64 a0_0) ∧ w'.cell? ⟨gb248, 1, none⟩ = some (.int .i64 a0_1) ∧ w'.cell? ⟨gb248, 2, none⟩ = some (.int .i64 a0_2)) (ds := []) #[false, false, false, false, false, false, false, false] (by kernel_rfl) rfl rfl ⟨(ze BK249.out 0).trans rfl, (ze BK249.out 1).trans rfl, (ze BK249.out 2).trans rfl, (ze BK248.out 0).trans rfl, (ze BK248.out 1).trans rfl, (ze BK248.out 2).trans rfl⟩ (fun hHeld => ?_); refine zbw zbe.tab10 zbe.zhh (fun HT_ HW_ => ?_);generalize wc.drew = w29 at BK248 BK249 HB hHeld ⊢;refine zn (i := 1) (N := some 45) (v := ?_) (a' := ?_) #[false, true, false, false, false, false, false, false] rfl rfl (zg HT_.out (by kernel_rfl)) (fun _ _ _ h => h) (Or.inl ⟨by rfl, ?_⟩) ?_ ?_;rotate_left
         ·intro w'
          go_simp;with_reducible rfl
         rotate_left
         ·simp only [Act.put, Zs1, Zs2, Zs3, zh, zi]
          rfl
         refine zn (i := 4) (N := some 48) (v := ?_) (a' := ?_) #[false, true, false, false, true, false, false, false] rfl rfl (zg HT_.out (by kernel_rfl)) (fun _ _ _ h => h) (Or.inl ⟨by rfl, ?_⟩) ?_ ?_;rotate_left
         ·intro w'
          go_simp;with_reducible rfl
         rotate_left
         ·simp only [Act.put, Zs1, Zs2, Zs3, zh, zi]
          rfl
         refine zb3 (i := 0) (N := some 44) (v := ?_) (a' := ?_) #[true, true, false, false, true, false, false, false] rfl rfl (zbc HT_.out HW_.out (by kernel_rfl)) (fun _ _ _ h => h) (Or.inl ⟨by rfl, ?_⟩) hHeld ?_ ?_;rotate_left
         ·rintro w' ⟨s0, s1, s2, s3, s4, s5⟩
          go_simp;with_reducible rfl
         rotate_left
         ·simp only [Act.put, Zs1, Zs2, Zs3, zh, zi]
          rfl
         refine zb3 (i := 3) (N := some 47) (v := ?_) (a' := ?_) #[true, true, false, true, true, false, false, false] rfl rfl (zbc HT_.out HW_.out (by kernel_rfl)) (fun _ _ _ h => h) (Or.inl ⟨by rfl, ?_⟩) hHeld ?_ ?_;rotate_left
         ·rintro w' ⟨s0, s1, s2, s3, s4, s5⟩
          go_simp;with_reducible rfl
         rotate_left
         ·simp only [Act.put, Zs1, Zs2, Zs3, zh, zi]
          rfl
         refine one_ (i := 2) (N := some 46) #[true, true, true, true, true, false, false, false] rfl rfl (zb0 HT_.out (by kernel_rfl)) (by decide) (fun K hK => ?_);refine zcs Try.func60 (by kernel_rfl) rfl #[.agg #[.int .i64 a2_0, .int .i64 a2_1, .int .i64 a2_2], .int .i64 a3] (by rfl) rfl rfl Zmt ?_;with_reducible refine (zba.calls kj21 a2_0 a2_1 a2_2 a3 t257 _ A26.out).mono ?_
         rintro e w30 ⟨rfl, hb⟩;refine ⟨_, rfl, ?_⟩;have n0_ := za.mk (zbm (g := gb248) (o := .cells #[.int .i64 a0_0, .int .i64 a0_1, .int .i64 a0_2] 35 (0, 0)) (Zq2 BK248) hb);have n1_ := za.mk (zbm (g := gb249) (o := .cells #[.int .i64 a2_0, .int .i64 a2_1, .int .i64 a2_2] 35 (0, 0)) (Zq2 BK249) hb);have n2_ := za.mk (zl (Zq19 HB GE248 GE249) hb);clear BK248;clear BK249;clear HB;have BK248 := n0_;have BK249 := n1_;have HB := n2_;clear n0_ n1_ n2_;(try clear hb);(try clear hb2);(try clear hk);(try clear hi);refine hK.out _ _ ⟨(ze BK249.out 0).trans rfl, (ze BK249.out 1).trans rfl, (ze BK249.out 2).trans rfl, (ze BK248.out 0).trans rfl, (ze BK248.out 1).trans rfl, (ze BK248.out 2).trans rfl⟩ (fun hHeld => ?_);clear hK K;refine zcd (a' := ?_) ?_ ?_;rotate_left
         ·show Act.put _ (some 46) _ = _
          simp only [Act.put, Zs1, Zs2, Zs3, zh, zi];rfl
         refine one_ (i := 5) (N := some 49) #[true, true, true, true, true, true, false, false] rfl rfl (zb0 HT_.out (by kernel_rfl)) (by decide) (fun K hK => ?_);refine zcs Try.func60 (by kernel_rfl) rfl #[.agg #[.int .i64 a0_0, .int .i64 a0_1, .int .i64 a0_2], .int .i64 a1] (by rfl) rfl rfl Zmt ?_;with_reducible refine (zba.calls kj21 a0_0 a0_1 a0_2 a1 t258 _ A27.out).mono ?_
         rintro e w31 ⟨rfl, hb⟩;refine ⟨_, rfl, ?_⟩;have n0_ := za.mk (zbm (g := gb248) (o := .cells #[.int .i64 a0_0, .int .i64 a0_1, .int .i64 a0_2] 35 (0, 0)) (Zq2 BK248) hb);have n1_ := za.mk (zbm (g := gb249) (o := .cells #[.int .i64 a2_0, .int .i64 a2_1, .int .i64 a2_2] 35 (0, 0)) (Zq2 BK249) hb);have n2_ := za.mk (zl (Zq19 HB GE248 GE249) hb);clear BK248;clear BK249;clear HB;have BK248 := n0_;have BK249 := n1_;have HB := n2_;clear n0_ n1_ n2_;(try clear hb);(try clear hb2);(try clear hk);(try clear hi);refine hK.out _ _ ⟨(ze BK249.out 0).trans rfl, (ze BK249.out 1).trans rfl, (ze BK249.out 2).trans rfl, (ze BK248.out 0).trans rfl, (ze BK248.out 1).trans rfl, (ze BK248.out 2).trans rfl⟩ (fun hHeld => ?_);clear hK K;refine zcd (a' := ?_) ?_ ?_;rotate_left
         ·show Act.put _ (some 49) _ = _
          simp only [Act.put, Zs1, Zs2, Zs3, zh, zi];rfl
         refine one_ (i := 6) (N := some 50) #[true, true, true, true, true, true, true, false] rfl rfl (zb0 HT_.out (by kernel_rfl)) (by decide) (fun K hK => ?_);refine zcs Try.func58 (by kernel_rfl) rfl #[.int .i64 t257, .int .i64 t258] (by rfl) rfl rfl Zmt ?_;with_reducible refine (cmp_Compare_int.calls t257 t258 t259 _ A28.out).mono ?_
         rintro e w' ⟨rfl, ⟨nd, rfl⟩⟩;refine ⟨_, rfl, ?_⟩;refine hK.out _ _ ⟨(ze BK249.out 0).trans rfl, (ze BK249.out 1).trans rfl, (ze BK249.out 2).trans rfl, (ze BK248.out 0).trans rfl, (ze BK248.out 1).trans rfl, (ze BK248.out 2).trans rfl⟩ (fun hHeld => ?_);clear hK K;refine zcd (a' := ?_) ?_ ?_;rotate_left
         ·show Act.put _ (some 50) _ = _
          simp only [Act.put, Zs1, Zs2, Zs3, zh, zi];rfl
         refine zn (i := 7) (N := some 8) (v := ?_) (a' := ?_) #[true, true, true, true, true, true, true, true] rfl rfl (zg HT_.out (by kernel_rfl)) (fun _ _ _ h => h) (Or.inl ⟨by rfl, ?_⟩) ?_ ?_;rotate_left
         ·intro w'
          go_simp;with_reducible rfl
         rotate_left
         ·simp only [Act.put, Zs1, Zs2, Zs3, zh, zi]
          rfl
         refine zc5 (zb9 HT_.out (by kernel_rfl)) ?_
         try go_wp2
         go_ret;exact ⟨by first | rfl | (simp [zq, zt] <;> rfl) | (simp [*, zq, zt] <;> rfl), Zq19 HB GE248 GE249⟩
        ·replace c25 := Bool.eq_false_iff.mpr c25
         subst c25;have H1 : (some 0) = some r := by rw [if_neg (show ¬ (false = true) by decide)] at H; exact H
         clear H;have H := H1;clear H1;obtain rfl := Option.some.inj H;go_wp2;go_ret;exact ⟨by first | rfl | (simp [zq, zt] <;> rfl) | (simp [*, zq, zt] <;> rfl), Zq19 HB GE248 GE249⟩
 ·rw [if_neg c8] at H
  have c8b0 : (t254 == 0) = false := beq_eq_false_iff_ne.mpr c8;have c8b1 : (t254 != 0) = true := bne_iff_ne.mpr c8;obtain rfl := Option.some.inj H;go_enter Try.func33, Try.ntmps33
  try go_wp2_with (first | ((with_reducible refine zb4 (N := 4) rfl ?_); refine zcb ?hg (N := 4) ?hd (cs := #[.int .i64 a0_0, .int .i64 a0_1, .int .i64 a0_2]) (t := 35) ?hr ?_; (case hd => rfl); (case hg => rfl); (case hr => first | (go_simp; done) | (go_simp; rfl)); intro gb248 hg w32 hbox hb; have n0_ := za.mk (zl (Zq1 HB) hb); have n1_ := za.mk (hbox); have n2_ := za.mk ((by rw [hg]; exact (zu (Zq1 HB)) : w.heap.size ≤ gb248)); have n3_ := za.mk ((by rw [hg]; exact (zu (Zq1 HB)) : w.heap.size ≤ gb248)); clear HB; have HB := n0_; have BK248 := n1_; have GW248 := n2_; have GE248 := n3_; clear n0_ n1_ n2_ n3_; clear hb hbox hg) | ((with_reducible refine zb4 (N := 6) rfl ?_); refine zcb ?hg (N := 6) ?hd (cs := #[.int .i64 a2_0, .int .i64 a2_1, .int .i64 a2_2]) (t := 35) ?hr ?_; (case hd => rfl); (case hg => rfl); (case hr => first | (go_simp; done) | (go_simp; rfl)); intro gb249 hg w33 hbox hb; have n0_ := za.mk (zbm (g := gb248) (o := .cells #[.int .i64 a0_0, .int .i64 a0_1, .int .i64 a0_2] 35 (0, 0)) (Zq2 BK248) hb); have n1_ := za.mk (zl (Zq3 HB GE248) hb); have n2_ := za.mk (hbox); have n3_ := za.mk ((by rw [hg]; exact (zu (Zq3 HB GE248)) : w.heap.size ≤ gb249)); have n4_ := za.mk ((by rw [hg]; exact (zu (Zq3 HB GE248)) : w.heap.size ≤ gb249)); have n5_ := za.mk ((by rw [hg]; exact Nat.ne_of_lt (zds (g := gb248) (o := .cells #[.int .i64 a0_0, .int .i64 a0_1, .int .i64 a0_2] 35 (0, 0)) (Zq2 BK248)) : gb248 ≠ gb249)); have n6_ := za.mk ((by rw [hg]; exact Nat.ne_of_gt (zds (g := gb248) (o := .cells #[.int .i64 a0_0, .int .i64 a0_1, .int .i64 a0_2] 35 (0, 0)) (Zq2 BK248)) : gb249 ≠ gb248)); clear BK248; clear HB; have BK248 := n0_; have HB := n1_; have BK249 := n2_; have GW249 := n3_; have GE249 := n4_; have NB248_249 := n5_; have NB249_248 := n6_; clear n0_ n1_ n2_ n3_ n4_ n5_ n6_; clear hb hbox hg))
  have n0_ := za.mk (zbf BK248.out);have n1_ := za.mk (zbf BK249.out);have n2_ := za.mk (zbk HB.out);clear BK248;clear BK249;clear HB;have BK248 := n0_;have BK249 := n1_;have HB := n2_;clear n0_ n1_ n2_;refine zcn (n := 10) (S := fun w' => w'.cell? ⟨gb248, 0, none⟩ = some (.int .i64 a0_0) ∧ w'.cell? ⟨gb248, 1, none⟩ = some (.int .i64 a0_1) ∧ w'.cell? ⟨gb248, 2, none⟩ = some (.int .i64 a0_2) ∧ w'.cell? ⟨gb249, 0, none⟩ = some (.int .i64 a2_0) ∧ w'.cell? ⟨gb249, 1, none⟩ = some (.int .i64 a2_1) ∧ w'.cell? ⟨gb249, 2, none⟩ = some (.int .i64 a2_2)) (ds := []) #[false, false, false, false, false, false, false, false, false, false] (by kernel_rfl) rfl rfl ⟨(ze BK248.out 0).trans rfl, (ze BK248.out 1).trans rfl, (ze BK248.out 2).trans rfl, (ze BK249.out 0).trans rfl, (ze BK249.out 1).trans rfl, (ze BK249.out 2).trans rfl⟩ (fun hHeld => ?_); refine zbw zbe.tab1 zbe.zen (fun HT_ HW_ => ?_);generalize w33.drew = w34 at BK248 BK249 HB hHeld ⊢;refine zn (i := 1) (N := some 13) (v := ?_) (a' := ?_) #[false, true, false, false, false, false, false, false, false, false] rfl rfl (zg HT_.out (by kernel_rfl)) (fun _ _ _ h => h) (Or.inl ⟨by rfl, ?_⟩) ?_ ?_;rotate_left
  ·intro w'
   go_simp;with_reducible rfl
  rotate_left
  ·simp only [Act.put, Zs1, Zs2, Zs3, zh, zi]
   rfl
  refine zn (i := 5) (N := some 17) (v := ?_) (a' := ?_) #[false, true, false, false, false, true, false, false, false, false] rfl rfl (zg HT_.out (by kernel_rfl)) (fun _ _ _ h => h) (Or.inl ⟨by rfl, ?_⟩) ?_ ?_;rotate_left
  ·intro w'
   go_simp;with_reducible rfl
  rotate_left
  ·simp only [Act.put, Zs1, Zs2, Zs3, zh, zi]
   rfl
  refine zb3 (i := 0) (N := some 12) (v := ?_) (a' := ?_) #[true, true, false, false, false, true, false, false, false, false] rfl rfl (zbc HT_.out HW_.out (by kernel_rfl)) (fun _ _ _ h => h) (Or.inl ⟨by rfl, ?_⟩) hHeld ?_ ?_;rotate_left
  ·rintro w' ⟨s0, s1, s2, s3, s4, s5⟩
   go_simp;with_reducible rfl
  rotate_left
  ·simp only [Act.put, Zs1, Zs2, Zs3, zh, zi]
   rfl
  refine zb3 (i := 4) (N := some 16) (v := ?_) (a' := ?_) #[true, true, false, false, true, true, false, false, false, false] rfl rfl (zbc HT_.out HW_.out (by kernel_rfl)) (fun _ _ _ h => h) (Or.inl ⟨by rfl, ?_⟩) hHeld ?_ ?_;rotate_left
  ·rintro w' ⟨s0, s1, s2, s3, s4, s5⟩
   go_simp;with_reducible rfl
  rotate_left
  ·simp only [Act.put, Zs1, Zs2, Zs3, zh, zi]
   rfl
  refine one_ (i := 2) (N := some 14) #[true, true, true, false, true, true, false, false, false, false] rfl rfl (zb0 HT_.out (by kernel_rfl)) (by decide) (fun K hK => ?_);refine zcs Try.func30 (by kernel_rfl) rfl #[.agg #[.int .i64 a0_0, .int .i64 a0_1, .int .i64 a0_2], .int .i64 a1] (by rfl) rfl rfl Zmt ?_;with_reducible refine (zbr.calls a0_0 a0_1 a0_2 a1 t250 t251 _ A5.out).mono ?_
  rintro e w35 ⟨rfl, hb⟩;refine ⟨_, rfl, ?_⟩;have n0_ := za.mk (zbm (g := gb248) (o := .cells #[.int .i64 a0_0, .int .i64 a0_1, .int .i64 a0_2] 35 (0, 0)) (Zq2 BK248) hb);have n1_ := za.mk (zbm (g := gb249) (o := .cells #[.int .i64 a2_0, .int .i64 a2_1, .int .i64 a2_2] 35 (0, 0)) (Zq2 BK249) hb);have n2_ := za.mk (zl (Zq19 HB GE248 GE249) hb);clear BK248;clear BK249;clear HB;have BK248 := n0_;have BK249 := n1_;have HB := n2_;clear n0_ n1_ n2_;(try clear hb);(try clear hb2);(try clear hk);(try clear hi);refine hK.out _ _ ⟨(ze BK248.out 0).trans rfl, (ze BK248.out 1).trans rfl, (ze BK248.out 2).trans rfl, (ze BK249.out 0).trans rfl, (ze BK249.out 1).trans rfl, (ze BK249.out 2).trans rfl⟩ (fun hHeld => ?_);clear hK K;refine zcd (a' := ?_) ?_ ?_;rotate_left
  ·show Act.put _ (some 14) _ = _
   simp only [Act.put, Zs1, Zs2, Zs3, zh, zi];rfl
  refine zn (i := 3) (N := some 15) (v := ?_) (a' := ?_) #[true, true, true, true, true, true, false, false, false, false] rfl rfl (zg HT_.out (by kernel_rfl)) (fun _ _ _ h => h) (Or.inl ⟨by rfl, ?_⟩) ?_ ?_;rotate_left
  ·intro w'
   go_simp;with_reducible rfl
  rotate_left
  ·simp only [Act.put, Zs1, Zs2, Zs3, zh, zi]
   rfl
  refine one_ (i := 6) (N := some 18) #[true, true, true, true, true, true, true, false, false, false] rfl rfl (zb0 HT_.out (by kernel_rfl)) (by decide) (fun K hK => ?_);refine zcs Try.func30 (by kernel_rfl) rfl #[.agg #[.int .i64 a2_0, .int .i64 a2_1, .int .i64 a2_2], .int .i64 a3] (by rfl) rfl rfl Zmt ?_;with_reducible refine (zbr.calls a2_0 a2_1 a2_2 a3 t252 t253 _ A6.out).mono ?_
  rintro e w36 ⟨rfl, hb⟩;refine ⟨_, rfl, ?_⟩;have n0_ := za.mk (zbm (g := gb248) (o := .cells #[.int .i64 a0_0, .int .i64 a0_1, .int .i64 a0_2] 35 (0, 0)) (Zq2 BK248) hb);have n1_ := za.mk (zbm (g := gb249) (o := .cells #[.int .i64 a2_0, .int .i64 a2_1, .int .i64 a2_2] 35 (0, 0)) (Zq2 BK249) hb);have n2_ := za.mk (zl (Zq19 HB GE248 GE249) hb);clear BK248;clear BK249;clear HB;have BK248 := n0_;have BK249 := n1_;have HB := n2_;clear n0_ n1_ n2_;(try clear hb);(try clear hb2);(try clear hk);(try clear hi);refine hK.out _ _ ⟨(ze BK248.out 0).trans rfl, (ze BK248.out 1).trans rfl, (ze BK248.out 2).trans rfl, (ze BK249.out 0).trans rfl, (ze BK249.out 1).trans rfl, (ze BK249.out 2).trans rfl⟩ (fun hHeld => ?_);clear hK K;refine zcd (a' := ?_) ?_ ?_;rotate_left
  ·show Act.put _ (some 18) _ = _
   simp only [Act.put, Zs1, Zs2, Zs3, zh, zi];rfl
  refine zn (i := 7) (N := some 19) (v := ?_) (a' := ?_) #[true, true, true, true, true, true, true, true, false, false] rfl rfl (zg HT_.out (by kernel_rfl)) (fun _ _ _ h => h) (Or.inl ⟨by rfl, ?_⟩) ?_ ?_;rotate_left
  ·intro w'
   go_simp;with_reducible rfl
  rotate_left
  ·simp only [Act.put, Zs1, Zs2, Zs3, zh, zi]
   rfl
  refine one_ (i := 8) (N := some 20) #[true, true, true, true, true, true, true, true, true, false] rfl rfl (zb0 HT_.out (by kernel_rfl)) (by decide) (fun K hK => ?_);refine zcs Try.func58 (by kernel_rfl) rfl #[.int .i64 t251, .int .i64 t253] (by rfl) rfl rfl Zmt ?_;with_reducible refine (cmp_Compare_int.calls t251 t253 t254 _ A7.out).mono ?_
  rintro e w' ⟨rfl, ⟨nd, rfl⟩⟩;refine ⟨_, rfl, ?_⟩;refine hK.out _ _ ⟨(ze BK248.out 0).trans rfl, (ze BK248.out 1).trans rfl, (ze BK248.out 2).trans rfl, (ze BK249.out 0).trans rfl, (ze BK249.out 1).trans rfl, (ze BK249.out 2).trans rfl⟩ (fun hHeld => ?_);clear hK K;refine zcd (a' := ?_) ?_ ?_;rotate_left
  ·show Act.put _ (some 20) _ = _
   simp only [Act.put, Zs1, Zs2, Zs3, zh, zi];rfl
  refine zn (i := 9) (N := some 9) (v := ?_) (a' := ?_) #[true, true, true, true, true, true, true, true, true, true] rfl rfl (zg HT_.out (by kernel_rfl)) (fun _ _ _ h => h) (Or.inl ⟨by rfl, ?_⟩) ?_ ?_;rotate_left
  ·intro w'
   go_simp;with_reducible rfl
  rotate_left
  ·simp only [Act.put, Zs1, Zs2, Zs3, zh, zi]
   rfl
  refine zc5 (zb9 HT_.out (by kernel_rfl)) ?_
  try go_wp2
  go_ret;exact ⟨by first | rfl | (simp [zq, zt] <;> rfl) | (simp [*, zq, zt] <;> rfl), Zq19 HB GE248 GE249⟩
theorem Kd.zd6 {α : Type} {d : Kd α} {e e1 base : Nat} {w : World} {ok : Nat → Prop} {v : Value} {xs : List (List α)} (h : Kd.S (Kd.slice e d) e1 w base ok v xs) : Kd.Qc (Kd.cut e d) e1 w base ok v xs := Kd.Qc_of (Kd.cut_of (Kd.S_R h))
section
variable {α : Type} {d : Kd α} {e base m : Nat} {w w' w1 W : World} {ok : Nat → Prop} {u v v1 : Value} {xs : List α}
theorem Kd.zhi {ad : Addr} {n cap : Nat} (h : Kd.Qc d e W base ok (.slice (some ad) n cap) xs) (z : α) (i : Int) (h0 : 0 ≤ i) (h1 : i < n) :
    ∃ c, c.length = d.sz ∧ d.M W base (fun k => ok k ∧ some k ≠ (Value.slice (some ad) n cap).ownBlock) (xs.getD i.toNat z) c ∧ ∀ j u, c[j]? = some u → W.cell? (ad.add (i.toNat * d.sz + j)) = some u := by
  obtain ⟨v', hc, h⟩ := h
  rcases hc with rfl | ⟨ad2, n2, c2, c', he, rfl, h3, h4⟩
  · exact Kd.R_getA h z i h0 h1
  · injection he with e1 e2 e3
    injection e1 with e1
    subst e1 e2 e3
    exact Kd.R_getA h z i h0 h1
theorem Kd.Qc_at (hq : w.drewN m = w') (h : Kd.Qc d e w base ok v xs) : Kd.Qc d e w' base ok v xs := by subst hq; exact Kd.zd0 h m
theorem Kd.ze3 (h : Kd.Qc d e W base (fun k => ok k ∧ some k ≠ v.ownBlock) u xs) (hg : W.grownBy w1 v.ownBlock) (hat : v1.ownBlock = v.ownBlock ∨ ∃ b, v1.ownBlock = some b ∧ W.heap.size ≤ b) : Kd.Qc d e w1 base (fun k => ok k ∧ some k ≠ v1.ownBlock) u xs := let ⟨v', hc, h⟩ := h; ⟨v', hc, Kd.R_after h hg hat⟩
end
def zev.T1 : Bool × List (List Nat × List Nat) := (true, [([], []), ([], []), ([0, 1], [0, 1]), ([2], [2]), ([], []), ([], []), ([4, 5], [4, 5]), ([6], [6]), ([], []), ([], []), ([8, 9], [8, 9]), ([10], [10]), ([], []), ([], []), ([12, 13], [12, 13]), ([14], [14]), ([3, 7, 11, 15], [3, 7, 11, 15]), ([16, 16, 0, 1, 2, 3, 4, 5, 6, 7, 8, 9, 10, 11, 12, 13, 14, 15, 16], [16])])
def zev.B1 : List Nat := [0, 0, 3, 7, 0, 0, 48, 112, 0, 0, 768, 1792, 0, 0, 12288, 28672, 65535, 131071]
theorem zev.tab1 : rtab .any (opsOf Try.f32 1) = zev.T1 := by kernel_rfl
theorem zev.zen : zcw zev.T1.2 zev.B1 = true := by kernel_rfl
set_option maxHeartbeats 8000000 in
theorem zg8 (k : Nat) (gs gn : Nat) (A0 NX : Option Addr) (c0 cn : Nat) (l0 : List S35) (nx : List Int) (a b v : Int) (w : World) (hs : w.cell? ⟨gs, 0, none⟩ = some (.slice A0 l0.length c0)) (hn : w.cell? ⟨gn, 0, none⟩ = some (.slice NX nx.length cn)) (hr0 : Kd.C k35 w A0 l0.length l0) (hr1 : Kd.C (Kd.int .i64) w NX nx.length nx)
    (ha : 0 ≤ a ∧ a < (l0.length : Int) ∧ a < (nx.length : Int)) (hb : 0 ≤ b ∧ b < (l0.length : Int) ∧ b < (nx.length : Int)) (h : zbe.f k (zf l0 a).f0 (zf l0 a).f1 (zf l0 a).f2 (rd nx a) (zf l0 b).f0 (zf l0 b).f1 (zf l0 b).f2 (rd nx b) = some v) :
    Calls Try.prog 32 (#[.int .i64 a, .int .i64 b] ++ #[.pointer (some ⟨gs, 0, none⟩), .pointer (some ⟨gn, 0, none⟩)]) w fun e w' => e = .returned (.int .i64 v) ∧ Below w.heap.size w w' := by
  obtain ⟨ad, ea, hx0, hx1, hx2⟩ := zch hr0 a ha.1 ha.2.1
  obtain ⟨ad2, ea2, hy0, hy1, hy2⟩ := zch hr0 b hb.1 hb.2.1
  obtain ⟨ax, eax, hz⟩ := Kd.zb5 hr1 a ha.1 ha.2.2
  obtain ⟨ax2, eax2, hv⟩ := Kd.zb5 hr1 b hb.1 hb.2.2
  subst ea
  subst eax
  obtain rfl : ad = ad2 := by injection ea2
  obtain rfl : ax = ax2 := by injection eax2
  have H := za.mk h
  obtain ⟨ha0, ha1, ha2⟩ := ha
  obtain ⟨hb0, hb1, hb2⟩ := hb
  clear h hr0 hr1 ea2 eax2
  go_enter Try.func32, Try.ntmps32
  go_wp2_with fail
  refine zcn (n := 18) (S := fun w' => w'.cell? ⟨gs, 0, none⟩ = some (.slice (some ad) l0.length c0) ∧ w'.cell? ⟨gn, 0, none⟩ = some (.slice (some ax) nx.length cn) ∧ w'.cell? (ad.add (a.toNat * 3)) = some (.int .i64 (zf l0 a).f0) ∧ w'.cell? ⟨(ad.add (a.toNat * 3)).block, (ad.add (a.toNat * 3)).off + 1, none⟩ = some (.int .i64 (zf l0 a).f1) ∧ w'.cell? ⟨(ad.add (a.toNat * 3)).block, (ad.add (a.toNat * 3)).off + 2, none⟩ = some (.int .i64 (zf l0 a).f2) ∧ w'.cell? (ax.add a.toNat) = some (.int .i64 (rd nx a)) ∧ w'.cell? (ad.add (b.toNat * 3)) = some (.int .i64 (zf l0 b).f0) ∧ w'.cell? ⟨(ad.add (b.toNat * 3)).block, (ad.add (b.toNat * 3)).off + 1, none⟩ = some (.int .i64 (zf l0 b).f1) ∧ w'.cell? ⟨(ad.add (b.toNat * 3)).block, (ad.add (b.toNat * 3)).off + 2, none⟩ = some (.int .i64 (zf l0 b).f2) ∧ w'.cell? (ax.add b.toNat) = some (.int .i64 (rd nx b))) (ds := []) #[false, false, false, false, false, false, false, false, false, false, false, false, false, false, false, false, false, false] (by kernel_rfl) rfl rfl ⟨hs, hn, hx0, hx1, hx2, hz, hy0, hy1, hy2, hv⟩ (fun hHeld => ?_); refine zbw zev.tab1 zev.zen (fun HT_ HW_ => ?_)
  refine zn (i := 1) (N := some 8) (v := ?_) (a' := ?_) #[false, true, false, false, false, false, false, false, false, false, false, false, false, false, false, false, false, false] rfl rfl (zg HT_.out (by kernel_rfl)) (fun _ _ _ h => h) (Or.inl ⟨by rfl, ?_⟩) ?_ ?_
  rotate_left
  · intro w'
    go_simp
    with_reducible rfl
  rotate_left
  · simp only [Act.put, List.setIfInBounds_toArray, List.set_cons_zero, List.set_cons_succ, zh, zi]
    rfl
  refine zn (i := 5) (N := some 12) (v := ?_) (a' := ?_) #[false, true, false, false, false, true, false, false, false, false, false, false, false, false, false, false, false, false] rfl rfl (zg HT_.out (by kernel_rfl)) (fun _ _ _ h => h) (Or.inl ⟨by rfl, ?_⟩) ?_ ?_
  rotate_left
  · intro w'
    go_simp
    with_reducible rfl
  rotate_left
  · simp only [Act.put, List.setIfInBounds_toArray, List.set_cons_zero, List.set_cons_succ, zh, zi]
    rfl
  refine zn (i := 9) (N := some 16) (v := ?_) (a' := ?_) #[false, true, false, false, false, true, false, false, false, true, false, false, false, false, false, false, false, false] rfl rfl (zg HT_.out (by kernel_rfl)) (fun _ _ _ h => h) (Or.inl ⟨by rfl, ?_⟩) ?_ ?_
  rotate_left
  · intro w'
    go_simp
    with_reducible rfl
  rotate_left
  · simp only [Act.put, List.setIfInBounds_toArray, List.set_cons_zero, List.set_cons_succ, zh, zi]
    rfl
  refine zn (i := 13) (N := some 20) (v := ?_) (a' := ?_) #[false, true, false, false, false, true, false, false, false, true, false, false, false, true, false, false, false, false] rfl rfl (zg HT_.out (by kernel_rfl)) (fun _ _ _ h => h) (Or.inl ⟨by rfl, ?_⟩) ?_ ?_
  rotate_left
  · intro w'
    go_simp
    with_reducible rfl
  rotate_left
  · simp only [Act.put, List.setIfInBounds_toArray, List.set_cons_zero, List.set_cons_succ, zh, zi]
    rfl
  refine zb3 (i := 0) (N := some 7) (v := ?_) (a' := ?_) #[true, true, false, false, false, true, false, false, false, true, false, false, false, true, false, false, false, false] rfl rfl (zbc HT_.out HW_.out (by kernel_rfl)) (fun _ _ _ h => h) (Or.inl ⟨by rfl, ?_⟩) hHeld ?_ ?_
  rotate_left
  · rintro w' ⟨s0, s1, s2, s3, s4, s5, s6, s7, s8, s9⟩
    go_simp
    with_reducible rfl
  rotate_left
  · simp only [Act.put, List.setIfInBounds_toArray, List.set_cons_zero, List.set_cons_succ, zh, zi]
    rfl
  refine zn (i := 2) (N := some 9) (v := ?_) (a' := ?_) #[true, true, true, false, false, true, false, false, false, true, false, false, false, true, false, false, false, false] rfl rfl (zg HT_.out (by kernel_rfl)) (fun _ _ _ h => h) (Or.inl ⟨by rfl, ?_⟩) ?_ ?_
  rotate_left
  · intro w'
    go_simp
    with_reducible rfl
  rotate_left
  · simp only [Act.put, List.setIfInBounds_toArray, List.set_cons_zero, List.set_cons_succ, zh, zi]
    rfl
  refine zb3 (i := 3) (N := some 10) (v := ?_) (a' := ?_) #[true, true, true, true, false, true, false, false, false, true, false, false, false, true, false, false, false, false] rfl rfl (zbc HT_.out HW_.out (by kernel_rfl)) (fun _ _ _ h => h) (Or.inl ⟨by rfl, ?_⟩) hHeld ?_ ?_
  rotate_left
  · rintro w' ⟨s0, s1, s2, s3, s4, s5, s6, s7, s8, s9⟩
    go_simp
    with_reducible rfl
  rotate_left
  · simp only [Act.put, List.setIfInBounds_toArray, List.set_cons_zero, List.set_cons_succ, zh, zi]
    rfl
  refine zb3 (i := 4) (N := some 11) (v := ?_) (a' := ?_) #[true, true, true, true, true, true, false, false, false, true, false, false, false, true, false, false, false, false] rfl rfl (zbc HT_.out HW_.out (by kernel_rfl)) (fun _ _ _ h => h) (Or.inl ⟨by rfl, ?_⟩) hHeld ?_ ?_
  rotate_left
  · rintro w' ⟨s0, s1, s2, s3, s4, s5, s6, s7, s8, s9⟩
    go_simp
    with_reducible rfl
  rotate_left
  · simp only [Act.put, List.setIfInBounds_toArray, List.set_cons_zero, List.set_cons_succ, zh, zi]
    rfl
  refine zn (i := 6) (N := some 13) (v := ?_) (a' := ?_) #[true, true, true, true, true, true, true, false, false, true, false, false, false, true, false, false, false, false] rfl rfl (zg HT_.out (by kernel_rfl)) (fun _ _ _ h => h) (Or.inl ⟨by rfl, ?_⟩) ?_ ?_
  rotate_left
  · intro w'
    go_simp
    with_reducible rfl
  rotate_left
  · simp only [Act.put, List.setIfInBounds_toArray, List.set_cons_zero, List.set_cons_succ, zh, zi]
    rfl
  refine zb3 (i := 7) (N := some 14) (v := ?_) (a' := ?_) #[true, true, true, true, true, true, true, true, false, true, false, false, false, true, false, false, false, false] rfl rfl (zbc HT_.out HW_.out (by kernel_rfl)) (fun _ _ _ h => h) (Or.inl ⟨by rfl, ?_⟩) hHeld ?_ ?_
  rotate_left
  · rintro w' ⟨s0, s1, s2, s3, s4, s5, s6, s7, s8, s9⟩
    go_simp
    with_reducible rfl
  rotate_left
  · simp only [Act.put, List.setIfInBounds_toArray, List.set_cons_zero, List.set_cons_succ, zh, zi]
    rfl
  refine zb3 (i := 8) (N := some 15) (v := ?_) (a' := ?_) #[true, true, true, true, true, true, true, true, true, true, false, false, false, true, false, false, false, false] rfl rfl (zbc HT_.out HW_.out (by kernel_rfl)) (fun _ _ _ h => h) (Or.inl ⟨by rfl, ?_⟩) hHeld ?_ ?_
  rotate_left
  · rintro w' ⟨s0, s1, s2, s3, s4, s5, s6, s7, s8, s9⟩
    go_simp
    with_reducible rfl
  rotate_left
  · simp only [Act.put, List.setIfInBounds_toArray, List.set_cons_zero, List.set_cons_succ, zh, zi]
    rfl
  refine zn (i := 10) (N := some 17) (v := ?_) (a' := ?_) #[true, true, true, true, true, true, true, true, true, true, true, false, false, true, false, false, false, false] rfl rfl (zg HT_.out (by kernel_rfl)) (fun _ _ _ h => h) (Or.inl ⟨by rfl, ?_⟩) ?_ ?_
  rotate_left
  · intro w'
    go_simp
    with_reducible rfl
  rotate_left
  · simp only [Act.put, List.setIfInBounds_toArray, List.set_cons_zero, List.set_cons_succ, zh, zi]
    rfl
  refine zb3 (i := 11) (N := some 18) (v := ?_) (a' := ?_) #[true, true, true, true, true, true, true, true, true, true, true, true, false, true, false, false, false, false] rfl rfl (zbc HT_.out HW_.out (by kernel_rfl)) (fun _ _ _ h => h) (Or.inl ⟨by rfl, ?_⟩) hHeld ?_ ?_
  rotate_left
  · rintro w' ⟨s0, s1, s2, s3, s4, s5, s6, s7, s8, s9⟩
    go_simp
    with_reducible rfl
  rotate_left
  · simp only [Act.put, List.setIfInBounds_toArray, List.set_cons_zero, List.set_cons_succ, zh, zi]
    rfl
  refine zb3 (i := 12) (N := some 19) (v := ?_) (a' := ?_) #[true, true, true, true, true, true, true, true, true, true, true, true, true, true, false, false, false, false] rfl rfl (zbc HT_.out HW_.out (by kernel_rfl)) (fun _ _ _ h => h) (Or.inl ⟨by rfl, ?_⟩) hHeld ?_ ?_
  rotate_left
  · rintro w' ⟨s0, s1, s2, s3, s4, s5, s6, s7, s8, s9⟩
    go_simp
    with_reducible rfl
  rotate_left
  · simp only [Act.put, List.setIfInBounds_toArray, List.set_cons_zero, List.set_cons_succ, zh, zi]
    rfl
  refine zn (i := 14) (N := some 21) (v := ?_) (a' := ?_) #[true, true, true, true, true, true, true, true, true, true, true, true, true, true, true, false, false, false] rfl rfl (zg HT_.out (by kernel_rfl)) (fun _ _ _ h => h) (Or.inl ⟨by rfl, ?_⟩) ?_ ?_
  rotate_left
  · intro w'
    go_simp
    with_reducible rfl
  rotate_left
  · simp only [Act.put, List.setIfInBounds_toArray, List.set_cons_zero, List.set_cons_succ, zh, zi]
    rfl
  refine zb3 (i := 15) (N := some 22) (v := ?_) (a' := ?_) #[true, true, true, true, true, true, true, true, true, true, true, true, true, true, true, true, false, false] rfl rfl (zbc HT_.out HW_.out (by kernel_rfl)) (fun _ _ _ h => h) (Or.inl ⟨by rfl, ?_⟩) hHeld ?_ ?_
  rotate_left
  · rintro w' ⟨s0, s1, s2, s3, s4, s5, s6, s7, s8, s9⟩
    go_simp
    with_reducible rfl
  rotate_left
  · simp only [Act.put, List.setIfInBounds_toArray, List.set_cons_zero, List.set_cons_succ, zh, zi]
    rfl
  refine one_ (i := 16) (N := some 23) #[true, true, true, true, true, true, true, true, true, true, true, true, true, true, true, true, true, false] rfl rfl (zb0 HT_.out (by kernel_rfl)) (by decide) (fun K hK => ?_)
  refine zcs Try.func33 (by kernel_rfl) rfl #[.agg #[.int .i64 (zf l0 a).f0, .int .i64 (zf l0 a).f1, .int .i64 (zf l0 a).f2], .int .i64 (rd nx a), .agg #[.int .i64 (zf l0 b).f0, .int .i64 (zf l0 b).f1, .int .i64 (zf l0 b).f2], .int .i64 (rd nx b)] (by rfl) rfl rfl (by (try simp only [List.map_toArray, List.map_cons, List.map_nil]); first | done | rfl) ?_
  refine (zbe.calls k _ _ _ _ _ _ _ _ v _ H.out).mono ?_
  rintro e w1 ⟨rfl, hb⟩
  refine ⟨_, rfl, ?_⟩
  have HB := za.mk (zl (zbk (Below.refl w.heap.size w)) hb)
  refine hK.out _ _ ⟨(hb.cell (World.block_lt_of_cell? _ _ hs)).trans hs, (hb.cell (World.block_lt_of_cell? _ _ hn)).trans hn, (hb.cell (World.block_lt_of_cell? _ _ hx0)).trans hx0, (hb.cell (World.block_lt_of_cell? _ _ hx1)).trans hx1, (hb.cell (World.block_lt_of_cell? _ _ hx2)).trans hx2, (hb.cell (World.block_lt_of_cell? _ _ hz)).trans hz, (hb.cell (World.block_lt_of_cell? _ _ hy0)).trans hy0, (hb.cell (World.block_lt_of_cell? _ _ hy1)).trans hy1, (hb.cell (World.block_lt_of_cell? _ _ hy2)).trans hy2, (hb.cell (World.block_lt_of_cell? _ _ hv)).trans hv⟩ (fun hHeld => ?_)
  clear hK K
  refine zcd (a' := ?_) ?_ ?_
  rotate_left
  · show Act.put _ (some 23) _ = _
    simp only [Act.put, List.setIfInBounds_toArray, List.set_cons_zero, List.set_cons_succ, zh, zi]
    rfl
  refine zn (i := 17) (N := some 6) (v := ?_) (a' := ?_) #[true, true, true, true, true, true, true, true, true, true, true, true, true, true, true, true, true, true] rfl rfl (zg HT_.out (by kernel_rfl)) (fun _ _ _ h => h) (Or.inl ⟨by rfl, ?_⟩) ?_ ?_
  rotate_left
  · intro w'
    go_simp
    with_reducible rfl
  rotate_left
  · simp only [Act.put, List.setIfInBounds_toArray, List.set_cons_zero, List.set_cons_succ, zh, zi]
    rfl
  refine zc5 (zb9 HT_.out (by kernel_rfl)) ?_
  go_wp2
  go_ret
  exact ⟨rfl, HB.out⟩
def fwin (l0 : List S35) (nx : List Int) (i : Int) : Int × Int := (zbr.f (zf l0 i).f0 (zf l0 i).f1 (zf l0 i).f2 (rd nx i)).getD (0, 0)
def zd1 (l0 : List S35) (nx : List Int) (now : Int) : Nat → List Int
  | 0 => []
  | i + 1 => if (fwin l0 nx (i : Int)).1 ≤ now then zd1 l0 nx now i ++ [(i : Int)] else zd1 l0 nx now i
def zfo (k : Nat) (l0 : List S35) (nx : List Int) (a b : Int) : Option Int := zbe.f k (zf l0 a).f0 (zf l0 a).f1 (zf l0 a).f2 (rd nx a) (zf l0 b).f0 (zf l0 b).f1 (zf l0 b).f2 (rd nx b)
def fcmp (k : Nat) (l0 : List S35) (nx : List Int) (a b : Int) : Int := (zfo k l0 nx a b).getD 0
def fokb (k : Nat) (l0 : List S35) (nx ls : List Int) : Bool := ls.all fun a => ls.all fun b => (zfo k l0 nx a b).isSome
def frow (k : Nat) (l0 : List S35) (nx : List Int) (now m : Int) : List Int := (zdw (fcmp k l0 nx) (zd1 l0 nx now l0.length)).take (min m ((zdw (fcmp k l0 nx) (zd1 l0 nx now l0.length)).length : Int)).toNat
def fadv (nx row : List Int) : List Int := row.foldl (fun nx i => nx.set i.toNat (wrap64 (rd nx i + 1))) nx
def zbp.l0 (k : Nat) (l0 : List S35) (m : Int) : Nat → Nat → List Int → List (List Int) → Option (List (List Int))
  | 0, _, _, out => some out
  | d + 1, now, nx, out => if fokb k l0 nx (zd1 l0 nx (now : Int) l0.length) = true then zbp.l0 k l0 m d (now + 1) (fadv nx (frow k l0 nx (now : Int) m)) (out.set now (frow k l0 nx (now : Int) m)) else none
def zbp.f (k : Nat) (l0 : List S35) (a1 : Int) : Option (List (List Int)) := (zc2.f l0).bind fun t => (if t = true then ((zde.f a1).bind fun u => (if u = true then (if l0.length < 20 ∧ (∀ t ∈ l0, t.f0 ≠ 0) ∧ 0 ≤ a1 then (zbp.l0 k l0 a1 120 0 (List.replicate l0.length 0) (List.replicate 120 [])) else (none)) else (some []))) else (some []))
theorem zir {cf cg : Int → Int → Int} {S : List Int} (h : ∀ a ∈ S, ∀ b ∈ S, cf a b = cg a b) : ∀ (j : Nat) (l : List Int), (∀ x ∈ l, x ∈ S) → j < l.length → inn cf j l = inn cg j l
  | 0, _, _, _ => rfl
  | j + 1, l, hl, hj => by
    have h1 : cf (rd l ((j : Int) + 1)) (rd l (j : Int)) = cg (rd l ((j : Int) + 1)) (rd l (j : Int)) := h _ (hl _ (ze1 l (j + 1) hj)) _ (hl _ (ze1 l j (by omega)))
    rw [inn, inn, h1]
    split
    · exact zir h j _ (fun x hx => hl x (zja l j hj x hx)) (by rw [zdv]; omega)
    · rfl
theorem zjd (cf : Int → Int → Int) : ∀ (j : Nat) (l : List Int), j < l.length → ∀ x ∈ inn cf j l, x ∈ l
  | 0, _, _, x, hx => hx
  | j + 1, l, hj, x, hx => by
    rw [inn] at hx
    split at hx
    · exact zja l j hj x (zjd cf j _ (by rw [zdv]; omega) x hx)
    · exact hx
theorem zhj {cf cg : Int → Int → Int} {S : List Int} (h : ∀ a ∈ S, ∀ b ∈ S, cf a b = cg a b) : ∀ (d i : Nat) (l : List Int), (∀ x ∈ l, x ∈ S) → i + d ≤ l.length → outr cf d i l = outr cg d i l
  | 0, _, _, _, _ => rfl
  | d + 1, i, l, hl, hd => by
    rw [outr, outr, zir h i l hl (by omega)]
    exact zhj h d (i + 1) _ (fun x hx => hl x (zjd cg i l (by omega) x hx)) (by rw [zd9]; omega)
theorem zje {cf cg : Int → Int → Int} {l : List Int} (h : ∀ a ∈ l, ∀ b ∈ l, cf a b = cg a b) : zdw cf l = zdw cg l := by
  unfold zdw
  rcases Nat.eq_zero_or_pos l.length with h0 | h0
  · rw [h0]; rfl
  · exact zhj h _ _ l (fun x hx => hx) (by omega)
theorem fokb_iff {k : Nat} {l0 : List S35} {nx ls : List Int} : fokb k l0 nx ls = true ↔ ∀ a ∈ ls, ∀ b ∈ ls, zfo k l0 nx a b = some (fcmp k l0 nx a b) := by
  unfold fokb fcmp
  rw [List.all_eq_true]
  constructor
  · intro h a ha b hb
    have h1 := h a ha
    rw [List.all_eq_true] at h1
    have h2 := h1 b hb
    cases hv : zfo k l0 nx a b with
    | none => rw [hv] at h2; cases h2
    | some v => rfl
  · intro h a ha
    rw [List.all_eq_true]
    intro b hb
    rw [h a ha b hb]; rfl
theorem fwin_some {l0 : List S35} (hE : ∀ t ∈ l0, t.f0 ≠ 0) (nx : List Int) (i : Nat) (h : i < l0.length) : zbr.f (zf l0 (i : Int)).f0 (zf l0 (i : Int)).f1 (zf l0 (i : Int)).f2 (rd nx (i : Int)) = some (fwin l0 nx (i : Int)) := by
  have h1 : (zf l0 (i : Int)).f0 ≠ 0 := hE _ (by
    show l0.getD (i : Int).toNat _ ∈ l0
    rw [List.getD_eq_getElem?_getD, Int.toNat_natCast, List.getElem?_eq_getElem h]
    exact List.getElem_mem h)
  unfold fwin
  generalize zf l0 (i : Int) = t at h1 ⊢
  unfold zbr.f zed.f
  rw [if_neg h1, if_neg h1]
  rfl
theorem flist_mem (l0 : List S35) (nx : List Int) (now : Int) : ∀ n, ∀ x ∈ zd1 l0 nx now n, 0 ≤ x ∧ x < (n : Int) := by
  intro n
  induction n with
  | zero => intro x hx; simp [zd1] at hx
  | succ n ih =>
    intro x hx
    rw [zd1] at hx
    split at hx
    · rcases List.mem_append.1 hx with h | h
      · have := ih x h; omega
      · have : x = (n : Int) := by simpa using h
        omega
    · have := ih x hx; omega
theorem zis (l0 : List S35) (nx : List Int) (now : Int) : ∀ n, (zd1 l0 nx now n).length ≤ n := by
  intro n
  induction n with
  | zero => exact Nat.le_refl _
  | succ n ih =>
    rw [zd1]
    split
    · rw [List.length_append, List.length_singleton]; omega
    · omega
theorem outr_mem (cf : Int → Int → Int) : ∀ (d i : Nat) (l : List Int), i + d ≤ l.length → ∀ x ∈ outr cf d i l, x ∈ l
  | 0, _, _, _, x, hx => hx
  | d + 1, i, l, hd, x, hx => zjd cf i l (by omega) x (outr_mem cf d (i + 1) _ (by rw [zd9]; omega) x hx)
theorem isort_mem (cf : Int → Int → Int) (l : List Int) : ∀ x ∈ zdw cf l, x ∈ l := by
  intro x hx
  unfold zdw at hx
  rcases Nat.eq_zero_or_pos l.length with h0 | h0
  · rw [h0] at hx; exact hx
  · exact outr_mem cf _ _ l (by omega) x hx
theorem zeo (row : List Int) : ∀ nx : List Int, (fadv nx row).length = nx.length := by
  unfold fadv
  induction row with
  | nil => intro nx; rfl
  | cons a row ih => intro nx; rw [List.foldl_cons, ih]; simp
structure FrW (w : World) (n gs gn go : Nat) (A0 NX : Option Addr) (c0 cn co : Nat) (nx : List Int) (rows : List (List Int)) (W : World) : Prop where
  s0 : W.cell? ⟨gs, 0, none⟩ = some (.slice A0 n c0)
  n0 : W.cell? ⟨gn, 0, none⟩ = some (.slice NX n cn)
  nR : Kd.R (Kd.int .i64) 3 W w.heap.size (fun k => some k = (Value.slice NX n cn).ownBlock) (.slice NX n cn) nx
  oR : Kd.R (Kd.cut 3 (Kd.int .i64)) 33 W w.heap.size (fun k => k ≠ gs ∧ k ≠ gn ∧ some k ≠ (Value.slice NX n cn).ownBlock) (.slice (some ⟨go, 0, none⟩) 120 co) rows
  bel : Below w.heap.size w W
structure FrNe (w : World) (n gs gn : Nat) (NX : Option Addr) (cn : Nat) : Prop where
  gs_ : w.heap.size ≤ gs
  gn_ : w.heap.size ≤ gn
  sn : gs ≠ gn
  gN : ∀ k, (Value.slice NX n cn).ownBlock = some k → w.heap.size ≤ k ∧ k ≠ gs ∧ k ≠ gn
section
variable {w W W1 : World} {n gs gn go : Nat} {A0 NX : Option Addr} {c0 cn co : Nat} {nx : List Int} {rows : List (List Int)}
theorem FrW.below (h : FrW w n gs gn go A0 NX c0 cn co nx rows W) (hb : Below W.heap.size W W1) : FrW w n gs gn go A0 NX c0 cn co nx rows W1 :=
  ⟨(hb.cell (World.block_lt_of_cell? _ _ h.s0)).trans h.s0, (hb.cell (World.block_lt_of_cell? _ _ h.n0)).trans h.n0, Kd.zb7 h.nR hb, Kd.zb7 h.oR hb, zl h.bel hb⟩
theorem FrW.setNx {g : Nat} (h : FrW w n gs gn go A0 (some ⟨g, 0, none⟩) c0 cn co nx rows W) (ne : FrNe w n gs gn (some ⟨g, 0, none⟩) cn) (i : Nat) (x : Int) :
    FrW w n gs gn go A0 (some ⟨g, 0, none⟩) c0 cn co (nx.set i x) rows (W.setCell ⟨g, i, none⟩ (.int .i64 x)) := by
  have ho : (Value.slice (some ⟨g, 0, none⟩) n cn).ownBlock = some g := rfl
  have hg := ne.gN g ho
  have h1 := (Kd.zer h.nR (i : Int) x).1
  rw [Int.toNat_natCast] at h1
  refine ⟨?_, ?_, h1, Kd.zf8 h.oR (fun k hk e => hk.2.2 (by rw [ho]; exact congrArg some e)) _, h.bel.setCell hg.1 _⟩
  · rw [World.cell?_setCell_far _ _ _ _ (fun e => hg.2.1 e)]; exact h.s0
  · rw [World.cell?_setCell_far _ _ _ _ (fun e => hg.2.2 e)]; exact h.n0
theorem FrW.setOut (h : FrW w n gs gn go A0 NX c0 cn co nx rows W) {i : Nat} (hi : i < 120) {v : Value} {row : List Int} {okp : Nat → Prop}
    (hv : Kd.Qc (Kd.int .i64) 3 W w.heap.size okp v row) (hok : ∀ k, okp k → k ≠ gs ∧ k ≠ gn ∧ some k ≠ (Value.slice NX n cn).ownBlock ∧ k ≠ go) :
    FrW w n gs gn go A0 NX c0 cn co nx (rows.set i row) (W.setCell ⟨go, i, none⟩ v) := by
  have hg := h.oR.1 go rfl
  have hbase := Kd.zcy h.oR go rfl
  obtain ⟨c, hcl, _, hcc, _⟩ := Kd.zih h.oR ([] : List Int) (i : Int) (by omega) (by omega)
  have h1 : c.length = 1 := hcl
  have h2 := (Kd.R_seg h.oR (i : Int) (by omega) (by omega) (c := c) (seg := [v]) (j := 0) (okp := okp) (x' := row) hcl hcc (Nat.le_refl 1) (by
    show ∃ v', c.take 0 ++ [v] ++ c.drop (0 + 1) = [v'] ∧ Kd.Qc (Kd.int .i64) 3 W w.heap.size okp v' row
    refine ⟨v, ?_, hv⟩
    rw [List.drop_eq_nil_of_le (by omega)]
    rfl) (fun k hk => ⟨⟨(hok k hk).1, (hok k hk).2.1, (hok k hk).2.2.1⟩, (hok k hk).2.2.2⟩)).1
  rw [show (Kd.cut 3 (Kd.int .i64)).sz = 1 from rfl, Nat.mul_one, Nat.add_zero, Int.toNat_natCast] at h2
  refine ⟨?_, ?_, Kd.zf8 h.nR (fun k hk e => hg.2.2 (by rw [← hk]; exact congrArg some e.symm)) _, h2, h.bel.setCell hbase _⟩
  · rw [World.cell?_setCell_far _ _ _ _ (fun e => hg.1 e)]; exact h.s0
  · rw [World.cell?_setCell_far _ _ _ _ (fun e => hg.2.1 e)]; exact h.n0
end
def zbp.T12 : Bool × List (List Nat × List Nat) := (true, [([], []), ([], []), ([], []), ([1, 2], [1, 2]), ([3], [3]), ([0, 4], [0, 4]), ([5], [5]), ([], []), ([6, 7], [6, 7])])
def zbp.B12 : List Nat := [0, 0, 0, 6, 14, 31, 63, 0, 255]
theorem zbp.tab12 : rtab .any (opsOf Try.f10 12) = zbp.T12 := by kernel_rfl
theorem zbp.bits12 : zcw zbp.T12.2 zbp.B12 = true := by kernel_rfl
set_option maxHeartbeats 16000000 in
theorem zbp.calls (k : Nat) (A0 : Option Addr) (c0 : Nat) (l0 : List S35) (a1 : Int) (r : List (List Int)) (w : World) (hr0 : Kd.C k35 w A0 l0.length l0) (hc0 : l0.length ≤ c0) (h : zbp.f k l0 a1 = some r) :
    Calls Try.prog 10 #[.slice A0 l0.length c0, .int .i64 a1] w fun e w' => ∃ v0_ : Value, e = .returned v0_ ∧ Kd.Qc (Kd.cut 3 (Kd.int .i64)) 33 w' w.heap.size (fun _ => True) v0_ r ∧ Below w.heap.size w w' := by
  have HR := za.mk hr0
  have HC := za.mk hc0
  unfold zbp.f at h
  cases hs : zc2.f l0 with
  | none => rw [hs] at h; simp at h
  | some t =>
    rw [hs] at h
    have HS := za.mk hs
    clear hs hr0 hc0
    cases t with
    | false =>
      simp at h
      subst h
      go_enter Try.func10, Try.ntmps10
      go_wp2_with (go_at_call 28; refine (zc2.calls A0 c0 l0 false _ (Kd.zc3 HR.out _) HC.out HS.out).mono ?_; rintro e w' ⟨rfl, hb⟩; have HB := za.mk hb; clear hb)
      go_ret
      exact ⟨_, rfl, Kd.ziq _ _ _ _ _, zc6 (zca (Below.refl _ _) _) (by simp) HB.out⟩
    | true =>
      simp only [Option.bind_some, if_true] at h
      cases hu : zde.f a1 with
      | none => rw [hu] at h; simp at h
      | some u =>
        rw [hu] at h
        have HU := za.mk hu
        clear hu
        cases u with
        | false =>
          simp at h
          subst h
          go_enter Try.func10, Try.ntmps10
          go_wp2_with (first | (go_at_call 28; refine (zc2.calls A0 c0 l0 true _ (Kd.zc3 HR.out _) HC.out HS.out).mono ?_; rintro e w' ⟨rfl, hb⟩; have HB := za.mk hb; clear hb) | (go_at_call 29; refine (zde.calls a1 false _ HU.out).mono ?_; rintro e w2 ⟨rfl, ⟨q2, rfl⟩⟩))
          go_ret
          exact ⟨_, rfl, Kd.ziq _ _ _ _ _, zce (zc6 (zca (Below.refl _ _) _) (by simp) HB.out) _⟩
        | true =>
          simp only [Option.bind_some, if_true] at h
          by_cases hh : l0.length < 20 ∧ (∀ t ∈ l0, t.f0 ≠ 0) ∧ 0 ≤ a1
          · rw [if_pos hh] at h
            have HN := za.mk hh.1
            have HE := za.mk hh.2.1
            have HA := hh.2.2
            have H := za.mk h
            clear hh h
            go_enter Try.func10, Try.ntmps10
            go_wp2_with (first
              | (go_at_call 28; refine (zc2.calls A0 c0 l0 true _ (Kd.zc3 HR.out _) HC.out HS.out).mono ?_; rintro e w1 ⟨rfl, hb⟩; have HB := za.mk (zc6 (zca (Below.refl w.heap.size w) (.cells #[.slice A0 l0.length c0] 23)) (by simp) hb); have cs1 : w1.cell? ⟨w.heap.size, 0, none⟩ = some (.slice A0 l0.length c0) := (hb.cell (p := ⟨w.heap.size, 0, none⟩) (by simp)).trans (by simp); have hs1 : w.heap.size < w1.heap.size := by have := hb.size; simp at this; omega
                 have HS1 := za.mk hs1; have CS1 := za.mk cs1; clear hb hs1)
              | (go_at_call 29; refine (zde.calls a1 true _ HU.out).mono ?_; rintro e w2 ⟨rfl, ⟨q2, rfl⟩⟩)
              | ((with_reducible refine zb4 (N := 23) rfl ?_); refine Kd.zhc (Kd.int .i64) _ 3 rfl (N := 23) rfl 33 _ _ rfl (l0.length : Int) rfl rfl Try.underlying33 (.int .i64 0) 8 info3 rfl (by decide) (by omega) 0 (ok := fun _ => True) (okp := fun _ => True) rfl (fun _ hk => hk) trivial (by omega) (by have := HN.out; rw [Int.toNat_natCast]; omega) (Below.refl _ _) (Nat.le_refl _) ?_; intro v3 w3 ho hb hg_ hnew_; rw [Int.toNat_natCast] at ho; obtain ⟨NX, cn, ev⟩ := Kd.zck ho; rw [List.length_replicate] at ev; subst ev; have RN := za.mk ho; have B3 := za.mk hb; clear ho hb hg_ hnew_)
              | ((with_reducible refine zb4 (N := 24) rfl ?_); refine Kd.zhc (Kd.cut 3 (Kd.int .i64)) _ 33 rfl (N := 24) rfl 26 _ _ rfl (120 : Int) rfl rfl Try.underlying26 (.slice none 0 0) 24 info33 rfl (by decide) (by omega) [] (ok := fun _ => True) (okp := fun _ => True) ⟨_, rfl, Kd.ziq _ _ _ _ _⟩ (fun _ hk => hk) trivial (by omega) (by decide) (Below.refl _ _) (Nat.le_refl _) ?_; intro v4 w4 ho hb hg_ hnew_; simp only [Int.reduceToNat] at ho; obtain ⟨go, capO, ev, hgb⟩ := Kd.zgh ho (by rw [List.length_replicate]; omega); rw [List.length_replicate] at ev; subst ev; have RO := za.mk ho; have B4 := za.mk hb; clear ho hb hg_ hnew_ hgb))
            obtain ⟨gn, hgn⟩ : ∃ gn, gn = w3.heap.size := ⟨_, rfl⟩
            obtain ⟨gs, hgs⟩ : ∃ gs, gs = w.heap.size := ⟨_, rfl⟩
            have s1 := HS1.out
            have s2 : w1.heap.size ≤ w3.heap.size := B3.out.size
            have s4' : (w3.alloc (.cells #[.slice NX l0.length cn] 33)).heap.size = w3.heap.size + 1 := by simp
            have s4 := B4.out.size
            have NE := za.mk (show FrNe w l0.length gs gn NX cn from ⟨by omega, by omega, by omega, fun k hk => by
              have h1 := Kd.zcy RN.out k hk
              have h2 := Kd.R_lt RN.out k hk
              have h3 : (w1.drewN q2).heap.size = w1.heap.size := rfl
              omega⟩)
            have BKn := zbm (zi3 w3 (.cells #[.slice NX l0.length cn] 33)) B4.out
            have BEL : Below w.heap.size w w4 := zl (zca (zl (zce HB.out _) B3.out) _) B4.out
            have GW := za.mk (show FrW w l0.length gs gn go A0 NX c0 cn capO (List.replicate l0.length 0) (List.replicate 120 []) w4 from ⟨by
                rw [hgs]
                have c1 : (w1.drewN q2).cell? ⟨w.heap.size, 0, none⟩ = some (.slice A0 l0.length c0) := cs1
                have c3 := (B3.out.cell (World.block_lt_of_cell? _ _ c1)).trans c1
                have c3' := ((zca (Below.refl w3.heap.size w3) (.cells #[.slice NX l0.length cn] 33)).cell (World.block_lt_of_cell? _ _ c3)).trans c3
                exact (B4.out.cell (World.block_lt_of_cell? _ _ c3')).trans c3',
              by rw [hgn]; exact (ze BKn 0).trans rfl,
              Kd.R_tight rfl (Kd.zcj (Kd.zb7 (Kd.zcl RN.out _) B4.out) (by show w.heap.size ≤ w1.heap.size; omega)),
              Kd.zcj (Kd.zbs (Kd.zdx RO.out) (fun k hk => by
                have h1 := hk.2.1
                refine ⟨by omega, by omega, fun e => ?_⟩
                have h2 := Kd.R_lt RN.out k e.symm
                omega)) (by omega), BEL⟩)
            clear BKn BEL s1 s2 s4 s4'
            clear RO RN B4 B3 HB cs1 CS1 HS1
            rw [← hgs, ← hgn]
            clear hgn hgs
            go_wp2
            go_loopg [27] 120 (fun gg v27 wr => ∃ (j : Nat) (nx : List Int) (rows : List (List Int)), v27 = .int .i64 j ∧ j ≤ 120 ∧ 120 - j ≤ gg ∧ nx.length = l0.length ∧ za (zbp.l0 k l0 a1 (120 - j) j nx rows = some r) ∧ za (FrW w l0.length gs gn go A0 NX c0 cn capO nx rows wr))
            case atStart => exact ⟨0, _, _, by go_num, by omega, by omega, List.length_replicate, H, GW⟩
            case round =>
              obtain ⟨j, nx, rows, rfl, hj, hgg, hnl, HL, GR⟩ := hrel
              clear GW H
              by_cases hj2 : j < 120
              · have hjz : (j : Int) < 120 := by omega
                have hL := HL.out
                rw [show 120 - j = (120 - (j + 1)) + 1 by omega, zbp.l0] at hL
                clear HL
                by_cases hok : fokb k l0 nx (zd1 l0 nx (j : Int) l0.length) = true
                · rw [if_pos hok] at hL
                  have HL := za.mk hL
                  have HOK := za.mk (fokb_iff.1 hok)
                  have HNL := za.mk hnl
                  clear hL hok hnl
                  have cgs := GR.out.s0
                  generalize wr = w6 at GR cgs ⊢
                  go_wp2
                  go_loopg [8, 32] l0.length (fun gg v8 v32 wr => ∃ i : Nat, v32 = .int .i64 i ∧ i ≤ l0.length ∧ l0.length - i ≤ gg ∧ za (Kd.R (Kd.int .i64) 3 wr w6.heap.size (fun _ => True) v8 (zd1 l0 nx (j : Int) i)) ∧ za (Below w6.heap.size w6 wr))
                  case atStart => exact ⟨0, by go_num, Nat.zero_le _, by omega, ⟨Kd.R_nil _ _ _ _ _⟩, ⟨Below.refl _ _⟩⟩
                  case round =>
                    obtain ⟨i, rfl, hil, hgi, RP, BP⟩ := hrel
                    by_cases hlt : i < l0.length
                    · have hltz : (i : Int) < (l0.length : Int) := by omega
                      have GI := za.mk (GR.out.below BP.out)
                      obtain ⟨ad, ea, hx0, hx1, hx2⟩ := zch (Kd.zdq HR.out GI.out.bel) (i : Int) (by omega) hltz
                      subst ea
                      obtain ⟨ax, eax, hz⟩ := Kd.zb5 (Kd.zz GI.out.nR).2.2 (i : Int) (by omega) (by rw [HNL.out]; exact hltz)
                      subst eax
                      rw [Int.toNat_natCast] at hx0 hx1 hx2 hz
                      obtain ⟨⟨x1, x2⟩, hwi⟩ : ∃ p, fwin l0 nx (i : Int) = p := ⟨_, rfl⟩
                      have HWI := za.mk (show zbr.f (zf l0 (i : Int)).f0 (zf l0 (i : Int)).f1 (zf l0 (i : Int)).f2 (rd nx (i : Int)) = some (x1, x2) by rw [fwin_some HE.out nx i hlt, hwi])
                      have BKt := zi3 wr (.cells #[.int .i64 (zf l0 (i : Int)).f0, .int .i64 (zf l0 (i : Int)).f1, .int .i64 (zf l0 (i : Int)).f2] 35)
                      have RA := za.mk (Kd.zcl RP.out (.cells #[.int .i64 (zf l0 (i : Int)).f0, .int .i64 (zf l0 (i : Int)).f1, .int .i64 (zf l0 (i : Int)).f2] 35))
                      have BA := za.mk (zca BP.out (.cells #[.int .i64 (zf l0 (i : Int)).f0, .int .i64 (zf l0 (i : Int)).f1, .int .i64 (zf l0 (i : Int)).f2] 35))
                      have GA := GI.out.below (zca (Below.refl wr.heap.size wr) (.cells #[.int .i64 (zf l0 (i : Int)).f0, .int .i64 (zf l0 (i : Int)).f1, .int .i64 (zf l0 (i : Int)).f2] 35))
                      have cx := ((zca (Below.refl wr.heap.size wr) (.cells #[.int .i64 (zf l0 (i : Int)).f0, .int .i64 (zf l0 (i : Int)).f1, .int .i64 (zf l0 (i : Int)).f2] 35)).cell (World.block_lt_of_cell? _ _ hz)).trans hz
                      have ct0 := (ze BKt 0).trans rfl
                      have ct1 := (ze BKt 1).trans rfl
                      have ct2 := (ze BKt 2).trans rfl
                      have cgn := GA.n0
                      have HWF := za.mk hwi
                      have hlp := zis l0 nx (j : Int) i
                      have hN := HN.out
                      have HLP := za.mk hlp
                      clear hwi hlp BKt
                      go_wp2_with fail
                      have hfld : ∀ (A B : Value) (W : World), (Instr.field 39 (.agg #[A, B]) 0).run Try.prog W = .ok A W := fun _ _ _ => rfl
                      have hip : (0 : Int) ≤ (i : Int) := by omega
                      refine zcn (n := 9) (S := fun w' => w'.cell? ⟨wr.heap.size, 0, none⟩ = some (.int .i64 (zf l0 (i : Int)).f0) ∧ w'.cell? ⟨wr.heap.size, 1, none⟩ = some (.int .i64 (zf l0 (i : Int)).f1) ∧ w'.cell? ⟨wr.heap.size, 2, none⟩ = some (.int .i64 (zf l0 (i : Int)).f2) ∧ w'.cell? ⟨gn, 0, none⟩ = some (.slice (some ax) l0.length cn) ∧ w'.cell? (ax.add i) = some (.int .i64 (rd nx (i : Int)))) (ds := []) #[false, false, false, false, false, false, false, false, false] (by kernel_rfl) rfl rfl ⟨ct0, ct1, ct2, cgn, cx⟩ (fun hHeld => ?_); refine zbw zbp.tab12 zbp.bits12 (fun HT_ HW_ => ?_)
                      refine zn (i := 2) (N := some 39) (v := ?_) (a' := ?_) #[false, false, true, false, false, false, false, false, false] rfl rfl (zg HT_.out (by kernel_rfl)) (fun _ _ _ h => h) (Or.inl ⟨by rfl, ?_⟩) ?_ ?_
                      rotate_left
                      · intro w'
                        go_simp
                        with_reducible rfl
                      rotate_left
                      · simp only [Act.put, List.setIfInBounds_toArray, List.set_cons_zero, List.set_cons_succ, zh, zi]
                        rfl
                      refine zn (i := 7) (N := some 44) (v := ?_) (a' := ?_) #[false, false, true, false, false, false, false, true, false] rfl rfl (zg HT_.out (by kernel_rfl)) (fun _ _ _ h => h) (Or.inl ⟨by rfl, ?_⟩) ?_ ?_
                      rotate_left
                      · intro w'
                        go_simp
                        with_reducible rfl
                      rotate_left
                      · simp only [Act.put, List.setIfInBounds_toArray, List.set_cons_zero, List.set_cons_succ, zh, zi]
                        rfl
                      refine zb3 (i := 0) (N := some 37) (v := ?_) (a' := ?_) #[true, false, true, false, false, false, false, true, false] rfl rfl (zbc HT_.out HW_.out (by kernel_rfl)) (fun _ _ _ h => h) (Or.inl ⟨by rfl, ?_⟩) hHeld ?_ ?_
                      rotate_left
                      · rintro w' ⟨s0, s1, s2, s3, s4⟩
                        go_simp
                        with_reducible rfl
                      rotate_left
                      · simp only [Act.put, List.setIfInBounds_toArray, List.set_cons_zero, List.set_cons_succ, zh, zi]
                        rfl
                      refine zb3 (i := 1) (N := some 38) (v := ?_) (a' := ?_) #[true, true, true, false, false, false, false, true, false] rfl rfl (zbc HT_.out HW_.out (by kernel_rfl)) (fun _ _ _ h => h) (Or.inl ⟨by rfl, ?_⟩) hHeld ?_ ?_
                      rotate_left
                      · rintro w' ⟨s0, s1, s2, s3, s4⟩
                        go_simp
                        with_reducible rfl
                      rotate_left
                      · simp only [Act.put, List.setIfInBounds_toArray, List.set_cons_zero, List.set_cons_succ, zh, zi]
                        rfl
                      refine zn (i := 3) (N := some 40) (v := ?_) (a' := ?_) #[true, true, true, true, false, false, false, true, false] rfl rfl (zg HT_.out (by kernel_rfl)) (fun _ _ _ h => h) (Or.inl ⟨by rfl, ?_⟩) ?_ ?_
                      rotate_left
                      · intro w'
                        go_simp
                        with_reducible rfl
                      rotate_left
                      · simp only [Act.put, List.setIfInBounds_toArray, List.set_cons_zero, List.set_cons_succ, zh, zi]
                        rfl
                      refine zb3 (i := 4) (N := some 41) (v := ?_) (a' := ?_) #[true, true, true, true, true, false, false, true, false] rfl rfl (zbc HT_.out HW_.out (by kernel_rfl)) (fun _ _ _ h => h) (Or.inl ⟨by rfl, ?_⟩) hHeld ?_ ?_
                      rotate_left
                      · rintro w' ⟨s0, s1, s2, s3, s4⟩
                        go_simp
                        with_reducible rfl
                      rotate_left
                      · simp only [Act.put, List.setIfInBounds_toArray, List.set_cons_zero, List.set_cons_succ, zh, zi]
                        rfl
                      refine one_ (i := 5) (N := some 42) #[true, true, true, true, true, true, false, true, false] rfl rfl (zb0 HT_.out (by kernel_rfl)) (by decide) (fun K hK => ?_)
                      refine zcs Try.func30 (by kernel_rfl) rfl #[.agg #[.int .i64 (zf l0 (i : Int)).f0, .int .i64 (zf l0 (i : Int)).f1, .int .i64 (zf l0 (i : Int)).f2], .int .i64 (rd nx (i : Int))] (by rfl) rfl rfl (by (try simp only [List.map_toArray, List.map_cons, List.map_nil]); first | done | rfl) ?_
                      refine (zbr.calls _ _ _ _ x1 x2 _ HWI.out).mono ?_
                      rintro e w7 ⟨rfl, hb7⟩
                      refine ⟨_, rfl, ?_⟩
                      have R7 := za.mk (Kd.zb7 (Kd.zci RA.out) hb7)
                      have B7 := za.mk (zl (zbk BA.out) hb7)
                      refine hK.out _ _ ⟨(hb7.cell (World.block_lt_of_cell? _ _ ct0)).trans ct0, (hb7.cell (World.block_lt_of_cell? _ _ ct1)).trans ct1, (hb7.cell (World.block_lt_of_cell? _ _ ct2)).trans ct2, (hb7.cell (World.block_lt_of_cell? _ _ cgn)).trans cgn, (hb7.cell (World.block_lt_of_cell? _ _ cx)).trans cx⟩ (fun hHeld => ?_)
                      clear hK K
                      refine zcd (a' := ?_) ?_ ?_
                      rotate_left
                      · show Act.put _ (some 42) _ = _
                        simp only [Act.put, List.setIfInBounds_toArray, List.set_cons_zero, List.set_cons_succ, zh, zi]
                        rfl
                      refine zn (i := 6) (N := some 43) (v := ?_) (a' := ?_) #[true, true, true, true, true, true, true, true, false] rfl rfl (zg HT_.out (by kernel_rfl)) (fun _ _ _ h => h) (Or.inl ⟨by rfl, ?_⟩) ?_ ?_
                      rotate_left
                      · intro w'
                        go_simp
                        with_reducible rfl
                      rotate_left
                      · simp only [Act.put, List.setIfInBounds_toArray, List.set_cons_zero, List.set_cons_succ, zh, zi]
                        rfl
                      refine zn (i := 8) (N := some 45) (v := ?_) (a' := ?_) #[true, true, true, true, true, true, true, true, true] rfl rfl (zg HT_.out (by kernel_rfl)) (fun _ _ _ h => h) (Or.inl ⟨by rfl, ?_⟩) ?_ ?_
                      rotate_left
                      · intro w'
                        go_simp
                        with_reducible rfl
                      rotate_left
                      · simp only [Act.put, List.setIfInBounds_toArray, List.set_cons_zero, List.set_cons_succ, zh, zi]
                        rfl
                      refine zc5 (zb9 HT_.out (by kernel_rfl)) ?_
                      obtain ⟨P, cp, eP⟩ := Kd.zck R7.out
                      by_cases hle : x1 ≤ (j : Int)
                      · have hleb : decide (x1 ≤ (j : Int)) = true := decide_eq_true hle
                        have PK := za.mk (show zd1 l0 nx (j : Int) (i + 1) = zd1 l0 nx (j : Int) i ++ [(i : Int)] by rw [zd1, HWF.out, if_pos hle])
                        subst eP
                        go_wp2_with ((with_reducible refine zdc (b := .append) (xs := #[.tmp 46, .tmp 48]) rfl ?_); at_builtin; refine Kd.zek (Kd.int .i64) (w0 := w6) w6.heap.size rfl (.tmp 46) (.tmp 48) 33 3 (.int .i64 0) 8 rfl Try.underlying33 info3 rfl (by decide) (by omega) (.slice P (zd1 l0 nx (j : Int) i).length cp) (zd1 l0 nx (j : Int) i) (i : Int) [.int .i64 (i : Int)] (fun _ => True) (fun _ => False) rfl rfl ?aP (fun _ hk => hk.elim) ?aF ?aO ?aB ?aS ?aL ?_; (case aP => exact rfl); (case aB => exact B7.out); (case aF => exact (fun _ _ => trivial)); (case aO => exact R7.out); (case aS => exact B7.out.size); (case aL => have := HLP.out; omega); intro v8 w8 ho hb hg hat; have R8 := za.mk ho; have B8 := za.mk hb; clear ho hb hg hat)
                        go_roundg (l0.length - (i + 1))
                        case measure => omega
                        case rel => exact ⟨i + 1, by go_num, by omega, by omega, ⟨by rw [PK.out]; exact R8.out⟩, B8⟩
                      · have hleb : decide (x1 ≤ (j : Int)) = false := decide_eq_false hle
                        have PK := za.mk (show zd1 l0 nx (j : Int) (i + 1) = zd1 l0 nx (j : Int) i by rw [zd1, HWF.out, if_neg hle])
                        subst eP
                        go_wp2
                        go_roundg (l0.length - (i + 1))
                        case measure => omega
                        case rel => exact ⟨i + 1, by go_num, by omega, by omega, ⟨by rw [PK.out]; exact R7.out⟩, B7⟩
                    · have hltz : ¬ (i : Int) < (l0.length : Int) := by omega
                      obtain rfl : i = l0.length := by omega
                      obtain ⟨P, cp, eP⟩ := Kd.zck RP.out
                      subst eP
                      have LSM := za.mk (flist_mem l0 nx (j : Int) l0.length)
                      have LSL := za.mk (zis l0 nx (j : Int) l0.length)
                      have hrow : frow k l0 nx (j : Int) a1 = (zdw (fcmp k l0 nx) (zd1 l0 nx (j : Int) l0.length)).take (min a1 ((zdw (fcmp k l0 nx) (zd1 l0 nx (j : Int) l0.length)).length : Int)).toNat := rfl
                      obtain ⟨row, hrw⟩ : ∃ row, frow k l0 nx (j : Int) a1 = row := ⟨_, rfl⟩
                      rw [hrw] at HL hrow
                      obtain ⟨ls, hls⟩ : ∃ ls, zd1 l0 nx (j : Int) l0.length = ls := ⟨_, rfl⟩
                      rw [hls] at RP HOK LSM LSL hrow
                      rw [hls]
                      have HROW := za.mk hrow
                      have W6S := za.mk BP.out.size
                      clear hls hrow hrw
                      have hN := HN.out
                      have hll := LSL.out
                      go_wp2_with (go_at_call 31; refine (zf1 (fcmp k l0 nx) 32 #[.pointer (some ⟨gs, 0, none⟩), .pointer (some ⟨gn, 0, none⟩)] (enters_of Try.func32 (by kernel_rfl) rfl) w6.heap.size (fun _ => True) P cp ls _ (fun x => x ∈ ls) (fun x hx => hx) ?_ RP.out (by omega) W6S.out).mono ?_)
                      · intro W x y hx hy hW
                        have GQ := GR.out.below (zc6 BP.out (Nat.le_refl _) hW)
                        have hx1 := LSM.out x hx
                        have hy1 := LSM.out y hy
                        have hnl := HNL.out
                        exact zg8 k gs gn A0 NX c0 cn l0 nx x y (fcmp k l0 nx x y) W GQ.s0 (by rw [hnl]; exact GQ.n0) (Kd.zdq HR.out GQ.bel) (Kd.zz GQ.nR).2.2 ⟨hx1.1, hx1.2, by omega⟩ ⟨hy1.1, hy1.2, by omega⟩ (HOK.out x hx y hy)
                      · rintro e w8 rfl hr3 hb3
                        simp only
                        have HR3 := za.mk hr3
                        have HB3 := za.mk (zc6 BP.out (Nat.le_refl _) hb3)
                        clear hr3 hb3 RP BP
                        have hcp : ls.length ≤ cp := by have := (Kd.zz HR3.out).2.1; exact this
                        obtain ⟨q, hq⟩ : ∃ q : Nat, (q : Int) = min a1 (ls.length : Int) := ⟨(min a1 (ls.length : Int)).toNat, by omega⟩
                        have hmn : (if (ls.length : Int) < a1 then (ls.length : Int) else a1) = (q : Int) := by split <;> omega
                        have hq0 : (0 : Int) ≤ (q : Int) := by omega
                        have hq1 : (q : Int) ≤ (cp : Int) := by omega
                        have HROW2 := za.mk (show row = (zdw (fcmp k l0 nx) ls).take q by rw [HROW.out, zeg, ← hq, Int.toNat_natCast])
                        have HQ := za.mk (show q ≤ (zdw (fcmp k l0 nx) ls).length by rw [zeg]; omega)
                        clear hq
                        have HC8 := za.mk (show Calls Try.prog 34 #[.slice P q cp] w8 (fun e w' => ∃ v : Value, e = .returned v ∧ Kd.Qc (Kd.int .i64) 3 w' w8.heap.size (fun _ => True) v row ∧ Below w8.heap.size w8 w') from by
                          have hrl : row.length = q := by rw [HROW2.out, List.length_take]; have := HQ.out; omega
                          have h1 := zjc P cp row (by have := HQ.out; rw [zeg] at this; omega) w8 (by rw [HROW2.out]; exact Kd.C_take (Kd.zz HR3.out).2.2 HQ.out)
                          rw [hrl] at h1
                          exact h1)
                        go_wp2_with (go_at_call 34; refine HC8.out.mono ?_; rintro e w9 ⟨v9, rfl, h9, hb9⟩; obtain ⟨X, cx, eX⟩ := Kd.zcr h9; subst eX; have R9 := za.mk h9; have B9 := za.mk hb9; clear h9 hb9)
                        have GLT := za.mk (show gs < w6.heap.size ∧ gn < w6.heap.size ∧ (∀ k, (Value.slice NX l0.length cn).ownBlock = some k → k < w6.heap.size) ∧ go < w6.heap.size from ⟨World.block_lt_of_cell? _ _ GR.out.s0, World.block_lt_of_cell? _ _ GR.out.n0, fun k hk => Kd.R_lt GR.out.nR k hk, Kd.R_lt GR.out.oR go rfl⟩)
                        have G9 := za.mk (GR.out.below (zl HB3.out B9.out))
                        have hs8 : w6.heap.size ≤ w8.heap.size := HB3.out.size
                        have RR := za.mk (show Kd.Qc (Kd.int .i64) 3 w9 w.heap.size (fun k => w6.heap.size ≤ k) (.slice X row.length cx) row from Kd.zcp (Kd.zeh (Kd.Qc_bnd R9.out) (fun k hk => by have := hk.2.1; omega)) (by have := GR.out.bel.size; omega))
                        have RMEM := za.mk (show ∀ x ∈ row, 0 ≤ x ∧ x < (l0.length : Int) from fun x hx => by rw [HROW2.out] at hx; exact LSM.out x (isort_mem _ _ x (List.mem_of_mem_take hx)))
                        have HRL := za.mk (show row.length ≤ 20 by rw [HROW2.out, List.length_take, zeg]; omega)
                        clear R9 B9 HC8 HR3 HB3 hq0 hq1 hmn hcp hs8 HROW2 HQ HROW hltz
                        have hrl20 := HRL.out
                        go_loopg [63] row.length (fun gg v63 wr => ∃ p : Nat, v63 = .int .i64 p ∧ p ≤ row.length ∧ row.length - p ≤ gg ∧ za (FrW w l0.length gs gn go A0 NX c0 cn capO (fadv nx (row.take p)) rows wr) ∧ za (Kd.Qc (Kd.int .i64) 3 wr w.heap.size (fun k => w6.heap.size ≤ k) (.slice X row.length cx) row))
                        case atStart => exact ⟨0, by go_num, Nat.zero_le _, by omega, G9, RR⟩
                        case round =>
                          obtain ⟨p, rfl, hp, hgp, GJ, RJ⟩ := hrel
                          clear G9 RR
                          by_cases hlt : p < row.length
                          · have hltz : (p : Int) < (row.length : Int) := by omega
                            obtain ⟨adp, eap, hxp⟩ := Kd.zb5 (Kd.zbo RJ.out).2.2 (p : Int) (by omega) hltz
                            subst eap
                            rw [Int.toNat_natCast] at hxp
                            have hra : rd row (p : Int) = row[p] := by rw [rd, List.getD_eq_getElem?_getD, Int.toNat_natCast, List.getElem?_eq_getElem hlt]; rfl
                            have hrm := RMEM.out row[p] (List.getElem_mem hlt)
                            obtain ⟨a, ha⟩ : ∃ a : Nat, row[p] = (a : Int) := ⟨row[p].toNat, by omega⟩
                            rw [ha] at hrm hra
                            rw [hra] at hxp
                            have haz : (a : Int) < (l0.length : Int) := hrm.2
                            have hfl : (fadv nx (row.take p)).length = l0.length := by rw [zeo, HNL.out]
                            obtain ⟨gN, capN, eN, _⟩ := Kd.zgh GJ.out.nR (by rw [hfl]; omega)
                            injection eN with eN1 eN2 eN3
                            subst eN1
                            clear eN2 eN3
                            obtain ⟨cur, hcur⟩ : ∃ cur, fadv nx (row.take p) = cur := ⟨_, rfl⟩
                            rw [hcur] at GJ hfl
                            obtain ⟨x, hx⟩ : ∃ x, rd cur (a : Int) = x := ⟨_, rfl⟩
                            have hstep : fadv nx (row.take (p + 1)) = cur.set a (wrap64 (x + 1)) := by
                              unfold fadv at hcur ⊢
                              rw [List.take_succ_eq_append_getElem hlt, List.foldl_append, hcur, ha]
                              show cur.set (a : Int).toNat (wrap64 (rd cur (a : Int) + 1)) = _
                              rw [hx, Int.toNat_natCast]
                            have cn0 := GJ.out.n0
                            obtain ⟨cd, fd⟩ := Kd.zfw 0 GJ.out.nR (a : Int) (by omega) haz
                            rw [Int.toNat_natCast] at cd fd
                            rw [show rdOf 0 cur (a : Int) = x from hx] at cd
                            have G7 := za.mk (GJ.out.setNx NE.out a (wrap64 (x + 1)))
                            have R7 := za.mk (Kd.Qc_far (p := ⟨gN, a, none⟩) RJ.out (fun k hk e => by have := GLT.out.2.2.1 gN rfl; simp only at e; omega) (.int .i64 (wrap64 (x + 1))))
                            have HST := za.mk hstep
                            clear hstep hx hcur ha hra hrm hfl
                            have ha0 : (0 : Int) ≤ (a : Int) := by omega
                            go_wp2
                            go_roundg (row.length - (p + 1))
                            case measure => omega
                            case rel => exact ⟨p + 1, by go_num, by omega, by omega, ⟨by rw [HST.out]; exact G7.out⟩, R7⟩
                          · have hltz : ¬ (p : Int) < (row.length : Int) := by omega
                            obtain rfl : p = row.length := by omega
                            rw [List.take_length] at GJ
                            obtain ⟨c, hcl, _, hcc, hff⟩ := Kd.zih GJ.out.oR ([] : List Int) (j : Int) (by omega) (by omega)
                            have h1 : c.length = 1 := hcl
                            have cO := hcc 0 (c[0]'(by omega)) (List.getElem?_eq_getElem (by omega))
                            have fO := hff 0
                            rw [show (Kd.cut 3 (Kd.int .i64)).sz = 1 from rfl, Nat.mul_one, Nat.add_zero, Int.toNat_natCast] at cO fO
                            generalize c[0]'(by omega) = cOld at cO
                            have G8 := za.mk (GJ.out.setOut hj2 RJ.out (fun k hk => by
                              have h2 := GLT.out
                              refine ⟨by omega, by omega, fun e => ?_, by omega⟩
                              have := h2.2.2.1 k e.symm
                              omega))
                            clear hcl hcc hff h1
                            go_wp2
                            go_roundg (120 - (j + 1))
                            case measure => omega
                            case rel => exact ⟨j + 1, _, _, by go_num, by omega, by omega, by rw [zeo, HNL.out], HL, G8⟩
                · rw [if_neg hok] at hL
                  cases hL
              · have hjz : ¬ (j : Int) < 120 := by omega
                obtain rfl : j = 120 := by omega
                have hL := HL.out
                rw [show 120 - 120 = 0 from rfl, zbp.l0] at hL
                obtain rfl := Option.some.inj hL
                clear HL hL
                go_wp2
                go_ret
                exact ⟨_, rfl, Kd.Qc_of (Kd.zbs GR.out.oR (fun _ _ => trivial)), GR.out.bel⟩
          · rw [if_neg hh] at h
            simp at h
def zb1.l0 : Nat → List Int → List Int → Int → Option (Bool)
 | 0, _, _, _ => none
 | k + 1, x0, x1, x5 => if x5 < (x0.length : Int) then (if 0 ≤ x5 then (if x5 < (x1.length : Int) then (if (rd x0 x5) = (rd x1 x5) then (zb1.l0 k x0 x1 (wrap64 (x5 + 1))) else (some false)) else (none)) else (none)) else (some true)
def zb1.f (k : Nat) (l0 : List Int) (l1 : List Int) : Option (Bool) := if (l0.length : Int) = (l1.length : Int) then (zb1.l0 k l0 l1 0) else (some false)
set_option maxHeartbeats 8000000 in
theorem zb1.calls (k : Nat) (A0 : Option Addr) (c0 : Nat) (l0 : List Int) (A1 : Option Addr) (c1 : Nat) (l1 : List Int) (r : Bool) (w : World) (hr0 : Kd.C (Kd.int .i64) w A0 l0.length l0) (hc0 : l0.length ≤ c0) (hr1 : Kd.C (Kd.int .i64) w A1 l1.length l1) (hc1 : l1.length ≤ c1) (h : zb1.f k l0 l1 = some r) :
  Calls Try.prog 35 #[.slice A0 l0.length c0, .slice A1 l1.length c1] w fun e w' => e = .returned (.bool r) ∧ zbx w w' := by
 have HR0 := za.mk hr0
 have HC0 := za.mk hc0
 clear hr0 hc0
 have HR1 := za.mk hr1
 have HC1 := za.mk hc1
 clear hr1 hc1
 have H : (if (l0.length : Int) = (l1.length : Int) then (zb1.l0 k l0 l1 0) else (some false)) = some r := h
 clear h
 by_cases c3 : (l0.length : Int) = (l1.length : Int)
 ·rw [if_pos c3] at H
  have c3b0 : ((l0.length : Int) == (l1.length : Int)) = true := beq_iff_eq.mpr c3;have c3b1 : ((l0.length : Int) != (l1.length : Int)) = false := bne_eq_false_iff_eq.mpr c3;have c3b2 : (l0.length == l1.length) = true := by first | simpa using c3 | (simp at c3 ⊢; omega)
  clear c3;have H' := za.mk H;clear H;go_enter Try.func35, Try.ntmps35;go_wp2
  repeat (go_quiet (fail); try go_wp2)
  go_loopg [5] k (fun kq v5 w' => ∃ (x5_1 : Int), v5 = .int .i64 x5_1 ∧ za (zb1.l0 kq l0 l1 x5_1 = some r) ∧ za (kq ≤ k) ∧ zbx w w')
  case atStart => exact ⟨(0), Zrs, H', ⟨Nat.le_refl _⟩, by repeat (first | exact zbx.refl _ | apply zbx.step)⟩
  case round =>
   clear H'
   (try clear c1);(try clear p2);(try clear c3);(try clear c3b0);(try clear c3b1);(try clear c3b2)
   obtain ⟨x5_1, rfl, HA, HK1, ⟨m1, rfl⟩⟩ := hrel
   cases gk with
   | zero => exact absurd HA.out (by simp [zb1.l0])
   | succ k1 =>
    have H := HA.out;clear HA;simp only [zb1.l0] at H;by_cases c4 : x5_1 < (l0.length : Int)
    ·rw [if_pos c4] at H
     have c4b0 : decide (x5_1 < (l0.length : Int)) = true := decide_eq_true c4;clear c4;by_cases c5 : 0 ≤ x5_1
     ·rw [if_pos c5] at H
      have c5b0 : decide (0 ≤ x5_1) = true := decide_eq_true c5;clear c5;by_cases c6 : x5_1 < (l1.length : Int)
      ·rw [if_pos c6] at H
       have c6b0 : decide (x5_1 < (l1.length : Int)) = true := decide_eq_true c6;clear c6;by_cases c7 : (rd l0 x5_1) = (rd l1 x5_1)
       ·rw [if_pos c7] at H
        have c7b0 : ((rd l0 x5_1) == (rd l1 x5_1)) = true := beq_iff_eq.mpr c7;have c7b1 : ((rd l0 x5_1) != (rd l1 x5_1)) = false := bne_eq_false_iff_eq.mpr c7;clear c7;have H' := za.mk H;clear H;have p260 : 0 ≤ (x5_1 : Int) := of_decide_eq_true Zas;have q260 : x5_1 < (l0.length : Int) := of_decide_eq_true Zas;obtain ⟨ad260, e260, hx260_0⟩ := Kd.zb5 HR0.out x5_1 p260 q260
        cases e260
        replace p260 := eq_true p260;replace q260 := eq_true q260;have p261 : 0 ≤ (x5_1 : Int) := of_decide_eq_true Zas;have q261 : x5_1 < (l1.length : Int) := of_decide_eq_true Zas;obtain ⟨ad261, e261, hx261_0⟩ := Kd.zb5 HR1.out x5_1 p261 q261
        cases e261
        replace p261 := eq_true p261;replace q261 := eq_true q261;go_wp2
        repeat (go_quiet (fail); try go_wp2)
        go_roundg k1
        case measure => have := HK1.out; omega
        case rel => exact ⟨(wrap64 (x5_1 + 1)), Zrs, H', ⟨by have := HK1.out; omega⟩, by repeat (first | exact zbx.refl _ | apply zbx.step)⟩
       ·rw [if_neg c7] at H
        have c7b0 : ((rd l0 x5_1) == (rd l1 x5_1)) = false := beq_eq_false_iff_ne.mpr c7;have c7b1 : ((rd l0 x5_1) != (rd l1 x5_1)) = true := bne_iff_ne.mpr c7;obtain rfl := Option.some.inj H;have p260 : 0 ≤ (x5_1 : Int) := of_decide_eq_true Zas;have q260 : x5_1 < (l0.length : Int) := of_decide_eq_true Zas;obtain ⟨ad260, e260, hx260_0⟩ := Kd.zb5 HR0.out x5_1 p260 q260
        cases e260
        replace p260 := eq_true p260;replace q260 := eq_true q260;have p261 : 0 ≤ (x5_1 : Int) := of_decide_eq_true Zas;have q261 : x5_1 < (l1.length : Int) := of_decide_eq_true Zas;obtain ⟨ad261, e261, hx261_0⟩ := Kd.zb5 HR1.out x5_1 p261 q261
        cases e261
        replace p261 := eq_true p261;replace q261 := eq_true q261;go_wp2
        repeat (go_quiet (fail); try go_wp2)
        go_ret;exact ⟨by first | rfl | (simp; done) | (simp [*]; done), by repeat (first | exact zbx.refl _ | apply zbx.step)⟩
      ·rw [if_neg c6] at H
       exact absurd H (by simp)
     ·rw [if_neg c5] at H
      exact absurd H (by simp)
    ·rw [if_neg c4] at H
     have c4b0 : decide (x5_1 < (l0.length : Int)) = false := decide_eq_false c4;clear c4;obtain rfl := Option.some.inj H;go_wp2
     repeat (go_quiet (fail); try go_wp2)
     go_ret;exact ⟨by first | rfl | (simp; done) | (simp [*]; done), by repeat (first | exact zbx.refl _ | apply zbx.step)⟩
 ·rw [if_neg c3] at H
  have c3b0 : ((l0.length : Int) == (l1.length : Int)) = false := beq_eq_false_iff_ne.mpr c3;have c3b1 : ((l0.length : Int) != (l1.length : Int)) = true := bne_iff_ne.mpr c3;have c3b2 : (l0.length == l1.length) = false := by first | simpa using c3 | (simp at c3 ⊢; omega)
  obtain rfl := Option.some.inj H;go_enter Try.func35, Try.ntmps35;go_wp2
  repeat (go_quiet (fail); try go_wp2)
  go_ret;exact ⟨by first | rfl | (simp; done) | (simp [*]; done), by repeat (first | exact zbx.refl _ | apply zbx.step)⟩
def zbq.l0 : Nat → List (List Int) → List (List Int) → Int → Option (Bool)
 | 0, _, _, _ => none
 | k + 1, x0, x1, x5 => if x5 < (x0.length : Int) then (if 0 ≤ x5 then (if x5 < (x1.length : Int) then ((zb1.f k (zbj x0 x5) (zbj x1 x5)).bind fun t264 => (if t264 = true then (zbq.l0 k x0 x1 (wrap64 (x5 + 1))) else (some false))) else (none)) else (none)) else (some true)
def zbq.f (k : Nat) (l0 : List (List Int)) (l1 : List (List Int)) : Option (Bool) := if (l0.length : Int) = (l1.length : Int) then (zbq.l0 k l0 l1 0) else (some false)
set_option maxHeartbeats 8000000 in
theorem zbq.calls (k : Nat) (A0 : Option Addr) (c0 : Nat) (l0 : List (List Int)) (A1 : Option Addr) (c1 : Nat) (l1 : List (List Int)) (r : Bool) (w : World) (hr0 : Kd.C (Kd.slice 3 (Kd.int .i64)) w A0 l0.length l0) (hc0 : l0.length ≤ c0) (hr1 : Kd.C (Kd.slice 3 (Kd.int .i64)) w A1 l1.length l1) (hc1 : l1.length ≤ c1) (h : zbq.f k l0 l1 = some r) :
  Calls Try.prog 11 #[.slice A0 l0.length c0, .slice A1 l1.length c1] w fun e w' => e = .returned (.bool r) ∧ zbx w w' := by
 have HR0 := za.mk hr0
 have HC0 := za.mk hc0
 clear hr0 hc0
 have HR1 := za.mk hr1
 have HC1 := za.mk hc1
 clear hr1 hc1
 have H : (if (l0.length : Int) = (l1.length : Int) then (zbq.l0 k l0 l1 0) else (some false)) = some r := h
 clear h
 by_cases c3 : (l0.length : Int) = (l1.length : Int)
 ·rw [if_pos c3] at H
  have c3b0 : ((l0.length : Int) == (l1.length : Int)) = true := beq_iff_eq.mpr c3;have c3b1 : ((l0.length : Int) != (l1.length : Int)) = false := bne_eq_false_iff_eq.mpr c3;have c3b2 : (l0.length == l1.length) = true := by first | simpa using c3 | (simp at c3 ⊢; omega)
  clear c3;have H' := za.mk H;clear H;go_enter Try.func11, Try.ntmps11;go_wp2
  repeat (go_quiet (fail); try go_wp2)
  go_loopg [5] k (fun kq v5 w' => ∃ (x5_1 : Int), v5 = .int .i64 x5_1 ∧ za (zbq.l0 kq l0 l1 x5_1 = some r) ∧ za (kq ≤ k) ∧ zbx w w')
  case atStart => exact ⟨(0), Zrs, H', ⟨Nat.le_refl _⟩, by repeat (first | exact zbx.refl _ | apply zbx.step)⟩
  case round =>
   clear H'
   (try clear c1);(try clear p2);(try clear c3);(try clear c3b0);(try clear c3b1);(try clear c3b2)
   obtain ⟨x5_1, rfl, HA, HK1, ⟨m1, rfl⟩⟩ := hrel
   cases gk with
   | zero => exact absurd HA.out (by simp [zbq.l0])
   | succ k1 =>
    have H := HA.out;clear HA;simp only [zbq.l0] at H;by_cases c4 : x5_1 < (l0.length : Int)
    ·rw [if_pos c4] at H
     have c4b0 : decide (x5_1 < (l0.length : Int)) = true := decide_eq_true c4;clear c4;by_cases c5 : 0 ≤ x5_1
     ·rw [if_pos c5] at H
      have c5b0 : decide (0 ≤ x5_1) = true := decide_eq_true c5;clear c5;by_cases c6 : x5_1 < (l1.length : Int)
      ·rw [if_pos c6] at H
       have c6b0 : decide (x5_1 < (l1.length : Int)) = true := decide_eq_true c6;clear c6;replace H := Option.bind_eq_some_iff.mp H;obtain ⟨t264, A70, H⟩ := H;replace H : (if t264 = true then (zbq.l0 k1 l0 l1 (wrap64 (x5_1 + 1))) else (some false)) = some r := H;have A7 := za.mk A70;clear A70;by_cases c8 : t264 = true
       ·subst c8
        have H1 : (zbq.l0 k1 l0 l1 (wrap64 (x5_1 + 1))) = some r := by rw [if_pos rfl] at H; exact H
        clear H;have H := H1;clear H1;have H' := za.mk H;clear H;have p262 : 0 ≤ (x5_1 : Int) := of_decide_eq_true Zas;have q262 : x5_1 < (l0.length : Int) := of_decide_eq_true Zas;obtain ⟨ad262, A262_0, c262_0, e262, hx262_0, hl262_0, hi262_0⟩ := zg6 HR0.out x5_1 p262 q262
        cases e262
        have HR262_0 := za.mk hi262_0;have HC262_0 := za.mk hl262_0;clear hi262_0 hl262_0;replace p262 := eq_true p262;replace q262 := eq_true q262;have p263 : 0 ≤ (x5_1 : Int) := of_decide_eq_true Zas;have q263 : x5_1 < (l1.length : Int) := of_decide_eq_true Zas;obtain ⟨ad263, A263_0, c263_0, e263, hx263_0, hl263_0, hi263_0⟩ := zg6 HR1.out x5_1 p263 q263
        cases e263
        have HR263_0 := za.mk hi263_0;have HC263_0 := za.mk hl263_0;clear hi263_0 hl263_0;replace p263 := eq_true p263;replace q263 := eq_true q263;go_wp2_with (first | (go_at_call 35; (with_reducible refine (zb1.calls k1 _ _ (zbj l0 x5_1) _ _ (zbj l1 x5_1) true _ ?side1 ?side2 ?side3 ?side4 A7.out).mono ?_); (case side1 => exact Zq17 HR262_0); (case side2 => exact HC262_0.out); (case side3 => exact Zq17 HR263_0); (case side4 => exact HC263_0.out); rintro e w' ⟨rfl, ⟨nd, rfl⟩⟩; (try first | exact ⟨rfl, _, World.drewN_drewN _ _ _⟩ | exact ⟨rfl, _, Eq.trans (World.drewN_drewN _ _ _) (congrArg (World.drewN _) (Nat.add_assoc _ _ _))⟩)))
        repeat (go_quiet (first | (go_at_call 35; (with_reducible refine (zb1.calls k1 _ _ (zbj l0 x5_1) _ _ (zbj l1 x5_1) true _ ?side1 ?side2 ?side3 ?side4 A7.out).mono ?_); (case side1 => exact Zq17 HR262_0); (case side2 => exact HC262_0.out); (case side3 => exact Zq17 HR263_0); (case side4 => exact HC263_0.out); rintro e w' ⟨rfl, ⟨nd, rfl⟩⟩; (try first | exact ⟨rfl, _, World.drewN_drewN _ _ _⟩ | exact ⟨rfl, _, Eq.trans (World.drewN_drewN _ _ _) (congrArg (World.drewN _) (Nat.add_assoc _ _ _))⟩))); try go_wp2_with (first | (go_at_call 35; (with_reducible refine (zb1.calls k1 _ _ (zbj l0 x5_1) _ _ (zbj l1 x5_1) true _ ?side1 ?side2 ?side3 ?side4 A7.out).mono ?_); (case side1 => exact Zq17 HR262_0); (case side2 => exact HC262_0.out); (case side3 => exact Zq17 HR263_0); (case side4 => exact HC263_0.out); rintro e w' ⟨rfl, ⟨nd, rfl⟩⟩; (try first | exact ⟨rfl, _, World.drewN_drewN _ _ _⟩ | exact ⟨rfl, _, Eq.trans (World.drewN_drewN _ _ _) (congrArg (World.drewN _) (Nat.add_assoc _ _ _))⟩))))
        go_roundg k1
        case measure => have := HK1.out; omega
        case rel => exact ⟨(wrap64 (x5_1 + 1)), Zrs, H', ⟨by have := HK1.out; omega⟩, by repeat (first | exact zbx.refl _ | apply zbx.step)⟩
       ·replace c8 := Bool.eq_false_iff.mpr c8
        subst c8;have H1 : (some false) = some r := by rw [if_neg (show ¬ (false = true) by decide)] at H; exact H
        clear H;have H := H1;clear H1;obtain rfl := Option.some.inj H;have p262 : 0 ≤ (x5_1 : Int) := of_decide_eq_true Zas;have q262 : x5_1 < (l0.length : Int) := of_decide_eq_true Zas;obtain ⟨ad262, A262_0, c262_0, e262, hx262_0, hl262_0, hi262_0⟩ := zg6 HR0.out x5_1 p262 q262
        cases e262
        have HR262_0 := za.mk hi262_0;have HC262_0 := za.mk hl262_0;clear hi262_0 hl262_0;replace p262 := eq_true p262;replace q262 := eq_true q262;have p263 : 0 ≤ (x5_1 : Int) := of_decide_eq_true Zas;have q263 : x5_1 < (l1.length : Int) := of_decide_eq_true Zas;obtain ⟨ad263, A263_0, c263_0, e263, hx263_0, hl263_0, hi263_0⟩ := zg6 HR1.out x5_1 p263 q263
        cases e263
        have HR263_0 := za.mk hi263_0;have HC263_0 := za.mk hl263_0;clear hi263_0 hl263_0;replace p263 := eq_true p263;replace q263 := eq_true q263;go_wp2_with (first | (go_at_call 35; (with_reducible refine (zb1.calls k1 _ _ (zbj l0 x5_1) _ _ (zbj l1 x5_1) false _ ?side1 ?side2 ?side3 ?side4 A7.out).mono ?_); (case side1 => exact Zq17 HR262_0); (case side2 => exact HC262_0.out); (case side3 => exact Zq17 HR263_0); (case side4 => exact HC263_0.out); rintro e w' ⟨rfl, ⟨nd, rfl⟩⟩; (try first | exact ⟨rfl, _, World.drewN_drewN _ _ _⟩ | exact ⟨rfl, _, Eq.trans (World.drewN_drewN _ _ _) (congrArg (World.drewN _) (Nat.add_assoc _ _ _))⟩)))
        repeat (go_quiet (first | (go_at_call 35; (with_reducible refine (zb1.calls k1 _ _ (zbj l0 x5_1) _ _ (zbj l1 x5_1) false _ ?side1 ?side2 ?side3 ?side4 A7.out).mono ?_); (case side1 => exact Zq17 HR262_0); (case side2 => exact HC262_0.out); (case side3 => exact Zq17 HR263_0); (case side4 => exact HC263_0.out); rintro e w' ⟨rfl, ⟨nd, rfl⟩⟩; (try first | exact ⟨rfl, _, World.drewN_drewN _ _ _⟩ | exact ⟨rfl, _, Eq.trans (World.drewN_drewN _ _ _) (congrArg (World.drewN _) (Nat.add_assoc _ _ _))⟩))); try go_wp2_with (first | (go_at_call 35; (with_reducible refine (zb1.calls k1 _ _ (zbj l0 x5_1) _ _ (zbj l1 x5_1) false _ ?side1 ?side2 ?side3 ?side4 A7.out).mono ?_); (case side1 => exact Zq17 HR262_0); (case side2 => exact HC262_0.out); (case side3 => exact Zq17 HR263_0); (case side4 => exact HC263_0.out); rintro e w' ⟨rfl, ⟨nd, rfl⟩⟩; (try first | exact ⟨rfl, _, World.drewN_drewN _ _ _⟩ | exact ⟨rfl, _, Eq.trans (World.drewN_drewN _ _ _) (congrArg (World.drewN _) (Nat.add_assoc _ _ _))⟩))))
        go_ret;exact ⟨by first | rfl | (simp; done) | (simp [*]; done), by repeat (first | exact zbx.refl _ | apply zbx.step)⟩
      ·rw [if_neg c6] at H
       exact absurd H (by simp)
     ·rw [if_neg c5] at H
      exact absurd H (by simp)
    ·rw [if_neg c4] at H
     have c4b0 : decide (x5_1 < (l0.length : Int)) = false := decide_eq_false c4;clear c4;obtain rfl := Option.some.inj H;go_wp2
     repeat (go_quiet (fail); try go_wp2)
     go_ret;exact ⟨by first | rfl | (simp; done) | (simp [*]; done), by repeat (first | exact zbx.refl _ | apply zbx.step)⟩
 ·rw [if_neg c3] at H
  have c3b0 : ((l0.length : Int) == (l1.length : Int)) = false := beq_eq_false_iff_ne.mpr c3;have c3b1 : ((l0.length : Int) != (l1.length : Int)) = true := bne_iff_ne.mpr c3;have c3b2 : (l0.length == l1.length) = false := by first | simpa using c3 | (simp at c3 ⊢; omega)
  obtain rfl := Option.some.inj H;go_enter Try.func11, Try.ntmps11;go_wp2
  repeat (go_quiet (fail); try go_wp2)
  go_ret;exact ⟨by first | rfl | (simp; done) | (simp [*]; done), by repeat (first | exact zbx.refl _ | apply zbx.step)⟩
def zcg.f (a0 : Int) (a1 : Int) (a2 : Int) : Option (Bool) := if a0 ≥ a1 then (some (decide (a0 ≤ a2))) else (some false)
set_option maxHeartbeats 8000000 in
theorem zcg.calls (a0 : Int) (a1 : Int) (a2 : Int) (r : Bool) (w : World) (h : zcg.f a0 a1 a2 = some r) :
  Calls Try.prog 37 #[.int .i64 a0, .int .i64 a1, .int .i64 a2] w fun e w' => e = .returned (.bool r) ∧ zbx w w' := by
 have H : (if a0 ≥ a1 then (some (decide (a0 ≤ a2))) else (some false)) = some r := h
 clear h
 by_cases c4 : a0 ≥ a1
 ·rw [if_pos c4] at H
  have c4b0 : decide (a1 ≤ a0) = true := decide_eq_true c4;clear c4;obtain rfl := Option.some.inj H;go_enter Try.func37, Try.ntmps37;go_wp2;go_ret;exact ⟨by first | rfl | (simp; done) | (simp [*]; done), by repeat (first | exact zbx.refl _ | apply zbx.step)⟩
 ·rw [if_neg c4] at H
  have c4b0 : decide (a1 ≤ a0) = false := decide_eq_false c4;clear c4;obtain rfl := Option.some.inj H;go_enter Try.func37, Try.ntmps37;go_wp2;go_ret;exact ⟨by first | rfl | (simp; done) | (simp [*]; done), by repeat (first | exact zbx.refl _ | apply zbx.step)⟩
def zda.f (a0_0 : Int) (a0_1 : Int) (a0_2 : Int) : Option (Bool) := (zcg.f a0_0 1 8).bind fun t266 => (if t266 = true then ((zcg.f a0_1 a0_0 a0_2).bind fun t267 => (if t267 = true then ((zcg.f a0_2 1 12).bind fun t268 => (some t268)) else (some false))) else (some false))
set_option maxHeartbeats 8000000 in
theorem zda.calls (a0_0 : Int) (a0_1 : Int) (a0_2 : Int) (r : Bool) (w : World) (h : zda.f a0_0 a0_1 a0_2 = some r) :
  Calls Try.prog 63 #[.agg #[.int .i64 a0_0, .int .i64 a0_1, .int .i64 a0_2]] w fun e w' => e = .returned (.bool r) ∧ Below w.heap.size w w' := by
 have hu35 := Try.underlying35
 have HB := za.mk (Below.refl w.heap.size w)
 have H : ((zcg.f a0_0 1 8).bind fun t266 => (if t266 = true then ((zcg.f a0_1 a0_0 a0_2).bind fun t267 => (if t267 = true then ((zcg.f a0_2 1 12).bind fun t268 => (some t268)) else (some false))) else (some false))) = some r := h
 clear h
 replace H := Option.bind_eq_some_iff.mp H
 obtain ⟨t266, A20, H⟩ := H
 replace H : (if t266 = true then ((zcg.f a0_1 a0_0 a0_2).bind fun t267 => (if t267 = true then ((zcg.f a0_2 1 12).bind fun t268 => (some t268)) else (some false))) else (some false)) = some r := H
 have A2 := za.mk A20
 clear A20
 by_cases c3 : t266 = true
 ·subst c3
  have H1 : ((zcg.f a0_1 a0_0 a0_2).bind fun t267 => (if t267 = true then ((zcg.f a0_2 1 12).bind fun t268 => (some t268)) else (some false))) = some r := by rw [if_pos rfl] at H; exact H
  clear H;have H := H1;clear H1;replace H := Option.bind_eq_some_iff.mp H;obtain ⟨t267, A40, H⟩ := H;replace H : (if t267 = true then ((zcg.f a0_2 1 12).bind fun t268 => (some t268)) else (some false)) = some r := H;have A4 := za.mk A40;clear A40;by_cases c5 : t267 = true
  ·subst c5
   have H1 : ((zcg.f a0_2 1 12).bind fun t268 => (some t268)) = some r := by rw [if_pos rfl] at H; exact H
   clear H;have H := H1;clear H1;replace H := Option.bind_eq_some_iff.mp H;obtain ⟨t268, A60, H⟩ := H;replace H : (some t268) = some r := H;have A6 := za.mk A60;clear A60;obtain rfl := Option.some.inj H;go_enter Try.func63, Try.ntmps63;go_wp2_with (first | ((with_reducible refine zb4 (N := 1) rfl ?_); refine zcb ?hg (N := 1) ?hd (cs := #[.int .i64 a0_0, .int .i64 a0_1, .int .i64 a0_2]) (t := 35) ?hr ?_; (case hd => rfl); (case hg => rfl); (case hr => first | (go_simp; done) | (go_simp; rfl)); intro gb265 hg w7 hbox hb; have n0_ := za.mk (zl (Zq1 HB) hb); have n1_ := za.mk (hbox); have n2_ := za.mk ((by rw [hg]; exact (zu (Zq1 HB)) : w.heap.size ≤ gb265)); have n3_ := za.mk ((by rw [hg]; exact (zu (Zq1 HB)) : w.heap.size ≤ gb265)); clear HB; have HB := n0_; have BK265 := n1_; have GW265 := n2_; have GE265 := n3_; clear n0_ n1_ n2_ n3_; clear hb hbox hg; have hcz8_0 : w7.cell? ⟨gb265, 0, none⟩ = some (.int .i64 a0_0) := (ze BK265.out 0).trans rfl; have hcz8_1 : w7.cell? ⟨gb265, 1, none⟩ = some (.int .i64 a0_1) := (ze BK265.out 1).trans rfl; have hcz8_2 : w7.cell? ⟨gb265, 2, none⟩ = some (.int .i64 a0_2) := (ze BK265.out 2).trans rfl; have hfz8_0 := zw BK265.out 0; have hfz8_1 := zw BK265.out 1; have hfz8_2 := zw BK265.out 2) | ((with_reducible refine zbd (f := 37) rfl ?_); refine zb6 (some 5) rfl rfl Try.func37 (by kernel_rfl) rfl #[.int .i64 a0_0, .int .i64 1, .int .i64 8] rfl Zmt ?_; (with_reducible refine (zcg.calls a0_0 1 8 true _ A2.out).mono ?_); rintro e w' ⟨rfl, ⟨nd, rfl⟩⟩; refine ⟨_, rfl, ?_⟩) | (go_at_call 37; (with_reducible refine (zcg.calls a0_1 a0_0 a0_2 true _ A4.out).mono ?_); rintro e w' ⟨rfl, ⟨nd, rfl⟩⟩) | (go_at_call 37; (with_reducible refine (zcg.calls a0_2 1 12 t268 _ A6.out).mono ?_); rintro e w' ⟨rfl, ⟨nd, rfl⟩⟩));go_ret;exact ⟨by first | rfl | (simp [zq, zt] <;> rfl) | (simp [*, zq, zt] <;> rfl), Zq3 HB GE265⟩
  ·replace c5 := Bool.eq_false_iff.mpr c5
   subst c5;have H1 : (some false) = some r := by rw [if_neg (show ¬ (false = true) by decide)] at H; exact H
   clear H;have H := H1;clear H1;obtain rfl := Option.some.inj H;go_enter Try.func63, Try.ntmps63;go_wp2_with (first | ((with_reducible refine zb4 (N := 1) rfl ?_); refine zcb ?hg (N := 1) ?hd (cs := #[.int .i64 a0_0, .int .i64 a0_1, .int .i64 a0_2]) (t := 35) ?hr ?_; (case hd => rfl); (case hg => rfl); (case hr => first | (go_simp; done) | (go_simp; rfl)); intro gb265 hg w9 hbox hb; have n0_ := za.mk (zl (Zq1 HB) hb); have n1_ := za.mk (hbox); have n2_ := za.mk ((by rw [hg]; exact (zu (Zq1 HB)) : w.heap.size ≤ gb265)); have n3_ := za.mk ((by rw [hg]; exact (zu (Zq1 HB)) : w.heap.size ≤ gb265)); clear HB; have HB := n0_; have BK265 := n1_; have GW265 := n2_; have GE265 := n3_; clear n0_ n1_ n2_ n3_; clear hb hbox hg; have hcz10_0 : w9.cell? ⟨gb265, 0, none⟩ = some (.int .i64 a0_0) := (ze BK265.out 0).trans rfl; have hcz10_1 : w9.cell? ⟨gb265, 1, none⟩ = some (.int .i64 a0_1) := (ze BK265.out 1).trans rfl; have hcz10_2 : w9.cell? ⟨gb265, 2, none⟩ = some (.int .i64 a0_2) := (ze BK265.out 2).trans rfl; have hfz10_0 := zw BK265.out 0; have hfz10_1 := zw BK265.out 1; have hfz10_2 := zw BK265.out 2) | ((with_reducible refine zbd (f := 37) rfl ?_); refine zb6 (some 5) rfl rfl Try.func37 (by kernel_rfl) rfl #[.int .i64 a0_0, .int .i64 1, .int .i64 8] rfl Zmt ?_; (with_reducible refine (zcg.calls a0_0 1 8 true _ A2.out).mono ?_); rintro e w' ⟨rfl, ⟨nd, rfl⟩⟩; refine ⟨_, rfl, ?_⟩) | (go_at_call 37; (with_reducible refine (zcg.calls a0_1 a0_0 a0_2 false _ A4.out).mono ?_); rintro e w' ⟨rfl, ⟨nd, rfl⟩⟩));go_ret;exact ⟨by first | rfl | (simp [zq, zt] <;> rfl) | (simp [*, zq, zt] <;> rfl), Zq3 HB GE265⟩
 ·replace c3 := Bool.eq_false_iff.mpr c3
  subst c3;have H1 : (some false) = some r := by rw [if_neg (show ¬ (false = true) by decide)] at H; exact H
  clear H;have H := H1;clear H1;obtain rfl := Option.some.inj H;go_enter Try.func63, Try.ntmps63;go_wp2_with (first | ((with_reducible refine zb4 (N := 1) rfl ?_); refine zcb ?hg (N := 1) ?hd (cs := #[.int .i64 a0_0, .int .i64 a0_1, .int .i64 a0_2]) (t := 35) ?hr ?_; (case hd => rfl); (case hg => rfl); (case hr => first | (go_simp; done) | (go_simp; rfl)); intro gb265 hg w11 hbox hb; have n0_ := za.mk (zl (Zq1 HB) hb); have n1_ := za.mk (hbox); have n2_ := za.mk ((by rw [hg]; exact (zu (Zq1 HB)) : w.heap.size ≤ gb265)); have n3_ := za.mk ((by rw [hg]; exact (zu (Zq1 HB)) : w.heap.size ≤ gb265)); clear HB; have HB := n0_; have BK265 := n1_; have GW265 := n2_; have GE265 := n3_; clear n0_ n1_ n2_ n3_; clear hb hbox hg; have hcz12_0 : w11.cell? ⟨gb265, 0, none⟩ = some (.int .i64 a0_0) := (ze BK265.out 0).trans rfl; have hcz12_1 : w11.cell? ⟨gb265, 1, none⟩ = some (.int .i64 a0_1) := (ze BK265.out 1).trans rfl; have hcz12_2 : w11.cell? ⟨gb265, 2, none⟩ = some (.int .i64 a0_2) := (ze BK265.out 2).trans rfl; have hfz12_0 := zw BK265.out 0; have hfz12_1 := zw BK265.out 1; have hfz12_2 := zw BK265.out 2) | ((with_reducible refine zbd (f := 37) rfl ?_); refine zb6 (some 5) rfl rfl Try.func37 (by kernel_rfl) rfl #[.int .i64 a0_0, .int .i64 1, .int .i64 8] rfl Zmt ?_; (with_reducible refine (zcg.calls a0_0 1 8 false _ A2.out).mono ?_); rintro e w' ⟨rfl, ⟨nd, rfl⟩⟩; refine ⟨_, rfl, ?_⟩));go_ret;exact ⟨by first | rfl | (simp [zq, zt] <;> rfl) | (simp [*, zq, zt] <;> rfl), Zq3 HB GE265⟩
def zb2.l0 : Nat → List (S35) → Int → Option (Bool)
 | 0, _, _ => none
 | k + 1, x0, x3 => if x3 < (x0.length : Int) then (if 0 ≤ x3 then ((zda.f ((zf x0 x3).f0) ((zf x0 x3).f1) ((zf x0 x3).f2)).bind fun t270 => (if t270 = true then (zb2.l0 k x0 (wrap64 (x3 + 1))) else (some false))) else (none)) else (some (decide ((x0.length : Int) ≤ 5)))
def zb2.f (k : Nat) (l0 : List (S35)) : Option (Bool) := zb2.l0 k l0 0
set_option maxHeartbeats 8000000 in
theorem zb2.calls (k : Nat) (A0 : Option Addr) (c0 : Nat) (l0 : List (S35)) (r : Bool) (w : World) (hr0 : Kd.C k35 w A0 l0.length l0) (hc0 : l0.length ≤ c0) (h : zb2.f k l0 = some r) :
  Calls Try.prog 36 #[.slice A0 l0.length c0] w fun e w' => e = .returned (.bool r) ∧ Below w.heap.size w w' := by
 have hu35 := Try.underlying35
 have HR0 := za.mk hr0
 have HC0 := za.mk hc0
 clear hr0 hc0
 have HB := za.mk (Below.refl w.heap.size w)
 have H : (zb2.l0 k l0 0) = some r := h
 clear h
 have H' := za.mk H
 clear H
 go_enter Try.func36, Try.ntmps36
 go_wp2
 go_loopg [3] k (fun kq v3 w' => ∃ (x3_1 : Int), v3 = .int .i64 x3_1 ∧ za (zb2.l0 kq l0 x3_1 = some r) ∧ za (kq ≤ k) ∧ za (Below w.heap.size w w'))
 case atStart => exact ⟨(0), Zrs, H', ⟨Nat.le_refl _⟩, ⟨Zq1 HB⟩⟩
 case round =>
  clear H';obtain ⟨x3_1, rfl, HA, HK1, HB⟩ := hrel
  cases gk with
  | zero => exact absurd HA.out (by simp [zb2.l0])
  | succ k1 =>
   have H := HA.out;clear HA;simp only [zb2.l0] at H;by_cases c2 : x3_1 < (l0.length : Int)
   ·rw [if_pos c2] at H
    have c2b0 : decide (x3_1 < (l0.length : Int)) = true := decide_eq_true c2;clear c2;by_cases c3 : 0 ≤ x3_1
    ·rw [if_pos c3] at H
     have c3b0 : decide (0 ≤ x3_1) = true := decide_eq_true c3;clear c3;replace H := Option.bind_eq_some_iff.mp H;obtain ⟨t270, A40, H⟩ := H;replace H : (if t270 = true then (zb2.l0 k1 l0 (wrap64 (x3_1 + 1))) else (some false)) = some r := H;have A4 := za.mk A40;clear A40;by_cases c5 : t270 = true
     ·subst c5
      have H1 : (zb2.l0 k1 l0 (wrap64 (x3_1 + 1))) = some r := by rw [if_pos rfl] at H; exact H
      clear H;have H := H1;clear H1;have H' := za.mk H;clear H;have p269 : 0 ≤ (x3_1 : Int) := of_decide_eq_true Zas;have q269 : x3_1 < (l0.length : Int) := of_decide_eq_true Zas;obtain ⟨ad269, e269, hx269_0, hx269_1, hx269_2⟩ := zch HR0.out x3_1 p269 q269
      cases e269
      replace hx269_0 := (HB.out.cell (World.block_lt_of_cell? w _ hx269_0)).trans hx269_0;replace hx269_1 := (HB.out.cell (World.block_lt_of_cell? w _ hx269_1)).trans hx269_1;replace hx269_2 := (HB.out.cell (World.block_lt_of_cell? w _ hx269_2)).trans hx269_2;replace p269 := eq_true p269;replace q269 := eq_true q269;go_wp2_with (first | ((with_reducible refine zbd (f := 63) rfl ?_); refine zb6 (some 14) rfl rfl Try.func63 (by kernel_rfl) rfl #[.agg #[.int .i64 ((zf l0 x3_1).f0), .int .i64 ((zf l0 x3_1).f1), .int .i64 ((zf l0 x3_1).f2)]] rfl Zmt ?_; (with_reducible refine (zda.calls ((zf l0 x3_1).f0) ((zf l0 x3_1).f1) ((zf l0 x3_1).f2) true _ A4.out).mono ?_); rintro e w6 ⟨rfl, hb⟩; refine ⟨_, rfl, ?_⟩; have n0_ := za.mk (zl (Zq1 HB) hb); clear HB; have HB := n0_; clear n0_; (try clear hb); (try clear hb2); (try clear hk); (try clear hi)));go_roundg k1
      case measure => have := HK1.out; omega
      case rel => exact ⟨(wrap64 (x3_1 + 1)), Zrs, H', ⟨by have := HK1.out; omega⟩, ⟨Zq1 HB⟩⟩
     ·replace c5 := Bool.eq_false_iff.mpr c5
      subst c5;have H1 : (some false) = some r := by rw [if_neg (show ¬ (false = true) by decide)] at H; exact H
      clear H;have H := H1;clear H1;obtain rfl := Option.some.inj H;have p269 : 0 ≤ (x3_1 : Int) := of_decide_eq_true Zas;have q269 : x3_1 < (l0.length : Int) := of_decide_eq_true Zas;obtain ⟨ad269, e269, hx269_0, hx269_1, hx269_2⟩ := zch HR0.out x3_1 p269 q269
      cases e269
      replace hx269_0 := (HB.out.cell (World.block_lt_of_cell? w _ hx269_0)).trans hx269_0;replace hx269_1 := (HB.out.cell (World.block_lt_of_cell? w _ hx269_1)).trans hx269_1;replace hx269_2 := (HB.out.cell (World.block_lt_of_cell? w _ hx269_2)).trans hx269_2;replace p269 := eq_true p269;replace q269 := eq_true q269;go_wp2_with (first | ((with_reducible refine zbd (f := 63) rfl ?_); refine zb6 (some 14) rfl rfl Try.func63 (by kernel_rfl) rfl #[.agg #[.int .i64 ((zf l0 x3_1).f0), .int .i64 ((zf l0 x3_1).f1), .int .i64 ((zf l0 x3_1).f2)]] rfl Zmt ?_; (with_reducible refine (zda.calls ((zf l0 x3_1).f0) ((zf l0 x3_1).f1) ((zf l0 x3_1).f2) false _ A4.out).mono ?_); rintro e w7 ⟨rfl, hb⟩; refine ⟨_, rfl, ?_⟩; have n0_ := za.mk (zl (Zq1 HB) hb); clear HB; have HB := n0_; clear n0_; (try clear hb); (try clear hb2); (try clear hk); (try clear hi)));go_ret;exact ⟨by first | rfl | (simp [zq, zt] <;> rfl) | (simp [*, zq, zt] <;> rfl), Zq1 HB⟩
    ·rw [if_neg c3] at H
     exact absurd H (by simp)
   ·rw [if_neg c2] at H
    have c2b0 : decide (x3_1 < (l0.length : Int)) = false := decide_eq_false c2;clear c2;obtain rfl := Option.some.inj H;go_wp2;go_ret;exact ⟨by first | rfl | (simp [zq, zt] <;> rfl) | (simp [*, zq, zt] <;> rfl), Zq1 HB⟩
def zbb.f (a0_0 : Int) (a0_1 : Int) (a0_2 : Int) (a1 : Int) : Option (Int × Int) := if a0_0 = 0 then (none) else (some (wrap64 (Int.tdiv (wrap64 (a1 * a0_2)) a0_0), wrap64 (Int.tdiv (wrap64 ((wrap64 ((wrap64 ((wrap64 (a1 + 1)) * a0_2)) + a0_0)) - 1)) a0_0)))
def zbb.T1 : Bool × List (List Nat × List Nat) := (true, [([], []), ([], []), ([1], [1]), ([0, 2], [0, 2]), ([], []), ([4], [4]), ([3, 5], [3, 5]), ([], []), ([7], [7]), ([], []), ([9], [9]), ([8, 10], [8, 10]), ([], []), ([12], [12]), ([11, 13], [11, 13]), ([14], [14]), ([], []), ([16], [16]), ([15, 17], [15, 17]), ([6, 18], [6, 18]), ([19, 0, 1, 2, 3, 4, 5, 6, 7, 8, 9, 10, 11, 12, 13, 14, 15, 16, 17, 18, 19], [19])])
def zbb.B1 : List Nat := [0, 0, 2, 7, 0, 16, 63, 0, 128, 0, 512, 1920, 0, 4096, 16256, 32640, 0, 65536, 262016, 524287, 1048575]
theorem zbb.tab1 : rtab .any (opsOf Try.f64 1) = zbb.T1 := by kernel_rfl
theorem zbb.zen : zcw zbb.T1.2 zbb.B1 = true := by kernel_rfl
set_option maxHeartbeats 8000000 in
theorem zbb.calls (a0_0 : Int) (a0_1 : Int) (a0_2 : Int) (a1 : Int) (r1 : Int) (r2 : Int) (w : World) (h : zbb.f a0_0 a0_1 a0_2 a1 = some (r1, r2)) :
  Calls Try.prog 64 #[.agg #[.int .i64 a0_0, .int .i64 a0_1, .int .i64 a0_2], .int .i64 a1] w fun e w' => e = .returned (.agg #[.int .i64 r1, .int .i64 r2]) ∧ Below w.heap.size w w' := by
 have hu35 := Try.underlying35
 have hu39 := Try.underlying39
 have HB := za.mk (Below.refl w.heap.size w)
 have H : (if a0_0 = 0 then (none) else (some (wrap64 (Int.tdiv (wrap64 (a1 * a0_2)) a0_0), wrap64 (Int.tdiv (wrap64 ((wrap64 ((wrap64 ((wrap64 (a1 + 1)) * a0_2)) + a0_0)) - 1)) a0_0)))) = some (r1, r2) := h
 clear h
 by_cases c3 : a0_0 = 0
 ·rw [if_pos c3] at H
  exact absurd H (by simp)
 ·rw [if_neg c3] at H
  have c3b0 : (a0_0 == 0) = false := beq_eq_false_iff_ne.mpr c3;have c3b1 : (a0_0 != 0) = true := bne_iff_ne.mpr c3;simp only [Option.some.injEq, Prod.mk.injEq] at H;obtain ⟨rfl, rfl⟩ := H;go_enter Try.func64, Try.ntmps64
  try go_wp2_with (first | ((with_reducible refine zb4 (N := 2) rfl ?_); refine zcb ?hg (N := 2) ?hd (cs := #[.int .i64 a0_0, .int .i64 a0_1, .int .i64 a0_2]) (t := 35) ?hr ?_; (case hd => rfl); (case hg => rfl); (case hr => first | (go_simp; done) | (go_simp; rfl)); intro gb271 hg w4 hbox hb; have n0_ := za.mk (zl (Zq1 HB) hb); have n1_ := za.mk (hbox); have n2_ := za.mk ((by rw [hg]; exact (zu (Zq1 HB)) : w.heap.size ≤ gb271)); have n3_ := za.mk ((by rw [hg]; exact (zu (Zq1 HB)) : w.heap.size ≤ gb271)); clear HB; have HB := n0_; have BK271 := n1_; have GW271 := n2_; have GE271 := n3_; clear n0_ n1_ n2_ n3_; clear hb hbox hg) | ((with_reducible refine zb4 (N := 4) rfl ?_); refine zcb ?hg (N := 4) ?hd (cs := #[.int .i64 0, .int .i64 0]) (t := 39) ?hr ?_; (case hd => rfl); (case hg => rfl); (case hr => first | (go_simp; done) | (go_simp; rfl)); intro gb272 hg w5 hbox hb; have n0_ := za.mk (zbm (g := gb271) (o := .cells #[.int .i64 a0_0, .int .i64 a0_1, .int .i64 a0_2] 35 (0, 0)) (Zq2 BK271) hb); have n1_ := za.mk (zl (Zq3 HB GE271) hb); have n2_ := za.mk (hbox); have n3_ := za.mk ((by rw [hg]; exact (zu (Zq3 HB GE271)) : w.heap.size ≤ gb272)); have n4_ := za.mk ((by rw [hg]; exact (zu (Zq3 HB GE271)) : w.heap.size ≤ gb272)); have n5_ := za.mk ((by rw [hg]; exact Nat.ne_of_lt (zds (g := gb271) (o := .cells #[.int .i64 a0_0, .int .i64 a0_1, .int .i64 a0_2] 35 (0, 0)) (Zq2 BK271)) : gb271 ≠ gb272)); have n6_ := za.mk ((by rw [hg]; exact Nat.ne_of_gt (zds (g := gb271) (o := .cells #[.int .i64 a0_0, .int .i64 a0_1, .int .i64 a0_2] 35 (0, 0)) (Zq2 BK271)) : gb272 ≠ gb271)); clear BK271; clear HB; have BK271 := n0_; have HB := n1_; have BK272 := n2_; have GW272 := n3_; have GE272 := n4_; have NB271_272 := n5_; have NB272_271 := n6_; clear n0_ n1_ n2_ n3_ n4_ n5_ n6_; clear hb hbox hg))
  have n0_ := za.mk (zbf BK271.out);have n1_ := za.mk (zbf BK272.out);have n2_ := za.mk (zbk HB.out);clear BK271;clear BK272;clear HB;have BK271 := n0_;have BK272 := n1_;have HB := n2_;clear n0_ n1_ n2_;refine zcn (n := 21) (S := fun w' => w'.cell? ⟨gb271, 0, none⟩ = some (.int .i64 a0_0) ∧ w'.cell? ⟨gb271, 1, none⟩ = some (.int .i64 a0_1) ∧ w'.cell? ⟨gb271, 2, none⟩ = some (.int .i64 a0_2)) (ds := []) #[false, false, false, false, false, false, false, false, false, false, false, false, false, false, false, false, false, false, false, false, false] (by kernel_rfl) rfl rfl ⟨(ze BK271.out 0).trans rfl, (ze BK271.out 1).trans rfl, (ze BK271.out 2).trans rfl⟩ (fun hHeld => ?_); refine zbw zbb.tab1 zbb.zen (fun HT_ HW_ => ?_);generalize w5.drew = w6 at BK271 BK272 HB hHeld ⊢;refine zn (i := 0) (N := some 5) (v := ?_) (a' := ?_) #[true, false, false, false, false, false, false, false, false, false, false, false, false, false, false, false, false, false, false, false, false] rfl rfl (zg HT_.out (by kernel_rfl)) (fun _ _ _ h => h) (Or.inl ⟨by rfl, ?_⟩) ?_ ?_;rotate_left
  ·intro w'
   go_simp;with_reducible rfl
  rotate_left
  ·simp only [Act.put, Zs1, Zs2, Zs3, zh, zi]
   rfl
  refine zn (i := 1) (N := some 6) (v := ?_) (a' := ?_) #[true, true, false, false, false, false, false, false, false, false, false, false, false, false, false, false, false, false, false, false, false] rfl rfl (zg HT_.out (by kernel_rfl)) (fun _ _ _ h => h) (Or.inl ⟨by rfl, ?_⟩) ?_ ?_;rotate_left
  ·intro w'
   go_simp;with_reducible rfl
  rotate_left
  ·simp only [Act.put, Zs1, Zs2, Zs3, zh, zi]
   rfl
  refine zn (i := 4) (N := some 9) (v := ?_) (a' := ?_) #[true, true, false, false, true, false, false, false, false, false, false, false, false, false, false, false, false, false, false, false, false] rfl rfl (zg HT_.out (by kernel_rfl)) (fun _ _ _ h => h) (Or.inl ⟨by rfl, ?_⟩) ?_ ?_;rotate_left
  ·intro w'
   go_simp;with_reducible rfl
  rotate_left
  ·simp only [Act.put, Zs1, Zs2, Zs3, zh, zi]
   rfl
  refine zn (i := 7) (N := some 12) (v := ?_) (a' := ?_) #[true, true, false, false, true, false, false, true, false, false, false, false, false, false, false, false, false, false, false, false, false] rfl rfl (zg HT_.out (by kernel_rfl)) (fun _ _ _ h => h) (Or.inl ⟨by rfl, ?_⟩) ?_ ?_;rotate_left
  ·intro w'
   go_simp;with_reducible rfl
  rotate_left
  ·simp only [Act.put, Zs1, Zs2, Zs3, zh, zi]
   rfl
  refine zn (i := 8) (N := some 13) (v := ?_) (a' := ?_) #[true, true, false, false, true, false, false, true, true, false, false, false, false, false, false, false, false, false, false, false, false] rfl rfl (zg HT_.out (by kernel_rfl)) (fun _ _ _ h => h) (Or.inl ⟨by rfl, ?_⟩) ?_ ?_;rotate_left
  ·intro w'
   go_simp;with_reducible rfl
  rotate_left
  ·simp only [Act.put, Zs1, Zs2, Zs3, zh, zi]
   rfl
  refine zn (i := 9) (N := some 14) (v := ?_) (a' := ?_) #[true, true, false, false, true, false, false, true, true, true, false, false, false, false, false, false, false, false, false, false, false] rfl rfl (zg HT_.out (by kernel_rfl)) (fun _ _ _ h => h) (Or.inl ⟨by rfl, ?_⟩) ?_ ?_;rotate_left
  ·intro w'
   go_simp;with_reducible rfl
  rotate_left
  ·simp only [Act.put, Zs1, Zs2, Zs3, zh, zi]
   rfl
  refine zn (i := 12) (N := some 17) (v := ?_) (a' := ?_) #[true, true, false, false, true, false, false, true, true, true, false, false, true, false, false, false, false, false, false, false, false] rfl rfl (zg HT_.out (by kernel_rfl)) (fun _ _ _ h => h) (Or.inl ⟨by rfl, ?_⟩) ?_ ?_;rotate_left
  ·intro w'
   go_simp;with_reducible rfl
  rotate_left
  ·simp only [Act.put, Zs1, Zs2, Zs3, zh, zi]
   rfl
  refine zn (i := 16) (N := some 21) (v := ?_) (a' := ?_) #[true, true, false, false, true, false, false, true, true, true, false, false, true, false, false, false, true, false, false, false, false] rfl rfl (zg HT_.out (by kernel_rfl)) (fun _ _ _ h => h) (Or.inl ⟨by rfl, ?_⟩) ?_ ?_;rotate_left
  ·intro w'
   go_simp;with_reducible rfl
  rotate_left
  ·simp only [Act.put, Zs1, Zs2, Zs3, zh, zi]
   rfl
  refine zb3 (i := 2) (N := some 7) (v := ?_) (a' := ?_) #[true, true, true, false, true, false, false, true, true, true, false, false, true, false, false, false, true, false, false, false, false] rfl rfl (zbc HT_.out HW_.out (by kernel_rfl)) (fun _ _ _ h => h) (Or.inl ⟨by rfl, ?_⟩) hHeld ?_ ?_;rotate_left
  ·rintro w' ⟨s0, s1, s2⟩
   go_simp;with_reducible rfl
  rotate_left
  ·simp only [Act.put, Zs1, Zs2, Zs3, zh, zi]
   rfl
  refine zn (i := 3) (N := some 8) (v := ?_) (a' := ?_) #[true, true, true, true, true, false, false, true, true, true, false, false, true, false, false, false, true, false, false, false, false] rfl rfl (zg HT_.out (by kernel_rfl)) (fun _ _ _ h => h) (Or.inl ⟨by rfl, ?_⟩) ?_ ?_;rotate_left
  ·intro w'
   go_simp;with_reducible rfl
  rotate_left
  ·simp only [Act.put, Zs1, Zs2, Zs3, zh, zi]
   rfl
  refine zb3 (i := 5) (N := some 10) (v := ?_) (a' := ?_) #[true, true, true, true, true, true, false, true, true, true, false, false, true, false, false, false, true, false, false, false, false] rfl rfl (zbc HT_.out HW_.out (by kernel_rfl)) (fun _ _ _ h => h) (Or.inl ⟨by rfl, ?_⟩) hHeld ?_ ?_;rotate_left
  ·rintro w' ⟨s0, s1, s2⟩
   go_simp;with_reducible rfl
  rotate_left
  ·simp only [Act.put, Zs1, Zs2, Zs3, zh, zi]
   rfl
  refine zn (i := 6) (N := some 11) (v := ?_) (a' := ?_) #[true, true, true, true, true, true, true, true, true, true, false, false, true, false, false, false, true, false, false, false, false] rfl rfl (zg HT_.out (by kernel_rfl)) (fun _ _ _ h => h) (Or.inl ⟨by rfl, ?_⟩) ?_ ?_;rotate_left
  ·intro w'
   go_simp;with_reducible rfl
  rotate_left
  ·simp only [Act.put, Zs1, Zs2, Zs3, zh, zi]
   rfl
  refine zb3 (i := 10) (N := some 15) (v := ?_) (a' := ?_) #[true, true, true, true, true, true, true, true, true, true, true, false, true, false, false, false, true, false, false, false, false] rfl rfl (zbc HT_.out HW_.out (by kernel_rfl)) (fun _ _ _ h => h) (Or.inl ⟨by rfl, ?_⟩) hHeld ?_ ?_;rotate_left
  ·rintro w' ⟨s0, s1, s2⟩
   go_simp;with_reducible rfl
  rotate_left
  ·simp only [Act.put, Zs1, Zs2, Zs3, zh, zi]
   rfl
  refine zn (i := 11) (N := some 16) (v := ?_) (a' := ?_) #[true, true, true, true, true, true, true, true, true, true, true, true, true, false, false, false, true, false, false, false, false] rfl rfl (zg HT_.out (by kernel_rfl)) (fun _ _ _ h => h) (Or.inl ⟨by rfl, ?_⟩) ?_ ?_;rotate_left
  ·intro w'
   go_simp;with_reducible rfl
  rotate_left
  ·simp only [Act.put, Zs1, Zs2, Zs3, zh, zi]
   rfl
  refine zb3 (i := 13) (N := some 18) (v := ?_) (a' := ?_) #[true, true, true, true, true, true, true, true, true, true, true, true, true, true, false, false, true, false, false, false, false] rfl rfl (zbc HT_.out HW_.out (by kernel_rfl)) (fun _ _ _ h => h) (Or.inl ⟨by rfl, ?_⟩) hHeld ?_ ?_;rotate_left
  ·rintro w' ⟨s0, s1, s2⟩
   go_simp;with_reducible rfl
  rotate_left
  ·simp only [Act.put, Zs1, Zs2, Zs3, zh, zi]
   rfl
  refine zn (i := 14) (N := some 19) (v := ?_) (a' := ?_) #[true, true, true, true, true, true, true, true, true, true, true, true, true, true, true, false, true, false, false, false, false] rfl rfl (zg HT_.out (by kernel_rfl)) (fun _ _ _ h => h) (Or.inl ⟨by rfl, ?_⟩) ?_ ?_;rotate_left
  ·intro w'
   go_simp;with_reducible rfl
  rotate_left
  ·simp only [Act.put, Zs1, Zs2, Zs3, zh, zi]
   rfl
  refine zn (i := 15) (N := some 20) (v := ?_) (a' := ?_) #[true, true, true, true, true, true, true, true, true, true, true, true, true, true, true, true, true, false, false, false, false] rfl rfl (zg HT_.out (by kernel_rfl)) (fun _ _ _ h => h) (Or.inl ⟨by rfl, ?_⟩) ?_ ?_;rotate_left
  ·intro w'
   go_simp;with_reducible rfl
  rotate_left
  ·simp only [Act.put, Zs1, Zs2, Zs3, zh, zi]
   rfl
  refine zb3 (i := 17) (N := some 22) (v := ?_) (a' := ?_) #[true, true, true, true, true, true, true, true, true, true, true, true, true, true, true, true, true, true, false, false, false] rfl rfl (zbc HT_.out HW_.out (by kernel_rfl)) (fun _ _ _ h => h) (Or.inl ⟨by rfl, ?_⟩) hHeld ?_ ?_;rotate_left
  ·rintro w' ⟨s0, s1, s2⟩
   go_simp;with_reducible rfl
  rotate_left
  ·simp only [Act.put, Zs1, Zs2, Zs3, zh, zi]
   rfl
  refine zn (i := 18) (N := some 23) (v := ?_) (a' := ?_) #[true, true, true, true, true, true, true, true, true, true, true, true, true, true, true, true, true, true, true, false, false] rfl rfl (zg HT_.out (by kernel_rfl)) (fun _ _ _ h => h) (Or.inl ⟨by rfl, ?_⟩) ?_ ?_;rotate_left
  ·intro w'
   go_simp;with_reducible rfl
  rotate_left
  ·simp only [Act.put, Zs1, Zs2, Zs3, zh, zi]
   rfl
  refine zn (i := 19) (N := some 24) (v := ?_) (a' := ?_) #[true, true, true, true, true, true, true, true, true, true, true, true, true, true, true, true, true, true, true, true, false] rfl rfl (zg HT_.out (by kernel_rfl)) (fun _ _ _ h => h) (Or.inl ⟨by rfl, ?_⟩) ?_ ?_;rotate_left
  ·intro w'
   go_simp;with_reducible rfl
  rotate_left
  ·simp only [Act.put, Zs1, Zs2, Zs3, zh, zi]
   rfl
  refine one_ (i := 20) (N := none) #[true, true, true, true, true, true, true, true, true, true, true, true, true, true, true, true, true, true, true, true, true] rfl rfl (zb0 HT_.out (by kernel_rfl)) (by decide) (fun K hK => ?_);have hs7 : w6.cell? ⟨gb272, 0, none⟩ = some (.int .i64 0) := (ze BK272.out 0).trans rfl;have hfs7 := zw BK272.out 0;have hns7_0 := NB271_272.out;have hms7_0 := NB272_271.out;have hs8 : w6.cell? ⟨gb272, 1, none⟩ = some (.int .i64 0) := (ze BK272.out 1).trans rfl;have hfs8 := zw BK272.out 1;have hns8_0 := NB271_272.out;have hms8_0 := NB272_271.out;refine zi6 (w1 := ?_) (by rfl) rfl ?_ ?_;rotate_left
  ·go_simp
   rfl
  refine hK.out _ _ ⟨((cell_far (p := ⟨gb272, _, none⟩) NB271_272.out _).trans (((cell_far (p := ⟨gb272, _, none⟩) NB271_272.out _).trans (hHeld.1)))), ((cell_far (p := ⟨gb272, _, none⟩) NB271_272.out _).trans (((cell_far (p := ⟨gb272, _, none⟩) NB271_272.out _).trans (hHeld.2.1)))), ((cell_far (p := ⟨gb272, _, none⟩) NB271_272.out _).trans (((cell_far (p := ⟨gb272, _, none⟩) NB271_272.out _).trans (hHeld.2.2))))⟩ (fun hHeld => ?_);clear hK K;refine zc5 (zb9 HT_.out (by kernel_rfl)) ?_
  try go_wp2
  refine bodyPost_ret (results_cell_row rfl _ _ gb272 39 #[.int .i64 (wrap64 (Int.tdiv (wrap64 (a1 * a0_2)) a0_0)), .int .i64 (wrap64 (Int.tdiv (wrap64 ((wrap64 ((wrap64 ((wrap64 (a1 + 1)) * a0_2)) + a0_0)) - 1)) a0_0))] (0, 0) _ rfl (by (with_reducible repeat (first | refine zbi ?_ _ | refine zbf ?_ | refine zbh ?_ _)); refine zcv (cs := #[.int .i64 (wrap64 (Int.tdiv (wrap64 (a1 * a0_2)) a0_0)), .int .i64 0]) ?_ 1 _ rfl; (with_reducible repeat (first | refine zbi ?_ _ | refine zbf ?_ | refine zbh ?_ _)); refine zcv (cs := #[.int .i64 0, .int .i64 0]) ?_ 0 _ rfl; (with_reducible repeat (first | refine zbi ?_ _ | refine zbf ?_ | refine zbh ?_ _)); exact BK272.out) Try.underlying39 rfl (by kernel_rfl)) rfl ?_;exact ⟨by first | rfl | (simp [zq, zt] <;> rfl) | (simp [*, zq, zt] <;> rfl), Zq19 HB GE271 GE272⟩
def zcc.l0 : Nat → List Int → Int → Int → Option (Int)
 | 0, _, _, _ => none
 | k + 1, x0, x1, x5 => if x5 < (x0.length : Int) then (if 0 ≤ x5 then (if (rd x0 x5) = x1 then (some x5) else (zcc.l0 k x0 x1 (wrap64 (x5 + 1)))) else (none)) else (some (-1))
def zcc.f (k : Nat) (l0 : List Int) (a1 : Int) : Option (Int) := zcc.l0 k l0 a1 0
set_option maxHeartbeats 8000000 in
theorem zcc.calls (k : Nat) (A0 : Option Addr) (c0 : Nat) (l0 : List Int) (a1 : Int) (r : Int) (w : World) (hr0 : Kd.C (Kd.int .i64) w A0 l0.length l0) (hc0 : l0.length ≤ c0) (h : zcc.f k l0 a1 = some r) :
  Calls Try.prog 65 #[.slice A0 l0.length c0, .int .i64 a1] w fun e w' => e = .returned (.int .i64 r) ∧ zbx w w' := by
 have HR0 := za.mk hr0
 have HC0 := za.mk hc0
 clear hr0 hc0
 have H : (zcc.l0 k l0 a1 0) = some r := h
 clear h
 have H' := za.mk H
 clear H
 go_enter Try.func65, Try.ntmps65
 go_wp2
 go_loopg [5] k (fun kq v5 w' => ∃ (x5_1 : Int), v5 = .int .i64 x5_1 ∧ za (zcc.l0 kq l0 a1 x5_1 = some r) ∧ za (kq ≤ k) ∧ zbx w w')
 case atStart => exact ⟨(0), Zrs, H', ⟨Nat.le_refl _⟩, by repeat (first | exact zbx.refl _ | apply zbx.step)⟩
 case round =>
  clear H'
  try clear p2
  obtain ⟨x5_1, rfl, HA, HK1, ⟨m1, rfl⟩⟩ := hrel
  cases gk with
  | zero => exact absurd HA.out (by simp [zcc.l0])
  | succ k1 =>
   have H := HA.out;clear HA;simp only [zcc.l0] at H;by_cases c3 : x5_1 < (l0.length : Int)
   ·rw [if_pos c3] at H
    have c3b0 : decide (x5_1 < (l0.length : Int)) = true := decide_eq_true c3;clear c3;by_cases c4 : 0 ≤ x5_1
    ·rw [if_pos c4] at H
     have c4b0 : decide (0 ≤ x5_1) = true := decide_eq_true c4;clear c4;by_cases c5 : (rd l0 x5_1) = a1
     ·rw [if_pos c5] at H
      have c5b0 : ((rd l0 x5_1) == a1) = true := beq_iff_eq.mpr c5;have c5b1 : ((rd l0 x5_1) != a1) = false := bne_eq_false_iff_eq.mpr c5;clear c5;obtain rfl := Option.some.inj H;have p273 : 0 ≤ (x5_1 : Int) := of_decide_eq_true Zas;have q273 : x5_1 < (l0.length : Int) := of_decide_eq_true Zas;obtain ⟨ad273, e273, hx273_0⟩ := Kd.zb5 HR0.out x5_1 p273 q273
      cases e273
      replace p273 := eq_true p273;replace q273 := eq_true q273;go_wp2;go_ret;exact ⟨by first | rfl | (simp; done) | (simp [*]; done), by repeat (first | exact zbx.refl _ | apply zbx.step)⟩
     ·rw [if_neg c5] at H
      have c5b0 : ((rd l0 x5_1) == a1) = false := beq_eq_false_iff_ne.mpr c5;have c5b1 : ((rd l0 x5_1) != a1) = true := bne_iff_ne.mpr c5;have H' := za.mk H;clear H;have p273 : 0 ≤ (x5_1 : Int) := of_decide_eq_true Zas;have q273 : x5_1 < (l0.length : Int) := of_decide_eq_true Zas;obtain ⟨ad273, e273, hx273_0⟩ := Kd.zb5 HR0.out x5_1 p273 q273
      cases e273
      replace p273 := eq_true p273;replace q273 := eq_true q273;go_wp2;go_roundg k1
      case measure => have := HK1.out; omega
      case rel => exact ⟨(wrap64 (x5_1 + 1)), Zrs, H', ⟨by have := HK1.out; omega⟩, by repeat (first | exact zbx.refl _ | apply zbx.step)⟩
    ·rw [if_neg c4] at H
     exact absurd H (by simp)
   ·rw [if_neg c3] at H
    have c3b0 : decide (x5_1 < (l0.length : Int)) = false := decide_eq_false c3;clear c3;obtain rfl := Option.some.inj H;go_wp2;go_ret;exact ⟨by first | rfl | (simp; done) | (simp [*]; done), by repeat (first | exact zbx.refl _ | apply zbx.step)⟩
def zbl.f (a0_0 : Int) (a0_1 : Int) (a0_2 : Int) (a1 : Int) : Option (Int) := (zbb.f a0_0 a0_1 a0_2 a1).bind fun bt275 => ((zbb.f a0_0 a0_1 a0_2 (wrap64 (a1 + 1))).bind fun bt277 => (if bt275.2 > bt277.1 then (some 1) else (some 0)))
def zbl.T1 : Bool × List (List Nat × List Nat) := (true, [([], []), ([], []), ([0, 1], [0, 1]), ([2], [2]), ([], []), ([], []), ([5], [5]), ([4, 6, 2], [4, 6]), ([7], [7]), ([3, 8], [3, 8])])
def zbl.B1 : List Nat := [0, 0, 3, 7, 0, 0, 32, 119, 247, 511]
theorem zbl.tab1 : rtab .any (opsOf Try.f76 1) = zbl.T1 := by kernel_rfl
theorem zbl.zen : zcw zbl.T1.2 zbl.B1 = true := by kernel_rfl
set_option maxHeartbeats 8000000 in
theorem zbl.calls (a0_0 : Int) (a0_1 : Int) (a0_2 : Int) (a1 : Int) (r : Int) (w : World) (h : zbl.f a0_0 a0_1 a0_2 a1 = some r) :
  Calls Try.prog 76 #[.agg #[.int .i64 a0_0, .int .i64 a0_1, .int .i64 a0_2], .int .i64 a1] w fun e w' => e = .returned (.int .i64 r) ∧ Below w.heap.size w w' := by
 have hfld39_0 : ∀ (v0_ v1_ : Value) (W : World), (Instr.field 39 (.agg #[v0_, v1_]) 0).run Try.prog W = .ok v0_ W := fun _ _ _ => rfl
 have hfld39_1 : ∀ (v0_ v1_ : Value) (W : World), (Instr.field 39 (.agg #[v0_, v1_]) 1).run Try.prog W = .ok v1_ W := fun _ _ _ => rfl
 have hu35 := Try.underlying35
 have HB := za.mk (Below.refl w.heap.size w)
 have H : ((zbb.f a0_0 a0_1 a0_2 a1).bind fun bt275 => ((zbb.f a0_0 a0_1 a0_2 (wrap64 (a1 + 1))).bind fun bt277 => (if bt275.2 > bt277.1 then (some 1) else (some 0)))) = some r := h
 clear h
 replace H := Option.bind_eq_some_iff.mp H
 obtain ⟨⟨t275, t276⟩, A30, H⟩ := H
 replace H : ((zbb.f a0_0 a0_1 a0_2 (wrap64 (a1 + 1))).bind fun bt277 => (if t276 > bt277.1 then (some 1) else (some 0))) = some r := H
 have A3 := za.mk A30
 clear A30
 replace H := Option.bind_eq_some_iff.mp H
 obtain ⟨⟨t277, t278⟩, A40, H⟩ := H
 replace H : (if t276 > t277 then (some 1) else (some 0)) = some r := H
 have A4 := za.mk A40
 clear A40
 by_cases c5 : t276 > t277
 ·rw [if_pos c5] at H
  have c5b0 : decide (t277 < t276) = true := decide_eq_true c5;clear c5;obtain rfl := Option.some.inj H;go_enter Try.func76, Try.ntmps76
  try go_wp2_with (first | ((with_reducible refine zb4 (N := 2) rfl ?_); refine zcb ?hg (N := 2) ?hd (cs := #[.int .i64 a0_0, .int .i64 a0_1, .int .i64 a0_2]) (t := 35) ?hr ?_; (case hd => rfl); (case hg => rfl); (case hr => first | (go_simp; done) | (go_simp; rfl)); intro gb274 hg w6 hbox hb; have n0_ := za.mk (zl (Zq1 HB) hb); have n1_ := za.mk (hbox); have n2_ := za.mk ((by rw [hg]; exact (zu (Zq1 HB)) : w.heap.size ≤ gb274)); have n3_ := za.mk ((by rw [hg]; exact (zu (Zq1 HB)) : w.heap.size ≤ gb274)); clear HB; have HB := n0_; have BK274 := n1_; have GW274 := n2_; have GE274 := n3_; clear n0_ n1_ n2_ n3_; clear hb hbox hg))
  have n0_ := za.mk (zbf BK274.out);have n1_ := za.mk (zbk HB.out);clear BK274;clear HB;have BK274 := n0_;have HB := n1_;clear n0_ n1_;refine zcn (n := 10) (S := fun w' => w'.cell? ⟨gb274, 0, none⟩ = some (.int .i64 a0_0) ∧ w'.cell? ⟨gb274, 1, none⟩ = some (.int .i64 a0_1) ∧ w'.cell? ⟨gb274, 2, none⟩ = some (.int .i64 a0_2)) (ds := []) #[false, false, false, false, false, false, false, false, false, false] (by kernel_rfl) rfl rfl ⟨(ze BK274.out 0).trans rfl, (ze BK274.out 1).trans rfl, (ze BK274.out 2).trans rfl⟩ (fun hHeld => ?_); refine zbw zbl.tab1 zbl.zen (fun HT_ HW_ => ?_);generalize w6.drew = w7 at BK274 HB hHeld ⊢;refine zn (i := 1) (N := some 6) (v := ?_) (a' := ?_) #[false, true, false, false, false, false, false, false, false, false] rfl rfl (zg HT_.out (by kernel_rfl)) (fun _ _ _ h => h) (Or.inl ⟨by rfl, ?_⟩) ?_ ?_;rotate_left
  ·intro w'
   go_simp;with_reducible rfl
  rotate_left
  ·simp only [Act.put, Zs1, Zs2, Zs3, zh, zi]
   rfl
  refine zn (i := 5) (N := some 10) (v := ?_) (a' := ?_) #[false, true, false, false, false, true, false, false, false, false] rfl rfl (zg HT_.out (by kernel_rfl)) (fun _ _ _ h => h) (Or.inl ⟨by rfl, ?_⟩) ?_ ?_;rotate_left
  ·intro w'
   go_simp;with_reducible rfl
  rotate_left
  ·simp only [Act.put, Zs1, Zs2, Zs3, zh, zi]
   rfl
  refine zn (i := 6) (N := some 11) (v := ?_) (a' := ?_) #[false, true, false, false, false, true, true, false, false, false] rfl rfl (zg HT_.out (by kernel_rfl)) (fun _ _ _ h => h) (Or.inl ⟨by rfl, ?_⟩) ?_ ?_;rotate_left
  ·intro w'
   go_simp;with_reducible rfl
  rotate_left
  ·simp only [Act.put, Zs1, Zs2, Zs3, zh, zi]
   rfl
  refine zb3 (i := 0) (N := some 5) (v := ?_) (a' := ?_) #[true, true, false, false, false, true, true, false, false, false] rfl rfl (zbc HT_.out HW_.out (by kernel_rfl)) (fun _ _ _ h => h) (Or.inl ⟨by rfl, ?_⟩) hHeld ?_ ?_;rotate_left
  ·rintro w' ⟨s0, s1, s2⟩
   go_simp;with_reducible rfl
  rotate_left
  ·simp only [Act.put, Zs1, Zs2, Zs3, zh, zi]
   rfl
  refine zb3 (i := 4) (N := some 9) (v := ?_) (a' := ?_) #[true, true, false, false, true, true, true, false, false, false] rfl rfl (zbc HT_.out HW_.out (by kernel_rfl)) (fun _ _ _ h => h) (Or.inl ⟨by rfl, ?_⟩) hHeld ?_ ?_;rotate_left
  ·rintro w' ⟨s0, s1, s2⟩
   go_simp;with_reducible rfl
  rotate_left
  ·simp only [Act.put, Zs1, Zs2, Zs3, zh, zi]
   rfl
  refine one_ (i := 2) (N := some 7) #[true, true, true, false, true, true, true, false, false, false] rfl rfl (zb0 HT_.out (by kernel_rfl)) (by decide) (fun K hK => ?_);refine zcs Try.func64 (by kernel_rfl) rfl #[.agg #[.int .i64 a0_0, .int .i64 a0_1, .int .i64 a0_2], .int .i64 a1] (by rfl) rfl rfl Zmt ?_;with_reducible refine (zbb.calls a0_0 a0_1 a0_2 a1 t275 t276 _ A3.out).mono ?_
  rintro e w8 ⟨rfl, hb⟩;refine ⟨_, rfl, ?_⟩;have n0_ := za.mk (zbm (g := gb274) (o := .cells #[.int .i64 a0_0, .int .i64 a0_1, .int .i64 a0_2] 35 (0, 0)) (Zq2 BK274) hb);have n1_ := za.mk (zl (Zq3 HB GE274) hb);clear BK274;clear HB;have BK274 := n0_;have HB := n1_;clear n0_ n1_;(try clear hb);(try clear hb2);(try clear hk);(try clear hi);refine hK.out _ _ ⟨(ze BK274.out 0).trans rfl, (ze BK274.out 1).trans rfl, (ze BK274.out 2).trans rfl⟩ (fun hHeld => ?_);clear hK K;refine zcd (a' := ?_) ?_ ?_;rotate_left
  ·show Act.put _ (some 7) _ = _
   simp only [Act.put, Zs1, Zs2, Zs3, zh, zi];rfl
  refine zn (i := 3) (N := some 8) (v := ?_) (a' := ?_) #[true, true, true, true, true, true, true, false, false, false] rfl rfl (zg HT_.out (by kernel_rfl)) (fun _ _ _ h => h) (Or.inl ⟨by rfl, ?_⟩) ?_ ?_;rotate_left
  ·intro w'
   go_simp;with_reducible rfl
  rotate_left
  ·simp only [Act.put, Zs1, Zs2, Zs3, zh, zi]
   rfl
  refine one_ (i := 7) (N := some 12) #[true, true, true, true, true, true, true, true, false, false] rfl rfl (zb0 HT_.out (by kernel_rfl)) (by decide) (fun K hK => ?_);refine zcs Try.func64 (by kernel_rfl) rfl #[.agg #[.int .i64 a0_0, .int .i64 a0_1, .int .i64 a0_2], .int .i64 (wrap64 (a1 + 1))] (by rfl) rfl rfl Zmt ?_;with_reducible refine (zbb.calls a0_0 a0_1 a0_2 (wrap64 (a1 + 1)) t277 t278 _ A4.out).mono ?_
  rintro e w9 ⟨rfl, hb⟩;refine ⟨_, rfl, ?_⟩;have n0_ := za.mk (zbm (g := gb274) (o := .cells #[.int .i64 a0_0, .int .i64 a0_1, .int .i64 a0_2] 35 (0, 0)) (Zq2 BK274) hb);have n1_ := za.mk (zl (Zq3 HB GE274) hb);clear BK274;clear HB;have BK274 := n0_;have HB := n1_;clear n0_ n1_;(try clear hb);(try clear hb2);(try clear hk);(try clear hi);refine hK.out _ _ ⟨(ze BK274.out 0).trans rfl, (ze BK274.out 1).trans rfl, (ze BK274.out 2).trans rfl⟩ (fun hHeld => ?_);clear hK K;refine zcd (a' := ?_) ?_ ?_;rotate_left
  ·show Act.put _ (some 12) _ = _
   simp only [Act.put, Zs1, Zs2, Zs3, zh, zi];rfl
  refine zn (i := 8) (N := some 13) (v := ?_) (a' := ?_) #[true, true, true, true, true, true, true, true, true, false] rfl rfl (zg HT_.out (by kernel_rfl)) (fun _ _ _ h => h) (Or.inl ⟨by rfl, ?_⟩) ?_ ?_;rotate_left
  ·intro w'
   go_simp;with_reducible rfl
  rotate_left
  ·simp only [Act.put, Zs1, Zs2, Zs3, zh, zi]
   rfl
  refine zn (i := 9) (N := some 14) (v := ?_) (a' := ?_) #[true, true, true, true, true, true, true, true, true, true] rfl rfl (zg HT_.out (by kernel_rfl)) (fun _ _ _ h => h) (Or.inl ⟨by rfl, ?_⟩) ?_ ?_;rotate_left
  ·intro w'
   go_simp;with_reducible rfl
  rotate_left
  ·simp only [Act.put, Zs1, Zs2, Zs3, zh, zi]
   rfl
  refine zc5 (zb9 HT_.out (by kernel_rfl)) ?_
  try go_wp2
  go_ret;exact ⟨by first | rfl | (simp [zq, zt] <;> rfl) | (simp [*, zq, zt] <;> rfl), Zq3 HB GE274⟩
 ·rw [if_neg c5] at H
  have c5b0 : decide (t277 < t276) = false := decide_eq_false c5;clear c5;obtain rfl := Option.some.inj H;go_enter Try.func76, Try.ntmps76
  try go_wp2_with (first | ((with_reducible refine zb4 (N := 2) rfl ?_); refine zcb ?hg (N := 2) ?hd (cs := #[.int .i64 a0_0, .int .i64 a0_1, .int .i64 a0_2]) (t := 35) ?hr ?_; (case hd => rfl); (case hg => rfl); (case hr => first | (go_simp; done) | (go_simp; rfl)); intro gb274 hg w10 hbox hb; have n0_ := za.mk (zl (Zq1 HB) hb); have n1_ := za.mk (hbox); have n2_ := za.mk ((by rw [hg]; exact (zu (Zq1 HB)) : w.heap.size ≤ gb274)); have n3_ := za.mk ((by rw [hg]; exact (zu (Zq1 HB)) : w.heap.size ≤ gb274)); clear HB; have HB := n0_; have BK274 := n1_; have GW274 := n2_; have GE274 := n3_; clear n0_ n1_ n2_ n3_; clear hb hbox hg))
  have n0_ := za.mk (zbf BK274.out);have n1_ := za.mk (zbk HB.out);clear BK274;clear HB;have BK274 := n0_;have HB := n1_;clear n0_ n1_;refine zcn (n := 10) (S := fun w' => w'.cell? ⟨gb274, 0, none⟩ = some (.int .i64 a0_0) ∧ w'.cell? ⟨gb274, 1, none⟩ = some (.int .i64 a0_1) ∧ w'.cell? ⟨gb274, 2, none⟩ = some (.int .i64 a0_2)) (ds := []) #[false, false, false, false, false, false, false, false, false, false] (by kernel_rfl) rfl rfl ⟨(ze BK274.out 0).trans rfl, (ze BK274.out 1).trans rfl, (ze BK274.out 2).trans rfl⟩ (fun hHeld => ?_); refine zbw zbl.tab1 zbl.zen (fun HT_ HW_ => ?_);generalize w10.drew = w11 at BK274 HB hHeld ⊢;refine zn (i := 1) (N := some 6) (v := ?_) (a' := ?_) #[false, true, false, false, false, false, false, false, false, false] rfl rfl (zg HT_.out (by kernel_rfl)) (fun _ _ _ h => h) (Or.inl ⟨by rfl, ?_⟩) ?_ ?_;rotate_left
  ·intro w'
   go_simp;with_reducible rfl
  rotate_left
  ·simp only [Act.put, Zs1, Zs2, Zs3, zh, zi]
   rfl
  refine zn (i := 5) (N := some 10) (v := ?_) (a' := ?_) #[false, true, false, false, false, true, false, false, false, false] rfl rfl (zg HT_.out (by kernel_rfl)) (fun _ _ _ h => h) (Or.inl ⟨by rfl, ?_⟩) ?_ ?_;rotate_left
  ·intro w'
   go_simp;with_reducible rfl
  rotate_left
  ·simp only [Act.put, Zs1, Zs2, Zs3, zh, zi]
   rfl
  refine zn (i := 6) (N := some 11) (v := ?_) (a' := ?_) #[false, true, false, false, false, true, true, false, false, false] rfl rfl (zg HT_.out (by kernel_rfl)) (fun _ _ _ h => h) (Or.inl ⟨by rfl, ?_⟩) ?_ ?_;rotate_left
  ·intro w'
   go_simp;with_reducible rfl
  rotate_left
  ·simp only [Act.put, Zs1, Zs2, Zs3, zh, zi]
   rfl
  refine zb3 (i := 0) (N := some 5) (v := ?_) (a' := ?_) #[true, true, false, false, false, true, true, false, false, false] rfl rfl (zbc HT_.out HW_.out (by kernel_rfl)) (fun _ _ _ h => h) (Or.inl ⟨by rfl, ?_⟩) hHeld ?_ ?_;rotate_left
  ·rintro w' ⟨s0, s1, s2⟩
   go_simp;with_reducible rfl
  rotate_left
  ·simp only [Act.put, Zs1, Zs2, Zs3, zh, zi]
   rfl
  refine zb3 (i := 4) (N := some 9) (v := ?_) (a' := ?_) #[true, true, false, false, true, true, true, false, false, false] rfl rfl (zbc HT_.out HW_.out (by kernel_rfl)) (fun _ _ _ h => h) (Or.inl ⟨by rfl, ?_⟩) hHeld ?_ ?_;rotate_left
  ·rintro w' ⟨s0, s1, s2⟩
   go_simp;with_reducible rfl
  rotate_left
  ·simp only [Act.put, Zs1, Zs2, Zs3, zh, zi]
   rfl
  refine one_ (i := 2) (N := some 7) #[true, true, true, false, true, true, true, false, false, false] rfl rfl (zb0 HT_.out (by kernel_rfl)) (by decide) (fun K hK => ?_);refine zcs Try.func64 (by kernel_rfl) rfl #[.agg #[.int .i64 a0_0, .int .i64 a0_1, .int .i64 a0_2], .int .i64 a1] (by rfl) rfl rfl Zmt ?_;with_reducible refine (zbb.calls a0_0 a0_1 a0_2 a1 t275 t276 _ A3.out).mono ?_
  rintro e w12 ⟨rfl, hb⟩;refine ⟨_, rfl, ?_⟩;have n0_ := za.mk (zbm (g := gb274) (o := .cells #[.int .i64 a0_0, .int .i64 a0_1, .int .i64 a0_2] 35 (0, 0)) (Zq2 BK274) hb);have n1_ := za.mk (zl (Zq3 HB GE274) hb);clear BK274;clear HB;have BK274 := n0_;have HB := n1_;clear n0_ n1_;(try clear hb);(try clear hb2);(try clear hk);(try clear hi);refine hK.out _ _ ⟨(ze BK274.out 0).trans rfl, (ze BK274.out 1).trans rfl, (ze BK274.out 2).trans rfl⟩ (fun hHeld => ?_);clear hK K;refine zcd (a' := ?_) ?_ ?_;rotate_left
  ·show Act.put _ (some 7) _ = _
   simp only [Act.put, Zs1, Zs2, Zs3, zh, zi];rfl
  refine zn (i := 3) (N := some 8) (v := ?_) (a' := ?_) #[true, true, true, true, true, true, true, false, false, false] rfl rfl (zg HT_.out (by kernel_rfl)) (fun _ _ _ h => h) (Or.inl ⟨by rfl, ?_⟩) ?_ ?_;rotate_left
  ·intro w'
   go_simp;with_reducible rfl
  rotate_left
  ·simp only [Act.put, Zs1, Zs2, Zs3, zh, zi]
   rfl
  refine one_ (i := 7) (N := some 12) #[true, true, true, true, true, true, true, true, false, false] rfl rfl (zb0 HT_.out (by kernel_rfl)) (by decide) (fun K hK => ?_);refine zcs Try.func64 (by kernel_rfl) rfl #[.agg #[.int .i64 a0_0, .int .i64 a0_1, .int .i64 a0_2], .int .i64 (wrap64 (a1 + 1))] (by rfl) rfl rfl Zmt ?_;with_reducible refine (zbb.calls a0_0 a0_1 a0_2 (wrap64 (a1 + 1)) t277 t278 _ A4.out).mono ?_
  rintro e w13 ⟨rfl, hb⟩;refine ⟨_, rfl, ?_⟩;have n0_ := za.mk (zbm (g := gb274) (o := .cells #[.int .i64 a0_0, .int .i64 a0_1, .int .i64 a0_2] 35 (0, 0)) (Zq2 BK274) hb);have n1_ := za.mk (zl (Zq3 HB GE274) hb);clear BK274;clear HB;have BK274 := n0_;have HB := n1_;clear n0_ n1_;(try clear hb);(try clear hb2);(try clear hk);(try clear hi);refine hK.out _ _ ⟨(ze BK274.out 0).trans rfl, (ze BK274.out 1).trans rfl, (ze BK274.out 2).trans rfl⟩ (fun hHeld => ?_);clear hK K;refine zcd (a' := ?_) ?_ ?_;rotate_left
  ·show Act.put _ (some 12) _ = _
   simp only [Act.put, Zs1, Zs2, Zs3, zh, zi];rfl
  refine zn (i := 8) (N := some 13) (v := ?_) (a' := ?_) #[true, true, true, true, true, true, true, true, true, false] rfl rfl (zg HT_.out (by kernel_rfl)) (fun _ _ _ h => h) (Or.inl ⟨by rfl, ?_⟩) ?_ ?_;rotate_left
  ·intro w'
   go_simp;with_reducible rfl
  rotate_left
  ·simp only [Act.put, Zs1, Zs2, Zs3, zh, zi]
   rfl
  refine zn (i := 9) (N := some 14) (v := ?_) (a' := ?_) #[true, true, true, true, true, true, true, true, true, true] rfl rfl (zg HT_.out (by kernel_rfl)) (fun _ _ _ h => h) (Or.inl ⟨by rfl, ?_⟩) ?_ ?_;rotate_left
  ·intro w'
   go_simp;with_reducible rfl
  rotate_left
  ·simp only [Act.put, Zs1, Zs2, Zs3, zh, zi]
   rfl
  refine zc5 (zb9 HT_.out (by kernel_rfl)) ?_
  try go_wp2
  go_ret;exact ⟨by first | rfl | (simp [zq, zt] <;> rfl) | (simp [*, zq, zt] <;> rfl), Zq3 HB GE274⟩
mutual
def zbg.l0 : Nat → Int → Int → Int → Int → Int → Int → Option (Int)
 | 0, _, _, _, _, _, _ => none
 | k + 1, x1, x5, x6, x280000, x280001, x280002 => (zbb.f x280000 x280001 x280002 x6).bind fun bt282 => (if x6 > x1 then (if (wrap64 (bt282.2 - bt282.1)) ≥ 3 then (zbg.j1 k x1 x5 x6 (decide ((wrap64 (bt282.2 - 1)) ≥ x5)) x280000 x280001 x280002 bt282.1 bt282.2) else (zbg.j1 k x1 x5 x6 false x280000 x280001 x280002 bt282.1 bt282.2)) else (zbg.j1 k x1 x5 x6 false x280000 x280001 x280002 bt282.1 bt282.2))
def zbg.j1 : Nat → Int → Int → Int → Bool → Int → Int → Int → Int → Int → Option (Int)
 | 0, _, _, _, _, _, _, _, _, _ => none
 | k + 1, x1, x5, x6, x41, x280000, x280001, x280002, x285000, x285001 => if x41 = true then (some (wrap64 (x285001 - 1))) else ((zbl.f x280000 x280001 x280002 x6).bind fun t285 => (if t285 = 0 then (some x285001) else (zbg.l0 k x1 x5 (wrap64 (x6 + 1)) x280000 x280001 x280002)))
end
def zbg.f (k : Nat) (a0_0 : Int) (a0_1 : Int) (a0_2 : Int) (a1 : Int) : Option (Int) := if (wrap64 (2 * a0_0)) < a0_2 then (some 0) else ((zbb.f a0_0 a0_1 a0_2 a1).bind fun bt280 => (zbg.l0 k a1 bt280.2 a1 a0_0 a0_1 a0_2))
set_option maxHeartbeats 8000000 in
theorem zbg.calls (k : Nat) (a0_0 : Int) (a0_1 : Int) (a0_2 : Int) (a1 : Int) (r : Int) (w : World) (h : zbg.f k a0_0 a0_1 a0_2 a1 = some r) :
  Calls Try.prog 77 #[.agg #[.int .i64 a0_0, .int .i64 a0_1, .int .i64 a0_2], .int .i64 a1] w fun e w' => e = .returned (.int .i64 r) ∧ Below w.heap.size w w' := by
 have hfld39_0 : ∀ (v0_ v1_ : Value) (W : World), (Instr.field 39 (.agg #[v0_, v1_]) 0).run Try.prog W = .ok v0_ W := fun _ _ _ => rfl
 have hfld39_1 : ∀ (v0_ v1_ : Value) (W : World), (Instr.field 39 (.agg #[v0_, v1_]) 1).run Try.prog W = .ok v1_ W := fun _ _ _ => rfl
 have hu35 := Try.underlying35
 have hu39 := Try.underlying39
 have HB := za.mk (Below.refl w.heap.size w)
 have H : (if (wrap64 (2 * a0_0)) < a0_2 then (some 0) else ((zbb.f a0_0 a0_1 a0_2 a1).bind fun bt280 => (zbg.l0 k a1 bt280.2 a1 a0_0 a0_1 a0_2))) = some r := h
 clear h
 by_cases c3 : (wrap64 (2 * a0_0)) < a0_2
 ·rw [if_pos c3] at H
  have c3b0 : decide ((wrap64 (2 * a0_0)) < a0_2) = true := decide_eq_true c3;clear c3;obtain rfl := Option.some.inj H;go_enter Try.func77, Try.ntmps77;go_wp2_with (first | ((with_reducible refine zb4 (N := 2) rfl ?_); refine zcb ?hg (N := 2) ?hd (cs := #[.int .i64 a0_0, .int .i64 a0_1, .int .i64 a0_2]) (t := 35) ?hr ?_; (case hd => rfl); (case hg => rfl); (case hr => first | (go_simp; done) | (go_simp; rfl)); intro gb279 hg w4 hbox hb; have n0_ := za.mk (zl (Zq1 HB) hb); have n1_ := za.mk (hbox); have n2_ := za.mk ((by rw [hg]; exact (zu (Zq1 HB)) : w.heap.size ≤ gb279)); have n3_ := za.mk ((by rw [hg]; exact (zu (Zq1 HB)) : w.heap.size ≤ gb279)); clear HB; have HB := n0_; have BK279 := n1_; have GW279 := n2_; have GE279 := n3_; clear n0_ n1_ n2_ n3_; clear hb hbox hg; have hcz5_0 : w4.cell? ⟨gb279, 0, none⟩ = some (.int .i64 a0_0) := (ze BK279.out 0).trans rfl; have hcz5_1 : w4.cell? ⟨gb279, 1, none⟩ = some (.int .i64 a0_1) := (ze BK279.out 1).trans rfl; have hcz5_2 : w4.cell? ⟨gb279, 2, none⟩ = some (.int .i64 a0_2) := (ze BK279.out 2).trans rfl; have hfz5_0 := zw BK279.out 0; have hfz5_1 := zw BK279.out 1; have hfz5_2 := zw BK279.out 2));go_ret;exact ⟨by first | rfl | (simp [zq, zt] <;> rfl) | (simp [*, zq, zt] <;> rfl), Zq3 HB GE279⟩
 ·rw [if_neg c3] at H
  have c3b0 : decide ((wrap64 (2 * a0_0)) < a0_2) = false := decide_eq_false c3;clear c3;replace H := Option.bind_eq_some_iff.mp H;obtain ⟨⟨t280, t281⟩, A60, H⟩ := H;replace H : (zbg.l0 k a1 t281 a1 a0_0 a0_1 a0_2) = some r := H;have A6 := za.mk A60;clear A60;have H' := za.mk H;clear H;go_enter Try.func77, Try.ntmps77;go_wp2_with (first | ((with_reducible refine zb4 (N := 2) rfl ?_); refine zcb ?hg (N := 2) ?hd (cs := #[.int .i64 a0_0, .int .i64 a0_1, .int .i64 a0_2]) (t := 35) ?hr ?_; (case hd => rfl); (case hg => rfl); (case hr => first | (go_simp; done) | (go_simp; rfl)); intro gb279 hg w7 hbox hb; have n0_ := za.mk (zl (Zq1 HB) hb); have n1_ := za.mk (hbox); have n2_ := za.mk ((by rw [hg]; exact (zu (Zq1 HB)) : w.heap.size ≤ gb279)); have n3_ := za.mk ((by rw [hg]; exact (zu (Zq1 HB)) : w.heap.size ≤ gb279)); clear HB; have HB := n0_; have BK279 := n1_; have GW279 := n2_; have GE279 := n3_; clear n0_ n1_ n2_ n3_; clear hb hbox hg; have hcz8_0 : w7.cell? ⟨gb279, 0, none⟩ = some (.int .i64 a0_0) := (ze BK279.out 0).trans rfl; have hcz8_1 : w7.cell? ⟨gb279, 1, none⟩ = some (.int .i64 a0_1) := (ze BK279.out 1).trans rfl; have hcz8_2 : w7.cell? ⟨gb279, 2, none⟩ = some (.int .i64 a0_2) := (ze BK279.out 2).trans rfl; have hfz8_0 := zw BK279.out 0; have hfz8_1 := zw BK279.out 1; have hfz8_2 := zw BK279.out 2) | ((with_reducible refine zbd (f := 64) rfl ?_); refine zb6 (some 16) rfl rfl Try.func64 (by kernel_rfl) rfl #[.agg #[.int .i64 a0_0, .int .i64 a0_1, .int .i64 a0_2], .int .i64 a1] rfl Zmt ?_; (with_reducible refine (zbb.calls a0_0 a0_1 a0_2 a1 t280 t281 _ A6.out).mono ?_); rintro e w9 ⟨rfl, hb⟩; refine ⟨_, rfl, ?_⟩; have n0_ := za.mk (zbm (g := gb279) (o := .cells #[.int .i64 a0_0, .int .i64 a0_1, .int .i64 a0_2] 35 (0, 0)) (Zq2 BK279) hb); have n1_ := za.mk (zl (Zq3 HB GE279) hb); clear BK279; clear HB; have BK279 := n0_; have HB := n1_; clear n0_ n1_; (try clear hb); (try clear hb2); (try clear hk); (try clear hi)))
  go_loopg [6] k (fun kq v6 w' => ∃ (x6_1 : Int), v6 = .int .i64 x6_1 ∧ za (zbg.l0 kq a1 t281 x6_1 a0_0 a0_1 a0_2 = some r) ∧ za (kq ≤ k) ∧ za (w'.heap[gb279]? = some (.cells #[.int .i64 a0_0, .int .i64 a0_1, .int .i64 a0_2] 35 (0, 0))) ∧ za (Below w.heap.size w w'))
  case atStart => exact ⟨(a1), Zrs, H', ⟨Nat.le_refl _⟩, ⟨Zq2 BK279⟩, ⟨Zq3 HB GE279⟩⟩
  case round =>
   clear H'
   (try clear p2);(try clear c3);(try clear c3b0);(try clear c6);(try clear p6);(try clear c7);(try clear hcz5_0);(try clear hcz5_1);(try clear hcz5_2);(try clear hcz8_0);(try clear hcz8_1);(try clear hcz8_2);(try clear hfz5_0);(try clear hfz5_1);(try clear hfz5_2);(try clear hfz8_0);(try clear hfz8_1);(try clear hfz8_2)
   obtain ⟨x6_1, rfl, HA, HK1, BK279, HB⟩ := hrel
   cases gk with
   | zero => exact absurd HA.out (by simp [zbg.l0])
   | succ k1 =>
    have H := HA.out;clear HA;simp only [zbg.l0] at H;replace H := Option.bind_eq_some_iff.mp H;obtain ⟨⟨t282, t283⟩, A100, H⟩ := H;replace H : (if x6_1 > a1 then (if (wrap64 (t283 - t282)) ≥ 3 then (zbg.j1 k1 a1 t281 x6_1 (decide ((wrap64 (t283 - 1)) ≥ t281)) a0_0 a0_1 a0_2 t282 t283) else (zbg.j1 k1 a1 t281 x6_1 false a0_0 a0_1 a0_2 t282 t283)) else (zbg.j1 k1 a1 t281 x6_1 false a0_0 a0_1 a0_2 t282 t283)) = some r := H;have A10 := za.mk A100;clear A100;have HC11 := za.mk H;clear H;have hcz12_0 : wr.cell? ⟨gb279, 0, none⟩ = some (.int .i64 a0_0) := (ze BK279.out 0).trans rfl;have hcz12_1 : wr.cell? ⟨gb279, 1, none⟩ = some (.int .i64 a0_1) := (ze BK279.out 1).trans rfl;have hcz12_2 : wr.cell? ⟨gb279, 2, none⟩ = some (.int .i64 a0_2) := (ze BK279.out 2).trans rfl;have hfz12_0 := zw BK279.out 0;have hfz12_1 := zw BK279.out 1;have hfz12_2 := zw BK279.out 2
    go_upto_region 7 with (first | ((with_reducible refine zbd (f := 64) rfl ?_); refine zb6 (some 23) rfl rfl Try.func64 (by kernel_rfl) rfl #[.agg #[.int .i64 a0_0, .int .i64 a0_1, .int .i64 a0_2], .int .i64 x6_1] rfl Zmt ?_; (with_reducible refine (zbb.calls a0_0 a0_1 a0_2 x6_1 t282 t283 _ A10.out).mono ?_); rintro e w13 ⟨rfl, hb⟩; refine ⟨_, rfl, ?_⟩; have n0_ := za.mk (zbm (g := gb279) (o := .cells #[.int .i64 a0_0, .int .i64 a0_1, .int .i64 a0_2] 35 (0, 0)) (Zq2 BK279) hb); have n1_ := za.mk (zl (Zq3 HB GE279) hb); clear BK279; clear HB; have BK279 := n0_; have HB := n1_; clear n0_ n1_; (try clear hb); (try clear hb2); (try clear hk); (try clear hi)) | ((with_reducible refine zb4 (N := 7) rfl ?_); refine zcb ?hg (N := 7) ?hd (cs := #[.int .i64 0, .int .i64 0]) (t := 39) ?hr ?_; (case hd => rfl); (case hg => rfl); (case hr => first | (go_simp; done) | (go_simp; rfl)); intro gb284 hg w14 hbox hb; have n0_ := za.mk (zbm (g := gb279) (o := .cells #[.int .i64 a0_0, .int .i64 a0_1, .int .i64 a0_2] 35 (0, 0)) (Zq2 BK279) hb); have n1_ := za.mk (zl (Zq3 HB GE279) hb); have n2_ := za.mk (hbox); have n3_ := za.mk ((by rw [hg]; exact (zu (Zq3 HB GE279)) : w.heap.size ≤ gb284)); have n4_ := za.mk ((by rw [hg]; exact (zu (Zq3 HB GE279)) : w.heap.size ≤ gb284)); have n5_ := za.mk ((by rw [hg]; exact Nat.ne_of_lt (zds (g := gb279) (o := .cells #[.int .i64 a0_0, .int .i64 a0_1, .int .i64 a0_2] 35 (0, 0)) (Zq2 BK279)) : gb279 ≠ gb284)); have n6_ := za.mk ((by rw [hg]; exact Nat.ne_of_gt (zds (g := gb279) (o := .cells #[.int .i64 a0_0, .int .i64 a0_1, .int .i64 a0_2] 35 (0, 0)) (Zq2 BK279)) : gb284 ≠ gb279)); clear BK279; clear HB; have BK279 := n0_; have HB := n1_; have BK284 := n2_; have GW284 := n3_; have GE284 := n4_; have NB279_284 := n5_; have NB284_279 := n6_; clear n0_ n1_ n2_ n3_ n4_ n5_ n6_; clear hb hbox hg; have hnb15 := NB284_279.out; have hnc15 := NB279_284.out; have hcz16_0 : w14.cell? ⟨gb284, 0, none⟩ = some (.int .i64 0) := (ze BK284.out 0).trans rfl; have hcz16_1 : w14.cell? ⟨gb284, 1, none⟩ = some (.int .i64 0) := (ze BK284.out 1).trans rfl; have hfz16_0 := zw BK284.out 0; have hfz16_1 := zw BK284.out 1))
    (try simp only [Act.put, Zs1, Zs2, Zs3])
    go_cut [41] (fun v41 wc => ∃ (kq : Nat) (x41_10 : Bool), v41 = .bool x41_10 ∧ za (zbg.j1 kq a1 t281 x6_1 x41_10 a0_0 a0_1 a0_2 t282 t283 = some r) ∧ za (kq ≤ k1) ∧ za (wc.heap[gb279]? = some (.cells #[.int .i64 a0_0, .int .i64 a0_1, .int .i64 a0_2] 35 (0, 0))) ∧ za (wc.heap[gb284]? = some (.cells #[.int .i64 t282, .int .i64 t283] 39 (0, 0))) ∧ za (Below w.heap.size w wc))
    case first =>
     have H := HC11.out;clear HC11;by_cases c17 : x6_1 > a1
     ·rw [if_pos c17] at H
      have c17b0 : decide (a1 < x6_1) = true := decide_eq_true c17;clear c17;(first | rw [c17b0] | (simp only [zh, zi]; rw [c17b0]) | skip);by_cases c18 : (wrap64 (t283 - t282)) ≥ 3
      ·rw [if_pos c18] at H
       have c18b0 : decide (3 ≤ (wrap64 (t283 - t282))) = true := decide_eq_true c18;clear c18;have H' := za.mk H;clear H;have hnb19 := NB284_279.out;have hnc19 := NB279_284.out;have hcz20_0 : w14.cell? ⟨gb284, 0, none⟩ = some (.int .i64 0) := (ze BK284.out 0).trans rfl;have hcz20_1 : w14.cell? ⟨gb284, 1, none⟩ = some (.int .i64 0) := (ze BK284.out 1).trans rfl;have hfz20_0 := zw BK284.out 0;have hfz20_1 := zw BK284.out 1;go_wp2;go_meet
       case rel => exact ⟨_, (decide ((wrap64 (t283 - 1)) ≥ t281)), Zrs, H', ⟨by have := HK1.out; first | omega | exact Nat.le_refl _⟩, ⟨by (with_reducible repeat (first | refine zbi ?_ _ | refine zbf ?_ | refine zbh ?_ _)); refine zc9 ?_ NB279_284.out _; (with_reducible repeat (first | refine zbi ?_ _ | refine zbf ?_ | refine zbh ?_ _)); refine zc9 ?_ NB279_284.out _; (with_reducible repeat (first | refine zbi ?_ _ | refine zbf ?_ | refine zbh ?_ _)); exact BK279.out⟩, ⟨by (with_reducible repeat (first | refine zbi ?_ _ | refine zbf ?_ | refine zbh ?_ _)); refine zcv (cs := #[.int .i64 t282, .int .i64 0]) ?_ 1 _ rfl; (with_reducible repeat (first | refine zbi ?_ _ | refine zbf ?_ | refine zbh ?_ _)); refine zcv (cs := #[.int .i64 0, .int .i64 0]) ?_ 0 _ rfl; (with_reducible repeat (first | refine zbi ?_ _ | refine zbf ?_ | refine zbh ?_ _)); exact BK284.out⟩, ⟨Zq19 HB GE279 GE284⟩⟩
      ·rw [if_neg c18] at H
       have c18b0 : decide (3 ≤ (wrap64 (t283 - t282))) = false := decide_eq_false c18;clear c18;have H' := za.mk H;clear H;have hnb21 := NB284_279.out;have hnc21 := NB279_284.out;have hcz22_0 : w14.cell? ⟨gb284, 0, none⟩ = some (.int .i64 0) := (ze BK284.out 0).trans rfl;have hcz22_1 : w14.cell? ⟨gb284, 1, none⟩ = some (.int .i64 0) := (ze BK284.out 1).trans rfl;have hfz22_0 := zw BK284.out 0;have hfz22_1 := zw BK284.out 1;go_wp2;go_meet
       case rel => exact ⟨_, (false), Zrs, H', ⟨by have := HK1.out; first | omega | exact Nat.le_refl _⟩, ⟨by (with_reducible repeat (first | refine zbi ?_ _ | refine zbf ?_ | refine zbh ?_ _)); refine zc9 ?_ NB279_284.out _; (with_reducible repeat (first | refine zbi ?_ _ | refine zbf ?_ | refine zbh ?_ _)); refine zc9 ?_ NB279_284.out _; (with_reducible repeat (first | refine zbi ?_ _ | refine zbf ?_ | refine zbh ?_ _)); exact BK279.out⟩, ⟨by (with_reducible repeat (first | refine zbi ?_ _ | refine zbf ?_ | refine zbh ?_ _)); refine zcv (cs := #[.int .i64 t282, .int .i64 0]) ?_ 1 _ rfl; (with_reducible repeat (first | refine zbi ?_ _ | refine zbf ?_ | refine zbh ?_ _)); refine zcv (cs := #[.int .i64 0, .int .i64 0]) ?_ 0 _ rfl; (with_reducible repeat (first | refine zbi ?_ _ | refine zbf ?_ | refine zbh ?_ _)); exact BK284.out⟩, ⟨Zq19 HB GE279 GE284⟩⟩
     ·rw [if_neg c17] at H
      have c17b0 : decide (a1 < x6_1) = false := decide_eq_false c17;clear c17;(first | rw [c17b0] | (simp only [zh, zi]; rw [c17b0]) | skip);have H' := za.mk H;clear H;go_wp2;go_meet
      case rel => exact ⟨_, (false), Zrs, H', ⟨by have := HK1.out; first | omega | exact Nat.le_refl _⟩, ⟨by (with_reducible repeat (first | refine zbi ?_ _ | refine zbf ?_ | refine zbh ?_ _)); refine zc9 ?_ NB279_284.out _; (with_reducible repeat (first | refine zbi ?_ _ | refine zbf ?_ | refine zbh ?_ _)); refine zc9 ?_ NB279_284.out _; (with_reducible repeat (first | refine zbi ?_ _ | refine zbf ?_ | refine zbh ?_ _)); exact BK279.out⟩, ⟨by (with_reducible repeat (first | refine zbi ?_ _ | refine zbf ?_ | refine zbh ?_ _)); refine zcv (cs := #[.int .i64 t282, .int .i64 0]) ?_ 1 _ rfl; (with_reducible repeat (first | refine zbi ?_ _ | refine zbf ?_ | refine zbh ?_ _)); refine zcv (cs := #[.int .i64 0, .int .i64 0]) ?_ 0 _ rfl; (with_reducible repeat (first | refine zbi ?_ _ | refine zbf ?_ | refine zbh ?_ _)); exact BK284.out⟩, ⟨Zq19 HB GE279 GE284⟩⟩
    case rest =>
     clear HC11
     (try clear c1);(try clear c2);(try clear p2);(try clear c3);(try clear c3b0);(try clear c6);(try clear p6);(try clear c7);(try clear c15);(try clear c17);(try clear c17b0);(try clear c18);(try clear c18b0);(try clear c19);(try clear c21);(try clear hcz12_0);(try clear hcz12_1);(try clear hcz12_2);(try clear hcz16_0);(try clear hcz16_1);(try clear hcz20_0);(try clear hcz20_1);(try clear hcz22_0);(try clear hcz22_1);(try clear hcz5_0);(try clear hcz5_1);(try clear hcz5_2);(try clear hcz8_0);(try clear hcz8_1);(try clear hcz8_2);(try clear hfz12_0);(try clear hfz12_1);(try clear hfz12_2);(try clear hfz16_0);(try clear hfz16_1);(try clear hfz20_0);(try clear hfz20_1);(try clear hfz22_0);(try clear hfz22_1);(try clear hfz5_0);(try clear hfz5_1);(try clear hfz5_2);(try clear hfz8_0);(try clear hfz8_1);(try clear hfz8_2);(try clear p2);(try clear p6)
     obtain ⟨kq, x41_10, rfl, HA, HJ10, BK279, BK284, HB⟩ := hcut
     cases kq with
     | zero => exact absurd HA.out (by simp [zbg.j1])
     | succ kj10 =>
      have H := HA.out;clear HA;simp only [zbg.j1] at H;by_cases c23 : x41_10 = true
      ·subst c23
       have H1 : (some (wrap64 (t283 - 1))) = some r := by rw [if_pos rfl] at H; exact H
       clear H;have H := H1;clear H1;obtain rfl := Option.some.inj H;have hnb24 := NB284_279.out;have hnc24 := NB279_284.out;have hcz25_0 : wc.cell? ⟨gb284, 0, none⟩ = some (.int .i64 t282) := (ze BK284.out 0).trans rfl;have hcz25_1 : wc.cell? ⟨gb284, 1, none⟩ = some (.int .i64 t283) := (ze BK284.out 1).trans rfl;have hfz25_0 := zw BK284.out 0;have hfz25_1 := zw BK284.out 1;go_wp2;go_ret;exact ⟨by first | rfl | (simp [zq, zt] <;> rfl) | (simp [*, zq, zt] <;> rfl), Zq19 HB GE279 GE284⟩
      ·replace c23 := Bool.eq_false_iff.mpr c23
       subst c23;have H1 : ((zbl.f a0_0 a0_1 a0_2 x6_1).bind fun t285 => (if t285 = 0 then (some t283) else (zbg.l0 kj10 a1 t281 (wrap64 (x6_1 + 1)) a0_0 a0_1 a0_2))) = some r := by rw [if_neg (show ¬ (false = true) by decide)] at H; exact H
       clear H;have H := H1;clear H1;replace H := Option.bind_eq_some_iff.mp H;obtain ⟨t285, A260, H⟩ := H;replace H : (if t285 = 0 then (some t283) else (zbg.l0 kj10 a1 t281 (wrap64 (x6_1 + 1)) a0_0 a0_1 a0_2)) = some r := H;have A26 := za.mk A260;clear A260;by_cases c27 : t285 = 0
       ·rw [if_pos c27] at H
        have c27b0 : (t285 == 0) = true := beq_iff_eq.mpr c27;have c27b1 : (t285 != 0) = false := bne_eq_false_iff_eq.mpr c27;clear c27;obtain rfl := Option.some.inj H;have hnb28 := NB279_284.out;have hnc28 := NB284_279.out;have hcz29_0 : wc.cell? ⟨gb279, 0, none⟩ = some (.int .i64 a0_0) := (ze BK279.out 0).trans rfl;have hcz29_1 : wc.cell? ⟨gb279, 1, none⟩ = some (.int .i64 a0_1) := (ze BK279.out 1).trans rfl;have hcz29_2 : wc.cell? ⟨gb279, 2, none⟩ = some (.int .i64 a0_2) := (ze BK279.out 2).trans rfl;have hfz29_0 := zw BK279.out 0;have hfz29_1 := zw BK279.out 1;have hfz29_2 := zw BK279.out 2;go_wp2_with (first | ((with_reducible refine zbd (f := 76) rfl ?_); refine zb6 (some 47) rfl rfl Try.func76 (by kernel_rfl) rfl #[.agg #[.int .i64 a0_0, .int .i64 a0_1, .int .i64 a0_2], .int .i64 x6_1] rfl Zmt ?_; (with_reducible refine (zbl.calls a0_0 a0_1 a0_2 x6_1 t285 _ A26.out).mono ?_); rintro e w30 ⟨rfl, hb⟩; refine ⟨_, rfl, ?_⟩; have n0_ := za.mk (zbm (g := gb279) (o := .cells #[.int .i64 a0_0, .int .i64 a0_1, .int .i64 a0_2] 35 (0, 0)) (Zq2 BK279) hb); have n1_ := za.mk (zbm (g := gb284) (o := .cells #[.int .i64 t282, .int .i64 t283] 39 (0, 0)) (Zq2 BK284) hb); have n2_ := za.mk (zl (Zq19 HB GE279 GE284) hb); clear BK279; clear BK284; clear HB; have BK279 := n0_; have BK284 := n1_; have HB := n2_; clear n0_ n1_ n2_; (try clear hb); (try clear hb2); (try clear hk); (try clear hi); have hcz31_0 : w30.cell? ⟨gb284, 0, none⟩ = some (.int .i64 t282) := (ze BK284.out 0).trans rfl; have hcz31_1 : w30.cell? ⟨gb284, 1, none⟩ = some (.int .i64 t283) := (ze BK284.out 1).trans rfl; have hfz31_0 := zw BK284.out 0; have hfz31_1 := zw BK284.out 1));go_ret;exact ⟨by first | rfl | (simp [zq, zt] <;> rfl) | (simp [*, zq, zt] <;> rfl), Zq19 HB GE279 GE284⟩
       ·rw [if_neg c27] at H
        have c27b0 : (t285 == 0) = false := beq_eq_false_iff_ne.mpr c27;have c27b1 : (t285 != 0) = true := bne_iff_ne.mpr c27;have H' := za.mk H;clear H;have hnb32 := NB279_284.out;have hnc32 := NB284_279.out;have hcz33_0 : wc.cell? ⟨gb279, 0, none⟩ = some (.int .i64 a0_0) := (ze BK279.out 0).trans rfl;have hcz33_1 : wc.cell? ⟨gb279, 1, none⟩ = some (.int .i64 a0_1) := (ze BK279.out 1).trans rfl;have hcz33_2 : wc.cell? ⟨gb279, 2, none⟩ = some (.int .i64 a0_2) := (ze BK279.out 2).trans rfl;have hfz33_0 := zw BK279.out 0;have hfz33_1 := zw BK279.out 1;have hfz33_2 := zw BK279.out 2;go_wp2_with (first | ((with_reducible refine zbd (f := 76) rfl ?_); refine zb6 (some 47) rfl rfl Try.func76 (by kernel_rfl) rfl #[.agg #[.int .i64 a0_0, .int .i64 a0_1, .int .i64 a0_2], .int .i64 x6_1] rfl Zmt ?_; (with_reducible refine (zbl.calls a0_0 a0_1 a0_2 x6_1 t285 _ A26.out).mono ?_); rintro e w34 ⟨rfl, hb⟩; refine ⟨_, rfl, ?_⟩; have n0_ := za.mk (zbm (g := gb279) (o := .cells #[.int .i64 a0_0, .int .i64 a0_1, .int .i64 a0_2] 35 (0, 0)) (Zq2 BK279) hb); have n1_ := za.mk (zbm (g := gb284) (o := .cells #[.int .i64 t282, .int .i64 t283] 39 (0, 0)) (Zq2 BK284) hb); have n2_ := za.mk (zl (Zq19 HB GE279 GE284) hb); clear BK279; clear BK284; clear HB; have BK279 := n0_; have BK284 := n1_; have HB := n2_; clear n0_ n1_ n2_; (try clear hb); (try clear hb2); (try clear hk); (try clear hi)));go_roundg kj10
        case measure => have := HK1.out; have := HJ10.out; omega
        case rel => exact ⟨(wrap64 (x6_1 + 1)), Zrs, H', ⟨by have := HK1.out; have := HJ10.out; omega⟩, ⟨Zq2 BK279⟩, ⟨Zq19 HB GE279 GE284⟩⟩
end Go.Proofs.Ytnilnaabjpcfjaa.P
