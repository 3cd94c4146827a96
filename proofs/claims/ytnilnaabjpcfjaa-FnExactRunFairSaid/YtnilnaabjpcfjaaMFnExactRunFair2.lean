/- The law FnExactRunFair for every input, part 2 of its proof: what the program's functions answer, and the plain law. No condition. -/
import Derived.Test.YtnilnaabjpcfjaaMFnExactRunFair1
set_option maxRecDepth 100000
namespace Go.Proofs.Ytnilnaabjpcfjaa.P
open Go.RowKit Go.Proofs.YtnilnaabjpcfjaaW.PrintWords Go.Proofs.YtnilnaabjpcfjaaW.PrintLast Go.Proofs.YtnilnaabjpcfjaaW.PrintMore
attribute [local go_sem] ze2 ze3 zf3 zf4 zej zek ze4 ze5
set_option linter.unusedVariables false
set_option linter.unusedSimpArgs false
mutual
def zz.j0 : Nat → Int → Int → Bool → Bool → Bool → Int → Int → Int → Int → Int → Int → Option (Int)
 | 0, _, _, _, _, _, _, _, _, _, _, _ => none
 | k + 1, x1, x3, x10, x11, x30, x249000, x249001, x249002, x250000, x250001, x250002 => if x30 = true then (some (-1)) else (if x11 = true then (zz.j1 k x1 x3 x10 (!x10) x249000 x249001 x249002 x250000 x250001 x250002) else (zz.j1 k x1 x3 x10 false x249000 x249001 x249002 x250000 x250001 x250002))
def zz.j1 : Nat → Int → Int → Bool → Bool → Int → Int → Int → Int → Int → Int → Option (Int)
 | 0, _, _, _, _, _, _, _, _, _, _ => none
 | k + 1, x1, x3, x10, x36, x249000, x249001, x249002, x250000, x250001, x250002 => if x36 = true then (some 1) else (if x10 = true then ((zx.f k x250000 x250001 x250002 x3).bind fun t257 => ((zx.f k x249000 x249001 x249002 x1).bind fun t258 => ((cmp_Compare_int.f t257 t258).bind fun t259 => (some t259)))) else (some 0))
end
def zz.f (k : Nat) (a0_0 : Int) (a0_1 : Int) (a0_2 : Int) (a1 : Int) (a2_0 : Int) (a2_1 : Int) (a2_2 : Int) (a3 : Int) : Option (Int) := (zbk.f a0_0 a0_1 a0_2 a1).bind fun bt250 => ((zbk.f a2_0 a2_1 a2_2 a3).bind fun bt252 => ((cmp_Compare_int.f bt250.2 bt252.2).bind fun t254 => (if t254 = 0 then ((zbn.f a0_0 a0_1 a0_2 a1).bind fun t255 => ((zbn.f a2_0 a2_1 a2_2 a3).bind fun t256 => (if t255 = true then (zz.j0 k a1 a3 t255 t256 (!t256) a0_0 a0_1 a0_2 a2_0 a2_1 a2_2) else (zz.j0 k a1 a3 t255 t256 false a0_0 a0_1 a0_2 a2_0 a2_1 a2_2)))) else (some t254))))
def zz.T1 : Bool × List (List Nat × List Nat) := (true, [([], []), ([], []), ([0, 1], [0, 1]), ([2], [2]), ([], []), ([], []), ([4, 5, 2], [4, 5]), ([6], [6]), ([3, 7, 6], [3, 7]), ([8, 8, 0, 1, 2, 3, 4, 5, 6, 7, 8], [8])])
def zz.B1 : List Nat := [0, 0, 3, 7, 0, 0, 55, 119, 255, 511]
theorem zz.tab1 : rtab .any (opsOf Try.f33 1) = zz.T1 := by kernel_rfl
theorem zz.zd8 : zci zz.T1.2 zz.B1 = true := by kernel_rfl
def zz.T4 : Bool × List (List Nat × List Nat) := (true, [([], []), ([], []), ([0, 1], [0, 1]), ([], []), ([], []), ([3, 4, 2], [3, 4]), ([2, 5, 0, 1, 2], [2]), ([5, 6, 0, 1, 2, 3, 4, 5, 6], [5])])
def zz.B4 : List Nat := [0, 0, 3, 0, 0, 31, 63, 127]
theorem zz.tab4 : rtab .any (opsOf Try.f33 4) = zz.T4 := by kernel_rfl
theorem zz.bits4 : zci zz.T4.2 zz.B4 = true := by kernel_rfl
def zz.T10 : Bool × List (List Nat × List Nat) := (true, [([], []), ([], []), ([0, 1], [0, 1]), ([], []), ([], []), ([3, 4, 2], [3, 4]), ([2, 5, 5], [2, 5]), ([6, 6, 0, 1, 2, 3, 4, 5, 6], [6])])
def zz.B10 : List Nat := [0, 0, 3, 0, 0, 31, 63, 127]
theorem zz.tab10 : rtab .any (opsOf Try.f33 10) = zz.T10 := by kernel_rfl
theorem zz.bits10 : zci zz.T10.2 zz.B10 = true := by kernel_rfl
set_option maxHeartbeats 8000000 in
theorem zz.calls (k : Nat) (a0_0 : Int) (a0_1 : Int) (a0_2 : Int) (a1 : Int) (a2_0 : Int) (a2_1 : Int) (a2_2 : Int) (a3 : Int) (r : Int) (w : World) (h : zz.f k a0_0 a0_1 a0_2 a1 a2_0 a2_1 a2_2 a3 = some r) :
  Calls Try.prog 33 #[.agg #[.int .i64 a0_0, .int .i64 a0_1, .int .i64 a0_2], .int .i64 a1, .agg #[.int .i64 a2_0, .int .i64 a2_1, .int .i64 a2_2], .int .i64 a3] w fun e w' => e = .returned (.int .i64 r) ∧ Below w.heap.size w w' := by
 have hfld39_0 : ∀ (v0_ v1_ : Value) (W : World), (Instr.field 39 (.agg #[v0_, v1_]) 0).run Try.prog W = .ok v0_ W := fun _ _ _ => rfl
 have hfld39_1 : ∀ (v0_ v1_ : Value) (W : World), (Instr.field 39 (.agg #[v0_, v1_]) 1).run Try.prog W = .ok v1_ W := fun _ _ _ => rfl
 have hu35 := Try.underlying35
 have HB := za.mk (Below.refl w.heap.size w)
 have H : ((zbk.f a0_0 a0_1 a0_2 a1).bind fun bt250 => ((zbk.f a2_0 a2_1 a2_2 a3).bind fun bt252 => ((cmp_Compare_int.f bt250.2 bt252.2).bind fun t254 => (if t254 = 0 then ((zbn.f a0_0 a0_1 a0_2 a1).bind fun t255 => ((zbn.f a2_0 a2_1 a2_2 a3).bind fun t256 => (if t255 = true then (zz.j0 k a1 a3 t255 t256 (!t256) a0_0 a0_1 a0_2 a2_0 a2_1 a2_2) else (zz.j0 k a1 a3 t255 t256 false a0_0 a0_1 a0_2 a2_0 a2_1 a2_2)))) else (some t254))))) = some r := h
 clear h
 replace H := Option.bind_eq_some_iff.mp H
 obtain ⟨⟨t250, t251⟩, A50, H⟩ := H
 replace H : ((zbk.f a2_0 a2_1 a2_2 a3).bind fun bt252 => ((cmp_Compare_int.f t251 bt252.2).bind fun t254 => (if t254 = 0 then ((zbn.f a0_0 a0_1 a0_2 a1).bind fun t255 => ((zbn.f a2_0 a2_1 a2_2 a3).bind fun t256 => (if t255 = true then (zz.j0 k a1 a3 t255 t256 (!t256) a0_0 a0_1 a0_2 a2_0 a2_1 a2_2) else (zz.j0 k a1 a3 t255 t256 false a0_0 a0_1 a0_2 a2_0 a2_1 a2_2)))) else (some t254)))) = some r := H
 have A5 := za.mk A50
 clear A50
 replace H := Option.bind_eq_some_iff.mp H
 obtain ⟨⟨t252, t253⟩, A60, H⟩ := H
 replace H : ((cmp_Compare_int.f t251 t253).bind fun t254 => (if t254 = 0 then ((zbn.f a0_0 a0_1 a0_2 a1).bind fun t255 => ((zbn.f a2_0 a2_1 a2_2 a3).bind fun t256 => (if t255 = true then (zz.j0 k a1 a3 t255 t256 (!t256) a0_0 a0_1 a0_2 a2_0 a2_1 a2_2) else (zz.j0 k a1 a3 t255 t256 false a0_0 a0_1 a0_2 a2_0 a2_1 a2_2)))) else (some t254))) = some r := H
 have A6 := za.mk A60
 clear A60
 replace H := Option.bind_eq_some_iff.mp H
 obtain ⟨t254, A70, H⟩ := H
 replace H : (if t254 = 0 then ((zbn.f a0_0 a0_1 a0_2 a1).bind fun t255 => ((zbn.f a2_0 a2_1 a2_2 a3).bind fun t256 => (if t255 = true then (zz.j0 k a1 a3 t255 t256 (!t256) a0_0 a0_1 a0_2 a2_0 a2_1 a2_2) else (zz.j0 k a1 a3 t255 t256 false a0_0 a0_1 a0_2 a2_0 a2_1 a2_2)))) else (some t254)) = some r := H
 have A7 := za.mk A70
 clear A70
 by_cases c8 : t254 = 0
 ·rw [if_pos c8] at H
  have c8b0 : (t254 == 0) = true := beq_iff_eq.mpr c8;have c8b1 : (t254 != 0) = false := bne_eq_false_iff_eq.mpr c8;clear c8;replace H := Option.bind_eq_some_iff.mp H;obtain ⟨t255, A90, H⟩ := H;replace H : ((zbn.f a2_0 a2_1 a2_2 a3).bind fun t256 => (if t255 = true then (zz.j0 k a1 a3 t255 t256 (!t256) a0_0 a0_1 a0_2 a2_0 a2_1 a2_2) else (zz.j0 k a1 a3 t255 t256 false a0_0 a0_1 a0_2 a2_0 a2_1 a2_2))) = some r := H;have A9 := za.mk A90;clear A90;replace H := Option.bind_eq_some_iff.mp H;obtain ⟨t256, A100, H⟩ := H;replace H : (if t255 = true then (zz.j0 k a1 a3 t255 t256 (!t256) a0_0 a0_1 a0_2 a2_0 a2_1 a2_2) else (zz.j0 k a1 a3 t255 t256 false a0_0 a0_1 a0_2 a2_0 a2_1 a2_2)) = some r := H;have A10 := za.mk A100;clear A100;have HC11 := za.mk H;clear H;go_enter Try.func33, Try.ntmps33
  try go_wp2_with (first | ((with_reducible refine zbw (N := 4) rfl ?_); refine zbv ?hg (N := 4) ?hd (cs := #[.int .i64 a0_0, .int .i64 a0_1, .int .i64 a0_2]) (t := 35) ?hr ?_; (case hd => rfl); (case hg => rfl); (case hr => first | (go_simp; done) | (go_simp; rfl)); intro gb248 hg w12 hbox hb; have n0_ := za.mk (zk (Zq0 HB) hb); have n1_ := za.mk (hbox); have n2_ := za.mk ((by rw [hg]; exact (zu (Zq0 HB)) : w.heap.size ≤ gb248)); have n3_ := za.mk ((by rw [hg]; exact (zu (Zq0 HB)) : w.heap.size ≤ gb248)); clear HB; have HB := n0_; have BK248 := n1_; have GW248 := n2_; have GE248 := n3_; clear n0_ n1_ n2_ n3_; clear hb hbox hg) | ((with_reducible refine zbw (N := 6) rfl ?_); refine zbv ?hg (N := 6) ?hd (cs := #[.int .i64 a2_0, .int .i64 a2_1, .int .i64 a2_2]) (t := 35) ?hr ?_; (case hd => rfl); (case hg => rfl); (case hr => first | (go_simp; done) | (go_simp; rfl)); intro gb249 hg w13 hbox hb; have n0_ := za.mk (zbq (g := gb248) (o := .cells #[.int .i64 a0_0, .int .i64 a0_1, .int .i64 a0_2] 35 (0, 0)) (Zq3 BK248) hb); have n1_ := za.mk (zk (Zq1 HB GE248) hb); have n2_ := za.mk (hbox); have n3_ := za.mk ((by rw [hg]; exact (zu (Zq1 HB GE248)) : w.heap.size ≤ gb249)); have n4_ := za.mk ((by rw [hg]; exact (zu (Zq1 HB GE248)) : w.heap.size ≤ gb249)); have n5_ := za.mk ((by rw [hg]; exact Nat.ne_of_lt (zcl (g := gb248) (o := .cells #[.int .i64 a0_0, .int .i64 a0_1, .int .i64 a0_2] 35 (0, 0)) (Zq3 BK248)) : gb248 ≠ gb249)); have n6_ := za.mk ((by rw [hg]; exact Nat.ne_of_gt (zcl (g := gb248) (o := .cells #[.int .i64 a0_0, .int .i64 a0_1, .int .i64 a0_2] 35 (0, 0)) (Zq3 BK248)) : gb249 ≠ gb248)); clear BK248; clear HB; have BK248 := n0_; have HB := n1_; have BK249 := n2_; have GW249 := n3_; have GE249 := n4_; have NB248_249 := n5_; have NB249_248 := n6_; clear n0_ n1_ n2_ n3_ n4_ n5_ n6_; clear hb hbox hg))
  have n0_ := za.mk (zbi BK248.out);have n1_ := za.mk (zbi BK249.out);have n2_ := za.mk (zbe HB.out);clear BK248;clear BK249;clear HB;have BK248 := n0_;have BK249 := n1_;have HB := n2_;clear n0_ n1_ n2_;refine zca (n := 10) (S := fun w' => w'.cell? ⟨gb248, 0, none⟩ = some (.int .i64 a0_0) ∧ w'.cell? ⟨gb248, 1, none⟩ = some (.int .i64 a0_1) ∧ w'.cell? ⟨gb248, 2, none⟩ = some (.int .i64 a0_2) ∧ w'.cell? ⟨gb249, 0, none⟩ = some (.int .i64 a2_0) ∧ w'.cell? ⟨gb249, 1, none⟩ = some (.int .i64 a2_1) ∧ w'.cell? ⟨gb249, 2, none⟩ = some (.int .i64 a2_2)) (ds := []) #[false, false, false, false, false, false, false, false, false, false] (by kernel_rfl) rfl rfl ⟨(zf BK248.out 0).trans rfl, (zf BK248.out 1).trans rfl, (zf BK248.out 2).trans rfl, (zf BK249.out 0).trans rfl, (zf BK249.out 1).trans rfl, (zf BK249.out 2).trans rfl⟩ (fun hHeld => ?_); refine zbu zz.tab1 zz.zd8 (fun HT_ HW_ => ?_);generalize w13.drew = w14 at BK248 BK249 HB hHeld ⊢;refine zl (i := 1) (N := some 13) (v := ?_) (a' := ?_) #[false, true, false, false, false, false, false, false, false, false] rfl rfl (ze HT_.out (by kernel_rfl)) (fun _ _ _ h => h) (Or.inl ⟨by rfl, ?_⟩) ?_ ?_;rotate_left
  ·intro w'
   go_simp;with_reducible rfl
  rotate_left
  ·simp only [Act.put, Zs1, Zs2, Zs3, zg, zh]
   rfl
  refine zl (i := 5) (N := some 17) (v := ?_) (a' := ?_) #[false, true, false, false, false, true, false, false, false, false] rfl rfl (ze HT_.out (by kernel_rfl)) (fun _ _ _ h => h) (Or.inl ⟨by rfl, ?_⟩) ?_ ?_;rotate_left
  ·intro w'
   go_simp;with_reducible rfl
  rotate_left
  ·simp only [Act.put, Zs1, Zs2, Zs3, zg, zh]
   rfl
  refine zby (i := 0) (N := some 12) (v := ?_) (a' := ?_) #[true, true, false, false, false, true, false, false, false, false] rfl rfl (z8 HT_.out HW_.out (by kernel_rfl)) (fun _ _ _ h => h) (Or.inl ⟨by rfl, ?_⟩) hHeld ?_ ?_;rotate_left
  ·rintro w' ⟨s0, s1, s2, s3, s4, s5⟩
   go_simp;with_reducible rfl
  rotate_left
  ·simp only [Act.put, Zs1, Zs2, Zs3, zg, zh]
   rfl
  refine zby (i := 4) (N := some 16) (v := ?_) (a' := ?_) #[true, true, false, false, true, true, false, false, false, false] rfl rfl (z8 HT_.out HW_.out (by kernel_rfl)) (fun _ _ _ h => h) (Or.inl ⟨by rfl, ?_⟩) hHeld ?_ ?_;rotate_left
  ·rintro w' ⟨s0, s1, s2, s3, s4, s5⟩
   go_simp;with_reducible rfl
  rotate_left
  ·simp only [Act.put, Zs1, Zs2, Zs3, zg, zh]
   rfl
  refine one_ (i := 2) (N := some 14) #[true, true, true, false, true, true, false, false, false, false] rfl rfl (zb2 HT_.out (by kernel_rfl)) (by decide) (fun K hK => ?_);refine zce Try.func30 (by kernel_rfl) rfl #[.agg #[.int .i64 a0_0, .int .i64 a0_1, .int .i64 a0_2], .int .i64 a1] (by rfl) rfl rfl Zmt ?_;with_reducible refine (zbk.calls a0_0 a0_1 a0_2 a1 t250 t251 _ A5.out).mono ?_
  rintro e w15 ⟨rfl, hb⟩;refine ⟨_, rfl, ?_⟩;have n0_ := za.mk (zbq (g := gb248) (o := .cells #[.int .i64 a0_0, .int .i64 a0_1, .int .i64 a0_2] 35 (0, 0)) (Zq3 BK248) hb);have n1_ := za.mk (zbq (g := gb249) (o := .cells #[.int .i64 a2_0, .int .i64 a2_1, .int .i64 a2_2] 35 (0, 0)) (Zq3 BK249) hb);have n2_ := za.mk (zk (Zq6 HB GE248 GE249) hb);clear BK248;clear BK249;clear HB;have BK248 := n0_;have BK249 := n1_;have HB := n2_;clear n0_ n1_ n2_;(try clear hb);(try clear hb2);(try clear hk);(try clear hi);refine hK.out _ _ ⟨(zf BK248.out 0).trans rfl, (zf BK248.out 1).trans rfl, (zf BK248.out 2).trans rfl, (zf BK249.out 0).trans rfl, (zf BK249.out 1).trans rfl, (zf BK249.out 2).trans rfl⟩ (fun hHeld => ?_);clear hK K;refine zcd (a' := ?_) ?_ ?_;rotate_left
  ·show Act.put _ (some 14) _ = _
   simp only [Act.put, Zs1, Zs2, Zs3, zg, zh];rfl
  refine zl (i := 3) (N := some 15) (v := ?_) (a' := ?_) #[true, true, true, true, true, true, false, false, false, false] rfl rfl (ze HT_.out (by kernel_rfl)) (fun _ _ _ h => h) (Or.inl ⟨by rfl, ?_⟩) ?_ ?_;rotate_left
  ·intro w'
   go_simp;with_reducible rfl
  rotate_left
  ·simp only [Act.put, Zs1, Zs2, Zs3, zg, zh]
   rfl
  refine one_ (i := 6) (N := some 18) #[true, true, true, true, true, true, true, false, false, false] rfl rfl (zb2 HT_.out (by kernel_rfl)) (by decide) (fun K hK => ?_);refine zce Try.func30 (by kernel_rfl) rfl #[.agg #[.int .i64 a2_0, .int .i64 a2_1, .int .i64 a2_2], .int .i64 a3] (by rfl) rfl rfl Zmt ?_;with_reducible refine (zbk.calls a2_0 a2_1 a2_2 a3 t252 t253 _ A6.out).mono ?_
  rintro e w16 ⟨rfl, hb⟩;refine ⟨_, rfl, ?_⟩;have n0_ := za.mk (zbq (g := gb248) (o := .cells #[.int .i64 a0_0, .int .i64 a0_1, .int .i64 a0_2] 35 (0, 0)) (Zq3 BK248) hb);have n1_ := za.mk (zbq (g := gb249) (o := .cells #[.int .i64 a2_0, .int .i64 a2_1, .int .i64 a2_2] 35 (0, 0)) (Zq3 BK249) hb);have n2_ := za.mk (zk (Zq6 HB GE248 GE249) hb);clear BK248;clear BK249;clear HB;have BK248 := n0_;have BK249 := n1_;have HB := n2_;clear n0_ n1_ n2_;(try clear hb);(try clear hb2);(try clear hk);(try clear hi);refine hK.out _ _ ⟨(zf BK248.out 0).trans rfl, (zf BK248.out 1).trans rfl, (zf BK248.out 2).trans rfl, (zf BK249.out 0).trans rfl, (zf BK249.out 1).trans rfl, (zf BK249.out 2).trans rfl⟩ (fun hHeld => ?_);clear hK K;refine zcd (a' := ?_) ?_ ?_;rotate_left
  ·show Act.put _ (some 18) _ = _
   simp only [Act.put, Zs1, Zs2, Zs3, zg, zh];rfl
  refine zl (i := 7) (N := some 19) (v := ?_) (a' := ?_) #[true, true, true, true, true, true, true, true, false, false] rfl rfl (ze HT_.out (by kernel_rfl)) (fun _ _ _ h => h) (Or.inl ⟨by rfl, ?_⟩) ?_ ?_;rotate_left
  ·intro w'
   go_simp;with_reducible rfl
  rotate_left
  ·simp only [Act.put, Zs1, Zs2, Zs3, zg, zh]
   rfl
  refine one_ (i := 8) (N := some 20) #[true, true, true, true, true, true, true, true, true, false] rfl rfl (zb2 HT_.out (by kernel_rfl)) (by decide) (fun K hK => ?_);refine zce Try.func58 (by kernel_rfl) rfl #[.int .i64 t251, .int .i64 t253] (by rfl) rfl rfl Zmt ?_;with_reducible refine (cmp_Compare_int.calls t251 t253 t254 _ A7.out).mono ?_
  rintro e w' ⟨rfl, ⟨nd, rfl⟩⟩;refine ⟨_, rfl, ?_⟩;refine hK.out _ _ ⟨(zf BK248.out 0).trans rfl, (zf BK248.out 1).trans rfl, (zf BK248.out 2).trans rfl, (zf BK249.out 0).trans rfl, (zf BK249.out 1).trans rfl, (zf BK249.out 2).trans rfl⟩ (fun hHeld => ?_);clear hK K;refine zcd (a' := ?_) ?_ ?_;rotate_left
  ·show Act.put _ (some 20) _ = _
   simp only [Act.put, Zs1, Zs2, Zs3, zg, zh];rfl
  refine zl (i := 9) (N := some 9) (v := ?_) (a' := ?_) #[true, true, true, true, true, true, true, true, true, true] rfl rfl (ze HT_.out (by kernel_rfl)) (fun _ _ _ h => h) (Or.inl ⟨by rfl, ?_⟩) ?_ ?_;rotate_left
  ·intro w'
   go_simp;with_reducible rfl
  rotate_left
  ·simp only [Act.put, Zs1, Zs2, Zs3, zg, zh]
   rfl
  refine zcn (zb3 HT_.out (by kernel_rfl)) ?_
  try go_wp2
  (try (rw [drewN_self w16]; generalize hq_ : World.drewN w16 _ = w16; have n0_ : za (w16.heap[gb248]? = some (.cells #[.int .i64 a0_0, .int .i64 a0_1, .int .i64 a0_2] 35 (0, 0))) := ⟨by rw [← hq_]; exact (Zq3 BK248)⟩; have n1_ : za (w16.heap[gb249]? = some (.cells #[.int .i64 a2_0, .int .i64 a2_1, .int .i64 a2_2] 35 (0, 0))) := ⟨by rw [← hq_]; exact (Zq3 BK249)⟩; have n2_ : za (Below w.heap.size w w16) := ⟨by rw [← hq_]; exact (Zq6 HB GE248 GE249)⟩; clear BK248 BK249 HB hq_; have BK248 := n0_; have BK249 := n1_; have HB := n2_; clear n0_ n1_ n2_));have n0_ := za.mk (zbi BK248.out);have n1_ := za.mk (zbi BK249.out);have n2_ := za.mk (zbe HB.out);clear BK248;clear BK249;clear HB;have BK248 := n0_;have BK249 := n1_;have HB := n2_;clear n0_ n1_ n2_;refine zca (n := 8) (S := fun w' => w'.cell? ⟨gb248, 0, none⟩ = some (.int .i64 a0_0) ∧ w'.cell? ⟨gb248, 1, none⟩ = some (.int .i64 a0_1) ∧ w'.cell? ⟨gb248, 2, none⟩ = some (.int .i64 a0_2) ∧ w'.cell? ⟨gb249, 0, none⟩ = some (.int .i64 a2_0) ∧ w'.cell? ⟨gb249, 1, none⟩ = some (.int .i64 a2_1) ∧ w'.cell? ⟨gb249, 2, none⟩ = some (.int .i64 a2_2)) (ds := []) #[false, false, false, false, false, false, false, false] (by kernel_rfl) rfl rfl ⟨(zf BK248.out 0).trans rfl, (zf BK248.out 1).trans rfl, (zf BK248.out 2).trans rfl, (zf BK249.out 0).trans rfl, (zf BK249.out 1).trans rfl, (zf BK249.out 2).trans rfl⟩ (fun hHeld => ?_); refine zbu zz.tab4 zz.bits4 (fun HT_ HW_ => ?_);generalize w16.drew = w17 at BK248 BK249 HB hHeld ⊢;refine zl (i := 1) (N := some 25) (v := ?_) (a' := ?_) #[false, true, false, false, false, false, false, false] rfl rfl (ze HT_.out (by kernel_rfl)) (fun _ _ _ h => h) (Or.inl ⟨by rfl, ?_⟩) ?_ ?_;rotate_left
  ·intro w'
   go_simp;with_reducible rfl
  rotate_left
  ·simp only [Act.put, Zs1, Zs2, Zs3, zg, zh]
   rfl
  refine zl (i := 4) (N := some 28) (v := ?_) (a' := ?_) #[false, true, false, false, true, false, false, false] rfl rfl (ze HT_.out (by kernel_rfl)) (fun _ _ _ h => h) (Or.inl ⟨by rfl, ?_⟩) ?_ ?_;rotate_left
  ·intro w'
   go_simp;with_reducible rfl
  rotate_left
  ·simp only [Act.put, Zs1, Zs2, Zs3, zg, zh]
   rfl
  refine zby (i := 0) (N := some 24) (v := ?_) (a' := ?_) #[true, true, false, false, true, false, false, false] rfl rfl (z8 HT_.out HW_.out (by kernel_rfl)) (fun _ _ _ h => h) (Or.inl ⟨by rfl, ?_⟩) hHeld ?_ ?_;rotate_left
  ·rintro w' ⟨s0, s1, s2, s3, s4, s5⟩
   go_simp;with_reducible rfl
  rotate_left
  ·simp only [Act.put, Zs1, Zs2, Zs3, zg, zh]
   rfl
  refine zby (i := 3) (N := some 27) (v := ?_) (a' := ?_) #[true, true, false, true, true, false, false, false] rfl rfl (z8 HT_.out HW_.out (by kernel_rfl)) (fun _ _ _ h => h) (Or.inl ⟨by rfl, ?_⟩) hHeld ?_ ?_;rotate_left
  ·rintro w' ⟨s0, s1, s2, s3, s4, s5⟩
   go_simp;with_reducible rfl
  rotate_left
  ·simp only [Act.put, Zs1, Zs2, Zs3, zg, zh]
   rfl
  refine one_ (i := 2) (N := some 26) #[true, true, true, true, true, false, false, false] rfl rfl (zb2 HT_.out (by kernel_rfl)) (by decide) (fun K hK => ?_);refine zce Try.func59 (by kernel_rfl) rfl #[.agg #[.int .i64 a0_0, .int .i64 a0_1, .int .i64 a0_2], .int .i64 a1] (by rfl) rfl rfl Zmt ?_;with_reducible refine (zbn.calls a0_0 a0_1 a0_2 a1 t255 _ A9.out).mono ?_
  rintro e w18 ⟨rfl, hb⟩;refine ⟨_, rfl, ?_⟩;have n0_ := za.mk (zbq (g := gb248) (o := .cells #[.int .i64 a0_0, .int .i64 a0_1, .int .i64 a0_2] 35 (0, 0)) (Zq3 BK248) hb);have n1_ := za.mk (zbq (g := gb249) (o := .cells #[.int .i64 a2_0, .int .i64 a2_1, .int .i64 a2_2] 35 (0, 0)) (Zq3 BK249) hb);have n2_ := za.mk (zk (Zq6 HB GE248 GE249) hb);clear BK248;clear BK249;clear HB;have BK248 := n0_;have BK249 := n1_;have HB := n2_;clear n0_ n1_ n2_;(try clear hb);(try clear hb2);(try clear hk);(try clear hi);refine hK.out _ _ ⟨(zf BK248.out 0).trans rfl, (zf BK248.out 1).trans rfl, (zf BK248.out 2).trans rfl, (zf BK249.out 0).trans rfl, (zf BK249.out 1).trans rfl, (zf BK249.out 2).trans rfl⟩ (fun hHeld => ?_);clear hK K;refine zcd (a' := ?_) ?_ ?_;rotate_left
  ·show Act.put _ (some 26) _ = _
   simp only [Act.put, Zs1, Zs2, Zs3, zg, zh];rfl
  refine one_ (i := 5) (N := some 29) #[true, true, true, true, true, true, false, false] rfl rfl (zb2 HT_.out (by kernel_rfl)) (by decide) (fun K hK => ?_);refine zce Try.func59 (by kernel_rfl) rfl #[.agg #[.int .i64 a2_0, .int .i64 a2_1, .int .i64 a2_2], .int .i64 a3] (by rfl) rfl rfl Zmt ?_;with_reducible refine (zbn.calls a2_0 a2_1 a2_2 a3 t256 _ A10.out).mono ?_
  rintro e w19 ⟨rfl, hb⟩;refine ⟨_, rfl, ?_⟩;have n0_ := za.mk (zbq (g := gb248) (o := .cells #[.int .i64 a0_0, .int .i64 a0_1, .int .i64 a0_2] 35 (0, 0)) (Zq3 BK248) hb);have n1_ := za.mk (zbq (g := gb249) (o := .cells #[.int .i64 a2_0, .int .i64 a2_1, .int .i64 a2_2] 35 (0, 0)) (Zq3 BK249) hb);have n2_ := za.mk (zk (Zq6 HB GE248 GE249) hb);clear BK248;clear BK249;clear HB;have BK248 := n0_;have BK249 := n1_;have HB := n2_;clear n0_ n1_ n2_;(try clear hb);(try clear hb2);(try clear hk);(try clear hi);refine hK.out _ _ ⟨(zf BK248.out 0).trans rfl, (zf BK248.out 1).trans rfl, (zf BK248.out 2).trans rfl, (zf BK249.out 0).trans rfl, (zf BK249.out 1).trans rfl, (zf BK249.out 2).trans rfl⟩ (fun hHeld => ?_);clear hK K;refine zcd (a' := ?_) ?_ ?_;rotate_left
  ·show Act.put _ (some 29) _ = _
   simp only [Act.put, Zs1, Zs2, Zs3, zg, zh];rfl
  refine zl (i := 6) (N := some 10) (v := ?_) (a' := ?_) #[true, true, true, true, true, true, true, false] rfl rfl (ze HT_.out (by kernel_rfl)) (fun _ _ _ h => h) (Or.inl ⟨by rfl, ?_⟩) ?_ ?_;rotate_left
  ·intro w'
   go_simp;with_reducible rfl
  rotate_left
  ·simp only [Act.put, Zs1, Zs2, Zs3, zg, zh]
   rfl
  refine zl (i := 7) (N := some 11) (v := ?_) (a' := ?_) #[true, true, true, true, true, true, true, true] rfl rfl (ze HT_.out (by kernel_rfl)) (fun _ _ _ h => h) (Or.inl ⟨by rfl, ?_⟩) ?_ ?_;rotate_left
  ·intro w'
   go_simp;with_reducible rfl
  rotate_left
  ·simp only [Act.put, Zs1, Zs2, Zs3, zg, zh]
   rfl
  refine zcn (zb3 HT_.out (by kernel_rfl)) ?_
  go_upto_region 5 with (fail)
  go_cut [30] (fun v30 wc => ∃ (kq : Nat) (x30_10 : Bool), v30 = .bool x30_10 ∧ za (zz.j0 kq a1 a3 t255 t256 x30_10 a0_0 a0_1 a0_2 a2_0 a2_1 a2_2 = some r) ∧ za (kq ≤ k) ∧ za (wc.heap[gb248]? = some (.cells #[.int .i64 a0_0, .int .i64 a0_1, .int .i64 a0_2] 35 (0, 0))) ∧ za (wc.heap[gb249]? = some (.cells #[.int .i64 a2_0, .int .i64 a2_1, .int .i64 a2_2] 35 (0, 0))) ∧ za (Below w.heap.size w wc))
  case first =>
   have H := HC11.out;clear HC11;by_cases c20 : t255 = true
   ·subst c20
    have H1 : (zz.j0 k a1 a3 true t256 (!t256) a0_0 a0_1 a0_2 a2_0 a2_1 a2_2) = some r := by rw [if_pos rfl] at H; exact H
    clear H;have H := H1;clear H1;have H' := za.mk H;clear H;go_wp2;go_meet
    case rel => exact ⟨_, (!t256), Zrs, H', ⟨by first | omega | exact Nat.le_refl _⟩, ⟨Zq3 BK248⟩, ⟨Zq3 BK249⟩, ⟨Zq6 HB GE248 GE249⟩⟩
   ·replace c20 := Bool.eq_false_iff.mpr c20
    subst c20;have H1 : (zz.j0 k a1 a3 false t256 false a0_0 a0_1 a0_2 a2_0 a2_1 a2_2) = some r := by rw [if_neg (show ¬ (false = true) by decide)] at H; exact H
    clear H;have H := H1;clear H1;have H' := za.mk H;clear H;go_wp2;go_meet
    case rel => exact ⟨_, (false), Zrs, H', ⟨by first | omega | exact Nat.le_refl _⟩, ⟨Zq3 BK248⟩, ⟨Zq3 BK249⟩, ⟨Zq6 HB GE248 GE249⟩⟩
  case rest =>
   clear HC11
   (try clear c2);(try clear p2);(try clear c3);(try clear c5);(try clear c8);(try clear c8b0);(try clear c8b1);(try clear c20)
   obtain ⟨kq, x30_10, rfl, HA, HJ10, BK248, BK249, HB⟩ := hcut
   cases kq with
   | zero => exact absurd HA.out (by simp [zz.j0])
   | succ kj10 =>
    have H := HA.out;clear HA;simp only [zz.j0] at H;by_cases c21 : x30_10 = true
    ·subst c21
     have H1 : (some (-1)) = some r := by rw [if_pos rfl] at H; exact H
     clear H;have H := H1;clear H1;obtain rfl := Option.some.inj H;go_wp2;go_ret;exact ⟨by first | rfl | (simp [zn, zo] <;> rfl) | (simp [*, zn, zo] <;> rfl), Zq6 HB GE248 GE249⟩
    ·replace c21 := Bool.eq_false_iff.mpr c21
     subst c21;have H1 : (if t256 = true then (zz.j1 kj10 a1 a3 t255 (!t255) a0_0 a0_1 a0_2 a2_0 a2_1 a2_2) else (zz.j1 kj10 a1 a3 t255 false a0_0 a0_1 a0_2 a2_0 a2_1 a2_2)) = some r := by rw [if_neg (show ¬ (false = true) by decide)] at H; exact H
     clear H;have H := H1;clear H1;have HC22 := za.mk H;clear H
     go_upto_region 7 with (fail)
     go_cut [36] (fun v36 wc => ∃ (kq : Nat) (x36_21 : Bool), v36 = .bool x36_21 ∧ za (zz.j1 kq a1 a3 t255 x36_21 a0_0 a0_1 a0_2 a2_0 a2_1 a2_2 = some r) ∧ za (kq ≤ kj10) ∧ za (wc.heap[gb248]? = some (.cells #[.int .i64 a0_0, .int .i64 a0_1, .int .i64 a0_2] 35 (0, 0))) ∧ za (wc.heap[gb249]? = some (.cells #[.int .i64 a2_0, .int .i64 a2_1, .int .i64 a2_2] 35 (0, 0))) ∧ za (Below w.heap.size w wc))
     case first =>
      have H := HC22.out;clear HC22;by_cases c23 : t256 = true
      ·subst c23
       have H1 : (zz.j1 kj10 a1 a3 t255 (!t255) a0_0 a0_1 a0_2 a2_0 a2_1 a2_2) = some r := by rw [if_pos rfl] at H; exact H
       clear H;have H := H1;clear H1;have H' := za.mk H;clear H;go_wp2;go_meet
       case rel => exact ⟨_, (!t255), Zrs, H', ⟨by have := HJ10.out; first | omega | exact Nat.le_refl _⟩, ⟨Zq3 BK248⟩, ⟨Zq3 BK249⟩, ⟨Zq6 HB GE248 GE249⟩⟩
      ·replace c23 := Bool.eq_false_iff.mpr c23
       subst c23;have H1 : (zz.j1 kj10 a1 a3 t255 false a0_0 a0_1 a0_2 a2_0 a2_1 a2_2) = some r := by rw [if_neg (show ¬ (false = true) by decide)] at H; exact H
       clear H;have H := H1;clear H1;have H' := za.mk H;clear H;go_wp2;go_meet
       case rel => exact ⟨_, (false), Zrs, H', ⟨by have := HJ10.out; first | omega | exact Nat.le_refl _⟩, ⟨Zq3 BK248⟩, ⟨Zq3 BK249⟩, ⟨Zq6 HB GE248 GE249⟩⟩
     case rest =>
      clear HC22
      (try clear c2);(try clear p2);(try clear c3);(try clear c5);(try clear c8);(try clear c8b0);(try clear c8b1);(try clear c20);(try clear c21);(try clear c23);(try clear p2)
      obtain ⟨kq, x36_21, rfl, HA, HJ21, BK248, BK249, HB⟩ := hcut
      cases kq with
      | zero => exact absurd HA.out (by simp [zz.j1])
      | succ kj21 =>
       have H := HA.out;clear HA;simp only [zz.j1] at H;by_cases c24 : x36_21 = true
       ·subst c24
        have H1 : (some 1) = some r := by rw [if_pos rfl] at H; exact H
        clear H;have H := H1;clear H1;obtain rfl := Option.some.inj H;go_wp2;go_ret;exact ⟨by first | rfl | (simp [zn, zo] <;> rfl) | (simp [*, zn, zo] <;> rfl), Zq6 HB GE248 GE249⟩
       ·replace c24 := Bool.eq_false_iff.mpr c24
        subst c24;have H1 : (if t255 = true then ((zx.f kj21 a2_0 a2_1 a2_2 a3).bind fun t257 => ((zx.f kj21 a0_0 a0_1 a0_2 a1).bind fun t258 => ((cmp_Compare_int.f t257 t258).bind fun t259 => (some t259)))) else (some 0)) = some r := by rw [if_neg (show ¬ (false = true) by decide)] at H; exact H
        clear H;have H := H1;clear H1;by_cases c25 : t255 = true
        ·subst c25
         have H1 : ((zx.f kj21 a2_0 a2_1 a2_2 a3).bind fun t257 => ((zx.f kj21 a0_0 a0_1 a0_2 a1).bind fun t258 => ((cmp_Compare_int.f t257 t258).bind fun t259 => (some t259)))) = some r := by rw [if_pos rfl] at H; exact H
         clear H;have H := H1;clear H1;replace H := Option.bind_eq_some_iff.mp H;obtain ⟨t257, A260, H⟩ := H;replace H : ((zx.f kj21 a0_0 a0_1 a0_2 a1).bind fun t258 => ((cmp_Compare_int.f t257 t258).bind fun t259 => (some t259))) = some r := H;have A26 := za.mk A260;clear A260;replace H := Option.bind_eq_some_iff.mp H;obtain ⟨t258, A270, H⟩ := H;replace H : ((cmp_Compare_int.f t257 t258).bind fun t259 => (some t259)) = some r := H;have A27 := za.mk A270;clear A270;replace H := Option.bind_eq_some_iff.mp H;obtain ⟨t259, A280, H⟩ := H;replace H : (some t259) = some r := H;have A28 := za.mk A280;clear A280;obtain rfl := Option.some.inj H
         try go_wp2
         have n0_ := za.mk (zbi BK248.out);have n1_ := za.mk (zbi BK249.out);have n2_ := za.mk (zbe HB.out);clear BK248;clear BK249;clear HB;have BK248 := n0_;have BK249 := n1_;have HB := n2_;clear n0_ n1_ n2_;refine zca (n := 8) (S := fun w' => w'.cell? ⟨gb249, 0, none⟩ = some (.int .i64 a2_0) ∧ w'.cell? ⟨gb249, 1, none⟩ = some (.int .i64 a2_1) ∧ w'.cell? ⟨gb249, 2, none⟩ = some (.int .i64 a2_2) ∧ w'.cell? ⟨gb248, 0, none⟩ = some (.int .i64 a0_0) ∧ w'.cell? ⟨gb248, 1, none⟩ = some (.int .i64 a0_1) ∧ w'.cell? ⟨gb248, 2, none⟩ = some (.int .i64 a0_2)) (ds := []) #[false, false, false, false, false, false, false, false] (by kernel_rfl) rfl rfl ⟨(zf BK249.out 0).trans rfl, (zf BK249.out 1).trans rfl, (zf BK249.out 2).trans rfl, (zf BK248.out 0).trans rfl, (zf BK248.out 1).trans rfl, (zf BK248.out 2).trans rfl⟩ (fun hHeld => ?_); refine zbu zz.tab10 zz.bits10 (fun HT_ HW_ => ?_);generalize wc.drew = w29 at BK248 BK249 HB hHeld ⊢;refine zl (i := 1) (N := some 45) (v := ?_) (a' := ?_) #[false, true, false, false, false, false, false, false] rfl rfl (ze HT_.out (by kernel_rfl)) (fun _ _ _ h => h) (Or.inl ⟨by rfl, ?_⟩) ?_ ?_;rotate_left
         ·intro w'
          go_simp;with_reducible rfl
         rotate_left
         ·simp only [Act.put, Zs1, Zs2, Zs3, zg, zh]
          rfl
         refine zl (i := 4) (N := some 48) (v := ?_) (a' := ?_) #[false, true, false, false, true, false, false, false] rfl rfl (ze HT_.out (by kernel_rfl)) (fun _ _ _ h => h) (Or.inl ⟨by rfl, ?_⟩) ?_ ?_;rotate_left
         ·intro w'
          go_simp;with_reducible rfl
         rotate_left
         ·simp only [Act.put, Zs1, Zs2, Zs3, zg, zh]
          rfl
         refine zby (i := 0) (N := some 44) (v := ?_) (a' := ?_) #[true, true, false, false, true, false, false, false] rfl rfl (z8 HT_.out HW_.out (by kernel_rfl)) (fun _ _ _ h => h) (Or.inl ⟨by rfl, ?_⟩) hHeld ?_ ?_;rotate_left
         ·rintro w' ⟨s0, s1, s2, s3, s4, s5⟩
          go_simp;with_reducible rfl
         rotate_left
         ·simp only [Act.put, Zs1, Zs2, Zs3, zg, zh]
          rfl
         refine zby (i := 3) (N := some 47) (v := ?_) (a' := ?_) #[true, true, false, true, true, false, false, false] rfl rfl (z8 HT_.out HW_.out (by kernel_rfl)) (fun _ _ _ h => h) (Or.inl ⟨by rfl, ?_⟩) hHeld ?_ ?_;rotate_left
         ·rintro w' ⟨s0, s1, s2, s3, s4, s5⟩
          go_simp;with_reducible rfl
         rotate_left
         ·simp only [Act.put, Zs1, Zs2, Zs3, zg, zh]
          rfl
         refine one_ (i := 2) (N := some 46) #[true, true, true, true, true, false, false, false] rfl rfl (zb2 HT_.out (by kernel_rfl)) (by decide) (fun K hK => ?_);refine zce Try.func60 (by kernel_rfl) rfl #[.agg #[.int .i64 a2_0, .int .i64 a2_1, .int .i64 a2_2], .int .i64 a3] (by rfl) rfl rfl Zmt ?_;with_reducible refine (zx.calls kj21 a2_0 a2_1 a2_2 a3 t257 _ A26.out).mono ?_
         rintro e w30 ⟨rfl, hb⟩;refine ⟨_, rfl, ?_⟩;have n0_ := za.mk (zbq (g := gb248) (o := .cells #[.int .i64 a0_0, .int .i64 a0_1, .int .i64 a0_2] 35 (0, 0)) (Zq3 BK248) hb);have n1_ := za.mk (zbq (g := gb249) (o := .cells #[.int .i64 a2_0, .int .i64 a2_1, .int .i64 a2_2] 35 (0, 0)) (Zq3 BK249) hb);have n2_ := za.mk (zk (Zq6 HB GE248 GE249) hb);clear BK248;clear BK249;clear HB;have BK248 := n0_;have BK249 := n1_;have HB := n2_;clear n0_ n1_ n2_;(try clear hb);(try clear hb2);(try clear hk);(try clear hi);refine hK.out _ _ ⟨(zf BK249.out 0).trans rfl, (zf BK249.out 1).trans rfl, (zf BK249.out 2).trans rfl, (zf BK248.out 0).trans rfl, (zf BK248.out 1).trans rfl, (zf BK248.out 2).trans rfl⟩ (fun hHeld => ?_);clear hK K;refine zcd (a' := ?_) ?_ ?_;rotate_left
         ·show Act.put _ (some 46) _ = _
          simp only [Act.put, Zs1, Zs2, Zs3, zg, zh];rfl
         refine one_ (i := 5) (N := some 49) #[true, true, true, true, true, true, false, false] rfl rfl (zb2 HT_.out (by kernel_rfl)) (by decide) (fun K hK => ?_);refine zce Try.func60 (by kernel_rfl) rfl #[.agg #[.int .i64 a0_0, .int .i64 a0_1, .int .i64 a0_2], .int .i64 a1] (by rfl) rfl rfl Zmt ?_;with_reducible refine (zx.calls kj21 a0_0 a0_1 a0_2 a1 t258 _ A27.out).mono ?_
         rintro e w31 ⟨rfl, hb⟩;refine ⟨_, rfl, ?_⟩;have n0_ := za.mk (zbq (g := gb248) (o := .cells #[.int .i64 a0_0, .int .i64 a0_1, .int .i64 a0_2] 35 (0, 0)) (Zq3 BK248) hb);have n1_ := za.mk (zbq (g := gb249) (o := .cells #[.int .i64 a2_0, .int .i64 a2_1, .int .i64 a2_2] 35 (0, 0)) (Zq3 BK249) hb);have n2_ := za.mk (zk (Zq6 HB GE248 GE249) hb);clear BK248;clear BK249;clear HB;have BK248 := n0_;have BK249 := n1_;have HB := n2_;clear n0_ n1_ n2_;(try clear hb);(try clear hb2);(try clear hk);(try clear hi);refine hK.out _ _ ⟨(zf BK249.out 0).trans rfl, (zf BK249.out 1).trans rfl, (zf BK249.out 2).trans rfl, (zf BK248.out 0).trans rfl, (zf BK248.out 1).trans rfl, (zf BK248.out 2).trans rfl⟩ (fun hHeld => ?_);clear hK K;refine zcd (a' := ?_) ?_ ?_;rotate_left
         ·show Act.put _ (some 49) _ = _
          simp only [Act.put, Zs1, Zs2, Zs3, zg, zh];rfl
         refine one_ (i := 6) (N := some 50) #[true, true, true, true, true, true, true, false] rfl rfl (zb2 HT_.out (by kernel_rfl)) (by decide) (fun K hK => ?_);refine zce Try.func58 (by kernel_rfl) rfl #[.int .i64 t257, .int .i64 t258] (by rfl) rfl rfl Zmt ?_;with_reducible refine (cmp_Compare_int.calls t257 t258 t259 _ A28.out).mono ?_
         rintro e w' ⟨rfl, ⟨nd, rfl⟩⟩;refine ⟨_, rfl, ?_⟩;refine hK.out _ _ ⟨(zf BK249.out 0).trans rfl, (zf BK249.out 1).trans rfl, (zf BK249.out 2).trans rfl, (zf BK248.out 0).trans rfl, (zf BK248.out 1).trans rfl, (zf BK248.out 2).trans rfl⟩ (fun hHeld => ?_);clear hK K;refine zcd (a' := ?_) ?_ ?_;rotate_left
         ·show Act.put _ (some 50) _ = _
          simp only [Act.put, Zs1, Zs2, Zs3, zg, zh];rfl
         refine zl (i := 7) (N := some 8) (v := ?_) (a' := ?_) #[true, true, true, true, true, true, true, true] rfl rfl (ze HT_.out (by kernel_rfl)) (fun _ _ _ h => h) (Or.inl ⟨by rfl, ?_⟩) ?_ ?_;rotate_left
         ·intro w'
          go_simp;with_reducible rfl
         rotate_left
         ·simp only [Act.put, Zs1, Zs2, Zs3, zg, zh]
          rfl
         refine zcn (zb3 HT_.out (by kernel_rfl)) ?_
         try go_wp2
         go_ret;exact ⟨by first | rfl | (simp [zn, zo] <;> rfl) | (simp [*, zn, zo] <;> rfl), Zq6 HB GE248 GE249⟩
        ·replace c25 := Bool.eq_false_iff.mpr c25
         subst c25;have H1 : (some 0) = some r := by rw [if_neg (show ¬ (false = true) by decide)] at H; exact H
         clear H;have H := H1;clear H1;obtain rfl := Option.some.inj H;go_wp2;go_ret;exact ⟨by first | rfl | (simp [zn, zo] <;> rfl) | (simp [*, zn, zo] <;> rfl), Zq6 HB GE248 GE249⟩
 ·rw [if_neg c8] at H
  have c8b0 : (t254 == 0) = false := beq_eq_false_iff_ne.mpr c8;have c8b1 : (t254 != 0) = true := bne_iff_ne.mpr c8;obtain rfl := Option.some.inj H;go_enter Try.func33, Try.ntmps33
  try go_wp2_with (first | ((with_reducible refine zbw (N := 4) rfl ?_); refine zbv ?hg (N := 4) ?hd (cs := #[.int .i64 a0_0, .int .i64 a0_1, .int .i64 a0_2]) (t := 35) ?hr ?_; (case hd => rfl); (case hg => rfl); (case hr => first | (go_simp; done) | (go_simp; rfl)); intro gb248 hg w32 hbox hb; have n0_ := za.mk (zk (Zq0 HB) hb); have n1_ := za.mk (hbox); have n2_ := za.mk ((by rw [hg]; exact (zu (Zq0 HB)) : w.heap.size ≤ gb248)); have n3_ := za.mk ((by rw [hg]; exact (zu (Zq0 HB)) : w.heap.size ≤ gb248)); clear HB; have HB := n0_; have BK248 := n1_; have GW248 := n2_; have GE248 := n3_; clear n0_ n1_ n2_ n3_; clear hb hbox hg) | ((with_reducible refine zbw (N := 6) rfl ?_); refine zbv ?hg (N := 6) ?hd (cs := #[.int .i64 a2_0, .int .i64 a2_1, .int .i64 a2_2]) (t := 35) ?hr ?_; (case hd => rfl); (case hg => rfl); (case hr => first | (go_simp; done) | (go_simp; rfl)); intro gb249 hg w33 hbox hb; have n0_ := za.mk (zbq (g := gb248) (o := .cells #[.int .i64 a0_0, .int .i64 a0_1, .int .i64 a0_2] 35 (0, 0)) (Zq3 BK248) hb); have n1_ := za.mk (zk (Zq1 HB GE248) hb); have n2_ := za.mk (hbox); have n3_ := za.mk ((by rw [hg]; exact (zu (Zq1 HB GE248)) : w.heap.size ≤ gb249)); have n4_ := za.mk ((by rw [hg]; exact (zu (Zq1 HB GE248)) : w.heap.size ≤ gb249)); have n5_ := za.mk ((by rw [hg]; exact Nat.ne_of_lt (zcl (g := gb248) (o := .cells #[.int .i64 a0_0, .int .i64 a0_1, .int .i64 a0_2] 35 (0, 0)) (Zq3 BK248)) : gb248 ≠ gb249)); have n6_ := za.mk ((by rw [hg]; exact Nat.ne_of_gt (zcl (g := gb248) (o := .cells #[.int .i64 a0_0, .int .i64 a0_1, .int .i64 a0_2] 35 (0, 0)) (Zq3 BK248)) : gb249 ≠ gb248)); clear BK248; clear HB; have BK248 := n0_; have HB := n1_; have BK249 := n2_; have GW249 := n3_; have GE249 := n4_; have NB248_249 := n5_; have NB249_248 := n6_; clear n0_ n1_ n2_ n3_ n4_ n5_ n6_; clear hb hbox hg))
  have n0_ := za.mk (zbi BK248.out);have n1_ := za.mk (zbi BK249.out);have n2_ := za.mk (zbe HB.out);clear BK248;clear BK249;clear HB;have BK248 := n0_;have BK249 := n1_;have HB := n2_;clear n0_ n1_ n2_;refine zca (n := 10) (S := fun w' => w'.cell? ⟨gb248, 0, none⟩ = some (.int .i64 a0_0) ∧ w'.cell? ⟨gb248, 1, none⟩ = some (.int .i64 a0_1) ∧ w'.cell? ⟨gb248, 2, none⟩ = some (.int .i64 a0_2) ∧ w'.cell? ⟨gb249, 0, none⟩ = some (.int .i64 a2_0) ∧ w'.cell? ⟨gb249, 1, none⟩ = some (.int .i64 a2_1) ∧ w'.cell? ⟨gb249, 2, none⟩ = some (.int .i64 a2_2)) (ds := []) #[false, false, false, false, false, false, false, false, false, false] (by kernel_rfl) rfl rfl ⟨(zf BK248.out 0).trans rfl, (zf BK248.out 1).trans rfl, (zf BK248.out 2).trans rfl, (zf BK249.out 0).trans rfl, (zf BK249.out 1).trans rfl, (zf BK249.out 2).trans rfl⟩ (fun hHeld => ?_); refine zbu zz.tab1 zz.zd8 (fun HT_ HW_ => ?_);generalize w33.drew = w34 at BK248 BK249 HB hHeld ⊢;refine zl (i := 1) (N := some 13) (v := ?_) (a' := ?_) #[false, true, false, false, false, false, false, false, false, false] rfl rfl (ze HT_.out (by kernel_rfl)) (fun _ _ _ h => h) (Or.inl ⟨by rfl, ?_⟩) ?_ ?_;rotate_left
  ·intro w'
   go_simp;with_reducible rfl
  rotate_left
  ·simp only [Act.put, Zs1, Zs2, Zs3, zg, zh]
   rfl
  refine zl (i := 5) (N := some 17) (v := ?_) (a' := ?_) #[false, true, false, false, false, true, false, false, false, false] rfl rfl (ze HT_.out (by kernel_rfl)) (fun _ _ _ h => h) (Or.inl ⟨by rfl, ?_⟩) ?_ ?_;rotate_left
  ·intro w'
   go_simp;with_reducible rfl
  rotate_left
  ·simp only [Act.put, Zs1, Zs2, Zs3, zg, zh]
   rfl
  refine zby (i := 0) (N := some 12) (v := ?_) (a' := ?_) #[true, true, false, false, false, true, false, false, false, false] rfl rfl (z8 HT_.out HW_.out (by kernel_rfl)) (fun _ _ _ h => h) (Or.inl ⟨by rfl, ?_⟩) hHeld ?_ ?_;rotate_left
  ·rintro w' ⟨s0, s1, s2, s3, s4, s5⟩
   go_simp;with_reducible rfl
  rotate_left
  ·simp only [Act.put, Zs1, Zs2, Zs3, zg, zh]
   rfl
  refine zby (i := 4) (N := some 16) (v := ?_) (a' := ?_) #[true, true, false, false, true, true, false, false, false, false] rfl rfl (z8 HT_.out HW_.out (by kernel_rfl)) (fun _ _ _ h => h) (Or.inl ⟨by rfl, ?_⟩) hHeld ?_ ?_;rotate_left
  ·rintro w' ⟨s0, s1, s2, s3, s4, s5⟩
   go_simp;with_reducible rfl
  rotate_left
  ·simp only [Act.put, Zs1, Zs2, Zs3, zg, zh]
   rfl
  refine one_ (i := 2) (N := some 14) #[true, true, true, false, true, true, false, false, false, false] rfl rfl (zb2 HT_.out (by kernel_rfl)) (by decide) (fun K hK => ?_);refine zce Try.func30 (by kernel_rfl) rfl #[.agg #[.int .i64 a0_0, .int .i64 a0_1, .int .i64 a0_2], .int .i64 a1] (by rfl) rfl rfl Zmt ?_;with_reducible refine (zbk.calls a0_0 a0_1 a0_2 a1 t250 t251 _ A5.out).mono ?_
  rintro e w35 ⟨rfl, hb⟩;refine ⟨_, rfl, ?_⟩;have n0_ := za.mk (zbq (g := gb248) (o := .cells #[.int .i64 a0_0, .int .i64 a0_1, .int .i64 a0_2] 35 (0, 0)) (Zq3 BK248) hb);have n1_ := za.mk (zbq (g := gb249) (o := .cells #[.int .i64 a2_0, .int .i64 a2_1, .int .i64 a2_2] 35 (0, 0)) (Zq3 BK249) hb);have n2_ := za.mk (zk (Zq6 HB GE248 GE249) hb);clear BK248;clear BK249;clear HB;have BK248 := n0_;have BK249 := n1_;have HB := n2_;clear n0_ n1_ n2_;(try clear hb);(try clear hb2);(try clear hk);(try clear hi);refine hK.out _ _ ⟨(zf BK248.out 0).trans rfl, (zf BK248.out 1).trans rfl, (zf BK248.out 2).trans rfl, (zf BK249.out 0).trans rfl, (zf BK249.out 1).trans rfl, (zf BK249.out 2).trans rfl⟩ (fun hHeld => ?_);clear hK K;refine zcd (a' := ?_) ?_ ?_;rotate_left
  ·show Act.put _ (some 14) _ = _
   simp only [Act.put, Zs1, Zs2, Zs3, zg, zh];rfl
  refine zl (i := 3) (N := some 15) (v := ?_) (a' := ?_) #[true, true, true, true, true, true, false, false, false, false] rfl rfl (ze HT_.out (by kernel_rfl)) (fun _ _ _ h => h) (Or.inl ⟨by rfl, ?_⟩) ?_ ?_;rotate_left
  ·intro w'
   go_simp;with_reducible rfl
  rotate_left
  ·simp only [Act.put, Zs1, Zs2, Zs3, zg, zh]
   rfl
  refine one_ (i := 6) (N := some 18) #[true, true, true, true, true, true, true, false, false, false] rfl rfl (zb2 HT_.out (by kernel_rfl)) (by decide) (fun K hK => ?_);refine zce Try.func30 (by kernel_rfl) rfl #[.agg #[.int .i64 a2_0, .int .i64 a2_1, .int .i64 a2_2], .int .i64 a3] (by rfl) rfl rfl Zmt ?_;with_reducible refine (zbk.calls a2_0 a2_1 a2_2 a3 t252 t253 _ A6.out).mono ?_
  rintro e w36 ⟨rfl, hb⟩;refine ⟨_, rfl, ?_⟩;have n0_ := za.mk (zbq (g := gb248) (o := .cells #[.int .i64 a0_0, .int .i64 a0_1, .int .i64 a0_2] 35 (0, 0)) (Zq3 BK248) hb);have n1_ := za.mk (zbq (g := gb249) (o := .cells #[.int .i64 a2_0, .int .i64 a2_1, .int .i64 a2_2] 35 (0, 0)) (Zq3 BK249) hb);have n2_ := za.mk (zk (Zq6 HB GE248 GE249) hb);clear BK248;clear BK249;clear HB;have BK248 := n0_;have BK249 := n1_;have HB := n2_;clear n0_ n1_ n2_;(try clear hb);(try clear hb2);(try clear hk);(try clear hi);refine hK.out _ _ ⟨(zf BK248.out 0).trans rfl, (zf BK248.out 1).trans rfl, (zf BK248.out 2).trans rfl, (zf BK249.out 0).trans rfl, (zf BK249.out 1).trans rfl, (zf BK249.out 2).trans rfl⟩ (fun hHeld => ?_);clear hK K;refine zcd (a' := ?_) ?_ ?_;rotate_left
  ·show Act.put _ (some 18) _ = _
   simp only [Act.put, Zs1, Zs2, Zs3, zg, zh];rfl
  refine zl (i := 7) (N := some 19) (v := ?_) (a' := ?_) #[true, true, true, true, true, true, true, true, false, false] rfl rfl (ze HT_.out (by kernel_rfl)) (fun _ _ _ h => h) (Or.inl ⟨by rfl, ?_⟩) ?_ ?_;rotate_left
  ·intro w'
   go_simp;with_reducible rfl
  rotate_left
  ·simp only [Act.put, Zs1, Zs2, Zs3, zg, zh]
   rfl
  refine one_ (i := 8) (N := some 20) #[true, true, true, true, true, true, true, true, true, false] rfl rfl (zb2 HT_.out (by kernel_rfl)) (by decide) (fun K hK => ?_);refine zce Try.func58 (by kernel_rfl) rfl #[.int .i64 t251, .int .i64 t253] (by rfl) rfl rfl Zmt ?_;with_reducible refine (cmp_Compare_int.calls t251 t253 t254 _ A7.out).mono ?_
  rintro e w' ⟨rfl, ⟨nd, rfl⟩⟩;refine ⟨_, rfl, ?_⟩;refine hK.out _ _ ⟨(zf BK248.out 0).trans rfl, (zf BK248.out 1).trans rfl, (zf BK248.out 2).trans rfl, (zf BK249.out 0).trans rfl, (zf BK249.out 1).trans rfl, (zf BK249.out 2).trans rfl⟩ (fun hHeld => ?_);clear hK K;refine zcd (a' := ?_) ?_ ?_;rotate_left
  ·show Act.put _ (some 20) _ = _
   simp only [Act.put, Zs1, Zs2, Zs3, zg, zh];rfl
  refine zl (i := 9) (N := some 9) (v := ?_) (a' := ?_) #[true, true, true, true, true, true, true, true, true, true] rfl rfl (ze HT_.out (by kernel_rfl)) (fun _ _ _ h => h) (Or.inl ⟨by rfl, ?_⟩) ?_ ?_;rotate_left
  ·intro w'
   go_simp;with_reducible rfl
  rotate_left
  ·simp only [Act.put, Zs1, Zs2, Zs3, zg, zh]
   rfl
  refine zcn (zb3 HT_.out (by kernel_rfl)) ?_
  try go_wp2
  go_ret;exact ⟨by first | rfl | (simp [zn, zo] <;> rfl) | (simp [*, zn, zo] <;> rfl), Zq6 HB GE248 GE249⟩
section
variable {α : Type} {d : Kd α} {e base m : Nat} {w w' w1 W : World} {ok : Nat → Prop} {u v v1 : Value} {xs : List α}
end
def zel.T1 : Bool × List (List Nat × List Nat) := (true, [([], []), ([], []), ([0, 1], [0, 1]), ([2], [2]), ([], []), ([], []), ([4, 5], [4, 5]), ([6], [6]), ([], []), ([], []), ([8, 9], [8, 9]), ([10], [10]), ([], []), ([], []), ([12, 13], [12, 13]), ([14], [14]), ([3, 7, 11, 15], [3, 7, 11, 15]), ([16, 16, 0, 1, 2, 3, 4, 5, 6, 7, 8, 9, 10, 11, 12, 13, 14, 15, 16], [16])])
def zel.B1 : List Nat := [0, 0, 3, 7, 0, 0, 48, 112, 0, 0, 768, 1792, 0, 0, 12288, 28672, 65535, 131071]
theorem zel.tab1 : rtab .any (opsOf Try.f32 1) = zel.T1 := by kernel_rfl
theorem zel.zd8 : zci zel.T1.2 zel.B1 = true := by kernel_rfl
set_option maxHeartbeats 8000000 in
theorem zgm (k : Nat) (gs gn : Nat) (A0 NX : Option Addr) (c0 cn : Nat) (l0 : List S35) (nx : List Int) (a b v : Int) (w : World) (hs : w.cell? ⟨gs, 0, none⟩ = some (.slice A0 l0.length c0)) (hn : w.cell? ⟨gn, 0, none⟩ = some (.slice NX nx.length cn)) (hr0 : Kd.C k35 w A0 l0.length l0) (hr1 : Kd.C (Kd.int .i64) w NX nx.length nx)
    (ha : 0 ≤ a ∧ a < (l0.length : Int) ∧ a < (nx.length : Int)) (hb : 0 ≤ b ∧ b < (l0.length : Int) ∧ b < (nx.length : Int)) (h : zz.f k (zb l0 a).f0 (zb l0 a).f1 (zb l0 a).f2 (rd nx a) (zb l0 b).f0 (zb l0 b).f1 (zb l0 b).f2 (rd nx b) = some v) :
    Calls Try.prog 32 (#[.int .i64 a, .int .i64 b] ++ #[.pointer (some ⟨gs, 0, none⟩), .pointer (some ⟨gn, 0, none⟩)]) w fun e w' => e = .returned (.int .i64 v) ∧ Below w.heap.size w w' := by
  obtain ⟨ad, ea, hx0, hx1, hx2⟩ := zcc hr0 a ha.1 ha.2.1
  obtain ⟨ad2, ea2, hy0, hy1, hy2⟩ := zcc hr0 b hb.1 hb.2.1
  obtain ⟨ax, eax, hz⟩ := Kd.zcb hr1 a ha.1 ha.2.2
  obtain ⟨ax2, eax2, hv⟩ := Kd.zcb hr1 b hb.1 hb.2.2
  subst ea
  subst eax
  obtain rfl : ad = ad2 := by injection ea2
  obtain rfl : ax = ax2 := by injection eax2
  have H := za.mk h
  obtain ⟨ha0, ha1, ha2⟩ := ha
  obtain ⟨hb0, hb1, hb2⟩ := hb
  clear h hr0 hr1 ea2 eax2
  go_enter Try.func32, Try.ntmps32
  go_wp2_with fail
  refine zca (n := 18) (S := fun w' => w'.cell? ⟨gs, 0, none⟩ = some (.slice (some ad) l0.length c0) ∧ w'.cell? ⟨gn, 0, none⟩ = some (.slice (some ax) nx.length cn) ∧ w'.cell? (ad.add (a.toNat * 3)) = some (.int .i64 (zb l0 a).f0) ∧ w'.cell? ⟨(ad.add (a.toNat * 3)).block, (ad.add (a.toNat * 3)).off + 1, none⟩ = some (.int .i64 (zb l0 a).f1) ∧ w'.cell? ⟨(ad.add (a.toNat * 3)).block, (ad.add (a.toNat * 3)).off + 2, none⟩ = some (.int .i64 (zb l0 a).f2) ∧ w'.cell? (ax.add a.toNat) = some (.int .i64 (rd nx a)) ∧ w'.cell? (ad.add (b.toNat * 3)) = some (.int .i64 (zb l0 b).f0) ∧ w'.cell? ⟨(ad.add (b.toNat * 3)).block, (ad.add (b.toNat * 3)).off + 1, none⟩ = some (.int .i64 (zb l0 b).f1) ∧ w'.cell? ⟨(ad.add (b.toNat * 3)).block, (ad.add (b.toNat * 3)).off + 2, none⟩ = some (.int .i64 (zb l0 b).f2) ∧ w'.cell? (ax.add b.toNat) = some (.int .i64 (rd nx b))) (ds := []) #[false, false, false, false, false, false, false, false, false, false, false, false, false, false, false, false, false, false] (by kernel_rfl) rfl rfl ⟨hs, hn, hx0, hx1, hx2, hz, hy0, hy1, hy2, hv⟩ (fun hHeld => ?_); refine zbu zel.tab1 zel.zd8 (fun HT_ HW_ => ?_)
  refine zl (i := 1) (N := some 8) (v := ?_) (a' := ?_) #[false, true, false, false, false, false, false, false, false, false, false, false, false, false, false, false, false, false] rfl rfl (ze HT_.out (by kernel_rfl)) (fun _ _ _ h => h) (Or.inl ⟨by rfl, ?_⟩) ?_ ?_
  rotate_left
  · intro w'
    go_simp
    with_reducible rfl
  rotate_left
  · simp only [Act.put, List.setIfInBounds_toArray, List.set_cons_zero, List.set_cons_succ, zg, zh]
    rfl
  refine zl (i := 5) (N := some 12) (v := ?_) (a' := ?_) #[false, true, false, false, false, true, false, false, false, false, false, false, false, false, false, false, false, false] rfl rfl (ze HT_.out (by kernel_rfl)) (fun _ _ _ h => h) (Or.inl ⟨by rfl, ?_⟩) ?_ ?_
  rotate_left
  · intro w'
    go_simp
    with_reducible rfl
  rotate_left
  · simp only [Act.put, List.setIfInBounds_toArray, List.set_cons_zero, List.set_cons_succ, zg, zh]
    rfl
  refine zl (i := 9) (N := some 16) (v := ?_) (a' := ?_) #[false, true, false, false, false, true, false, false, false, true, false, false, false, false, false, false, false, false] rfl rfl (ze HT_.out (by kernel_rfl)) (fun _ _ _ h => h) (Or.inl ⟨by rfl, ?_⟩) ?_ ?_
  rotate_left
  · intro w'
    go_simp
    with_reducible rfl
  rotate_left
  · simp only [Act.put, List.setIfInBounds_toArray, List.set_cons_zero, List.set_cons_succ, zg, zh]
    rfl
  refine zl (i := 13) (N := some 20) (v := ?_) (a' := ?_) #[false, true, false, false, false, true, false, false, false, true, false, false, false, true, false, false, false, false] rfl rfl (ze HT_.out (by kernel_rfl)) (fun _ _ _ h => h) (Or.inl ⟨by rfl, ?_⟩) ?_ ?_
  rotate_left
  · intro w'
    go_simp
    with_reducible rfl
  rotate_left
  · simp only [Act.put, List.setIfInBounds_toArray, List.set_cons_zero, List.set_cons_succ, zg, zh]
    rfl
  refine zby (i := 0) (N := some 7) (v := ?_) (a' := ?_) #[true, true, false, false, false, true, false, false, false, true, false, false, false, true, false, false, false, false] rfl rfl (z8 HT_.out HW_.out (by kernel_rfl)) (fun _ _ _ h => h) (Or.inl ⟨by rfl, ?_⟩) hHeld ?_ ?_
  rotate_left
  · rintro w' ⟨s0, s1, s2, s3, s4, s5, s6, s7, s8, s9⟩
    go_simp
    with_reducible rfl
  rotate_left
  · simp only [Act.put, List.setIfInBounds_toArray, List.set_cons_zero, List.set_cons_succ, zg, zh]
    rfl
  refine zl (i := 2) (N := some 9) (v := ?_) (a' := ?_) #[true, true, true, false, false, true, false, false, false, true, false, false, false, true, false, false, false, false] rfl rfl (ze HT_.out (by kernel_rfl)) (fun _ _ _ h => h) (Or.inl ⟨by rfl, ?_⟩) ?_ ?_
  rotate_left
  · intro w'
    go_simp
    with_reducible rfl
  rotate_left
  · simp only [Act.put, List.setIfInBounds_toArray, List.set_cons_zero, List.set_cons_succ, zg, zh]
    rfl
  refine zby (i := 3) (N := some 10) (v := ?_) (a' := ?_) #[true, true, true, true, false, true, false, false, false, true, false, false, false, true, false, false, false, false] rfl rfl (z8 HT_.out HW_.out (by kernel_rfl)) (fun _ _ _ h => h) (Or.inl ⟨by rfl, ?_⟩) hHeld ?_ ?_
  rotate_left
  · rintro w' ⟨s0, s1, s2, s3, s4, s5, s6, s7, s8, s9⟩
    go_simp
    with_reducible rfl
  rotate_left
  · simp only [Act.put, List.setIfInBounds_toArray, List.set_cons_zero, List.set_cons_succ, zg, zh]
    rfl
  refine zby (i := 4) (N := some 11) (v := ?_) (a' := ?_) #[true, true, true, true, true, true, false, false, false, true, false, false, false, true, false, false, false, false] rfl rfl (z8 HT_.out HW_.out (by kernel_rfl)) (fun _ _ _ h => h) (Or.inl ⟨by rfl, ?_⟩) hHeld ?_ ?_
  rotate_left
  · rintro w' ⟨s0, s1, s2, s3, s4, s5, s6, s7, s8, s9⟩
    go_simp
    with_reducible rfl
  rotate_left
  · simp only [Act.put, List.setIfInBounds_toArray, List.set_cons_zero, List.set_cons_succ, zg, zh]
    rfl
  refine zl (i := 6) (N := some 13) (v := ?_) (a' := ?_) #[true, true, true, true, true, true, true, false, false, true, false, false, false, true, false, false, false, false] rfl rfl (ze HT_.out (by kernel_rfl)) (fun _ _ _ h => h) (Or.inl ⟨by rfl, ?_⟩) ?_ ?_
  rotate_left
  · intro w'
    go_simp
    with_reducible rfl
  rotate_left
  · simp only [Act.put, List.setIfInBounds_toArray, List.set_cons_zero, List.set_cons_succ, zg, zh]
    rfl
  refine zby (i := 7) (N := some 14) (v := ?_) (a' := ?_) #[true, true, true, true, true, true, true, true, false, true, false, false, false, true, false, false, false, false] rfl rfl (z8 HT_.out HW_.out (by kernel_rfl)) (fun _ _ _ h => h) (Or.inl ⟨by rfl, ?_⟩) hHeld ?_ ?_
  rotate_left
  · rintro w' ⟨s0, s1, s2, s3, s4, s5, s6, s7, s8, s9⟩
    go_simp
    with_reducible rfl
  rotate_left
  · simp only [Act.put, List.setIfInBounds_toArray, List.set_cons_zero, List.set_cons_succ, zg, zh]
    rfl
  refine zby (i := 8) (N := some 15) (v := ?_) (a' := ?_) #[true, true, true, true, true, true, true, true, true, true, false, false, false, true, false, false, false, false] rfl rfl (z8 HT_.out HW_.out (by kernel_rfl)) (fun _ _ _ h => h) (Or.inl ⟨by rfl, ?_⟩) hHeld ?_ ?_
  rotate_left
  · rintro w' ⟨s0, s1, s2, s3, s4, s5, s6, s7, s8, s9⟩
    go_simp
    with_reducible rfl
  rotate_left
  · simp only [Act.put, List.setIfInBounds_toArray, List.set_cons_zero, List.set_cons_succ, zg, zh]
    rfl
  refine zl (i := 10) (N := some 17) (v := ?_) (a' := ?_) #[true, true, true, true, true, true, true, true, true, true, true, false, false, true, false, false, false, false] rfl rfl (ze HT_.out (by kernel_rfl)) (fun _ _ _ h => h) (Or.inl ⟨by rfl, ?_⟩) ?_ ?_
  rotate_left
  · intro w'
    go_simp
    with_reducible rfl
  rotate_left
  · simp only [Act.put, List.setIfInBounds_toArray, List.set_cons_zero, List.set_cons_succ, zg, zh]
    rfl
  refine zby (i := 11) (N := some 18) (v := ?_) (a' := ?_) #[true, true, true, true, true, true, true, true, true, true, true, true, false, true, false, false, false, false] rfl rfl (z8 HT_.out HW_.out (by kernel_rfl)) (fun _ _ _ h => h) (Or.inl ⟨by rfl, ?_⟩) hHeld ?_ ?_
  rotate_left
  · rintro w' ⟨s0, s1, s2, s3, s4, s5, s6, s7, s8, s9⟩
    go_simp
    with_reducible rfl
  rotate_left
  · simp only [Act.put, List.setIfInBounds_toArray, List.set_cons_zero, List.set_cons_succ, zg, zh]
    rfl
  refine zby (i := 12) (N := some 19) (v := ?_) (a' := ?_) #[true, true, true, true, true, true, true, true, true, true, true, true, true, true, false, false, false, false] rfl rfl (z8 HT_.out HW_.out (by kernel_rfl)) (fun _ _ _ h => h) (Or.inl ⟨by rfl, ?_⟩) hHeld ?_ ?_
  rotate_left
  · rintro w' ⟨s0, s1, s2, s3, s4, s5, s6, s7, s8, s9⟩
    go_simp
    with_reducible rfl
  rotate_left
  · simp only [Act.put, List.setIfInBounds_toArray, List.set_cons_zero, List.set_cons_succ, zg, zh]
    rfl
  refine zl (i := 14) (N := some 21) (v := ?_) (a' := ?_) #[true, true, true, true, true, true, true, true, true, true, true, true, true, true, true, false, false, false] rfl rfl (ze HT_.out (by kernel_rfl)) (fun _ _ _ h => h) (Or.inl ⟨by rfl, ?_⟩) ?_ ?_
  rotate_left
  · intro w'
    go_simp
    with_reducible rfl
  rotate_left
  · simp only [Act.put, List.setIfInBounds_toArray, List.set_cons_zero, List.set_cons_succ, zg, zh]
    rfl
  refine zby (i := 15) (N := some 22) (v := ?_) (a' := ?_) #[true, true, true, true, true, true, true, true, true, true, true, true, true, true, true, true, false, false] rfl rfl (z8 HT_.out HW_.out (by kernel_rfl)) (fun _ _ _ h => h) (Or.inl ⟨by rfl, ?_⟩) hHeld ?_ ?_
  rotate_left
  · rintro w' ⟨s0, s1, s2, s3, s4, s5, s6, s7, s8, s9⟩
    go_simp
    with_reducible rfl
  rotate_left
  · simp only [Act.put, List.setIfInBounds_toArray, List.set_cons_zero, List.set_cons_succ, zg, zh]
    rfl
  refine one_ (i := 16) (N := some 23) #[true, true, true, true, true, true, true, true, true, true, true, true, true, true, true, true, true, false] rfl rfl (zb2 HT_.out (by kernel_rfl)) (by decide) (fun K hK => ?_)
  refine zce Try.func33 (by kernel_rfl) rfl #[.agg #[.int .i64 (zb l0 a).f0, .int .i64 (zb l0 a).f1, .int .i64 (zb l0 a).f2], .int .i64 (rd nx a), .agg #[.int .i64 (zb l0 b).f0, .int .i64 (zb l0 b).f1, .int .i64 (zb l0 b).f2], .int .i64 (rd nx b)] (by rfl) rfl rfl (by (try simp only [List.map_toArray, List.map_cons, List.map_nil]); first | done | rfl) ?_
  refine (zz.calls k _ _ _ _ _ _ _ _ v _ H.out).mono ?_
  rintro e w1 ⟨rfl, hb⟩
  refine ⟨_, rfl, ?_⟩
  have HB := za.mk (zk (zbe (Below.refl w.heap.size w)) hb)
  refine hK.out _ _ ⟨(hb.cell (World.block_lt_of_cell? _ _ hs)).trans hs, (hb.cell (World.block_lt_of_cell? _ _ hn)).trans hn, (hb.cell (World.block_lt_of_cell? _ _ hx0)).trans hx0, (hb.cell (World.block_lt_of_cell? _ _ hx1)).trans hx1, (hb.cell (World.block_lt_of_cell? _ _ hx2)).trans hx2, (hb.cell (World.block_lt_of_cell? _ _ hz)).trans hz, (hb.cell (World.block_lt_of_cell? _ _ hy0)).trans hy0, (hb.cell (World.block_lt_of_cell? _ _ hy1)).trans hy1, (hb.cell (World.block_lt_of_cell? _ _ hy2)).trans hy2, (hb.cell (World.block_lt_of_cell? _ _ hv)).trans hv⟩ (fun hHeld => ?_)
  clear hK K
  refine zcd (a' := ?_) ?_ ?_
  rotate_left
  · show Act.put _ (some 23) _ = _
    simp only [Act.put, List.setIfInBounds_toArray, List.set_cons_zero, List.set_cons_succ, zg, zh]
    rfl
  refine zl (i := 17) (N := some 6) (v := ?_) (a' := ?_) #[true, true, true, true, true, true, true, true, true, true, true, true, true, true, true, true, true, true] rfl rfl (ze HT_.out (by kernel_rfl)) (fun _ _ _ h => h) (Or.inl ⟨by rfl, ?_⟩) ?_ ?_
  rotate_left
  · intro w'
    go_simp
    with_reducible rfl
  rotate_left
  · simp only [Act.put, List.setIfInBounds_toArray, List.set_cons_zero, List.set_cons_succ, zg, zh]
    rfl
  refine zcn (zb3 HT_.out (by kernel_rfl)) ?_
  go_wp2
  go_ret
  exact ⟨rfl, HB.out⟩
def fwin (l0 : List S35) (nx : List Int) (i : Int) : Int × Int := (zbk.f (zb l0 i).f0 (zb l0 i).f1 (zb l0 i).f2 (rd nx i)).getD (0, 0)
def zdh (l0 : List S35) (nx : List Int) (now : Int) : Nat → List Int
  | 0 => []
  | i + 1 => if (fwin l0 nx (i : Int)).1 ≤ now then zdh l0 nx now i ++ [(i : Int)] else zdh l0 nx now i
def ze7 (k : Nat) (l0 : List S35) (nx : List Int) (a b : Int) : Option Int := zz.f k (zb l0 a).f0 (zb l0 a).f1 (zb l0 a).f2 (rd nx a) (zb l0 b).f0 (zb l0 b).f1 (zb l0 b).f2 (rd nx b)
def fcmp (k : Nat) (l0 : List S35) (nx : List Int) (a b : Int) : Int := (ze7 k l0 nx a b).getD 0
def fokb (k : Nat) (l0 : List S35) (nx ls : List Int) : Bool := ls.all fun a => ls.all fun b => (ze7 k l0 nx a b).isSome
def frow (k : Nat) (l0 : List S35) (nx : List Int) (now m : Int) : List Int := (zda (fcmp k l0 nx) (zdh l0 nx now l0.length)).take (min m ((zda (fcmp k l0 nx) (zdh l0 nx now l0.length)).length : Int)).toNat
def fadv (nx row : List Int) : List Int := row.foldl (fun nx i => nx.set i.toNat (wrap64 (rd nx i + 1))) nx
def zbg.l0 (k : Nat) (l0 : List S35) (m : Int) : Nat → Nat → List Int → List (List Int) → Option (List (List Int))
  | 0, _, _, out => some out
  | d + 1, now, nx, out => if fokb k l0 nx (zdh l0 nx (now : Int) l0.length) = true then zbg.l0 k l0 m d (now + 1) (fadv nx (frow k l0 nx (now : Int) m)) (out.set now (frow k l0 nx (now : Int) m)) else none
def zbg.f (k : Nat) (l0 : List S35) (a1 : Int) : Option (List (List Int)) := (zcj.f l0).bind fun t => (if t = true then ((zcu.f a1).bind fun u => (if u = true then (if l0.length < 20 ∧ (∀ t ∈ l0, t.f0 ≠ 0) ∧ 0 ≤ a1 then (zbg.l0 k l0 a1 120 0 (List.replicate l0.length 0) (List.replicate 120 [])) else (none)) else (some []))) else (some []))
theorem zhu {cf cg : Int → Int → Int} {S : List Int} (h : ∀ a ∈ S, ∀ b ∈ S, cf a b = cg a b) : ∀ (j : Nat) (l : List Int), (∀ x ∈ l, x ∈ S) → j < l.length → inn cf j l = inn cg j l
  | 0, _, _, _ => rfl
  | j + 1, l, hl, hj => by
    have h1 : cf (rd l ((j : Int) + 1)) (rd l (j : Int)) = cg (rd l ((j : Int) + 1)) (rd l (j : Int)) := h _ (hl _ (zeo l (j + 1) hj)) _ (hl _ (zeo l j (by omega)))
    rw [inn, inn, h1]
    split
    · exact zhu h j _ (fun x hx => hl x (zie l j hj x hx)) (by rw [zc9]; omega)
    · rfl
theorem zij (cf : Int → Int → Int) : ∀ (j : Nat) (l : List Int), j < l.length → ∀ x ∈ inn cf j l, x ∈ l
  | 0, _, _, x, hx => hx
  | j + 1, l, hj, x, hx => by
    rw [inn] at hx
    split at hx
    · exact zie l j hj x (zij cf j _ (by rw [zc9]; omega) x hx)
    · exact hx
theorem zgs {cf cg : Int → Int → Int} {S : List Int} (h : ∀ a ∈ S, ∀ b ∈ S, cf a b = cg a b) : ∀ (d i : Nat) (l : List Int), (∀ x ∈ l, x ∈ S) → i + d ≤ l.length → outr cf d i l = outr cg d i l
  | 0, _, _, _, _ => rfl
  | d + 1, i, l, hl, hd => by
    rw [outr, outr, zhu h i l hl (by omega)]
    exact zgs h d (i + 1) _ (fun x hx => hl x (zij cg i l (by omega) x hx)) (by rw [zdr]; omega)
theorem zik {cf cg : Int → Int → Int} {l : List Int} (h : ∀ a ∈ l, ∀ b ∈ l, cf a b = cg a b) : zda cf l = zda cg l := by
  unfold zda
  rcases Nat.eq_zero_or_pos l.length with h0 | h0
  · rw [h0]; rfl
  · exact zgs h _ _ l (fun x hx => hx) (by omega)
theorem fokb_iff {k : Nat} {l0 : List S35} {nx ls : List Int} : fokb k l0 nx ls = true ↔ ∀ a ∈ ls, ∀ b ∈ ls, ze7 k l0 nx a b = some (fcmp k l0 nx a b) := by
  unfold fokb fcmp
  rw [List.all_eq_true]
  constructor
  · intro h a ha b hb
    have h1 := h a ha
    rw [List.all_eq_true] at h1
    have h2 := h1 b hb
    cases hv : ze7 k l0 nx a b with
    | none => rw [hv] at h2; cases h2
    | some v => rfl
  · intro h a ha
    rw [List.all_eq_true]
    intro b hb
    rw [h a ha b hb]; rfl
theorem fwin_some {l0 : List S35} (hE : ∀ t ∈ l0, t.f0 ≠ 0) (nx : List Int) (i : Nat) (h : i < l0.length) : zbk.f (zb l0 (i : Int)).f0 (zb l0 (i : Int)).f1 (zb l0 (i : Int)).f2 (rd nx (i : Int)) = some (fwin l0 nx (i : Int)) := by
  have h1 : (zb l0 (i : Int)).f0 ≠ 0 := hE _ (by
    show l0.getD (i : Int).toNat _ ∈ l0
    rw [List.getD_eq_getElem?_getD, Int.toNat_natCast, List.getElem?_eq_getElem h]
    exact List.getElem_mem h)
  unfold fwin
  generalize zb l0 (i : Int) = t at h1 ⊢
  unfold zbk.f zdv.f
  rw [if_neg h1, if_neg h1]
  rfl
theorem flist_mem (l0 : List S35) (nx : List Int) (now : Int) : ∀ n, ∀ x ∈ zdh l0 nx now n, 0 ≤ x ∧ x < (n : Int) := by
  intro n
  induction n with
  | zero => intro x hx; simp [zdh] at hx
  | succ n ih =>
    intro x hx
    rw [zdh] at hx
    split at hx
    · rcases List.mem_append.1 hx with h | h
      · have := ih x h; omega
      · have : x = (n : Int) := by simpa using h
        omega
    · have := ih x hx; omega
theorem zhv (l0 : List S35) (nx : List Int) (now : Int) : ∀ n, (zdh l0 nx now n).length ≤ n := by
  intro n
  induction n with
  | zero => exact Nat.le_refl _
  | succ n ih =>
    rw [zdh]
    split
    · rw [List.length_append, List.length_singleton]; omega
    · omega
theorem outr_mem (cf : Int → Int → Int) : ∀ (d i : Nat) (l : List Int), i + d ≤ l.length → ∀ x ∈ outr cf d i l, x ∈ l
  | 0, _, _, _, x, hx => hx
  | d + 1, i, l, hd, x, hx => zij cf i l (by omega) x (outr_mem cf d (i + 1) _ (by rw [zdr]; omega) x hx)
theorem isort_mem (cf : Int → Int → Int) (l : List Int) : ∀ x ∈ zda cf l, x ∈ l := by
  intro x hx
  unfold zda at hx
  rcases Nat.eq_zero_or_pos l.length with h0 | h0
  · rw [h0] at hx; exact hx
  · exact outr_mem cf _ _ l (by omega) x hx
theorem ze8 (row : List Int) : ∀ nx : List Int, (fadv nx row).length = nx.length := by
  unfold fadv
  induction row with
  | nil => intro nx; rfl
  | cons a row ih => intro nx; rw [List.foldl_cons, ih]; simp
structure FrW (N : Nat) (w : World) (n gs gn go : Nat) (A0 NX : Option Addr) (c0 cn co : Nat) (nx : List Int) (rows : List (List Int)) (W : World) : Prop where
  s0 : W.cell? ⟨gs, 0, none⟩ = some (.slice A0 n c0)
  n0 : W.cell? ⟨gn, 0, none⟩ = some (.slice NX n cn)
  nR : Kd.R (Kd.int .i64) 3 W w.heap.size (fun k => some k = (Value.slice NX n cn).ownBlock) (.slice NX n cn) nx
  oR : Kd.S (Kd.cut 3 (Kd.int .i64)) 33 W w.heap.size (fun k => (k ≠ gs ∧ k ≠ gn ∧ some k ≠ (Value.slice NX n cn).ownBlock) ∧ k < N) (.slice (some ⟨go, 0, none⟩) 120 co) rows
  bel : Below w.heap.size w W
structure FrNe (w : World) (n gs gn : Nat) (NX : Option Addr) (cn : Nat) : Prop where
  gs_ : w.heap.size ≤ gs
  gn_ : w.heap.size ≤ gn
  sn : gs ≠ gn
  gN : ∀ k, (Value.slice NX n cn).ownBlock = some k → w.heap.size ≤ k ∧ k ≠ gs ∧ k ≠ gn
section
variable {N : Nat} {w W W1 : World} {n gs gn go : Nat} {A0 NX : Option Addr} {c0 cn co : Nat} {nx : List Int} {rows : List (List Int)}
theorem FrW.below (h : FrW N w n gs gn go A0 NX c0 cn co nx rows W) (hb : Below W.heap.size W W1) : FrW N w n gs gn go A0 NX c0 cn co nx rows W1 :=
  ⟨(hb.cell (World.block_lt_of_cell? _ _ h.s0)).trans h.s0, (hb.cell (World.block_lt_of_cell? _ _ h.n0)).trans h.n0, Kd.zb9 h.nR hb, Kd.zcg h.oR hb, zk h.bel hb⟩
theorem FrW.setNx {g : Nat} (h : FrW N w n gs gn go A0 (some ⟨g, 0, none⟩) c0 cn co nx rows W) (ne : FrNe w n gs gn (some ⟨g, 0, none⟩) cn) (i : Nat) (x : Int) :
    FrW N w n gs gn go A0 (some ⟨g, 0, none⟩) c0 cn co (nx.set i x) rows (W.setCell ⟨g, i, none⟩ (.int .i64 x)) := by
  have ho : (Value.slice (some ⟨g, 0, none⟩) n cn).ownBlock = some g := rfl
  have hg := ne.gN g ho
  have h1 := (Kd.zfw h.nR (i : Int) x).1
  rw [Int.toNat_natCast] at h1
  refine ⟨?_, ?_, h1, Kd.S_far h.oR (fun k hk e => hk.1.2.2 (by rw [ho]; exact congrArg some e)) _, h.bel.setCell hg.1 _⟩
  · rw [World.cell?_setCell_far _ _ _ _ (fun e => hg.2.1 e)]; exact h.s0
  · rw [World.cell?_setCell_far _ _ _ _ (fun e => hg.2.2 e)]; exact h.n0
theorem FrW.bump (h : FrW N w n gs gn go A0 NX c0 cn co nx rows W) : FrW W.heap.size w n gs gn go A0 NX c0 cn co nx rows W :=
  ⟨h.s0, h.n0, h.nR, Kd.zdt (Kd.zet h.oR) (fun k hk => ⟨hk.1.1, hk.2.2.1⟩), h.bel⟩
theorem zip_set_ {α : Type} (xs : List α) (i : Nat) (x : α) : xs.zipIdx.set i (x, i) = (xs.set i x).zipIdx := by
  refine List.ext_getElem? (fun j => ?_)
  rw [List.getElem?_set, List.getElem?_zipIdx, List.getElem?_zipIdx, List.getElem?_set, List.length_zipIdx, Nat.zero_add]
  by_cases h : i = j
  · subst h
    rw [if_pos rfl, if_pos rfl]
    split <;> rfl
  · rw [if_neg h, if_neg h]
theorem FrW.setOut (h : FrW N w n gs gn go A0 NX c0 cn co nx rows W) {i : Nat} (hi : i < 120) {v : Value} {row : List Int} {okp : Nat → Prop}
    (hv : Kd.Qc (Kd.int .i64) 3 W w.heap.size okp v row) (hok : ∀ k, okp k → k ≠ gs ∧ k ≠ gn ∧ some k ≠ (Value.slice NX n cn).ownBlock ∧ k ≠ go ∧ N ≤ k) :
    FrW (W.setCell ⟨go, i, none⟩ v).heap.size w n gs gn go A0 NX c0 cn co nx (rows.set i row) (W.setCell ⟨go, i, none⟩ v) := by
  have hg := (Kd.S_R h.oR).1 go rfl
  have hbase := Kd.zee h.oR go rfl
  obtain ⟨f, hf, hR⟩ := Kd.S_tag h.oR i okp (fun k hk h2 => by have := (hok k hk).2.2.2.2; have := h2.2; omega)
  have hR' := Kd.zcx hR (ok' := fun k => k ≠ gs ∧ k ≠ gn ∧ some k ≠ (Value.slice NX n cn).ownBlock) (fun k hk => hk.1)
  obtain ⟨c, hcl, _, hcc, _⟩ := Kd.zer hR' ([], 0) (i : Int) (by omega) (by omega)
  have h1 : c.length = 1 := hcl
  have h2 := (Kd.R_seg hR' (i : Int) (by omega) (by omega) (c := c) (seg := [v]) (j := 0) (okp := okp) (x' := (row, i)) hcl hcc (Nat.le_refl 1) (by
    show ∃ v', c.take 0 ++ [v] ++ c.drop (0 + 1) = [v'] ∧ Kd.Qc (Kd.int .i64) 3 W w.heap.size (fun k => okp k ∧ f k = i) v' row
    refine ⟨v, ?_, Kd.zf7 hv (fun k hk => ⟨hk, hf k hk⟩)⟩
    rw [List.drop_eq_nil_of_le (by omega)]
    rfl) (fun k hk => ⟨⟨(hok k hk).1, (hok k hk).2.1, (hok k hk).2.2.1⟩, (hok k hk).2.2.2.1⟩)).1
  rw [show (Kd.tag f (Kd.cut 3 (Kd.int .i64))).sz = 1 from rfl, Nat.mul_one, Nat.add_zero, Int.toNat_natCast, zip_set_] at h2
  have h3 : Kd.S (Kd.cut 3 (Kd.int .i64)) 33 (W.setCell ⟨go, i, none⟩ v) w.heap.size (fun k => k ≠ gs ∧ k ≠ gn ∧ some k ≠ (Value.slice NX n cn).ownBlock) (.slice (some ⟨go, 0, none⟩) 120 co) (rows.set i row) := ⟨f, h2⟩
  refine ⟨?_, ?_, Kd.R_far h.nR (fun k hk e => hg.1.2.2 (by rw [← hk]; exact congrArg some e.symm)) _, Kd.zdt (Kd.zet h3) (fun k hk => ⟨hk.1, hk.2.2.1⟩), h.bel.setCell hbase _⟩
  · rw [World.cell?_setCell_far _ _ _ _ (fun e => hg.1.1 e)]; exact h.s0
  · rw [World.cell?_setCell_far _ _ _ _ (fun e => hg.1.2.1 e)]; exact h.n0
end
def zbg.T12 : Bool × List (List Nat × List Nat) := (true, [([], []), ([], []), ([], []), ([1, 2], [1, 2]), ([3], [3]), ([0, 4], [0, 4]), ([5], [5]), ([], []), ([6, 7], [6, 7])])
def zbg.B12 : List Nat := [0, 0, 0, 6, 14, 31, 63, 0, 255]
theorem zbg.tab12 : rtab .any (opsOf Try.f10 12) = zbg.T12 := by kernel_rfl
theorem zbg.bits12 : zci zbg.T12.2 zbg.B12 = true := by kernel_rfl
set_option maxHeartbeats 16000000 in
theorem zbg.zga (k : Nat) (A0 : Option Addr) (c0 : Nat) (l0 : List S35) (a1 : Int) (r : List (List Int)) (w : World) (hr0 : Kd.C k35 w A0 l0.length l0) (hc0 : l0.length ≤ c0) (h : zbg.f k l0 a1 = some r) :
    Calls Try.prog 10 #[.slice A0 l0.length c0, .int .i64 a1] w fun e w' => ∃ v0_ : Value, e = .returned v0_ ∧ Kd.S (Kd.cut 3 (Kd.int .i64)) 33 w' w.heap.size (fun _ => True) v0_ r ∧ Below w.heap.size w w' := by
  have HR := za.mk hr0
  have HC := za.mk hc0
  unfold zbg.f at h
  cases hs : zcj.f l0 with
  | none => rw [hs] at h; simp at h
  | some t =>
    rw [hs] at h
    have HS := za.mk hs
    clear hs hr0 hc0
    cases t with
    | false =>
      simp at h
      subst h
      go_enter Try.func10, Try.ntmps10
      go_wp2_with (go_at_call 28; refine (zcj.calls A0 c0 l0 false _ (Kd.zc8 HR.out _) HC.out HS.out).mono ?_; rintro e w' ⟨rfl, hb⟩; have HB := za.mk hb; clear hb)
      go_ret
      exact ⟨_, rfl, Kd.S_nil _ _ _ _ _, zdf (zb1 (Below.refl _ _) _) (by simp) HB.out⟩
    | true =>
      simp only [Option.bind_some, if_true] at h
      cases hu : zcu.f a1 with
      | none => rw [hu] at h; simp at h
      | some u =>
        rw [hu] at h
        have HU := za.mk hu
        clear hu
        cases u with
        | false =>
          simp at h
          subst h
          go_enter Try.func10, Try.ntmps10
          go_wp2_with (first | (go_at_call 28; refine (zcj.calls A0 c0 l0 true _ (Kd.zc8 HR.out _) HC.out HS.out).mono ?_; rintro e w' ⟨rfl, hb⟩; have HB := za.mk hb; clear hb) | (go_at_call 29; refine (zcu.calls a1 false _ HU.out).mono ?_; rintro e w2 ⟨rfl, ⟨q2, rfl⟩⟩))
          go_ret
          exact ⟨_, rfl, Kd.S_nil _ _ _ _ _, zb6 (zdf (zb1 (Below.refl _ _) _) (by simp) HB.out) _⟩
        | true =>
          simp only [Option.bind_some, if_true] at h
          by_cases hh : l0.length < 20 ∧ (∀ t ∈ l0, t.f0 ≠ 0) ∧ 0 ≤ a1
          · rw [if_pos hh] at h
            have HN := za.mk hh.1
            have HE := za.mk hh.2.1
            have HA := hh.2.2
            have H := za.mk h
            clear hh h
            go_enter Try.func10, Try.ntmps10
            go_wp2_with (first
              | (go_at_call 28; refine (zcj.calls A0 c0 l0 true _ (Kd.zc8 HR.out _) HC.out HS.out).mono ?_; rintro e w1 ⟨rfl, hb⟩; have HB := za.mk (zdf (zb1 (Below.refl w.heap.size w) (.cells #[.slice A0 l0.length c0] 23)) (by simp) hb); have cs1 : w1.cell? ⟨w.heap.size, 0, none⟩ = some (.slice A0 l0.length c0) := (hb.cell (p := ⟨w.heap.size, 0, none⟩) (by simp)).trans (by simp); have hs1 : w.heap.size < w1.heap.size := by have := hb.size; simp at this; omega
                 have HS1 := za.mk hs1; have CS1 := za.mk cs1; clear hb hs1)
              | (go_at_call 29; refine (zcu.calls a1 true _ HU.out).mono ?_; rintro e w2 ⟨rfl, ⟨q2, rfl⟩⟩)
              | ((with_reducible refine zbw (N := 23) rfl ?_); refine Kd.R_make (Kd.int .i64) _ 3 rfl (N := 23) rfl 33 _ _ rfl (l0.length : Int) rfl rfl Try.underlying33 (.int .i64 0) 8 info3 rfl (by decide) (by omega) 0 (ok := fun _ => True) (okp := fun _ => True) rfl (fun _ hk => hk) trivial (by omega) (by have := HN.out; rw [Int.toNat_natCast]; omega) (Below.refl _ _) (Nat.le_refl _) ?_; intro v3 w3 ho hb hg_ hnew_; rw [Int.toNat_natCast] at ho; obtain ⟨NX, cn, ev⟩ := Kd.zch ho; rw [List.length_replicate] at ev; subst ev; have RN := za.mk ho; have B3 := za.mk hb; clear ho hb hg_ hnew_)
              | ((with_reducible refine zbw (N := 24) rfl ?_); refine Kd.S_make (Kd.cut 3 (Kd.int .i64)) _ 33 rfl (N := 24) rfl 26 _ _ rfl (120 : Int) rfl rfl Try.underlying26 (.slice none 0 0) 24 info33 rfl (by decide) (by omega) [] (ok := fun _ => True) (okp := fun _ => True) ⟨_, rfl, Kd.Qc_nil _ _ _ _ _⟩ (fun _ hk => hk) trivial (by omega) (by decide) (Below.refl _ _) (Nat.le_refl _) ?_; intro v4 w4 ho hb hg_ hnew_; simp only [Int.reduceToNat] at ho; obtain ⟨go, capO, ev, hgb⟩ := Kd.S_form ho (by rw [List.length_replicate]; omega); rw [List.length_replicate] at ev; subst ev; have RO := za.mk ho; have B4 := za.mk hb; clear ho hb hg_ hnew_ hgb))
            obtain ⟨gn, hgn⟩ : ∃ gn, gn = w3.heap.size := ⟨_, rfl⟩
            obtain ⟨gs, hgs⟩ : ∃ gs, gs = w.heap.size := ⟨_, rfl⟩
            have s1 := HS1.out
            have s2 : w1.heap.size ≤ w3.heap.size := B3.out.size
            have s4' : (w3.alloc (.cells #[.slice NX l0.length cn] 33)).heap.size = w3.heap.size + 1 := by simp
            have s4 := B4.out.size
            have NE := za.mk (show FrNe w l0.length gs gn NX cn from ⟨by omega, by omega, by omega, fun k hk => by
              have h1 := Kd.zec RN.out k hk
              have h2 := Kd.R_lt RN.out k hk
              have h3 : (w1.drewN q2).heap.size = w1.heap.size := rfl
              omega⟩)
            have BKn := zbq (zh8 w3 (.cells #[.slice NX l0.length cn] 33)) B4.out
            have BEL : Below w.heap.size w w4 := zk (zb1 (zk (zb6 HB.out _) B3.out) _) B4.out
            have GW := za.mk (show FrW w4.heap.size w l0.length gs gn go A0 NX c0 cn capO (List.replicate l0.length 0) (List.replicate 120 []) w4 from ⟨by
                rw [hgs]
                have c1 : (w1.drewN q2).cell? ⟨w.heap.size, 0, none⟩ = some (.slice A0 l0.length c0) := cs1
                have c3 := (B3.out.cell (World.block_lt_of_cell? _ _ c1)).trans c1
                have c3' := ((zb1 (Below.refl w3.heap.size w3) (.cells #[.slice NX l0.length cn] 33)).cell (World.block_lt_of_cell? _ _ c3)).trans c3
                exact (B4.out.cell (World.block_lt_of_cell? _ _ c3')).trans c3',
              by rw [hgn]; exact (zf BKn 0).trans rfl,
              Kd.zf1 rfl (Kd.zcr (Kd.zb9 (Kd.zd6 RN.out _) B4.out) (by show w.heap.size ≤ w1.heap.size; omega)),
              Kd.zdm (Kd.zdt (Kd.zet RO.out) (fun k hk => by
                have h1 := hk.2.1
                refine ⟨⟨by omega, by omega, fun e => ?_⟩, hk.2.2.1⟩
                have h2 := Kd.R_lt RN.out k e.symm
                omega)) (by omega), BEL⟩)
            clear BKn BEL s1 s2 s4 s4'
            clear RO RN B4 B3 HB cs1 CS1 HS1
            rw [← hgs, ← hgn]
            clear hgn hgs
            go_wp2
            go_loopg [27] 120 (fun gg v27 wr => ∃ (j : Nat) (nx : List Int) (rows : List (List Int)), v27 = .int .i64 j ∧ j ≤ 120 ∧ 120 - j ≤ gg ∧ nx.length = l0.length ∧ za (zbg.l0 k l0 a1 (120 - j) j nx rows = some r) ∧ za (FrW wr.heap.size w l0.length gs gn go A0 NX c0 cn capO nx rows wr))
            case atStart => exact ⟨0, _, _, by go_num, by omega, by omega, List.length_replicate, H, GW⟩
            case round =>
              obtain ⟨j, nx, rows, rfl, hj, hgg, hnl, HL, GR⟩ := hrel
              clear GW H
              by_cases hj2 : j < 120
              · have hjz : (j : Int) < 120 := by omega
                have hL := HL.out
                rw [show 120 - j = (120 - (j + 1)) + 1 by omega, zbg.l0] at hL
                clear HL
                by_cases hok : fokb k l0 nx (zdh l0 nx (j : Int) l0.length) = true
                · rw [if_pos hok] at hL
                  have HL := za.mk hL
                  have HOK := za.mk (fokb_iff.1 hok)
                  have HNL := za.mk hnl
                  clear hL hok hnl
                  have cgs := GR.out.s0
                  generalize wr = w6 at GR cgs ⊢
                  go_wp2
                  go_loopg [8, 32] l0.length (fun gg v8 v32 wr => ∃ i : Nat, v32 = .int .i64 i ∧ i ≤ l0.length ∧ l0.length - i ≤ gg ∧ za (Kd.R (Kd.int .i64) 3 wr w6.heap.size (fun _ => True) v8 (zdh l0 nx (j : Int) i)) ∧ za (Below w6.heap.size w6 wr))
                  case atStart => exact ⟨0, by go_num, Nat.zero_le _, by omega, ⟨Kd.R_nil _ _ _ _ _⟩, ⟨Below.refl _ _⟩⟩
                  case round =>
                    obtain ⟨i, rfl, hil, hgi, RP, BP⟩ := hrel
                    by_cases hlt : i < l0.length
                    · have hltz : (i : Int) < (l0.length : Int) := by omega
                      have GI := za.mk (GR.out.below BP.out)
                      obtain ⟨ad, ea, hx0, hx1, hx2⟩ := zcc (Kd.zcf HR.out GI.out.bel) (i : Int) (by omega) hltz
                      subst ea
                      obtain ⟨ax, eax, hz⟩ := Kd.zcb (Kd.zbm GI.out.nR).2.2 (i : Int) (by omega) (by rw [HNL.out]; exact hltz)
                      subst eax
                      rw [Int.toNat_natCast] at hx0 hx1 hx2 hz
                      obtain ⟨⟨x1, x2⟩, hwi⟩ : ∃ p, fwin l0 nx (i : Int) = p := ⟨_, rfl⟩
                      have HWI := za.mk (show zbk.f (zb l0 (i : Int)).f0 (zb l0 (i : Int)).f1 (zb l0 (i : Int)).f2 (rd nx (i : Int)) = some (x1, x2) by rw [fwin_some HE.out nx i hlt, hwi])
                      have BKt := zh8 wr (.cells #[.int .i64 (zb l0 (i : Int)).f0, .int .i64 (zb l0 (i : Int)).f1, .int .i64 (zb l0 (i : Int)).f2] 35)
                      have RA := za.mk (Kd.zd6 RP.out (.cells #[.int .i64 (zb l0 (i : Int)).f0, .int .i64 (zb l0 (i : Int)).f1, .int .i64 (zb l0 (i : Int)).f2] 35))
                      have BA := za.mk (zb1 BP.out (.cells #[.int .i64 (zb l0 (i : Int)).f0, .int .i64 (zb l0 (i : Int)).f1, .int .i64 (zb l0 (i : Int)).f2] 35))
                      have GA := GI.out.below (zb1 (Below.refl wr.heap.size wr) (.cells #[.int .i64 (zb l0 (i : Int)).f0, .int .i64 (zb l0 (i : Int)).f1, .int .i64 (zb l0 (i : Int)).f2] 35))
                      have cx := ((zb1 (Below.refl wr.heap.size wr) (.cells #[.int .i64 (zb l0 (i : Int)).f0, .int .i64 (zb l0 (i : Int)).f1, .int .i64 (zb l0 (i : Int)).f2] 35)).cell (World.block_lt_of_cell? _ _ hz)).trans hz
                      have ct0 := (zf BKt 0).trans rfl
                      have ct1 := (zf BKt 1).trans rfl
                      have ct2 := (zf BKt 2).trans rfl
                      have cgn := GA.n0
                      have HWF := za.mk hwi
                      have hlp := zhv l0 nx (j : Int) i
                      have hN := HN.out
                      have HLP := za.mk hlp
                      clear hwi hlp BKt
                      go_wp2_with fail
                      have hfld : ∀ (A B : Value) (W : World), (Instr.field 39 (.agg #[A, B]) 0).run Try.prog W = .ok A W := fun _ _ _ => rfl
                      have hip : (0 : Int) ≤ (i : Int) := by omega
                      refine zca (n := 9) (S := fun w' => w'.cell? ⟨wr.heap.size, 0, none⟩ = some (.int .i64 (zb l0 (i : Int)).f0) ∧ w'.cell? ⟨wr.heap.size, 1, none⟩ = some (.int .i64 (zb l0 (i : Int)).f1) ∧ w'.cell? ⟨wr.heap.size, 2, none⟩ = some (.int .i64 (zb l0 (i : Int)).f2) ∧ w'.cell? ⟨gn, 0, none⟩ = some (.slice (some ax) l0.length cn) ∧ w'.cell? (ax.add i) = some (.int .i64 (rd nx (i : Int)))) (ds := []) #[false, false, false, false, false, false, false, false, false] (by kernel_rfl) rfl rfl ⟨ct0, ct1, ct2, cgn, cx⟩ (fun hHeld => ?_); refine zbu zbg.tab12 zbg.bits12 (fun HT_ HW_ => ?_)
                      refine zl (i := 2) (N := some 39) (v := ?_) (a' := ?_) #[false, false, true, false, false, false, false, false, false] rfl rfl (ze HT_.out (by kernel_rfl)) (fun _ _ _ h => h) (Or.inl ⟨by rfl, ?_⟩) ?_ ?_
                      rotate_left
                      · intro w'
                        go_simp
                        with_reducible rfl
                      rotate_left
                      · simp only [Act.put, List.setIfInBounds_toArray, List.set_cons_zero, List.set_cons_succ, zg, zh]
                        rfl
                      refine zl (i := 7) (N := some 44) (v := ?_) (a' := ?_) #[false, false, true, false, false, false, false, true, false] rfl rfl (ze HT_.out (by kernel_rfl)) (fun _ _ _ h => h) (Or.inl ⟨by rfl, ?_⟩) ?_ ?_
                      rotate_left
                      · intro w'
                        go_simp
                        with_reducible rfl
                      rotate_left
                      · simp only [Act.put, List.setIfInBounds_toArray, List.set_cons_zero, List.set_cons_succ, zg, zh]
                        rfl
                      refine zby (i := 0) (N := some 37) (v := ?_) (a' := ?_) #[true, false, true, false, false, false, false, true, false] rfl rfl (z8 HT_.out HW_.out (by kernel_rfl)) (fun _ _ _ h => h) (Or.inl ⟨by rfl, ?_⟩) hHeld ?_ ?_
                      rotate_left
                      · rintro w' ⟨s0, s1, s2, s3, s4⟩
                        go_simp
                        with_reducible rfl
                      rotate_left
                      · simp only [Act.put, List.setIfInBounds_toArray, List.set_cons_zero, List.set_cons_succ, zg, zh]
                        rfl
                      refine zby (i := 1) (N := some 38) (v := ?_) (a' := ?_) #[true, true, true, false, false, false, false, true, false] rfl rfl (z8 HT_.out HW_.out (by kernel_rfl)) (fun _ _ _ h => h) (Or.inl ⟨by rfl, ?_⟩) hHeld ?_ ?_
                      rotate_left
                      · rintro w' ⟨s0, s1, s2, s3, s4⟩
                        go_simp
                        with_reducible rfl
                      rotate_left
                      · simp only [Act.put, List.setIfInBounds_toArray, List.set_cons_zero, List.set_cons_succ, zg, zh]
                        rfl
                      refine zl (i := 3) (N := some 40) (v := ?_) (a' := ?_) #[true, true, true, true, false, false, false, true, false] rfl rfl (ze HT_.out (by kernel_rfl)) (fun _ _ _ h => h) (Or.inl ⟨by rfl, ?_⟩) ?_ ?_
                      rotate_left
                      · intro w'
                        go_simp
                        with_reducible rfl
                      rotate_left
                      · simp only [Act.put, List.setIfInBounds_toArray, List.set_cons_zero, List.set_cons_succ, zg, zh]
                        rfl
                      refine zby (i := 4) (N := some 41) (v := ?_) (a' := ?_) #[true, true, true, true, true, false, false, true, false] rfl rfl (z8 HT_.out HW_.out (by kernel_rfl)) (fun _ _ _ h => h) (Or.inl ⟨by rfl, ?_⟩) hHeld ?_ ?_
                      rotate_left
                      · rintro w' ⟨s0, s1, s2, s3, s4⟩
                        go_simp
                        with_reducible rfl
                      rotate_left
                      · simp only [Act.put, List.setIfInBounds_toArray, List.set_cons_zero, List.set_cons_succ, zg, zh]
                        rfl
                      refine one_ (i := 5) (N := some 42) #[true, true, true, true, true, true, false, true, false] rfl rfl (zb2 HT_.out (by kernel_rfl)) (by decide) (fun K hK => ?_)
                      refine zce Try.func30 (by kernel_rfl) rfl #[.agg #[.int .i64 (zb l0 (i : Int)).f0, .int .i64 (zb l0 (i : Int)).f1, .int .i64 (zb l0 (i : Int)).f2], .int .i64 (rd nx (i : Int))] (by rfl) rfl rfl (by (try simp only [List.map_toArray, List.map_cons, List.map_nil]); first | done | rfl) ?_
                      refine (zbk.calls _ _ _ _ x1 x2 _ HWI.out).mono ?_
                      rintro e w7 ⟨rfl, hb7⟩
                      refine ⟨_, rfl, ?_⟩
                      have R7 := za.mk (Kd.zb9 (Kd.zdd RA.out) hb7)
                      have B7 := za.mk (zk (zbe BA.out) hb7)
                      refine hK.out _ _ ⟨(hb7.cell (World.block_lt_of_cell? _ _ ct0)).trans ct0, (hb7.cell (World.block_lt_of_cell? _ _ ct1)).trans ct1, (hb7.cell (World.block_lt_of_cell? _ _ ct2)).trans ct2, (hb7.cell (World.block_lt_of_cell? _ _ cgn)).trans cgn, (hb7.cell (World.block_lt_of_cell? _ _ cx)).trans cx⟩ (fun hHeld => ?_)
                      clear hK K
                      refine zcd (a' := ?_) ?_ ?_
                      rotate_left
                      · show Act.put _ (some 42) _ = _
                        simp only [Act.put, List.setIfInBounds_toArray, List.set_cons_zero, List.set_cons_succ, zg, zh]
                        rfl
                      refine zl (i := 6) (N := some 43) (v := ?_) (a' := ?_) #[true, true, true, true, true, true, true, true, false] rfl rfl (ze HT_.out (by kernel_rfl)) (fun _ _ _ h => h) (Or.inl ⟨by rfl, ?_⟩) ?_ ?_
                      rotate_left
                      · intro w'
                        go_simp
                        with_reducible rfl
                      rotate_left
                      · simp only [Act.put, List.setIfInBounds_toArray, List.set_cons_zero, List.set_cons_succ, zg, zh]
                        rfl
                      refine zl (i := 8) (N := some 45) (v := ?_) (a' := ?_) #[true, true, true, true, true, true, true, true, true] rfl rfl (ze HT_.out (by kernel_rfl)) (fun _ _ _ h => h) (Or.inl ⟨by rfl, ?_⟩) ?_ ?_
                      rotate_left
                      · intro w'
                        go_simp
                        with_reducible rfl
                      rotate_left
                      · simp only [Act.put, List.setIfInBounds_toArray, List.set_cons_zero, List.set_cons_succ, zg, zh]
                        rfl
                      refine zcn (zb3 HT_.out (by kernel_rfl)) ?_
                      obtain ⟨P, cp, eP⟩ := Kd.zch R7.out
                      by_cases hle : x1 ≤ (j : Int)
                      · have hleb : decide (x1 ≤ (j : Int)) = true := decide_eq_true hle
                        have PK := za.mk (show zdh l0 nx (j : Int) (i + 1) = zdh l0 nx (j : Int) i ++ [(i : Int)] by rw [zdh, HWF.out, if_pos hle])
                        subst eP
                        go_wp2_with ((with_reducible refine zd0 (b := .append) (xs := #[.tmp 46, .tmp 48]) rfl ?_); at_builtin; refine Kd.zg0 (Kd.int .i64) (w0 := w6) w6.heap.size rfl (.tmp 46) (.tmp 48) 33 3 (.int .i64 0) 8 rfl Try.underlying33 info3 rfl (by decide) (by omega) (.slice P (zdh l0 nx (j : Int) i).length cp) (zdh l0 nx (j : Int) i) (i : Int) [.int .i64 (i : Int)] (fun _ => True) (fun _ => False) rfl rfl ?aP (fun _ hk => hk.elim) ?aF ?aO ?aB ?aS ?aL ?_; (case aP => exact rfl); (case aB => exact B7.out); (case aF => exact (fun _ _ => trivial)); (case aO => exact R7.out); (case aS => exact B7.out.size); (case aL => have := HLP.out; omega); intro v8 w8 ho hb hg hat; have R8 := za.mk ho; have B8 := za.mk hb; clear ho hb hg hat)
                        go_roundg (l0.length - (i + 1))
                        case measure => omega
                        case rel => exact ⟨i + 1, by go_num, by omega, by omega, ⟨by rw [PK.out]; exact R8.out⟩, B8⟩
                      · have hleb : decide (x1 ≤ (j : Int)) = false := decide_eq_false hle
                        have PK := za.mk (show zdh l0 nx (j : Int) (i + 1) = zdh l0 nx (j : Int) i by rw [zdh, HWF.out, if_neg hle])
                        subst eP
                        go_wp2
                        go_roundg (l0.length - (i + 1))
                        case measure => omega
                        case rel => exact ⟨i + 1, by go_num, by omega, by omega, ⟨by rw [PK.out]; exact R7.out⟩, B7⟩
                    · have hltz : ¬ (i : Int) < (l0.length : Int) := by omega
                      obtain rfl : i = l0.length := by omega
                      obtain ⟨P, cp, eP⟩ := Kd.zch RP.out
                      subst eP
                      have LSM := za.mk (flist_mem l0 nx (j : Int) l0.length)
                      have LSL := za.mk (zhv l0 nx (j : Int) l0.length)
                      have hrow : frow k l0 nx (j : Int) a1 = (zda (fcmp k l0 nx) (zdh l0 nx (j : Int) l0.length)).take (min a1 ((zda (fcmp k l0 nx) (zdh l0 nx (j : Int) l0.length)).length : Int)).toNat := rfl
                      obtain ⟨row, hrw⟩ : ∃ row, frow k l0 nx (j : Int) a1 = row := ⟨_, rfl⟩
                      rw [hrw] at HL hrow
                      obtain ⟨ls, hls⟩ : ∃ ls, zdh l0 nx (j : Int) l0.length = ls := ⟨_, rfl⟩
                      rw [hls] at RP HOK LSM LSL hrow
                      rw [hls]
                      have HROW := za.mk hrow
                      have W6S := za.mk BP.out.size
                      clear hls hrow hrw
                      have hN := HN.out
                      have hll := LSL.out
                      go_wp2_with (go_at_call 31; refine (zfg (fcmp k l0 nx) 32 #[.pointer (some ⟨gs, 0, none⟩), .pointer (some ⟨gn, 0, none⟩)] (enters_of Try.func32 (by kernel_rfl) rfl) w6.heap.size (fun _ => True) P cp ls _ (fun x => x ∈ ls) (fun x hx => hx) ?_ RP.out (by omega) W6S.out).mono ?_)
                      · intro W x y hx hy hW
                        have GQ := GR.out.below (zdf BP.out (Nat.le_refl _) hW)
                        have hx1 := LSM.out x hx
                        have hy1 := LSM.out y hy
                        have hnl := HNL.out
                        exact zgm k gs gn A0 NX c0 cn l0 nx x y (fcmp k l0 nx x y) W GQ.s0 (by rw [hnl]; exact GQ.n0) (Kd.zcf HR.out GQ.bel) (Kd.zbm GQ.nR).2.2 ⟨hx1.1, hx1.2, by omega⟩ ⟨hy1.1, hy1.2, by omega⟩ (HOK.out x hx y hy)
                      · rintro e w8 rfl hr3 hb3
                        simp only
                        have HR3 := za.mk hr3
                        have HB3 := za.mk (zdf BP.out (Nat.le_refl _) hb3)
                        clear hr3 hb3 RP BP
                        have hcp : ls.length ≤ cp := by have := (Kd.zbm HR3.out).2.1; exact this
                        obtain ⟨q, hq⟩ : ∃ q : Nat, (q : Int) = min a1 (ls.length : Int) := ⟨(min a1 (ls.length : Int)).toNat, by omega⟩
                        have hmn : (if (ls.length : Int) < a1 then (ls.length : Int) else a1) = (q : Int) := by split <;> omega
                        have hq0 : (0 : Int) ≤ (q : Int) := by omega
                        have hq1 : (q : Int) ≤ (cp : Int) := by omega
                        have HROW2 := za.mk (show row = (zda (fcmp k l0 nx) ls).take q by rw [HROW.out, zd2, ← hq, Int.toNat_natCast])
                        have HQ := za.mk (show q ≤ (zda (fcmp k l0 nx) ls).length by rw [zd2]; omega)
                        clear hq
                        have HC8 := za.mk (show Calls Try.prog 34 #[.slice P q cp] w8 (fun e w' => ∃ v : Value, e = .returned v ∧ Kd.Qc (Kd.int .i64) 3 w' w8.heap.size (fun _ => True) v row ∧ Below w8.heap.size w8 w') from by
                          have hrl : row.length = q := by rw [HROW2.out, List.length_take]; have := HQ.out; omega
                          have h1 := zii P cp row (by have := HQ.out; rw [zd2] at this; omega) w8 (by rw [HROW2.out]; exact Kd.C_take (Kd.zbm HR3.out).2.2 HQ.out)
                          rw [hrl] at h1
                          exact h1)
                        go_wp2_with (go_at_call 34; refine HC8.out.mono ?_; rintro e w9 ⟨v9, rfl, h9, hb9⟩; obtain ⟨X, cx, eX⟩ := Kd.zfo h9; subst eX; have R9 := za.mk h9; have B9 := za.mk hb9; clear h9 hb9)
                        have GLT := za.mk (show gs < w6.heap.size ∧ gn < w6.heap.size ∧ (∀ k, (Value.slice NX l0.length cn).ownBlock = some k → k < w6.heap.size) ∧ go < w6.heap.size from ⟨World.block_lt_of_cell? _ _ GR.out.s0, World.block_lt_of_cell? _ _ GR.out.n0, fun k hk => Kd.R_lt GR.out.nR k hk, Kd.S_lt GR.out.oR go rfl⟩)
                        have G9 := za.mk (GR.out.bump.below (zk HB3.out B9.out))
                        have hs8 : w6.heap.size ≤ w8.heap.size := HB3.out.size
                        have RR := za.mk (show Kd.Qc (Kd.int .i64) 3 w9 w.heap.size (fun k => w6.heap.size ≤ k) (.slice X row.length cx) row from Kd.Qc_lower (Kd.zf7 (Kd.Qc_bnd R9.out) (fun k hk => by have := hk.2.1; omega)) (by have := GR.out.bel.size; omega))
                        have RMEM := za.mk (show ∀ x ∈ row, 0 ≤ x ∧ x < (l0.length : Int) from fun x hx => by rw [HROW2.out] at hx; exact LSM.out x (isort_mem _ _ x (List.mem_of_mem_take hx)))
                        have HRL := za.mk (show row.length ≤ 20 by rw [HROW2.out, List.length_take, zd2]; omega)
                        clear R9 B9 HC8 HR3 HB3 hq0 hq1 hmn hcp hs8 HROW2 HQ HROW hltz
                        have hrl20 := HRL.out
                        go_loopg [63] row.length (fun gg v63 wr => ∃ p : Nat, v63 = .int .i64 p ∧ p ≤ row.length ∧ row.length - p ≤ gg ∧ za (FrW w6.heap.size w l0.length gs gn go A0 NX c0 cn capO (fadv nx (row.take p)) rows wr) ∧ za (Kd.Qc (Kd.int .i64) 3 wr w.heap.size (fun k => w6.heap.size ≤ k) (.slice X row.length cx) row))
                        case atStart => exact ⟨0, by go_num, Nat.zero_le _, by omega, G9, RR⟩
                        case round =>
                          obtain ⟨p, rfl, hp, hgp, GJ, RJ⟩ := hrel
                          clear G9 RR
                          by_cases hlt : p < row.length
                          · have hltz : (p : Int) < (row.length : Int) := by omega
                            obtain ⟨adp, eap, hxp⟩ := Kd.zcb (Kd.Qc_reads' RJ.out).2.2 (p : Int) (by omega) hltz
                            subst eap
                            rw [Int.toNat_natCast] at hxp
                            have hra : rd row (p : Int) = row[p] := by rw [rd, List.getD_eq_getElem?_getD, Int.toNat_natCast, List.getElem?_eq_getElem hlt]; rfl
                            have hrm := RMEM.out row[p] (List.getElem_mem hlt)
                            obtain ⟨a, ha⟩ : ∃ a : Nat, row[p] = (a : Int) := ⟨row[p].toNat, by omega⟩
                            rw [ha] at hrm hra
                            rw [hra] at hxp
                            have haz : (a : Int) < (l0.length : Int) := hrm.2
                            have hfl : (fadv nx (row.take p)).length = l0.length := by rw [ze8, HNL.out]
                            obtain ⟨gN, capN, eN, _⟩ := Kd.zfu GJ.out.nR (by rw [hfl]; omega)
                            injection eN with eN1 eN2 eN3
                            subst eN1
                            clear eN2 eN3
                            obtain ⟨cur, hcur⟩ : ∃ cur, fadv nx (row.take p) = cur := ⟨_, rfl⟩
                            rw [hcur] at GJ hfl
                            obtain ⟨x, hx⟩ : ∃ x, rd cur (a : Int) = x := ⟨_, rfl⟩
                            have hstep : fadv nx (row.take (p + 1)) = cur.set a (wrap64 (x + 1)) := by
                              unfold fadv at hcur ⊢
                              rw [List.take_succ_eq_append_getElem hlt, List.foldl_append, hcur, ha]
                              show cur.set (a : Int).toNat (wrap64 (rd cur (a : Int) + 1)) = _
                              rw [hx, Int.toNat_natCast]
                            have cn0 := GJ.out.n0
                            obtain ⟨cd, fd⟩ := Kd.zfe 0 GJ.out.nR (a : Int) (by omega) haz
                            rw [Int.toNat_natCast] at cd fd
                            rw [show rdOf 0 cur (a : Int) = x from hx] at cd
                            have G7 := za.mk (GJ.out.setNx NE.out a (wrap64 (x + 1)))
                            have R7 := za.mk (Kd.Qc_far (p := ⟨gN, a, none⟩) RJ.out (fun k hk e => by have := GLT.out.2.2.1 gN rfl; simp only at e; omega) (.int .i64 (wrap64 (x + 1))))
                            have HST := za.mk hstep
                            clear hstep hx hcur ha hra hrm hfl
                            have ha0 : (0 : Int) ≤ (a : Int) := by omega
                            go_wp2
                            go_roundg (row.length - (p + 1))
                            case measure => omega
                            case rel => exact ⟨p + 1, by go_num, by omega, by omega, ⟨by rw [HST.out]; exact G7.out⟩, R7⟩
                          · have hltz : ¬ (p : Int) < (row.length : Int) := by omega
                            obtain rfl : p = row.length := by omega
                            rw [List.take_length] at GJ
                            obtain ⟨c, hcl, _, hcc, hff⟩ := Kd.zer (Kd.S_R GJ.out.oR) ([] : List Int) (j : Int) (by omega) (by omega)
                            have h1 : c.length = 1 := hcl
                            have cO := hcc 0 (c[0]'(by omega)) (List.getElem?_eq_getElem (by omega))
                            have fO := hff 0
                            rw [show (Kd.cut 3 (Kd.int .i64)).sz = 1 from rfl, Nat.mul_one, Nat.add_zero, Int.toNat_natCast] at cO fO
                            generalize c[0]'(by omega) = cOld at cO
                            have G8 := za.mk (GJ.out.setOut hj2 RJ.out (fun k hk => by
                              have h2 := GLT.out
                              refine ⟨by omega, by omega, fun e => ?_, by omega, hk⟩
                              have := h2.2.2.1 k e.symm
                              omega))
                            clear hcl hcc hff h1
                            go_wp2
                            go_roundg (120 - (j + 1))
                            case measure => omega
                            case rel => exact ⟨j + 1, _, _, by go_num, by omega, by omega, by rw [ze8, HNL.out], HL, G8⟩
                · rw [if_neg hok] at hL
                  cases hL
              · have hjz : ¬ (j : Int) < 120 := by omega
                obtain rfl : j = 120 := by omega
                have hL := HL.out
                rw [show 120 - 120 = 0 from rfl, zbg.l0] at hL
                obtain rfl := Option.some.inj hL
                clear HL hL
                go_wp2
                go_ret
                exact ⟨_, rfl, Kd.zdt GR.out.oR (fun _ _ => trivial), GR.out.bel⟩
          · rw [if_neg hh] at h
            simp at h
def zb8.f (a0 : Int) (a1 : Int) (a2 : Int) : Option (Bool) := if a0 ≥ a1 then (some (decide (a0 ≤ a2))) else (some false)
set_option maxHeartbeats 8000000 in
theorem zb8.calls (a0 : Int) (a1 : Int) (a2 : Int) (r : Bool) (w : World) (h : zb8.f a0 a1 a2 = some r) :
  Calls Try.prog 37 #[.int .i64 a0, .int .i64 a1, .int .i64 a2] w fun e w' => e = .returned (.bool r) ∧ zbl w w' := by
 have H : (if a0 ≥ a1 then (some (decide (a0 ≤ a2))) else (some false)) = some r := h
 clear h
 by_cases c4 : a0 ≥ a1
 ·rw [if_pos c4] at H
  have c4b0 : decide (a1 ≤ a0) = true := decide_eq_true c4;clear c4;obtain rfl := Option.some.inj H;go_enter Try.func37, Try.ntmps37;go_wp2;go_ret;exact ⟨by first | rfl | (simp; done) | (simp [*]; done), by repeat (first | exact zbl.refl _ | apply zbl.step)⟩
 ·rw [if_neg c4] at H
  have c4b0 : decide (a1 ≤ a0) = false := decide_eq_false c4;clear c4;obtain rfl := Option.some.inj H;go_enter Try.func37, Try.ntmps37;go_wp2;go_ret;exact ⟨by first | rfl | (simp; done) | (simp [*]; done), by repeat (first | exact zbl.refl _ | apply zbl.step)⟩
def zcq.f (a0_0 : Int) (a0_1 : Int) (a0_2 : Int) : Option (Bool) := (zb8.f a0_0 1 8).bind fun t266 => (if t266 = true then ((zb8.f a0_1 a0_0 a0_2).bind fun t267 => (if t267 = true then ((zb8.f a0_2 1 12).bind fun t268 => (some t268)) else (some false))) else (some false))
set_option maxHeartbeats 8000000 in
theorem zcq.calls (a0_0 : Int) (a0_1 : Int) (a0_2 : Int) (r : Bool) (w : World) (h : zcq.f a0_0 a0_1 a0_2 = some r) :
  Calls Try.prog 63 #[.agg #[.int .i64 a0_0, .int .i64 a0_1, .int .i64 a0_2]] w fun e w' => e = .returned (.bool r) ∧ Below w.heap.size w w' := by
 have hu35 := Try.underlying35
 have HB := za.mk (Below.refl w.heap.size w)
 have H : ((zb8.f a0_0 1 8).bind fun t266 => (if t266 = true then ((zb8.f a0_1 a0_0 a0_2).bind fun t267 => (if t267 = true then ((zb8.f a0_2 1 12).bind fun t268 => (some t268)) else (some false))) else (some false))) = some r := h
 clear h
 replace H := Option.bind_eq_some_iff.mp H
 obtain ⟨t266, A20, H⟩ := H
 replace H : (if t266 = true then ((zb8.f a0_1 a0_0 a0_2).bind fun t267 => (if t267 = true then ((zb8.f a0_2 1 12).bind fun t268 => (some t268)) else (some false))) else (some false)) = some r := H
 have A2 := za.mk A20
 clear A20
 by_cases c3 : t266 = true
 ·subst c3
  have H1 : ((zb8.f a0_1 a0_0 a0_2).bind fun t267 => (if t267 = true then ((zb8.f a0_2 1 12).bind fun t268 => (some t268)) else (some false))) = some r := by rw [if_pos rfl] at H; exact H
  clear H;have H := H1;clear H1;replace H := Option.bind_eq_some_iff.mp H;obtain ⟨t267, A40, H⟩ := H;replace H : (if t267 = true then ((zb8.f a0_2 1 12).bind fun t268 => (some t268)) else (some false)) = some r := H;have A4 := za.mk A40;clear A40;by_cases c5 : t267 = true
  ·subst c5
   have H1 : ((zb8.f a0_2 1 12).bind fun t268 => (some t268)) = some r := by rw [if_pos rfl] at H; exact H
   clear H;have H := H1;clear H1;replace H := Option.bind_eq_some_iff.mp H;obtain ⟨t268, A60, H⟩ := H;replace H : (some t268) = some r := H;have A6 := za.mk A60;clear A60;obtain rfl := Option.some.inj H;go_enter Try.func63, Try.ntmps63;go_wp2_with (first | ((with_reducible refine zbw (N := 1) rfl ?_); refine zbv ?hg (N := 1) ?hd (cs := #[.int .i64 a0_0, .int .i64 a0_1, .int .i64 a0_2]) (t := 35) ?hr ?_; (case hd => rfl); (case hg => rfl); (case hr => first | (go_simp; done) | (go_simp; rfl)); intro gb265 hg w7 hbox hb; have n0_ := za.mk (zk (Zq0 HB) hb); have n1_ := za.mk (hbox); have n2_ := za.mk ((by rw [hg]; exact (zu (Zq0 HB)) : w.heap.size ≤ gb265)); have n3_ := za.mk ((by rw [hg]; exact (zu (Zq0 HB)) : w.heap.size ≤ gb265)); clear HB; have HB := n0_; have BK265 := n1_; have GW265 := n2_; have GE265 := n3_; clear n0_ n1_ n2_ n3_; clear hb hbox hg; have hcz8_0 : w7.cell? ⟨gb265, 0, none⟩ = some (.int .i64 a0_0) := (zf BK265.out 0).trans rfl; have hcz8_1 : w7.cell? ⟨gb265, 1, none⟩ = some (.int .i64 a0_1) := (zf BK265.out 1).trans rfl; have hcz8_2 : w7.cell? ⟨gb265, 2, none⟩ = some (.int .i64 a0_2) := (zf BK265.out 2).trans rfl; have hfz8_0 := zm BK265.out 0; have hfz8_1 := zm BK265.out 1; have hfz8_2 := zm BK265.out 2) | ((with_reducible refine zt (f := 37) rfl ?_); refine zbt (some 5) rfl rfl Try.func37 (by kernel_rfl) rfl #[.int .i64 a0_0, .int .i64 1, .int .i64 8] rfl Zmt ?_; (with_reducible refine (zb8.calls a0_0 1 8 true _ A2.out).mono ?_); rintro e w' ⟨rfl, ⟨nd, rfl⟩⟩; refine ⟨_, rfl, ?_⟩) | (go_at_call 37; (with_reducible refine (zb8.calls a0_1 a0_0 a0_2 true _ A4.out).mono ?_); rintro e w' ⟨rfl, ⟨nd, rfl⟩⟩) | (go_at_call 37; (with_reducible refine (zb8.calls a0_2 1 12 t268 _ A6.out).mono ?_); rintro e w' ⟨rfl, ⟨nd, rfl⟩⟩));go_ret;exact ⟨by first | rfl | (simp [zn, zo] <;> rfl) | (simp [*, zn, zo] <;> rfl), Zq1 HB GE265⟩
  ·replace c5 := Bool.eq_false_iff.mpr c5
   subst c5;have H1 : (some false) = some r := by rw [if_neg (show ¬ (false = true) by decide)] at H; exact H
   clear H;have H := H1;clear H1;obtain rfl := Option.some.inj H;go_enter Try.func63, Try.ntmps63;go_wp2_with (first | ((with_reducible refine zbw (N := 1) rfl ?_); refine zbv ?hg (N := 1) ?hd (cs := #[.int .i64 a0_0, .int .i64 a0_1, .int .i64 a0_2]) (t := 35) ?hr ?_; (case hd => rfl); (case hg => rfl); (case hr => first | (go_simp; done) | (go_simp; rfl)); intro gb265 hg w9 hbox hb; have n0_ := za.mk (zk (Zq0 HB) hb); have n1_ := za.mk (hbox); have n2_ := za.mk ((by rw [hg]; exact (zu (Zq0 HB)) : w.heap.size ≤ gb265)); have n3_ := za.mk ((by rw [hg]; exact (zu (Zq0 HB)) : w.heap.size ≤ gb265)); clear HB; have HB := n0_; have BK265 := n1_; have GW265 := n2_; have GE265 := n3_; clear n0_ n1_ n2_ n3_; clear hb hbox hg; have hcz10_0 : w9.cell? ⟨gb265, 0, none⟩ = some (.int .i64 a0_0) := (zf BK265.out 0).trans rfl; have hcz10_1 : w9.cell? ⟨gb265, 1, none⟩ = some (.int .i64 a0_1) := (zf BK265.out 1).trans rfl; have hcz10_2 : w9.cell? ⟨gb265, 2, none⟩ = some (.int .i64 a0_2) := (zf BK265.out 2).trans rfl; have hfz10_0 := zm BK265.out 0; have hfz10_1 := zm BK265.out 1; have hfz10_2 := zm BK265.out 2) | ((with_reducible refine zt (f := 37) rfl ?_); refine zbt (some 5) rfl rfl Try.func37 (by kernel_rfl) rfl #[.int .i64 a0_0, .int .i64 1, .int .i64 8] rfl Zmt ?_; (with_reducible refine (zb8.calls a0_0 1 8 true _ A2.out).mono ?_); rintro e w' ⟨rfl, ⟨nd, rfl⟩⟩; refine ⟨_, rfl, ?_⟩) | (go_at_call 37; (with_reducible refine (zb8.calls a0_1 a0_0 a0_2 false _ A4.out).mono ?_); rintro e w' ⟨rfl, ⟨nd, rfl⟩⟩));go_ret;exact ⟨by first | rfl | (simp [zn, zo] <;> rfl) | (simp [*, zn, zo] <;> rfl), Zq1 HB GE265⟩
 ·replace c3 := Bool.eq_false_iff.mpr c3
  subst c3;have H1 : (some false) = some r := by rw [if_neg (show ¬ (false = true) by decide)] at H; exact H
  clear H;have H := H1;clear H1;obtain rfl := Option.some.inj H;go_enter Try.func63, Try.ntmps63;go_wp2_with (first | ((with_reducible refine zbw (N := 1) rfl ?_); refine zbv ?hg (N := 1) ?hd (cs := #[.int .i64 a0_0, .int .i64 a0_1, .int .i64 a0_2]) (t := 35) ?hr ?_; (case hd => rfl); (case hg => rfl); (case hr => first | (go_simp; done) | (go_simp; rfl)); intro gb265 hg w11 hbox hb; have n0_ := za.mk (zk (Zq0 HB) hb); have n1_ := za.mk (hbox); have n2_ := za.mk ((by rw [hg]; exact (zu (Zq0 HB)) : w.heap.size ≤ gb265)); have n3_ := za.mk ((by rw [hg]; exact (zu (Zq0 HB)) : w.heap.size ≤ gb265)); clear HB; have HB := n0_; have BK265 := n1_; have GW265 := n2_; have GE265 := n3_; clear n0_ n1_ n2_ n3_; clear hb hbox hg; have hcz12_0 : w11.cell? ⟨gb265, 0, none⟩ = some (.int .i64 a0_0) := (zf BK265.out 0).trans rfl; have hcz12_1 : w11.cell? ⟨gb265, 1, none⟩ = some (.int .i64 a0_1) := (zf BK265.out 1).trans rfl; have hcz12_2 : w11.cell? ⟨gb265, 2, none⟩ = some (.int .i64 a0_2) := (zf BK265.out 2).trans rfl; have hfz12_0 := zm BK265.out 0; have hfz12_1 := zm BK265.out 1; have hfz12_2 := zm BK265.out 2) | ((with_reducible refine zt (f := 37) rfl ?_); refine zbt (some 5) rfl rfl Try.func37 (by kernel_rfl) rfl #[.int .i64 a0_0, .int .i64 1, .int .i64 8] rfl Zmt ?_; (with_reducible refine (zb8.calls a0_0 1 8 false _ A2.out).mono ?_); rintro e w' ⟨rfl, ⟨nd, rfl⟩⟩; refine ⟨_, rfl, ?_⟩));go_ret;exact ⟨by first | rfl | (simp [zn, zo] <;> rfl) | (simp [*, zn, zo] <;> rfl), Zq1 HB GE265⟩
theorem Zas {P : Prop} (h : P := by first | (with_reducible assumption) | assumption) : P := h
def zbx.l0 : Nat → List (S35) → Int → Option (Bool)
 | 0, _, _ => none
 | k + 1, x0, x3 => if x3 < (x0.length : Int) then (if 0 ≤ x3 then ((zcq.f ((zb x0 x3).f0) ((zb x0 x3).f1) ((zb x0 x3).f2)).bind fun t270 => (if t270 = true then (zbx.l0 k x0 (wrap64 (x3 + 1))) else (some false))) else (none)) else (some (decide ((x0.length : Int) ≤ 5)))
def zbx.f (k : Nat) (l0 : List (S35)) : Option (Bool) := zbx.l0 k l0 0
set_option maxHeartbeats 8000000 in
theorem zbx.calls (k : Nat) (A0 : Option Addr) (c0 : Nat) (l0 : List (S35)) (r : Bool) (w : World) (hr0 : Kd.C k35 w A0 l0.length l0) (hc0 : l0.length ≤ c0) (h : zbx.f k l0 = some r) :
  Calls Try.prog 36 #[.slice A0 l0.length c0] w fun e w' => e = .returned (.bool r) ∧ Below w.heap.size w w' := by
 have hu35 := Try.underlying35
 have HR0 := za.mk hr0
 have HC0 := za.mk hc0
 clear hr0 hc0
 have HB := za.mk (Below.refl w.heap.size w)
 have H : (zbx.l0 k l0 0) = some r := h
 clear h
 have H' := za.mk H
 clear H
 go_enter Try.func36, Try.ntmps36
 go_wp2
 go_loopg [3] k (fun kq v3 w' => ∃ (x3_1 : Int), v3 = .int .i64 x3_1 ∧ za (zbx.l0 kq l0 x3_1 = some r) ∧ za (kq ≤ k) ∧ za (Below w.heap.size w w'))
 case atStart => exact ⟨(0), Zrs, H', ⟨Nat.le_refl _⟩, ⟨Zq0 HB⟩⟩
 case round =>
  clear H';obtain ⟨x3_1, rfl, HA, HK1, HB⟩ := hrel
  cases gk with
  | zero => exact absurd HA.out (by simp [zbx.l0])
  | succ k1 =>
   have H := HA.out;clear HA;simp only [zbx.l0] at H;by_cases c2 : x3_1 < (l0.length : Int)
   ·rw [if_pos c2] at H
    have c2b0 : decide (x3_1 < (l0.length : Int)) = true := decide_eq_true c2;clear c2;by_cases c3 : 0 ≤ x3_1
    ·rw [if_pos c3] at H
     have c3b0 : decide (0 ≤ x3_1) = true := decide_eq_true c3;clear c3;replace H := Option.bind_eq_some_iff.mp H;obtain ⟨t270, A40, H⟩ := H;replace H : (if t270 = true then (zbx.l0 k1 l0 (wrap64 (x3_1 + 1))) else (some false)) = some r := H;have A4 := za.mk A40;clear A40;by_cases c5 : t270 = true
     ·subst c5
      have H1 : (zbx.l0 k1 l0 (wrap64 (x3_1 + 1))) = some r := by rw [if_pos rfl] at H; exact H
      clear H;have H := H1;clear H1;have H' := za.mk H;clear H;have p269 : 0 ≤ (x3_1 : Int) := of_decide_eq_true Zas;have q269 : x3_1 < (l0.length : Int) := of_decide_eq_true Zas;obtain ⟨ad269, e269, hx269_0, hx269_1, hx269_2⟩ := zcc HR0.out x3_1 p269 q269
      cases e269
      replace hx269_0 := (HB.out.cell (World.block_lt_of_cell? w _ hx269_0)).trans hx269_0;replace hx269_1 := (HB.out.cell (World.block_lt_of_cell? w _ hx269_1)).trans hx269_1;replace hx269_2 := (HB.out.cell (World.block_lt_of_cell? w _ hx269_2)).trans hx269_2;replace p269 := eq_true p269;replace q269 := eq_true q269;go_wp2_with (first | ((with_reducible refine zt (f := 63) rfl ?_); refine zbt (some 14) rfl rfl Try.func63 (by kernel_rfl) rfl #[.agg #[.int .i64 ((zb l0 x3_1).f0), .int .i64 ((zb l0 x3_1).f1), .int .i64 ((zb l0 x3_1).f2)]] rfl Zmt ?_; (with_reducible refine (zcq.calls ((zb l0 x3_1).f0) ((zb l0 x3_1).f1) ((zb l0 x3_1).f2) true _ A4.out).mono ?_); rintro e w6 ⟨rfl, hb⟩; refine ⟨_, rfl, ?_⟩; have n0_ := za.mk (zk (Zq0 HB) hb); clear HB; have HB := n0_; clear n0_; (try clear hb); (try clear hb2); (try clear hk); (try clear hi)));go_roundg k1
      case measure => have := HK1.out; omega
      case rel => exact ⟨(wrap64 (x3_1 + 1)), Zrs, H', ⟨by have := HK1.out; omega⟩, ⟨Zq0 HB⟩⟩
     ·replace c5 := Bool.eq_false_iff.mpr c5
      subst c5;have H1 : (some false) = some r := by rw [if_neg (show ¬ (false = true) by decide)] at H; exact H
      clear H;have H := H1;clear H1;obtain rfl := Option.some.inj H;have p269 : 0 ≤ (x3_1 : Int) := of_decide_eq_true Zas;have q269 : x3_1 < (l0.length : Int) := of_decide_eq_true Zas;obtain ⟨ad269, e269, hx269_0, hx269_1, hx269_2⟩ := zcc HR0.out x3_1 p269 q269
      cases e269
      replace hx269_0 := (HB.out.cell (World.block_lt_of_cell? w _ hx269_0)).trans hx269_0;replace hx269_1 := (HB.out.cell (World.block_lt_of_cell? w _ hx269_1)).trans hx269_1;replace hx269_2 := (HB.out.cell (World.block_lt_of_cell? w _ hx269_2)).trans hx269_2;replace p269 := eq_true p269;replace q269 := eq_true q269;go_wp2_with (first | ((with_reducible refine zt (f := 63) rfl ?_); refine zbt (some 14) rfl rfl Try.func63 (by kernel_rfl) rfl #[.agg #[.int .i64 ((zb l0 x3_1).f0), .int .i64 ((zb l0 x3_1).f1), .int .i64 ((zb l0 x3_1).f2)]] rfl Zmt ?_; (with_reducible refine (zcq.calls ((zb l0 x3_1).f0) ((zb l0 x3_1).f1) ((zb l0 x3_1).f2) false _ A4.out).mono ?_); rintro e w7 ⟨rfl, hb⟩; refine ⟨_, rfl, ?_⟩; have n0_ := za.mk (zk (Zq0 HB) hb); clear HB; have HB := n0_; clear n0_; (try clear hb); (try clear hb2); (try clear hk); (try clear hi)));go_ret;exact ⟨by first | rfl | (simp [zn, zo] <;> rfl) | (simp [*, zn, zo] <;> rfl), Zq0 HB⟩
    ·rw [if_neg c3] at H
     exact absurd H (by simp)
   ·rw [if_neg c2] at H
    have c2b0 : decide (x3_1 < (l0.length : Int)) = false := decide_eq_false c2;clear c2;obtain rfl := Option.some.inj H;go_wp2;go_ret;exact ⟨by first | rfl | (simp [zn, zo] <;> rfl) | (simp [*, zn, zo] <;> rfl), Zq0 HB⟩
def zy.f (a0_0 : Int) (a0_1 : Int) (a0_2 : Int) (a1 : Int) : Option (Int × Int) := if a0_0 = 0 then (none) else (some (wrap64 (Int.tdiv (wrap64 (a1 * a0_2)) a0_0), wrap64 (Int.tdiv (wrap64 ((wrap64 ((wrap64 ((wrap64 (a1 + 1)) * a0_2)) + a0_0)) - 1)) a0_0)))
def zy.T1 : Bool × List (List Nat × List Nat) := (true, [([], []), ([], []), ([1], [1]), ([0, 2], [0, 2]), ([], []), ([4], [4]), ([3, 5], [3, 5]), ([], []), ([7], [7]), ([], []), ([9], [9]), ([8, 10], [8, 10]), ([], []), ([12], [12]), ([11, 13], [11, 13]), ([14], [14]), ([], []), ([16], [16]), ([15, 17], [15, 17]), ([6, 18], [6, 18]), ([19, 0, 1, 2, 3, 4, 5, 6, 7, 8, 9, 10, 11, 12, 13, 14, 15, 16, 17, 18, 19], [19])])
def zy.B1 : List Nat := [0, 0, 2, 7, 0, 16, 63, 0, 128, 0, 512, 1920, 0, 4096, 16256, 32640, 0, 65536, 262016, 524287, 1048575]
theorem zy.tab1 : rtab .any (opsOf Try.f64 1) = zy.T1 := by kernel_rfl
theorem zy.zd8 : zci zy.T1.2 zy.B1 = true := by kernel_rfl
set_option maxHeartbeats 8000000 in
theorem zy.calls (a0_0 : Int) (a0_1 : Int) (a0_2 : Int) (a1 : Int) (r1 : Int) (r2 : Int) (w : World) (h : zy.f a0_0 a0_1 a0_2 a1 = some (r1, r2)) :
  Calls Try.prog 64 #[.agg #[.int .i64 a0_0, .int .i64 a0_1, .int .i64 a0_2], .int .i64 a1] w fun e w' => e = .returned (.agg #[.int .i64 r1, .int .i64 r2]) ∧ Below w.heap.size w w' := by
 have hu35 := Try.underlying35
 have hu39 := Try.underlying39
 have HB := za.mk (Below.refl w.heap.size w)
 have H : (if a0_0 = 0 then (none) else (some (wrap64 (Int.tdiv (wrap64 (a1 * a0_2)) a0_0), wrap64 (Int.tdiv (wrap64 ((wrap64 ((wrap64 ((wrap64 (a1 + 1)) * a0_2)) + a0_0)) - 1)) a0_0)))) = some (r1, r2) := h
 clear h
 by_cases c3 : a0_0 = 0
 ·rw [if_pos c3] at H
  exact absurd H (by simp)
 ·rw [if_neg c3] at H
  have c3b0 : (a0_0 == 0) = false := beq_eq_false_iff_ne.mpr c3;have c3b1 : (a0_0 != 0) = true := bne_iff_ne.mpr c3;simp only [Option.some.injEq, Prod.mk.injEq] at H;obtain ⟨rfl, rfl⟩ := H;go_enter Try.func64, Try.ntmps64
  try go_wp2_with (first | ((with_reducible refine zbw (N := 2) rfl ?_); refine zbv ?hg (N := 2) ?hd (cs := #[.int .i64 a0_0, .int .i64 a0_1, .int .i64 a0_2]) (t := 35) ?hr ?_; (case hd => rfl); (case hg => rfl); (case hr => first | (go_simp; done) | (go_simp; rfl)); intro gb271 hg w4 hbox hb; have n0_ := za.mk (zk (Zq0 HB) hb); have n1_ := za.mk (hbox); have n2_ := za.mk ((by rw [hg]; exact (zu (Zq0 HB)) : w.heap.size ≤ gb271)); have n3_ := za.mk ((by rw [hg]; exact (zu (Zq0 HB)) : w.heap.size ≤ gb271)); clear HB; have HB := n0_; have BK271 := n1_; have GW271 := n2_; have GE271 := n3_; clear n0_ n1_ n2_ n3_; clear hb hbox hg) | ((with_reducible refine zbw (N := 4) rfl ?_); refine zbv ?hg (N := 4) ?hd (cs := #[.int .i64 0, .int .i64 0]) (t := 39) ?hr ?_; (case hd => rfl); (case hg => rfl); (case hr => first | (go_simp; done) | (go_simp; rfl)); intro gb272 hg w5 hbox hb; have n0_ := za.mk (zbq (g := gb271) (o := .cells #[.int .i64 a0_0, .int .i64 a0_1, .int .i64 a0_2] 35 (0, 0)) (Zq3 BK271) hb); have n1_ := za.mk (zk (Zq1 HB GE271) hb); have n2_ := za.mk (hbox); have n3_ := za.mk ((by rw [hg]; exact (zu (Zq1 HB GE271)) : w.heap.size ≤ gb272)); have n4_ := za.mk ((by rw [hg]; exact (zu (Zq1 HB GE271)) : w.heap.size ≤ gb272)); have n5_ := za.mk ((by rw [hg]; exact Nat.ne_of_lt (zcl (g := gb271) (o := .cells #[.int .i64 a0_0, .int .i64 a0_1, .int .i64 a0_2] 35 (0, 0)) (Zq3 BK271)) : gb271 ≠ gb272)); have n6_ := za.mk ((by rw [hg]; exact Nat.ne_of_gt (zcl (g := gb271) (o := .cells #[.int .i64 a0_0, .int .i64 a0_1, .int .i64 a0_2] 35 (0, 0)) (Zq3 BK271)) : gb272 ≠ gb271)); clear BK271; clear HB; have BK271 := n0_; have HB := n1_; have BK272 := n2_; have GW272 := n3_; have GE272 := n4_; have NB271_272 := n5_; have NB272_271 := n6_; clear n0_ n1_ n2_ n3_ n4_ n5_ n6_; clear hb hbox hg))
  have n0_ := za.mk (zbi BK271.out);have n1_ := za.mk (zbi BK272.out);have n2_ := za.mk (zbe HB.out);clear BK271;clear BK272;clear HB;have BK271 := n0_;have BK272 := n1_;have HB := n2_;clear n0_ n1_ n2_;refine zca (n := 21) (S := fun w' => w'.cell? ⟨gb271, 0, none⟩ = some (.int .i64 a0_0) ∧ w'.cell? ⟨gb271, 1, none⟩ = some (.int .i64 a0_1) ∧ w'.cell? ⟨gb271, 2, none⟩ = some (.int .i64 a0_2)) (ds := []) #[false, false, false, false, false, false, false, false, false, false, false, false, false, false, false, false, false, false, false, false, false] (by kernel_rfl) rfl rfl ⟨(zf BK271.out 0).trans rfl, (zf BK271.out 1).trans rfl, (zf BK271.out 2).trans rfl⟩ (fun hHeld => ?_); refine zbu zy.tab1 zy.zd8 (fun HT_ HW_ => ?_);generalize w5.drew = w6 at BK271 BK272 HB hHeld ⊢;refine zl (i := 0) (N := some 5) (v := ?_) (a' := ?_) #[true, false, false, false, false, false, false, false, false, false, false, false, false, false, false, false, false, false, false, false, false] rfl rfl (ze HT_.out (by kernel_rfl)) (fun _ _ _ h => h) (Or.inl ⟨by rfl, ?_⟩) ?_ ?_;rotate_left
  ·intro w'
   go_simp;with_reducible rfl
  rotate_left
  ·simp only [Act.put, Zs1, Zs2, Zs3, zg, zh]
   rfl
  refine zl (i := 1) (N := some 6) (v := ?_) (a' := ?_) #[true, true, false, false, false, false, false, false, false, false, false, false, false, false, false, false, false, false, false, false, false] rfl rfl (ze HT_.out (by kernel_rfl)) (fun _ _ _ h => h) (Or.inl ⟨by rfl, ?_⟩) ?_ ?_;rotate_left
  ·intro w'
   go_simp;with_reducible rfl
  rotate_left
  ·simp only [Act.put, Zs1, Zs2, Zs3, zg, zh]
   rfl
  refine zl (i := 4) (N := some 9) (v := ?_) (a' := ?_) #[true, true, false, false, true, false, false, false, false, false, false, false, false, false, false, false, false, false, false, false, false] rfl rfl (ze HT_.out (by kernel_rfl)) (fun _ _ _ h => h) (Or.inl ⟨by rfl, ?_⟩) ?_ ?_;rotate_left
  ·intro w'
   go_simp;with_reducible rfl
  rotate_left
  ·simp only [Act.put, Zs1, Zs2, Zs3, zg, zh]
   rfl
  refine zl (i := 7) (N := some 12) (v := ?_) (a' := ?_) #[true, true, false, false, true, false, false, true, false, false, false, false, false, false, false, false, false, false, false, false, false] rfl rfl (ze HT_.out (by kernel_rfl)) (fun _ _ _ h => h) (Or.inl ⟨by rfl, ?_⟩) ?_ ?_;rotate_left
  ·intro w'
   go_simp;with_reducible rfl
  rotate_left
  ·simp only [Act.put, Zs1, Zs2, Zs3, zg, zh]
   rfl
  refine zl (i := 8) (N := some 13) (v := ?_) (a' := ?_) #[true, true, false, false, true, false, false, true, true, false, false, false, false, false, false, false, false, false, false, false, false] rfl rfl (ze HT_.out (by kernel_rfl)) (fun _ _ _ h => h) (Or.inl ⟨by rfl, ?_⟩) ?_ ?_;rotate_left
  ·intro w'
   go_simp;with_reducible rfl
  rotate_left
  ·simp only [Act.put, Zs1, Zs2, Zs3, zg, zh]
   rfl
  refine zl (i := 9) (N := some 14) (v := ?_) (a' := ?_) #[true, true, false, false, true, false, false, true, true, true, false, false, false, false, false, false, false, false, false, false, false] rfl rfl (ze HT_.out (by kernel_rfl)) (fun _ _ _ h => h) (Or.inl ⟨by rfl, ?_⟩) ?_ ?_;rotate_left
  ·intro w'
   go_simp;with_reducible rfl
  rotate_left
  ·simp only [Act.put, Zs1, Zs2, Zs3, zg, zh]
   rfl
  refine zl (i := 12) (N := some 17) (v := ?_) (a' := ?_) #[true, true, false, false, true, false, false, true, true, true, false, false, true, false, false, false, false, false, false, false, false] rfl rfl (ze HT_.out (by kernel_rfl)) (fun _ _ _ h => h) (Or.inl ⟨by rfl, ?_⟩) ?_ ?_;rotate_left
  ·intro w'
   go_simp;with_reducible rfl
  rotate_left
  ·simp only [Act.put, Zs1, Zs2, Zs3, zg, zh]
   rfl
  refine zl (i := 16) (N := some 21) (v := ?_) (a' := ?_) #[true, true, false, false, true, false, false, true, true, true, false, false, true, false, false, false, true, false, false, false, false] rfl rfl (ze HT_.out (by kernel_rfl)) (fun _ _ _ h => h) (Or.inl ⟨by rfl, ?_⟩) ?_ ?_;rotate_left
  ·intro w'
   go_simp;with_reducible rfl
  rotate_left
  ·simp only [Act.put, Zs1, Zs2, Zs3, zg, zh]
   rfl
  refine zby (i := 2) (N := some 7) (v := ?_) (a' := ?_) #[true, true, true, false, true, false, false, true, true, true, false, false, true, false, false, false, true, false, false, false, false] rfl rfl (z8 HT_.out HW_.out (by kernel_rfl)) (fun _ _ _ h => h) (Or.inl ⟨by rfl, ?_⟩) hHeld ?_ ?_;rotate_left
  ·rintro w' ⟨s0, s1, s2⟩
   go_simp;with_reducible rfl
  rotate_left
  ·simp only [Act.put, Zs1, Zs2, Zs3, zg, zh]
   rfl
  refine zl (i := 3) (N := some 8) (v := ?_) (a' := ?_) #[true, true, true, true, true, false, false, true, true, true, false, false, true, false, false, false, true, false, false, false, false] rfl rfl (ze HT_.out (by kernel_rfl)) (fun _ _ _ h => h) (Or.inl ⟨by rfl, ?_⟩) ?_ ?_;rotate_left
  ·intro w'
   go_simp;with_reducible rfl
  rotate_left
  ·simp only [Act.put, Zs1, Zs2, Zs3, zg, zh]
   rfl
  refine zby (i := 5) (N := some 10) (v := ?_) (a' := ?_) #[true, true, true, true, true, true, false, true, true, true, false, false, true, false, false, false, true, false, false, false, false] rfl rfl (z8 HT_.out HW_.out (by kernel_rfl)) (fun _ _ _ h => h) (Or.inl ⟨by rfl, ?_⟩) hHeld ?_ ?_;rotate_left
  ·rintro w' ⟨s0, s1, s2⟩
   go_simp;with_reducible rfl
  rotate_left
  ·simp only [Act.put, Zs1, Zs2, Zs3, zg, zh]
   rfl
  refine zl (i := 6) (N := some 11) (v := ?_) (a' := ?_) #[true, true, true, true, true, true, true, true, true, true, false, false, true, false, false, false, true, false, false, false, false] rfl rfl (ze HT_.out (by kernel_rfl)) (fun _ _ _ h => h) (Or.inl ⟨by rfl, ?_⟩) ?_ ?_;rotate_left
  ·intro w'
   go_simp;with_reducible rfl
  rotate_left
  ·simp only [Act.put, Zs1, Zs2, Zs3, zg, zh]
   rfl
  refine zby (i := 10) (N := some 15) (v := ?_) (a' := ?_) #[true, true, true, true, true, true, true, true, true, true, true, false, true, false, false, false, true, false, false, false, false] rfl rfl (z8 HT_.out HW_.out (by kernel_rfl)) (fun _ _ _ h => h) (Or.inl ⟨by rfl, ?_⟩) hHeld ?_ ?_;rotate_left
  ·rintro w' ⟨s0, s1, s2⟩
   go_simp;with_reducible rfl
  rotate_left
  ·simp only [Act.put, Zs1, Zs2, Zs3, zg, zh]
   rfl
  refine zl (i := 11) (N := some 16) (v := ?_) (a' := ?_) #[true, true, true, true, true, true, true, true, true, true, true, true, true, false, false, false, true, false, false, false, false] rfl rfl (ze HT_.out (by kernel_rfl)) (fun _ _ _ h => h) (Or.inl ⟨by rfl, ?_⟩) ?_ ?_;rotate_left
  ·intro w'
   go_simp;with_reducible rfl
  rotate_left
  ·simp only [Act.put, Zs1, Zs2, Zs3, zg, zh]
   rfl
  refine zby (i := 13) (N := some 18) (v := ?_) (a' := ?_) #[true, true, true, true, true, true, true, true, true, true, true, true, true, true, false, false, true, false, false, false, false] rfl rfl (z8 HT_.out HW_.out (by kernel_rfl)) (fun _ _ _ h => h) (Or.inl ⟨by rfl, ?_⟩) hHeld ?_ ?_;rotate_left
  ·rintro w' ⟨s0, s1, s2⟩
   go_simp;with_reducible rfl
  rotate_left
  ·simp only [Act.put, Zs1, Zs2, Zs3, zg, zh]
   rfl
  refine zl (i := 14) (N := some 19) (v := ?_) (a' := ?_) #[true, true, true, true, true, true, true, true, true, true, true, true, true, true, true, false, true, false, false, false, false] rfl rfl (ze HT_.out (by kernel_rfl)) (fun _ _ _ h => h) (Or.inl ⟨by rfl, ?_⟩) ?_ ?_;rotate_left
  ·intro w'
   go_simp;with_reducible rfl
  rotate_left
  ·simp only [Act.put, Zs1, Zs2, Zs3, zg, zh]
   rfl
  refine zl (i := 15) (N := some 20) (v := ?_) (a' := ?_) #[true, true, true, true, true, true, true, true, true, true, true, true, true, true, true, true, true, false, false, false, false] rfl rfl (ze HT_.out (by kernel_rfl)) (fun _ _ _ h => h) (Or.inl ⟨by rfl, ?_⟩) ?_ ?_;rotate_left
  ·intro w'
   go_simp;with_reducible rfl
  rotate_left
  ·simp only [Act.put, Zs1, Zs2, Zs3, zg, zh]
   rfl
  refine zby (i := 17) (N := some 22) (v := ?_) (a' := ?_) #[true, true, true, true, true, true, true, true, true, true, true, true, true, true, true, true, true, true, false, false, false] rfl rfl (z8 HT_.out HW_.out (by kernel_rfl)) (fun _ _ _ h => h) (Or.inl ⟨by rfl, ?_⟩) hHeld ?_ ?_;rotate_left
  ·rintro w' ⟨s0, s1, s2⟩
   go_simp;with_reducible rfl
  rotate_left
  ·simp only [Act.put, Zs1, Zs2, Zs3, zg, zh]
   rfl
  refine zl (i := 18) (N := some 23) (v := ?_) (a' := ?_) #[true, true, true, true, true, true, true, true, true, true, true, true, true, true, true, true, true, true, true, false, false] rfl rfl (ze HT_.out (by kernel_rfl)) (fun _ _ _ h => h) (Or.inl ⟨by rfl, ?_⟩) ?_ ?_;rotate_left
  ·intro w'
   go_simp;with_reducible rfl
  rotate_left
  ·simp only [Act.put, Zs1, Zs2, Zs3, zg, zh]
   rfl
  refine zl (i := 19) (N := some 24) (v := ?_) (a' := ?_) #[true, true, true, true, true, true, true, true, true, true, true, true, true, true, true, true, true, true, true, true, false] rfl rfl (ze HT_.out (by kernel_rfl)) (fun _ _ _ h => h) (Or.inl ⟨by rfl, ?_⟩) ?_ ?_;rotate_left
  ·intro w'
   go_simp;with_reducible rfl
  rotate_left
  ·simp only [Act.put, Zs1, Zs2, Zs3, zg, zh]
   rfl
  refine one_ (i := 20) (N := none) #[true, true, true, true, true, true, true, true, true, true, true, true, true, true, true, true, true, true, true, true, true] rfl rfl (zb2 HT_.out (by kernel_rfl)) (by decide) (fun K hK => ?_);have hs7 : w6.cell? ⟨gb272, 0, none⟩ = some (.int .i64 0) := (zf BK272.out 0).trans rfl;have hfs7 := zm BK272.out 0;have hns7_0 := NB271_272.out;have hms7_0 := NB272_271.out;have hs8 : w6.cell? ⟨gb272, 1, none⟩ = some (.int .i64 0) := (zf BK272.out 1).trans rfl;have hfs8 := zm BK272.out 1;have hns8_0 := NB271_272.out;have hms8_0 := NB272_271.out;refine skip_ (w1 := ?_) (by rfl) rfl ?_ ?_;rotate_left
  ·go_simp
   rfl
  refine hK.out _ _ ⟨((cell_far (p := ⟨gb272, _, none⟩) NB271_272.out _).trans (((cell_far (p := ⟨gb272, _, none⟩) NB271_272.out _).trans (hHeld.1)))), ((cell_far (p := ⟨gb272, _, none⟩) NB271_272.out _).trans (((cell_far (p := ⟨gb272, _, none⟩) NB271_272.out _).trans (hHeld.2.1)))), ((cell_far (p := ⟨gb272, _, none⟩) NB271_272.out _).trans (((cell_far (p := ⟨gb272, _, none⟩) NB271_272.out _).trans (hHeld.2.2))))⟩ (fun hHeld => ?_);clear hK K;refine zcn (zb3 HT_.out (by kernel_rfl)) ?_
  try go_wp2
  refine bodyPost_ret (results_cell_row rfl _ _ gb272 39 #[.int .i64 (wrap64 (Int.tdiv (wrap64 (a1 * a0_2)) a0_0)), .int .i64 (wrap64 (Int.tdiv (wrap64 ((wrap64 ((wrap64 ((wrap64 (a1 + 1)) * a0_2)) + a0_0)) - 1)) a0_0))] (0, 0) _ rfl (by (with_reducible repeat (first | refine zbp ?_ _ | refine zbi ?_ | refine zbo ?_ _)); refine zcv (cs := #[.int .i64 (wrap64 (Int.tdiv (wrap64 (a1 * a0_2)) a0_0)), .int .i64 0]) ?_ 1 _ rfl; (with_reducible repeat (first | refine zbp ?_ _ | refine zbi ?_ | refine zbo ?_ _)); refine zcv (cs := #[.int .i64 0, .int .i64 0]) ?_ 0 _ rfl; (with_reducible repeat (first | refine zbp ?_ _ | refine zbi ?_ | refine zbo ?_ _)); exact BK272.out) Try.underlying39 rfl (by kernel_rfl)) rfl ?_;exact ⟨by first | rfl | (simp [zn, zo] <;> rfl) | (simp [*, zn, zo] <;> rfl), Zq6 HB GE271 GE272⟩
def zb4.l0 : Nat → List Int → Int → Int → Option (Int)
 | 0, _, _, _ => none
 | k + 1, x0, x1, x5 => if x5 < (x0.length : Int) then (if 0 ≤ x5 then (if (rd x0 x5) = x1 then (some x5) else (zb4.l0 k x0 x1 (wrap64 (x5 + 1)))) else (none)) else (some (-1))
def zb4.f (k : Nat) (l0 : List Int) (a1 : Int) : Option (Int) := zb4.l0 k l0 a1 0
set_option maxHeartbeats 8000000 in
theorem zb4.calls (k : Nat) (A0 : Option Addr) (c0 : Nat) (l0 : List Int) (a1 : Int) (r : Int) (w : World) (hr0 : Kd.C (Kd.int .i64) w A0 l0.length l0) (hc0 : l0.length ≤ c0) (h : zb4.f k l0 a1 = some r) :
  Calls Try.prog 65 #[.slice A0 l0.length c0, .int .i64 a1] w fun e w' => e = .returned (.int .i64 r) ∧ zbl w w' := by
 have HR0 := za.mk hr0
 have HC0 := za.mk hc0
 clear hr0 hc0
 have H : (zb4.l0 k l0 a1 0) = some r := h
 clear h
 have H' := za.mk H
 clear H
 go_enter Try.func65, Try.ntmps65
 go_wp2
 go_loopg [5] k (fun kq v5 w' => ∃ (x5_1 : Int), v5 = .int .i64 x5_1 ∧ za (zb4.l0 kq l0 a1 x5_1 = some r) ∧ za (kq ≤ k) ∧ zbl w w')
 case atStart => exact ⟨(0), Zrs, H', ⟨Nat.le_refl _⟩, by repeat (first | exact zbl.refl _ | apply zbl.step)⟩
 case round =>
  clear H'
  try clear p2
  obtain ⟨x5_1, rfl, HA, HK1, ⟨m1, rfl⟩⟩ := hrel
  cases gk with
  | zero => exact absurd HA.out (by simp [zb4.l0])
  | succ k1 =>
   have H := HA.out;clear HA;simp only [zb4.l0] at H;by_cases c3 : x5_1 < (l0.length : Int)
   ·rw [if_pos c3] at H
    have c3b0 : decide (x5_1 < (l0.length : Int)) = true := decide_eq_true c3;clear c3;by_cases c4 : 0 ≤ x5_1
    ·rw [if_pos c4] at H
     have c4b0 : decide (0 ≤ x5_1) = true := decide_eq_true c4;clear c4;by_cases c5 : (rd l0 x5_1) = a1
     ·rw [if_pos c5] at H
      have c5b0 : ((rd l0 x5_1) == a1) = true := beq_iff_eq.mpr c5;have c5b1 : ((rd l0 x5_1) != a1) = false := bne_eq_false_iff_eq.mpr c5;clear c5;obtain rfl := Option.some.inj H;have p273 : 0 ≤ (x5_1 : Int) := of_decide_eq_true Zas;have q273 : x5_1 < (l0.length : Int) := of_decide_eq_true Zas;obtain ⟨ad273, e273, hx273_0⟩ := Kd.zcb HR0.out x5_1 p273 q273
      cases e273
      replace p273 := eq_true p273;replace q273 := eq_true q273;go_wp2;go_ret;exact ⟨by first | rfl | (simp; done) | (simp [*]; done), by repeat (first | exact zbl.refl _ | apply zbl.step)⟩
     ·rw [if_neg c5] at H
      have c5b0 : ((rd l0 x5_1) == a1) = false := beq_eq_false_iff_ne.mpr c5;have c5b1 : ((rd l0 x5_1) != a1) = true := bne_iff_ne.mpr c5;have H' := za.mk H;clear H;have p273 : 0 ≤ (x5_1 : Int) := of_decide_eq_true Zas;have q273 : x5_1 < (l0.length : Int) := of_decide_eq_true Zas;obtain ⟨ad273, e273, hx273_0⟩ := Kd.zcb HR0.out x5_1 p273 q273
      cases e273
      replace p273 := eq_true p273;replace q273 := eq_true q273;go_wp2;go_roundg k1
      case measure => have := HK1.out; omega
      case rel => exact ⟨(wrap64 (x5_1 + 1)), Zrs, H', ⟨by have := HK1.out; omega⟩, by repeat (first | exact zbl.refl _ | apply zbl.step)⟩
    ·rw [if_neg c4] at H
     exact absurd H (by simp)
   ·rw [if_neg c3] at H
    have c3b0 : decide (x5_1 < (l0.length : Int)) = false := decide_eq_false c3;clear c3;obtain rfl := Option.some.inj H;go_wp2;go_ret;exact ⟨by first | rfl | (simp; done) | (simp [*]; done), by repeat (first | exact zbl.refl _ | apply zbl.step)⟩
def zbd.f (a0_0 : Int) (a0_1 : Int) (a0_2 : Int) (a1 : Int) : Option (Int) := (zy.f a0_0 a0_1 a0_2 a1).bind fun bt275 => ((zy.f a0_0 a0_1 a0_2 (wrap64 (a1 + 1))).bind fun bt277 => (if bt275.2 > bt277.1 then (some 1) else (some 0)))
def zbd.T1 : Bool × List (List Nat × List Nat) := (true, [([], []), ([], []), ([0, 1], [0, 1]), ([2], [2]), ([], []), ([], []), ([5], [5]), ([4, 6, 2], [4, 6]), ([7], [7]), ([3, 8], [3, 8])])
def zbd.B1 : List Nat := [0, 0, 3, 7, 0, 0, 32, 119, 247, 511]
theorem zbd.tab1 : rtab .any (opsOf Try.f76 1) = zbd.T1 := by kernel_rfl
theorem zbd.zd8 : zci zbd.T1.2 zbd.B1 = true := by kernel_rfl
set_option maxHeartbeats 8000000 in
theorem zbd.calls (a0_0 : Int) (a0_1 : Int) (a0_2 : Int) (a1 : Int) (r : Int) (w : World) (h : zbd.f a0_0 a0_1 a0_2 a1 = some r) :
  Calls Try.prog 76 #[.agg #[.int .i64 a0_0, .int .i64 a0_1, .int .i64 a0_2], .int .i64 a1] w fun e w' => e = .returned (.int .i64 r) ∧ Below w.heap.size w w' := by
 have hfld39_0 : ∀ (v0_ v1_ : Value) (W : World), (Instr.field 39 (.agg #[v0_, v1_]) 0).run Try.prog W = .ok v0_ W := fun _ _ _ => rfl
 have hfld39_1 : ∀ (v0_ v1_ : Value) (W : World), (Instr.field 39 (.agg #[v0_, v1_]) 1).run Try.prog W = .ok v1_ W := fun _ _ _ => rfl
 have hu35 := Try.underlying35
 have HB := za.mk (Below.refl w.heap.size w)
 have H : ((zy.f a0_0 a0_1 a0_2 a1).bind fun bt275 => ((zy.f a0_0 a0_1 a0_2 (wrap64 (a1 + 1))).bind fun bt277 => (if bt275.2 > bt277.1 then (some 1) else (some 0)))) = some r := h
 clear h
 replace H := Option.bind_eq_some_iff.mp H
 obtain ⟨⟨t275, t276⟩, A30, H⟩ := H
 replace H : ((zy.f a0_0 a0_1 a0_2 (wrap64 (a1 + 1))).bind fun bt277 => (if t276 > bt277.1 then (some 1) else (some 0))) = some r := H
 have A3 := za.mk A30
 clear A30
 replace H := Option.bind_eq_some_iff.mp H
 obtain ⟨⟨t277, t278⟩, A40, H⟩ := H
 replace H : (if t276 > t277 then (some 1) else (some 0)) = some r := H
 have A4 := za.mk A40
 clear A40
 by_cases c5 : t276 > t277
 ·rw [if_pos c5] at H
  have c5b0 : decide (t277 < t276) = true := decide_eq_true c5;clear c5;obtain rfl := Option.some.inj H;go_enter Try.func76, Try.ntmps76
  try go_wp2_with (first | ((with_reducible refine zbw (N := 2) rfl ?_); refine zbv ?hg (N := 2) ?hd (cs := #[.int .i64 a0_0, .int .i64 a0_1, .int .i64 a0_2]) (t := 35) ?hr ?_; (case hd => rfl); (case hg => rfl); (case hr => first | (go_simp; done) | (go_simp; rfl)); intro gb274 hg w6 hbox hb; have n0_ := za.mk (zk (Zq0 HB) hb); have n1_ := za.mk (hbox); have n2_ := za.mk ((by rw [hg]; exact (zu (Zq0 HB)) : w.heap.size ≤ gb274)); have n3_ := za.mk ((by rw [hg]; exact (zu (Zq0 HB)) : w.heap.size ≤ gb274)); clear HB; have HB := n0_; have BK274 := n1_; have GW274 := n2_; have GE274 := n3_; clear n0_ n1_ n2_ n3_; clear hb hbox hg))
  have n0_ := za.mk (zbi BK274.out);have n1_ := za.mk (zbe HB.out);clear BK274;clear HB;have BK274 := n0_;have HB := n1_;clear n0_ n1_;refine zca (n := 10) (S := fun w' => w'.cell? ⟨gb274, 0, none⟩ = some (.int .i64 a0_0) ∧ w'.cell? ⟨gb274, 1, none⟩ = some (.int .i64 a0_1) ∧ w'.cell? ⟨gb274, 2, none⟩ = some (.int .i64 a0_2)) (ds := []) #[false, false, false, false, false, false, false, false, false, false] (by kernel_rfl) rfl rfl ⟨(zf BK274.out 0).trans rfl, (zf BK274.out 1).trans rfl, (zf BK274.out 2).trans rfl⟩ (fun hHeld => ?_); refine zbu zbd.tab1 zbd.zd8 (fun HT_ HW_ => ?_);generalize w6.drew = w7 at BK274 HB hHeld ⊢;refine zl (i := 1) (N := some 6) (v := ?_) (a' := ?_) #[false, true, false, false, false, false, false, false, false, false] rfl rfl (ze HT_.out (by kernel_rfl)) (fun _ _ _ h => h) (Or.inl ⟨by rfl, ?_⟩) ?_ ?_;rotate_left
  ·intro w'
   go_simp;with_reducible rfl
  rotate_left
  ·simp only [Act.put, Zs1, Zs2, Zs3, zg, zh]
   rfl
  refine zl (i := 5) (N := some 10) (v := ?_) (a' := ?_) #[false, true, false, false, false, true, false, false, false, false] rfl rfl (ze HT_.out (by kernel_rfl)) (fun _ _ _ h => h) (Or.inl ⟨by rfl, ?_⟩) ?_ ?_;rotate_left
  ·intro w'
   go_simp;with_reducible rfl
  rotate_left
  ·simp only [Act.put, Zs1, Zs2, Zs3, zg, zh]
   rfl
  refine zl (i := 6) (N := some 11) (v := ?_) (a' := ?_) #[false, true, false, false, false, true, true, false, false, false] rfl rfl (ze HT_.out (by kernel_rfl)) (fun _ _ _ h => h) (Or.inl ⟨by rfl, ?_⟩) ?_ ?_;rotate_left
  ·intro w'
   go_simp;with_reducible rfl
  rotate_left
  ·simp only [Act.put, Zs1, Zs2, Zs3, zg, zh]
   rfl
  refine zby (i := 0) (N := some 5) (v := ?_) (a' := ?_) #[true, true, false, false, false, true, true, false, false, false] rfl rfl (z8 HT_.out HW_.out (by kernel_rfl)) (fun _ _ _ h => h) (Or.inl ⟨by rfl, ?_⟩) hHeld ?_ ?_;rotate_left
  ·rintro w' ⟨s0, s1, s2⟩
   go_simp;with_reducible rfl
  rotate_left
  ·simp only [Act.put, Zs1, Zs2, Zs3, zg, zh]
   rfl
  refine zby (i := 4) (N := some 9) (v := ?_) (a' := ?_) #[true, true, false, false, true, true, true, false, false, false] rfl rfl (z8 HT_.out HW_.out (by kernel_rfl)) (fun _ _ _ h => h) (Or.inl ⟨by rfl, ?_⟩) hHeld ?_ ?_;rotate_left
  ·rintro w' ⟨s0, s1, s2⟩
   go_simp;with_reducible rfl
  rotate_left
  ·simp only [Act.put, Zs1, Zs2, Zs3, zg, zh]
   rfl
  refine one_ (i := 2) (N := some 7) #[true, true, true, false, true, true, true, false, false, false] rfl rfl (zb2 HT_.out (by kernel_rfl)) (by decide) (fun K hK => ?_);refine zce Try.func64 (by kernel_rfl) rfl #[.agg #[.int .i64 a0_0, .int .i64 a0_1, .int .i64 a0_2], .int .i64 a1] (by rfl) rfl rfl Zmt ?_;with_reducible refine (zy.calls a0_0 a0_1 a0_2 a1 t275 t276 _ A3.out).mono ?_
  rintro e w8 ⟨rfl, hb⟩;refine ⟨_, rfl, ?_⟩;have n0_ := za.mk (zbq (g := gb274) (o := .cells #[.int .i64 a0_0, .int .i64 a0_1, .int .i64 a0_2] 35 (0, 0)) (Zq3 BK274) hb);have n1_ := za.mk (zk (Zq1 HB GE274) hb);clear BK274;clear HB;have BK274 := n0_;have HB := n1_;clear n0_ n1_;(try clear hb);(try clear hb2);(try clear hk);(try clear hi);refine hK.out _ _ ⟨(zf BK274.out 0).trans rfl, (zf BK274.out 1).trans rfl, (zf BK274.out 2).trans rfl⟩ (fun hHeld => ?_);clear hK K;refine zcd (a' := ?_) ?_ ?_;rotate_left
  ·show Act.put _ (some 7) _ = _
   simp only [Act.put, Zs1, Zs2, Zs3, zg, zh];rfl
  refine zl (i := 3) (N := some 8) (v := ?_) (a' := ?_) #[true, true, true, true, true, true, true, false, false, false] rfl rfl (ze HT_.out (by kernel_rfl)) (fun _ _ _ h => h) (Or.inl ⟨by rfl, ?_⟩) ?_ ?_;rotate_left
  ·intro w'
   go_simp;with_reducible rfl
  rotate_left
  ·simp only [Act.put, Zs1, Zs2, Zs3, zg, zh]
   rfl
  refine one_ (i := 7) (N := some 12) #[true, true, true, true, true, true, true, true, false, false] rfl rfl (zb2 HT_.out (by kernel_rfl)) (by decide) (fun K hK => ?_);refine zce Try.func64 (by kernel_rfl) rfl #[.agg #[.int .i64 a0_0, .int .i64 a0_1, .int .i64 a0_2], .int .i64 (wrap64 (a1 + 1))] (by rfl) rfl rfl Zmt ?_;with_reducible refine (zy.calls a0_0 a0_1 a0_2 (wrap64 (a1 + 1)) t277 t278 _ A4.out).mono ?_
  rintro e w9 ⟨rfl, hb⟩;refine ⟨_, rfl, ?_⟩;have n0_ := za.mk (zbq (g := gb274) (o := .cells #[.int .i64 a0_0, .int .i64 a0_1, .int .i64 a0_2] 35 (0, 0)) (Zq3 BK274) hb);have n1_ := za.mk (zk (Zq1 HB GE274) hb);clear BK274;clear HB;have BK274 := n0_;have HB := n1_;clear n0_ n1_;(try clear hb);(try clear hb2);(try clear hk);(try clear hi);refine hK.out _ _ ⟨(zf BK274.out 0).trans rfl, (zf BK274.out 1).trans rfl, (zf BK274.out 2).trans rfl⟩ (fun hHeld => ?_);clear hK K;refine zcd (a' := ?_) ?_ ?_;rotate_left
  ·show Act.put _ (some 12) _ = _
   simp only [Act.put, Zs1, Zs2, Zs3, zg, zh];rfl
  refine zl (i := 8) (N := some 13) (v := ?_) (a' := ?_) #[true, true, true, true, true, true, true, true, true, false] rfl rfl (ze HT_.out (by kernel_rfl)) (fun _ _ _ h => h) (Or.inl ⟨by rfl, ?_⟩) ?_ ?_;rotate_left
  ·intro w'
   go_simp;with_reducible rfl
  rotate_left
  ·simp only [Act.put, Zs1, Zs2, Zs3, zg, zh]
   rfl
  refine zl (i := 9) (N := some 14) (v := ?_) (a' := ?_) #[true, true, true, true, true, true, true, true, true, true] rfl rfl (ze HT_.out (by kernel_rfl)) (fun _ _ _ h => h) (Or.inl ⟨by rfl, ?_⟩) ?_ ?_;rotate_left
  ·intro w'
   go_simp;with_reducible rfl
  rotate_left
  ·simp only [Act.put, Zs1, Zs2, Zs3, zg, zh]
   rfl
  refine zcn (zb3 HT_.out (by kernel_rfl)) ?_
  try go_wp2
  go_ret;exact ⟨by first | rfl | (simp [zn, zo] <;> rfl) | (simp [*, zn, zo] <;> rfl), Zq1 HB GE274⟩
 ·rw [if_neg c5] at H
  have c5b0 : decide (t277 < t276) = false := decide_eq_false c5;clear c5;obtain rfl := Option.some.inj H;go_enter Try.func76, Try.ntmps76
  try go_wp2_with (first | ((with_reducible refine zbw (N := 2) rfl ?_); refine zbv ?hg (N := 2) ?hd (cs := #[.int .i64 a0_0, .int .i64 a0_1, .int .i64 a0_2]) (t := 35) ?hr ?_; (case hd => rfl); (case hg => rfl); (case hr => first | (go_simp; done) | (go_simp; rfl)); intro gb274 hg w10 hbox hb; have n0_ := za.mk (zk (Zq0 HB) hb); have n1_ := za.mk (hbox); have n2_ := za.mk ((by rw [hg]; exact (zu (Zq0 HB)) : w.heap.size ≤ gb274)); have n3_ := za.mk ((by rw [hg]; exact (zu (Zq0 HB)) : w.heap.size ≤ gb274)); clear HB; have HB := n0_; have BK274 := n1_; have GW274 := n2_; have GE274 := n3_; clear n0_ n1_ n2_ n3_; clear hb hbox hg))
  have n0_ := za.mk (zbi BK274.out);have n1_ := za.mk (zbe HB.out);clear BK274;clear HB;have BK274 := n0_;have HB := n1_;clear n0_ n1_;refine zca (n := 10) (S := fun w' => w'.cell? ⟨gb274, 0, none⟩ = some (.int .i64 a0_0) ∧ w'.cell? ⟨gb274, 1, none⟩ = some (.int .i64 a0_1) ∧ w'.cell? ⟨gb274, 2, none⟩ = some (.int .i64 a0_2)) (ds := []) #[false, false, false, false, false, false, false, false, false, false] (by kernel_rfl) rfl rfl ⟨(zf BK274.out 0).trans rfl, (zf BK274.out 1).trans rfl, (zf BK274.out 2).trans rfl⟩ (fun hHeld => ?_); refine zbu zbd.tab1 zbd.zd8 (fun HT_ HW_ => ?_);generalize w10.drew = w11 at BK274 HB hHeld ⊢;refine zl (i := 1) (N := some 6) (v := ?_) (a' := ?_) #[false, true, false, false, false, false, false, false, false, false] rfl rfl (ze HT_.out (by kernel_rfl)) (fun _ _ _ h => h) (Or.inl ⟨by rfl, ?_⟩) ?_ ?_;rotate_left
  ·intro w'
   go_simp;with_reducible rfl
  rotate_left
  ·simp only [Act.put, Zs1, Zs2, Zs3, zg, zh]
   rfl
  refine zl (i := 5) (N := some 10) (v := ?_) (a' := ?_) #[false, true, false, false, false, true, false, false, false, false] rfl rfl (ze HT_.out (by kernel_rfl)) (fun _ _ _ h => h) (Or.inl ⟨by rfl, ?_⟩) ?_ ?_;rotate_left
  ·intro w'
   go_simp;with_reducible rfl
  rotate_left
  ·simp only [Act.put, Zs1, Zs2, Zs3, zg, zh]
   rfl
  refine zl (i := 6) (N := some 11) (v := ?_) (a' := ?_) #[false, true, false, false, false, true, true, false, false, false] rfl rfl (ze HT_.out (by kernel_rfl)) (fun _ _ _ h => h) (Or.inl ⟨by rfl, ?_⟩) ?_ ?_;rotate_left
  ·intro w'
   go_simp;with_reducible rfl
  rotate_left
  ·simp only [Act.put, Zs1, Zs2, Zs3, zg, zh]
   rfl
  refine zby (i := 0) (N := some 5) (v := ?_) (a' := ?_) #[true, true, false, false, false, true, true, false, false, false] rfl rfl (z8 HT_.out HW_.out (by kernel_rfl)) (fun _ _ _ h => h) (Or.inl ⟨by rfl, ?_⟩) hHeld ?_ ?_;rotate_left
  ·rintro w' ⟨s0, s1, s2⟩
   go_simp;with_reducible rfl
  rotate_left
  ·simp only [Act.put, Zs1, Zs2, Zs3, zg, zh]
   rfl
  refine zby (i := 4) (N := some 9) (v := ?_) (a' := ?_) #[true, true, false, false, true, true, true, false, false, false] rfl rfl (z8 HT_.out HW_.out (by kernel_rfl)) (fun _ _ _ h => h) (Or.inl ⟨by rfl, ?_⟩) hHeld ?_ ?_;rotate_left
  ·rintro w' ⟨s0, s1, s2⟩
   go_simp;with_reducible rfl
  rotate_left
  ·simp only [Act.put, Zs1, Zs2, Zs3, zg, zh]
   rfl
  refine one_ (i := 2) (N := some 7) #[true, true, true, false, true, true, true, false, false, false] rfl rfl (zb2 HT_.out (by kernel_rfl)) (by decide) (fun K hK => ?_);refine zce Try.func64 (by kernel_rfl) rfl #[.agg #[.int .i64 a0_0, .int .i64 a0_1, .int .i64 a0_2], .int .i64 a1] (by rfl) rfl rfl Zmt ?_;with_reducible refine (zy.calls a0_0 a0_1 a0_2 a1 t275 t276 _ A3.out).mono ?_
  rintro e w12 ⟨rfl, hb⟩;refine ⟨_, rfl, ?_⟩;have n0_ := za.mk (zbq (g := gb274) (o := .cells #[.int .i64 a0_0, .int .i64 a0_1, .int .i64 a0_2] 35 (0, 0)) (Zq3 BK274) hb);have n1_ := za.mk (zk (Zq1 HB GE274) hb);clear BK274;clear HB;have BK274 := n0_;have HB := n1_;clear n0_ n1_;(try clear hb);(try clear hb2);(try clear hk);(try clear hi);refine hK.out _ _ ⟨(zf BK274.out 0).trans rfl, (zf BK274.out 1).trans rfl, (zf BK274.out 2).trans rfl⟩ (fun hHeld => ?_);clear hK K;refine zcd (a' := ?_) ?_ ?_;rotate_left
  ·show Act.put _ (some 7) _ = _
   simp only [Act.put, Zs1, Zs2, Zs3, zg, zh];rfl
  refine zl (i := 3) (N := some 8) (v := ?_) (a' := ?_) #[true, true, true, true, true, true, true, false, false, false] rfl rfl (ze HT_.out (by kernel_rfl)) (fun _ _ _ h => h) (Or.inl ⟨by rfl, ?_⟩) ?_ ?_;rotate_left
  ·intro w'
   go_simp;with_reducible rfl
  rotate_left
  ·simp only [Act.put, Zs1, Zs2, Zs3, zg, zh]
   rfl
  refine one_ (i := 7) (N := some 12) #[true, true, true, true, true, true, true, true, false, false] rfl rfl (zb2 HT_.out (by kernel_rfl)) (by decide) (fun K hK => ?_);refine zce Try.func64 (by kernel_rfl) rfl #[.agg #[.int .i64 a0_0, .int .i64 a0_1, .int .i64 a0_2], .int .i64 (wrap64 (a1 + 1))] (by rfl) rfl rfl Zmt ?_;with_reducible refine (zy.calls a0_0 a0_1 a0_2 (wrap64 (a1 + 1)) t277 t278 _ A4.out).mono ?_
  rintro e w13 ⟨rfl, hb⟩;refine ⟨_, rfl, ?_⟩;have n0_ := za.mk (zbq (g := gb274) (o := .cells #[.int .i64 a0_0, .int .i64 a0_1, .int .i64 a0_2] 35 (0, 0)) (Zq3 BK274) hb);have n1_ := za.mk (zk (Zq1 HB GE274) hb);clear BK274;clear HB;have BK274 := n0_;have HB := n1_;clear n0_ n1_;(try clear hb);(try clear hb2);(try clear hk);(try clear hi);refine hK.out _ _ ⟨(zf BK274.out 0).trans rfl, (zf BK274.out 1).trans rfl, (zf BK274.out 2).trans rfl⟩ (fun hHeld => ?_);clear hK K;refine zcd (a' := ?_) ?_ ?_;rotate_left
  ·show Act.put _ (some 12) _ = _
   simp only [Act.put, Zs1, Zs2, Zs3, zg, zh];rfl
  refine zl (i := 8) (N := some 13) (v := ?_) (a' := ?_) #[true, true, true, true, true, true, true, true, true, false] rfl rfl (ze HT_.out (by kernel_rfl)) (fun _ _ _ h => h) (Or.inl ⟨by rfl, ?_⟩) ?_ ?_;rotate_left
  ·intro w'
   go_simp;with_reducible rfl
  rotate_left
  ·simp only [Act.put, Zs1, Zs2, Zs3, zg, zh]
   rfl
  refine zl (i := 9) (N := some 14) (v := ?_) (a' := ?_) #[true, true, true, true, true, true, true, true, true, true] rfl rfl (ze HT_.out (by kernel_rfl)) (fun _ _ _ h => h) (Or.inl ⟨by rfl, ?_⟩) ?_ ?_;rotate_left
  ·intro w'
   go_simp;with_reducible rfl
  rotate_left
  ·simp only [Act.put, Zs1, Zs2, Zs3, zg, zh]
   rfl
  refine zcn (zb3 HT_.out (by kernel_rfl)) ?_
  try go_wp2
  go_ret;exact ⟨by first | rfl | (simp [zn, zo] <;> rfl) | (simp [*, zn, zo] <;> rfl), Zq1 HB GE274⟩
mutual
def zba.l0 : Nat → Int → Int → Int → Int → Int → Int → Option (Int)
 | 0, _, _, _, _, _, _ => none
 | k + 1, x1, x5, x6, x280000, x280001, x280002 => (zy.f x280000 x280001 x280002 x6).bind fun bt282 => (if x6 > x1 then (if (wrap64 (bt282.2 - bt282.1)) ≥ 3 then (zba.j1 k x1 x5 x6 (decide ((wrap64 (bt282.2 - 1)) ≥ x5)) x280000 x280001 x280002 bt282.1 bt282.2) else (zba.j1 k x1 x5 x6 false x280000 x280001 x280002 bt282.1 bt282.2)) else (zba.j1 k x1 x5 x6 false x280000 x280001 x280002 bt282.1 bt282.2))
def zba.j1 : Nat → Int → Int → Int → Bool → Int → Int → Int → Int → Int → Option (Int)
 | 0, _, _, _, _, _, _, _, _, _ => none
 | k + 1, x1, x5, x6, x41, x280000, x280001, x280002, x285000, x285001 => if x41 = true then (some (wrap64 (x285001 - 1))) else ((zbd.f x280000 x280001 x280002 x6).bind fun t285 => (if t285 = 0 then (some x285001) else (zba.l0 k x1 x5 (wrap64 (x6 + 1)) x280000 x280001 x280002)))
end
def zba.f (k : Nat) (a0_0 : Int) (a0_1 : Int) (a0_2 : Int) (a1 : Int) : Option (Int) := if (wrap64 (2 * a0_0)) < a0_2 then (some 0) else ((zy.f a0_0 a0_1 a0_2 a1).bind fun bt280 => (zba.l0 k a1 bt280.2 a1 a0_0 a0_1 a0_2))
set_option maxHeartbeats 8000000 in
theorem zba.calls (k : Nat) (a0_0 : Int) (a0_1 : Int) (a0_2 : Int) (a1 : Int) (r : Int) (w : World) (h : zba.f k a0_0 a0_1 a0_2 a1 = some r) :
  Calls Try.prog 77 #[.agg #[.int .i64 a0_0, .int .i64 a0_1, .int .i64 a0_2], .int .i64 a1] w fun e w' => e = .returned (.int .i64 r) ∧ Below w.heap.size w w' := by
 have hfld39_0 : ∀ (v0_ v1_ : Value) (W : World), (Instr.field 39 (.agg #[v0_, v1_]) 0).run Try.prog W = .ok v0_ W := fun _ _ _ => rfl
 have hfld39_1 : ∀ (v0_ v1_ : Value) (W : World), (Instr.field 39 (.agg #[v0_, v1_]) 1).run Try.prog W = .ok v1_ W := fun _ _ _ => rfl
 have hu35 := Try.underlying35
 have hu39 := Try.underlying39
 have HB := za.mk (Below.refl w.heap.size w)
 have H : (if (wrap64 (2 * a0_0)) < a0_2 then (some 0) else ((zy.f a0_0 a0_1 a0_2 a1).bind fun bt280 => (zba.l0 k a1 bt280.2 a1 a0_0 a0_1 a0_2))) = some r := h
 clear h
 by_cases c3 : (wrap64 (2 * a0_0)) < a0_2
 ·rw [if_pos c3] at H
  have c3b0 : decide ((wrap64 (2 * a0_0)) < a0_2) = true := decide_eq_true c3;clear c3;obtain rfl := Option.some.inj H;go_enter Try.func77, Try.ntmps77;go_wp2_with (first | ((with_reducible refine zbw (N := 2) rfl ?_); refine zbv ?hg (N := 2) ?hd (cs := #[.int .i64 a0_0, .int .i64 a0_1, .int .i64 a0_2]) (t := 35) ?hr ?_; (case hd => rfl); (case hg => rfl); (case hr => first | (go_simp; done) | (go_simp; rfl)); intro gb279 hg w4 hbox hb; have n0_ := za.mk (zk (Zq0 HB) hb); have n1_ := za.mk (hbox); have n2_ := za.mk ((by rw [hg]; exact (zu (Zq0 HB)) : w.heap.size ≤ gb279)); have n3_ := za.mk ((by rw [hg]; exact (zu (Zq0 HB)) : w.heap.size ≤ gb279)); clear HB; have HB := n0_; have BK279 := n1_; have GW279 := n2_; have GE279 := n3_; clear n0_ n1_ n2_ n3_; clear hb hbox hg; have hcz5_0 : w4.cell? ⟨gb279, 0, none⟩ = some (.int .i64 a0_0) := (zf BK279.out 0).trans rfl; have hcz5_1 : w4.cell? ⟨gb279, 1, none⟩ = some (.int .i64 a0_1) := (zf BK279.out 1).trans rfl; have hcz5_2 : w4.cell? ⟨gb279, 2, none⟩ = some (.int .i64 a0_2) := (zf BK279.out 2).trans rfl; have hfz5_0 := zm BK279.out 0; have hfz5_1 := zm BK279.out 1; have hfz5_2 := zm BK279.out 2));go_ret;exact ⟨by first | rfl | (simp [zn, zo] <;> rfl) | (simp [*, zn, zo] <;> rfl), Zq1 HB GE279⟩
 ·rw [if_neg c3] at H
  have c3b0 : decide ((wrap64 (2 * a0_0)) < a0_2) = false := decide_eq_false c3;clear c3;replace H := Option.bind_eq_some_iff.mp H;obtain ⟨⟨t280, t281⟩, A60, H⟩ := H;replace H : (zba.l0 k a1 t281 a1 a0_0 a0_1 a0_2) = some r := H;have A6 := za.mk A60;clear A60;have H' := za.mk H;clear H;go_enter Try.func77, Try.ntmps77;go_wp2_with (first | ((with_reducible refine zbw (N := 2) rfl ?_); refine zbv ?hg (N := 2) ?hd (cs := #[.int .i64 a0_0, .int .i64 a0_1, .int .i64 a0_2]) (t := 35) ?hr ?_; (case hd => rfl); (case hg => rfl); (case hr => first | (go_simp; done) | (go_simp; rfl)); intro gb279 hg w7 hbox hb; have n0_ := za.mk (zk (Zq0 HB) hb); have n1_ := za.mk (hbox); have n2_ := za.mk ((by rw [hg]; exact (zu (Zq0 HB)) : w.heap.size ≤ gb279)); have n3_ := za.mk ((by rw [hg]; exact (zu (Zq0 HB)) : w.heap.size ≤ gb279)); clear HB; have HB := n0_; have BK279 := n1_; have GW279 := n2_; have GE279 := n3_; clear n0_ n1_ n2_ n3_; clear hb hbox hg; have hcz8_0 : w7.cell? ⟨gb279, 0, none⟩ = some (.int .i64 a0_0) := (zf BK279.out 0).trans rfl; have hcz8_1 : w7.cell? ⟨gb279, 1, none⟩ = some (.int .i64 a0_1) := (zf BK279.out 1).trans rfl; have hcz8_2 : w7.cell? ⟨gb279, 2, none⟩ = some (.int .i64 a0_2) := (zf BK279.out 2).trans rfl; have hfz8_0 := zm BK279.out 0; have hfz8_1 := zm BK279.out 1; have hfz8_2 := zm BK279.out 2) | ((with_reducible refine zt (f := 64) rfl ?_); refine zbt (some 16) rfl rfl Try.func64 (by kernel_rfl) rfl #[.agg #[.int .i64 a0_0, .int .i64 a0_1, .int .i64 a0_2], .int .i64 a1] rfl Zmt ?_; (with_reducible refine (zy.calls a0_0 a0_1 a0_2 a1 t280 t281 _ A6.out).mono ?_); rintro e w9 ⟨rfl, hb⟩; refine ⟨_, rfl, ?_⟩; have n0_ := za.mk (zbq (g := gb279) (o := .cells #[.int .i64 a0_0, .int .i64 a0_1, .int .i64 a0_2] 35 (0, 0)) (Zq3 BK279) hb); have n1_ := za.mk (zk (Zq1 HB GE279) hb); clear BK279; clear HB; have BK279 := n0_; have HB := n1_; clear n0_ n1_; (try clear hb); (try clear hb2); (try clear hk); (try clear hi)))
  go_loopg [6] k (fun kq v6 w' => ∃ (x6_1 : Int), v6 = .int .i64 x6_1 ∧ za (zba.l0 kq a1 t281 x6_1 a0_0 a0_1 a0_2 = some r) ∧ za (kq ≤ k) ∧ za (w'.heap[gb279]? = some (.cells #[.int .i64 a0_0, .int .i64 a0_1, .int .i64 a0_2] 35 (0, 0))) ∧ za (Below w.heap.size w w'))
  case atStart => exact ⟨(a1), Zrs, H', ⟨Nat.le_refl _⟩, ⟨Zq3 BK279⟩, ⟨Zq1 HB GE279⟩⟩
  case round =>
   clear H'
   (try clear p2);(try clear c3);(try clear c3b0);(try clear c6);(try clear p6);(try clear c7);(try clear hcz5_0);(try clear hcz5_1);(try clear hcz5_2);(try clear hcz8_0);(try clear hcz8_1);(try clear hcz8_2);(try clear hfz5_0);(try clear hfz5_1);(try clear hfz5_2);(try clear hfz8_0);(try clear hfz8_1);(try clear hfz8_2)
   obtain ⟨x6_1, rfl, HA, HK1, BK279, HB⟩ := hrel
   cases gk with
   | zero => exact absurd HA.out (by simp [zba.l0])
   | succ k1 =>
    have H := HA.out;clear HA;simp only [zba.l0] at H;replace H := Option.bind_eq_some_iff.mp H;obtain ⟨⟨t282, t283⟩, A100, H⟩ := H;replace H : (if x6_1 > a1 then (if (wrap64 (t283 - t282)) ≥ 3 then (zba.j1 k1 a1 t281 x6_1 (decide ((wrap64 (t283 - 1)) ≥ t281)) a0_0 a0_1 a0_2 t282 t283) else (zba.j1 k1 a1 t281 x6_1 false a0_0 a0_1 a0_2 t282 t283)) else (zba.j1 k1 a1 t281 x6_1 false a0_0 a0_1 a0_2 t282 t283)) = some r := H;have A10 := za.mk A100;clear A100;have HC11 := za.mk H;clear H;have hcz12_0 : wr.cell? ⟨gb279, 0, none⟩ = some (.int .i64 a0_0) := (zf BK279.out 0).trans rfl;have hcz12_1 : wr.cell? ⟨gb279, 1, none⟩ = some (.int .i64 a0_1) := (zf BK279.out 1).trans rfl;have hcz12_2 : wr.cell? ⟨gb279, 2, none⟩ = some (.int .i64 a0_2) := (zf BK279.out 2).trans rfl;have hfz12_0 := zm BK279.out 0;have hfz12_1 := zm BK279.out 1;have hfz12_2 := zm BK279.out 2
    go_upto_region 7 with (first | ((with_reducible refine zt (f := 64) rfl ?_); refine zbt (some 23) rfl rfl Try.func64 (by kernel_rfl) rfl #[.agg #[.int .i64 a0_0, .int .i64 a0_1, .int .i64 a0_2], .int .i64 x6_1] rfl Zmt ?_; (with_reducible refine (zy.calls a0_0 a0_1 a0_2 x6_1 t282 t283 _ A10.out).mono ?_); rintro e w13 ⟨rfl, hb⟩; refine ⟨_, rfl, ?_⟩; have n0_ := za.mk (zbq (g := gb279) (o := .cells #[.int .i64 a0_0, .int .i64 a0_1, .int .i64 a0_2] 35 (0, 0)) (Zq3 BK279) hb); have n1_ := za.mk (zk (Zq1 HB GE279) hb); clear BK279; clear HB; have BK279 := n0_; have HB := n1_; clear n0_ n1_; (try clear hb); (try clear hb2); (try clear hk); (try clear hi)) | ((with_reducible refine zbw (N := 7) rfl ?_); refine zbv ?hg (N := 7) ?hd (cs := #[.int .i64 0, .int .i64 0]) (t := 39) ?hr ?_; (case hd => rfl); (case hg => rfl); (case hr => first | (go_simp; done) | (go_simp; rfl)); intro gb284 hg w14 hbox hb; have n0_ := za.mk (zbq (g := gb279) (o := .cells #[.int .i64 a0_0, .int .i64 a0_1, .int .i64 a0_2] 35 (0, 0)) (Zq3 BK279) hb); have n1_ := za.mk (zk (Zq1 HB GE279) hb); have n2_ := za.mk (hbox); have n3_ := za.mk ((by rw [hg]; exact (zu (Zq1 HB GE279)) : w.heap.size ≤ gb284)); have n4_ := za.mk ((by rw [hg]; exact (zu (Zq1 HB GE279)) : w.heap.size ≤ gb284)); have n5_ := za.mk ((by rw [hg]; exact Nat.ne_of_lt (zcl (g := gb279) (o := .cells #[.int .i64 a0_0, .int .i64 a0_1, .int .i64 a0_2] 35 (0, 0)) (Zq3 BK279)) : gb279 ≠ gb284)); have n6_ := za.mk ((by rw [hg]; exact Nat.ne_of_gt (zcl (g := gb279) (o := .cells #[.int .i64 a0_0, .int .i64 a0_1, .int .i64 a0_2] 35 (0, 0)) (Zq3 BK279)) : gb284 ≠ gb279)); clear BK279; clear HB; have BK279 := n0_; have HB := n1_; have BK284 := n2_; have GW284 := n3_; have GE284 := n4_; have NB279_284 := n5_; have NB284_279 := n6_; clear n0_ n1_ n2_ n3_ n4_ n5_ n6_; clear hb hbox hg; have hnb15 := NB284_279.out; have hnc15 := NB279_284.out; have hcz16_0 : w14.cell? ⟨gb284, 0, none⟩ = some (.int .i64 0) := (zf BK284.out 0).trans rfl; have hcz16_1 : w14.cell? ⟨gb284, 1, none⟩ = some (.int .i64 0) := (zf BK284.out 1).trans rfl; have hfz16_0 := zm BK284.out 0; have hfz16_1 := zm BK284.out 1))
    (try simp only [Act.put, Zs1, Zs2, Zs3])
    go_cut [41] (fun v41 wc => ∃ (kq : Nat) (x41_10 : Bool), v41 = .bool x41_10 ∧ za (zba.j1 kq a1 t281 x6_1 x41_10 a0_0 a0_1 a0_2 t282 t283 = some r) ∧ za (kq ≤ k1) ∧ za (wc.heap[gb279]? = some (.cells #[.int .i64 a0_0, .int .i64 a0_1, .int .i64 a0_2] 35 (0, 0))) ∧ za (wc.heap[gb284]? = some (.cells #[.int .i64 t282, .int .i64 t283] 39 (0, 0))) ∧ za (Below w.heap.size w wc))
    case first =>
     have H := HC11.out;clear HC11;by_cases c17 : x6_1 > a1
     ·rw [if_pos c17] at H
      have c17b0 : decide (a1 < x6_1) = true := decide_eq_true c17;clear c17;(first | rw [c17b0] | (simp only [zg, zh]; rw [c17b0]) | skip);by_cases c18 : (wrap64 (t283 - t282)) ≥ 3
      ·rw [if_pos c18] at H
       have c18b0 : decide (3 ≤ (wrap64 (t283 - t282))) = true := decide_eq_true c18;clear c18;have H' := za.mk H;clear H;have hnb19 := NB284_279.out;have hnc19 := NB279_284.out;have hcz20_0 : w14.cell? ⟨gb284, 0, none⟩ = some (.int .i64 0) := (zf BK284.out 0).trans rfl;have hcz20_1 : w14.cell? ⟨gb284, 1, none⟩ = some (.int .i64 0) := (zf BK284.out 1).trans rfl;have hfz20_0 := zm BK284.out 0;have hfz20_1 := zm BK284.out 1;go_wp2;go_meet
       case rel => exact ⟨_, (decide ((wrap64 (t283 - 1)) ≥ t281)), Zrs, H', ⟨by have := HK1.out; first | omega | exact Nat.le_refl _⟩, ⟨by (with_reducible repeat (first | refine zbp ?_ _ | refine zbi ?_ | refine zbo ?_ _)); refine zc6 ?_ NB279_284.out _; (with_reducible repeat (first | refine zbp ?_ _ | refine zbi ?_ | refine zbo ?_ _)); refine zc6 ?_ NB279_284.out _; (with_reducible repeat (first | refine zbp ?_ _ | refine zbi ?_ | refine zbo ?_ _)); exact BK279.out⟩, ⟨by (with_reducible repeat (first | refine zbp ?_ _ | refine zbi ?_ | refine zbo ?_ _)); refine zcv (cs := #[.int .i64 t282, .int .i64 0]) ?_ 1 _ rfl; (with_reducible repeat (first | refine zbp ?_ _ | refine zbi ?_ | refine zbo ?_ _)); refine zcv (cs := #[.int .i64 0, .int .i64 0]) ?_ 0 _ rfl; (with_reducible repeat (first | refine zbp ?_ _ | refine zbi ?_ | refine zbo ?_ _)); exact BK284.out⟩, ⟨Zq6 HB GE279 GE284⟩⟩
      ·rw [if_neg c18] at H
       have c18b0 : decide (3 ≤ (wrap64 (t283 - t282))) = false := decide_eq_false c18;clear c18;have H' := za.mk H;clear H;have hnb21 := NB284_279.out;have hnc21 := NB279_284.out;have hcz22_0 : w14.cell? ⟨gb284, 0, none⟩ = some (.int .i64 0) := (zf BK284.out 0).trans rfl;have hcz22_1 : w14.cell? ⟨gb284, 1, none⟩ = some (.int .i64 0) := (zf BK284.out 1).trans rfl;have hfz22_0 := zm BK284.out 0;have hfz22_1 := zm BK284.out 1;go_wp2;go_meet
       case rel => exact ⟨_, (false), Zrs, H', ⟨by have := HK1.out; first | omega | exact Nat.le_refl _⟩, ⟨by (with_reducible repeat (first | refine zbp ?_ _ | refine zbi ?_ | refine zbo ?_ _)); refine zc6 ?_ NB279_284.out _; (with_reducible repeat (first | refine zbp ?_ _ | refine zbi ?_ | refine zbo ?_ _)); refine zc6 ?_ NB279_284.out _; (with_reducible repeat (first | refine zbp ?_ _ | refine zbi ?_ | refine zbo ?_ _)); exact BK279.out⟩, ⟨by (with_reducible repeat (first | refine zbp ?_ _ | refine zbi ?_ | refine zbo ?_ _)); refine zcv (cs := #[.int .i64 t282, .int .i64 0]) ?_ 1 _ rfl; (with_reducible repeat (first | refine zbp ?_ _ | refine zbi ?_ | refine zbo ?_ _)); refine zcv (cs := #[.int .i64 0, .int .i64 0]) ?_ 0 _ rfl; (with_reducible repeat (first | refine zbp ?_ _ | refine zbi ?_ | refine zbo ?_ _)); exact BK284.out⟩, ⟨Zq6 HB GE279 GE284⟩⟩
     ·rw [if_neg c17] at H
      have c17b0 : decide (a1 < x6_1) = false := decide_eq_false c17;clear c17;(first | rw [c17b0] | (simp only [zg, zh]; rw [c17b0]) | skip);have H' := za.mk H;clear H;go_wp2;go_meet
      case rel => exact ⟨_, (false), Zrs, H', ⟨by have := HK1.out; first | omega | exact Nat.le_refl _⟩, ⟨by (with_reducible repeat (first | refine zbp ?_ _ | refine zbi ?_ | refine zbo ?_ _)); refine zc6 ?_ NB279_284.out _; (with_reducible repeat (first | refine zbp ?_ _ | refine zbi ?_ | refine zbo ?_ _)); refine zc6 ?_ NB279_284.out _; (with_reducible repeat (first | refine zbp ?_ _ | refine zbi ?_ | refine zbo ?_ _)); exact BK279.out⟩, ⟨by (with_reducible repeat (first | refine zbp ?_ _ | refine zbi ?_ | refine zbo ?_ _)); refine zcv (cs := #[.int .i64 t282, .int .i64 0]) ?_ 1 _ rfl; (with_reducible repeat (first | refine zbp ?_ _ | refine zbi ?_ | refine zbo ?_ _)); refine zcv (cs := #[.int .i64 0, .int .i64 0]) ?_ 0 _ rfl; (with_reducible repeat (first | refine zbp ?_ _ | refine zbi ?_ | refine zbo ?_ _)); exact BK284.out⟩, ⟨Zq6 HB GE279 GE284⟩⟩
    case rest =>
     clear HC11
     (try clear c1);(try clear c2);(try clear p2);(try clear c3);(try clear c3b0);(try clear c6);(try clear p6);(try clear c7);(try clear c15);(try clear c17);(try clear c17b0);(try clear c18);(try clear c18b0);(try clear c19);(try clear c21);(try clear hcz12_0);(try clear hcz12_1);(try clear hcz12_2);(try clear hcz16_0);(try clear hcz16_1);(try clear hcz20_0);(try clear hcz20_1);(try clear hcz22_0);(try clear hcz22_1);(try clear hcz5_0);(try clear hcz5_1);(try clear hcz5_2);(try clear hcz8_0);(try clear hcz8_1);(try clear hcz8_2);(try clear hfz12_0);(try clear hfz12_1);(try clear hfz12_2);(try clear hfz16_0);(try clear hfz16_1);(try clear hfz20_0);(try clear hfz20_1);(try clear hfz22_0);(try clear hfz22_1);(try clear hfz5_0);(try clear hfz5_1);(try clear hfz5_2);(try clear hfz8_0);(try clear hfz8_1);(try clear hfz8_2);(try clear p2);(try clear p6)
     obtain ⟨kq, x41_10, rfl, HA, HJ10, BK279, BK284, HB⟩ := hcut
     cases kq with
     | zero => exact absurd HA.out (by simp [zba.j1])
     | succ kj10 =>
      have H := HA.out;clear HA;simp only [zba.j1] at H;by_cases c23 : x41_10 = true
      ·subst c23
       have H1 : (some (wrap64 (t283 - 1))) = some r := by rw [if_pos rfl] at H; exact H
       clear H;have H := H1;clear H1;obtain rfl := Option.some.inj H;have hnb24 := NB284_279.out;have hnc24 := NB279_284.out;have hcz25_0 : wc.cell? ⟨gb284, 0, none⟩ = some (.int .i64 t282) := (zf BK284.out 0).trans rfl;have hcz25_1 : wc.cell? ⟨gb284, 1, none⟩ = some (.int .i64 t283) := (zf BK284.out 1).trans rfl;have hfz25_0 := zm BK284.out 0;have hfz25_1 := zm BK284.out 1;go_wp2;go_ret;exact ⟨by first | rfl | (simp [zn, zo] <;> rfl) | (simp [*, zn, zo] <;> rfl), Zq6 HB GE279 GE284⟩
      ·replace c23 := Bool.eq_false_iff.mpr c23
       subst c23;have H1 : ((zbd.f a0_0 a0_1 a0_2 x6_1).bind fun t285 => (if t285 = 0 then (some t283) else (zba.l0 kj10 a1 t281 (wrap64 (x6_1 + 1)) a0_0 a0_1 a0_2))) = some r := by rw [if_neg (show ¬ (false = true) by decide)] at H; exact H
       clear H;have H := H1;clear H1;replace H := Option.bind_eq_some_iff.mp H;obtain ⟨t285, A260, H⟩ := H;replace H : (if t285 = 0 then (some t283) else (zba.l0 kj10 a1 t281 (wrap64 (x6_1 + 1)) a0_0 a0_1 a0_2)) = some r := H;have A26 := za.mk A260;clear A260;by_cases c27 : t285 = 0
       ·rw [if_pos c27] at H
        have c27b0 : (t285 == 0) = true := beq_iff_eq.mpr c27;have c27b1 : (t285 != 0) = false := bne_eq_false_iff_eq.mpr c27;clear c27;obtain rfl := Option.some.inj H;have hnb28 := NB279_284.out;have hnc28 := NB284_279.out;have hcz29_0 : wc.cell? ⟨gb279, 0, none⟩ = some (.int .i64 a0_0) := (zf BK279.out 0).trans rfl;have hcz29_1 : wc.cell? ⟨gb279, 1, none⟩ = some (.int .i64 a0_1) := (zf BK279.out 1).trans rfl;have hcz29_2 : wc.cell? ⟨gb279, 2, none⟩ = some (.int .i64 a0_2) := (zf BK279.out 2).trans rfl;have hfz29_0 := zm BK279.out 0;have hfz29_1 := zm BK279.out 1;have hfz29_2 := zm BK279.out 2;go_wp2_with (first | ((with_reducible refine zt (f := 76) rfl ?_); refine zbt (some 47) rfl rfl Try.func76 (by kernel_rfl) rfl #[.agg #[.int .i64 a0_0, .int .i64 a0_1, .int .i64 a0_2], .int .i64 x6_1] rfl Zmt ?_; (with_reducible refine (zbd.calls a0_0 a0_1 a0_2 x6_1 t285 _ A26.out).mono ?_); rintro e w30 ⟨rfl, hb⟩; refine ⟨_, rfl, ?_⟩; have n0_ := za.mk (zbq (g := gb279) (o := .cells #[.int .i64 a0_0, .int .i64 a0_1, .int .i64 a0_2] 35 (0, 0)) (Zq3 BK279) hb); have n1_ := za.mk (zbq (g := gb284) (o := .cells #[.int .i64 t282, .int .i64 t283] 39 (0, 0)) (Zq3 BK284) hb); have n2_ := za.mk (zk (Zq6 HB GE279 GE284) hb); clear BK279; clear BK284; clear HB; have BK279 := n0_; have BK284 := n1_; have HB := n2_; clear n0_ n1_ n2_; (try clear hb); (try clear hb2); (try clear hk); (try clear hi); have hcz31_0 : w30.cell? ⟨gb284, 0, none⟩ = some (.int .i64 t282) := (zf BK284.out 0).trans rfl; have hcz31_1 : w30.cell? ⟨gb284, 1, none⟩ = some (.int .i64 t283) := (zf BK284.out 1).trans rfl; have hfz31_0 := zm BK284.out 0; have hfz31_1 := zm BK284.out 1));go_ret;exact ⟨by first | rfl | (simp [zn, zo] <;> rfl) | (simp [*, zn, zo] <;> rfl), Zq6 HB GE279 GE284⟩
       ·rw [if_neg c27] at H
        have c27b0 : (t285 == 0) = false := beq_eq_false_iff_ne.mpr c27;have c27b1 : (t285 != 0) = true := bne_iff_ne.mpr c27;have H' := za.mk H;clear H;have hnb32 := NB279_284.out;have hnc32 := NB284_279.out;have hcz33_0 : wc.cell? ⟨gb279, 0, none⟩ = some (.int .i64 a0_0) := (zf BK279.out 0).trans rfl;have hcz33_1 : wc.cell? ⟨gb279, 1, none⟩ = some (.int .i64 a0_1) := (zf BK279.out 1).trans rfl;have hcz33_2 : wc.cell? ⟨gb279, 2, none⟩ = some (.int .i64 a0_2) := (zf BK279.out 2).trans rfl;have hfz33_0 := zm BK279.out 0;have hfz33_1 := zm BK279.out 1;have hfz33_2 := zm BK279.out 2;go_wp2_with (first | ((with_reducible refine zt (f := 76) rfl ?_); refine zbt (some 47) rfl rfl Try.func76 (by kernel_rfl) rfl #[.agg #[.int .i64 a0_0, .int .i64 a0_1, .int .i64 a0_2], .int .i64 x6_1] rfl Zmt ?_; (with_reducible refine (zbd.calls a0_0 a0_1 a0_2 x6_1 t285 _ A26.out).mono ?_); rintro e w34 ⟨rfl, hb⟩; refine ⟨_, rfl, ?_⟩; have n0_ := za.mk (zbq (g := gb279) (o := .cells #[.int .i64 a0_0, .int .i64 a0_1, .int .i64 a0_2] 35 (0, 0)) (Zq3 BK279) hb); have n1_ := za.mk (zbq (g := gb284) (o := .cells #[.int .i64 t282, .int .i64 t283] 39 (0, 0)) (Zq3 BK284) hb); have n2_ := za.mk (zk (Zq6 HB GE279 GE284) hb); clear BK279; clear BK284; clear HB; have BK279 := n0_; have BK284 := n1_; have HB := n2_; clear n0_ n1_ n2_; (try clear hb); (try clear hb2); (try clear hk); (try clear hi)));go_roundg kj10
        case measure => have := HK1.out; have := HJ10.out; omega
        case rel => exact ⟨(wrap64 (x6_1 + 1)), Zrs, H', ⟨by have := HK1.out; have := HJ10.out; omega⟩, ⟨Zq3 BK279⟩, ⟨Zq6 HB GE279 GE284⟩⟩
end Go.Proofs.Ytnilnaabjpcfjaa.P
