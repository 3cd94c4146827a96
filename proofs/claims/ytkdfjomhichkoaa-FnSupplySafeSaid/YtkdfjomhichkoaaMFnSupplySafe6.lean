/- The law FnSupplySafe for every input, part 6 of its proof: what the program's functions answer, and the plain law. No condition. -/
import Derived.Test.YtkdfjomhichkoaaMFnSupplySafe1
import Derived.Test.YtkdfjomhichkoaaMFnSupplySafe2
import Derived.Test.YtkdfjomhichkoaaMFnSupplySafe3
import Derived.Test.YtkdfjomhichkoaaMFnSupplySafe4
import Derived.Test.YtkdfjomhichkoaaMFnSupplySafe5
set_option maxRecDepth 100000
namespace Go.Proofs.Ytkdfjomhichkoaa.P
open Go.RowKit Go.Proofs.YtkdfjomhichkoaaW.PrintWords Go.Proofs.YtkdfjomhichkoaaW.PrintLast Go.Proofs.YtkdfjomhichkoaaW.PrintMore
attribute [local go_sem] zfi zfj zgf zgg ze2 ze3 zfk zfl
set_option linter.unusedVariables false
set_option linter.unusedSimpArgs false
mutual
def zk.j0 : Nat → List (S88) → Bool → Int → Int → Option (Bool)
 | 0, _, _, _, _ => none
 | k + 1, x0, x26, x887000, x887001 => if x26 = true then (some false) else (zk.l0 k x0 1 x887000 x887001)
def zk.l0 : Nat → List (S88) → Int → Int → Int → Option (Bool)
 | 0, _, _, _, _ => none
 | k + 1, x0, x5, x887000, x887001 => (zb9.f k x0).bind fun t891 => ((zd9.f k t891 x887001).bind fun t892 => (if x5 ≤ (wrap64 (t892 + (wrap64 (2 * x887001)))) then ((zco.f k x0 x5).bind fun t893 => ((zct.f x887000 x887001 x5).bind fun t894 => (if t893 > t894 then (some false) else (zk.l0 k x0 (wrap64 (x5 + 1)) x887000 x887001)))) else (some true)))
end
def zk.f (k : Nat) (l0 : List (S88)) (a1_0 : Int) (a1_1 : Int) : Option (Bool) := (zcn.f l0).bind fun t887 => (if t887 = true then ((zcd.f a1_0 a1_1).bind fun t888 => (if t888 = true then ((zcy.f k l0).bind fun t889 => ((zb9.f k l0).bind fun t890 => (zk.j0 k l0 (decide ((wrap64 (t889 * a1_1)) > (wrap64 (a1_0 * t890)))) a1_0 a1_1))) else (zk.j0 k l0 true a1_0 a1_1))) else (zk.j0 k l0 true a1_0 a1_1))
def zk.T1 : Bool × List (List Nat × List Nat) := (true, [([], []), ([0], [0]), ([1], [1]), ([2, 1], [2]), ([3], [3]), ([4, 3, 3], [3, 4]), ([5, 3], [3, 5]), ([3, 6], [3, 6]), ([7, 5], [7]), ([8], [8]), ([9, 8, 8], [8, 9]), ([8], [8]), ([11, 8], [8, 11]), ([10, 12, 8], [8, 10, 12]), ([8], [8]), ([14, 8], [8, 14]), ([8], [8]), ([16, 10, 8], [8, 16]), ([15, 17, 8], [8, 15, 17]), ([13, 18, 8], [8, 13, 18]), ([8, 19], [8, 19])])
def zk.B1 : List Nat := [0, 1, 3, 7, 15, 31, 63, 127, 255, 511, 1023, 511, 2559, 8191, 511, 16895, 511, 67583, 247807, 524287, 1048575]
theorem zk.tab1 : rtab .any (opsOf Try.f37 1) = zk.T1 := by kernel_rfl
theorem zk.bits1 : zea zk.T1.2 zk.B1 = true := by kernel_rfl
def zk.T4 : Bool × List (List Nat × List Nat) := (true, [([], []), ([], []), ([1], [1]), ([], []), ([3], [3]), ([2, 4, 2], [2, 4]), ([], []), ([6], [6]), ([7], [7]), ([5, 8], [5, 8]), ([0, 9], [0, 9])])
def zk.B4 : List Nat := [0, 0, 2, 0, 8, 30, 0, 64, 192, 510, 1023]
theorem zk.tab4 : rtab .any (opsOf Try.f37 4) = zk.T4 := by kernel_rfl
theorem zk.bits4 : zea zk.T4.2 zk.B4 = true := by kernel_rfl
set_option maxHeartbeats 8000000 in
theorem zk.calls (k : Nat) (A0 : Option Addr) (c0 : Nat) (l0 : List (S88)) (a1_0 : Int) (a1_1 : Int) (r : Bool) (w : World) (hr0 : Kd.C k88 w A0 l0.length l0) (hc0 : l0.length ≤ c0) (h : zk.f k l0 a1_0 a1_1 = some r) :
  Calls Try.prog 37 #[.slice A0 l0.length c0, .agg #[.int .i64 a1_0, .int .i64 a1_1]] w fun e w' => e = .returned (.bool r) ∧ Below w.heap.size w w' := by
 have hu51 := Try.underlying51
 have HR0 := za.mk hr0
 have HC0 := za.mk hc0
 clear hr0 hc0
 have HB := za.mk (Below.refl w.heap.size w)
 have H : ((zcn.f l0).bind fun t887 => (if t887 = true then ((zcd.f a1_0 a1_1).bind fun t888 => (if t888 = true then ((zcy.f k l0).bind fun t889 => ((zb9.f k l0).bind fun t890 => (zk.j0 k l0 (decide ((wrap64 (t889 * a1_1)) > (wrap64 (a1_0 * t890)))) a1_0 a1_1))) else (zk.j0 k l0 true a1_0 a1_1))) else (zk.j0 k l0 true a1_0 a1_1))) = some r := h
 clear h
 have HC3 := za.mk H
 clear H
 go_enter Try.func37, Try.ntmps37
 go_upto_region 1 with (first | ((with_reducible refine zbp (N := 3) rfl ?_); refine zbt ?hg (N := 3) ?hd (cs := #[.int .i64 a1_0, .int .i64 a1_1]) (t := 51) ?hr ?_; (case hd => rfl); (case hg => rfl); (case hr => first | (go_simp; done) | (go_simp; rfl)); intro gb886 hg w4 hbox hb; have n0_ := za.mk (zm (Zq3 HB) hb); have n1_ := za.mk (hbox); have n2_ := za.mk ((by rw [hg]; exact (zy (Zq3 HB)) : w.heap.size ≤ gb886)); have n3_ := za.mk ((by rw [hg]; exact (zy (Zq3 HB)) : w.heap.size ≤ gb886)); clear HB; have HB := n0_; have BK886 := n1_; have GW886 := n2_; have GE886 := n3_; clear n0_ n1_ n2_ n3_; clear hb hbox hg))
 (try simp only [Act.put, Zs1, Zs2, Zs3])
 go_cut [26] (fun v26 wc => ∃ (kq : Nat) (x26_2 : Bool), v26 = .bool x26_2 ∧ za (zk.j0 kq l0 x26_2 a1_0 a1_1 = some r) ∧ za (kq ≤ k) ∧ za (wc.heap[gb886]? = some (.cells #[.int .i64 a1_0, .int .i64 a1_1] 51 (0, 0))) ∧ za (Below w.heap.size w wc))
 case first =>
  have H := HC3.out;clear HC3;replace H := Option.bind_eq_some_iff.mp H;obtain ⟨t887, A50, H⟩ := H;replace H : (if t887 = true then ((zcd.f a1_0 a1_1).bind fun t888 => (if t888 = true then ((zcy.f k l0).bind fun t889 => ((zb9.f k l0).bind fun t890 => (zk.j0 k l0 (decide ((wrap64 (t889 * a1_1)) > (wrap64 (a1_0 * t890)))) a1_0 a1_1))) else (zk.j0 k l0 true a1_0 a1_1))) else (zk.j0 k l0 true a1_0 a1_1)) = some r := H;have A5 := za.mk A50;clear A50;by_cases c6 : t887 = true
  ·subst c6
   have H1 : ((zcd.f a1_0 a1_1).bind fun t888 => (if t888 = true then ((zcy.f k l0).bind fun t889 => ((zb9.f k l0).bind fun t890 => (zk.j0 k l0 (decide ((wrap64 (t889 * a1_1)) > (wrap64 (a1_0 * t890)))) a1_0 a1_1))) else (zk.j0 k l0 true a1_0 a1_1))) = some r := by rw [if_pos rfl] at H; exact H
   clear H;have H := H1;clear H1;replace H := Option.bind_eq_some_iff.mp H;obtain ⟨t888, A70, H⟩ := H;replace H : (if t888 = true then ((zcy.f k l0).bind fun t889 => ((zb9.f k l0).bind fun t890 => (zk.j0 k l0 (decide ((wrap64 (t889 * a1_1)) > (wrap64 (a1_0 * t890)))) a1_0 a1_1))) else (zk.j0 k l0 true a1_0 a1_1)) = some r := H;have A7 := za.mk A70;clear A70;by_cases c8 : t888 = true
   ·subst c8
    have H1 : ((zcy.f k l0).bind fun t889 => ((zb9.f k l0).bind fun t890 => (zk.j0 k l0 (decide ((wrap64 (t889 * a1_1)) > (wrap64 (a1_0 * t890)))) a1_0 a1_1))) = some r := by rw [if_pos rfl] at H; exact H
    clear H;have H := H1;clear H1;replace H := Option.bind_eq_some_iff.mp H;obtain ⟨t889, A90, H⟩ := H;replace H : ((zb9.f k l0).bind fun t890 => (zk.j0 k l0 (decide ((wrap64 (t889 * a1_1)) > (wrap64 (a1_0 * t890)))) a1_0 a1_1)) = some r := H;have A9 := za.mk A90;clear A90;replace H := Option.bind_eq_some_iff.mp H;obtain ⟨t890, A100, H⟩ := H;replace H : (zk.j0 k l0 (decide ((wrap64 (t889 * a1_1)) > (wrap64 (a1_0 * t890)))) a1_0 a1_1) = some r := H;have A10 := za.mk A100;clear A100;have H' := za.mk H;clear H
    try go_wp2
    have n0_ := za.mk (zx BK886.out);have n1_ := za.mk (zbs HB.out);clear BK886;clear HB;have BK886 := n0_;have HB := n1_;clear n0_ n1_;refine zed (n := 21) (S := fun w' => w'.cell? ⟨gb886, 0, none⟩ = some (.int .i64 a1_0) ∧ w'.cell? ⟨gb886, 1, none⟩ = some (.int .i64 a1_1)) (ds := []) #[false, false, false, false, false, false, false, false, false, false, false, false, false, false, false, false, false, false, false, false, false] (by kernel_rfl) rfl rfl ⟨(ze BK886.out 0).trans rfl, (ze BK886.out 1).trans rfl⟩ (fun hHeld => ?_); refine zdd zk.tab1 zk.bits1 (fun HT_ HW_ => ?_);generalize w4.drew = w11 at BK886 HB hHeld ⊢;refine zbv (i := 0) (N := some 6) (v := ?_) (a' := ?_) #[true, false, false, false, false, false, false, false, false, false, false, false, false, false, false, false, false, false, false, false, false] rfl rfl (zbl HT_.out (by kernel_rfl)) (fun _ _ _ h => h) (Or.inl ⟨by rfl, ?_⟩) ?_ ?_;rotate_left
    ·intro w'
     go_simp;with_reducible rfl
    rotate_left
    ·simp only [Act.put, Zs1, Zs2, Zs3, zbh, zbj]
     rfl
    refine one_ (i := 1) (N := some 7) #[true, true, false, false, false, false, false, false, false, false, false, false, false, false, false, false, false, false, false, false, false] rfl rfl (zc2 HT_.out (by kernel_rfl)) (by decide) (fun K hK => ?_);refine zd8 Try.func76 (by kernel_rfl) rfl #[.slice A0 l0.length c0] (by rfl) rfl rfl Zmt ?_;with_reducible refine (zcn.calls _ _ l0 true _ ?side1 ?side2 A5.out).mono ?_
    (case side1 => exact Zq6 (Kd.zb4 HR0.out HB.out));(case side2 => exact HC0.out);rintro e w12 ⟨rfl, hb⟩;refine ⟨_, rfl, ?_⟩;have n0_ := za.mk (zbg (g := gb886) (o := .cells #[.int .i64 a1_0, .int .i64 a1_1] 51 (0, 0)) (Zq4 BK886) hb);have n1_ := za.mk (zm (Zq5 HB GE886) hb);clear BK886;clear HB;have BK886 := n0_;have HB := n1_;clear n0_ n1_;(try clear hb);(try clear hb2);(try clear hk);(try clear hi);refine hK.out _ _ ⟨(ze BK886.out 0).trans rfl, (ze BK886.out 1).trans rfl⟩ (fun hHeld => ?_);clear hK K;refine zc0 (a' := ?_) ?_ ?_;rotate_left
    ·show Act.put _ (some 7) _ = _
     simp only [Act.put, Zs1, Zs2, Zs3, zbh, zbj];rfl
    refine zbv (i := 2) (N := some 8) (v := ?_) (a' := ?_) #[true, true, true, false, false, false, false, false, false, false, false, false, false, false, false, false, false, false, false, false, false] rfl rfl (zbl HT_.out (by kernel_rfl)) (fun _ _ _ h => h) (Or.inl ⟨by rfl, ?_⟩) ?_ ?_;rotate_left
    ·intro w'
     go_simp;with_reducible rfl
    rotate_left
    ·simp only [Act.put, Zs1, Zs2, Zs3, zbh, zbj]
     rfl
    refine zbv (i := 3) (N := some 9) (v := ?_) (a' := ?_) #[true, true, true, true, false, false, false, false, false, false, false, false, false, false, false, false, false, false, false, false, false] rfl rfl (zbl HT_.out (by kernel_rfl)) (fun _ _ _ h => h) (Or.inl ⟨by rfl, ?_⟩) ?_ ?_;rotate_left
    ·intro w'
     go_simp;with_reducible rfl
    rotate_left
    ·simp only [Act.put, Zs1, Zs2, Zs3, zbh, zbj]
     rfl
    refine zdy (i := 4) (N := some 10) (v := ?_) (a' := ?_) #[true, true, true, true, true, false, false, false, false, false, false, false, false, false, false, false, false, false, false, false, false] rfl rfl (zcm HT_.out HW_.out (by kernel_rfl)) (fun _ _ _ h => h) (Or.inl ⟨by rfl, ?_⟩) hHeld ?_ ?_;rotate_left
    ·rintro w' ⟨s0, s1⟩
     go_simp;with_reducible rfl
    rotate_left
    ·simp only [Act.put, Zs1, Zs2, Zs3, zbh, zbj]
     rfl
    refine one_ (i := 5) (N := some 11) #[true, true, true, true, true, true, false, false, false, false, false, false, false, false, false, false, false, false, false, false, false] rfl rfl (zc2 HT_.out (by kernel_rfl)) (by decide) (fun K hK => ?_);refine zd8 Try.func77 (by kernel_rfl) rfl #[.agg #[.int .i64 a1_0, .int .i64 a1_1]] (by rfl) rfl rfl Zmt ?_;with_reducible refine (zcd.calls a1_0 a1_1 true _ A7.out).mono ?_
    rintro e w13 ⟨rfl, hb⟩;refine ⟨_, rfl, ?_⟩;have n0_ := za.mk (zbg (g := gb886) (o := .cells #[.int .i64 a1_0, .int .i64 a1_1] 51 (0, 0)) (Zq4 BK886) hb);have n1_ := za.mk (zm (Zq5 HB GE886) hb);clear BK886;clear HB;have BK886 := n0_;have HB := n1_;clear n0_ n1_;(try clear hb);(try clear hb2);(try clear hk);(try clear hi);refine hK.out _ _ ⟨(ze BK886.out 0).trans rfl, (ze BK886.out 1).trans rfl⟩ (fun hHeld => ?_);clear hK K;refine zc0 (a' := ?_) ?_ ?_;rotate_left
    ·show Act.put _ (some 11) _ = _
     simp only [Act.put, Zs1, Zs2, Zs3, zbh, zbj];rfl
    refine zbv (i := 6) (N := some 12) (v := ?_) (a' := ?_) #[true, true, true, true, true, true, true, false, false, false, false, false, false, false, false, false, false, false, false, false, false] rfl rfl (zbl HT_.out (by kernel_rfl)) (fun _ _ _ h => h) (Or.inl ⟨by rfl, ?_⟩) ?_ ?_;rotate_left
    ·intro w'
     go_simp;with_reducible rfl
    rotate_left
    ·simp only [Act.put, Zs1, Zs2, Zs3, zbh, zbj]
     rfl
    refine zbv (i := 7) (N := some 13) (v := ?_) (a' := ?_) #[true, true, true, true, true, true, true, true, false, false, false, false, false, false, false, false, false, false, false, false, false] rfl rfl (zbl HT_.out (by kernel_rfl)) (fun _ _ _ h => h) (Or.inl ⟨by rfl, ?_⟩) ?_ ?_;rotate_left
    ·intro w'
     go_simp;with_reducible rfl
    rotate_left
    ·simp only [Act.put, Zs1, Zs2, Zs3, zbh, zbj]
     rfl
    refine zbv (i := 8) (N := some 14) (v := ?_) (a' := ?_) #[true, true, true, true, true, true, true, true, true, false, false, false, false, false, false, false, false, false, false, false, false] rfl rfl (zbl HT_.out (by kernel_rfl)) (fun _ _ _ h => h) (Or.inl ⟨by rfl, ?_⟩) ?_ ?_;rotate_left
    ·intro w'
     go_simp;with_reducible rfl
    rotate_left
    ·simp only [Act.put, Zs1, Zs2, Zs3, zbh, zbj]
     rfl
    refine zbv (i := 9) (N := some 15) (v := ?_) (a' := ?_) #[true, true, true, true, true, true, true, true, true, true, false, false, false, false, false, false, false, false, false, false, false] rfl rfl (zbl HT_.out (by kernel_rfl)) (fun _ _ _ h => h) (Or.inl ⟨by rfl, ?_⟩) ?_ ?_;rotate_left
    ·intro w'
     go_simp;with_reducible rfl
    rotate_left
    ·simp only [Act.put, Zs1, Zs2, Zs3, zbh, zbj]
     rfl
    refine zbv (i := 11) (N := some 17) (v := ?_) (a' := ?_) #[true, true, true, true, true, true, true, true, true, true, false, true, false, false, false, false, false, false, false, false, false] rfl rfl (zbl HT_.out (by kernel_rfl)) (fun _ _ _ h => h) (Or.inl ⟨by rfl, ?_⟩) ?_ ?_;rotate_left
    ·intro w'
     go_simp;with_reducible rfl
    rotate_left
    ·simp only [Act.put, Zs1, Zs2, Zs3, zbh, zbj]
     rfl
    refine zbv (i := 14) (N := some 20) (v := ?_) (a' := ?_) #[true, true, true, true, true, true, true, true, true, true, false, true, false, false, true, false, false, false, false, false, false] rfl rfl (zbl HT_.out (by kernel_rfl)) (fun _ _ _ h => h) (Or.inl ⟨by rfl, ?_⟩) ?_ ?_;rotate_left
    ·intro w'
     go_simp;with_reducible rfl
    rotate_left
    ·simp only [Act.put, Zs1, Zs2, Zs3, zbh, zbj]
     rfl
    refine zbv (i := 16) (N := some 22) (v := ?_) (a' := ?_) #[true, true, true, true, true, true, true, true, true, true, false, true, false, false, true, false, true, false, false, false, false] rfl rfl (zbl HT_.out (by kernel_rfl)) (fun _ _ _ h => h) (Or.inl ⟨by rfl, ?_⟩) ?_ ?_;rotate_left
    ·intro w'
     go_simp;with_reducible rfl
    rotate_left
    ·simp only [Act.put, Zs1, Zs2, Zs3, zbh, zbj]
     rfl
    refine zdy (i := 12) (N := some 18) (v := ?_) (a' := ?_) #[true, true, true, true, true, true, true, true, true, true, false, true, true, false, true, false, true, false, false, false, false] rfl rfl (zcm HT_.out HW_.out (by kernel_rfl)) (fun _ _ _ h => h) (Or.inl ⟨by rfl, ?_⟩) hHeld ?_ ?_;rotate_left
    ·rintro w' ⟨s0, s1⟩
     go_simp;with_reducible rfl
    rotate_left
    ·simp only [Act.put, Zs1, Zs2, Zs3, zbh, zbj]
     rfl
    refine zdy (i := 15) (N := some 21) (v := ?_) (a' := ?_) #[true, true, true, true, true, true, true, true, true, true, false, true, true, false, true, true, true, false, false, false, false] rfl rfl (zcm HT_.out HW_.out (by kernel_rfl)) (fun _ _ _ h => h) (Or.inl ⟨by rfl, ?_⟩) hHeld ?_ ?_;rotate_left
    ·rintro w' ⟨s0, s1⟩
     go_simp;with_reducible rfl
    rotate_left
    ·simp only [Act.put, Zs1, Zs2, Zs3, zbh, zbj]
     rfl
    refine one_ (i := 10) (N := some 16) #[true, true, true, true, true, true, true, true, true, true, true, true, true, false, true, true, true, false, false, false, false] rfl rfl (zc2 HT_.out (by kernel_rfl)) (by decide) (fun K hK => ?_);refine zd8 Try.func65 (by kernel_rfl) rfl #[.slice A0 l0.length c0] (by rfl) rfl rfl Zmt ?_;with_reducible refine (zcy.calls k _ _ l0 t889 _ ?side1 ?side2 A9.out).mono ?_
    (case side1 => exact Zq6 (Kd.zb4 HR0.out HB.out));(case side2 => exact HC0.out);rintro e w14 ⟨rfl, hb⟩;refine ⟨_, rfl, ?_⟩;have n0_ := za.mk (zbg (g := gb886) (o := .cells #[.int .i64 a1_0, .int .i64 a1_1] 51 (0, 0)) (Zq4 BK886) hb);have n1_ := za.mk (zm (Zq5 HB GE886) hb);clear BK886;clear HB;have BK886 := n0_;have HB := n1_;clear n0_ n1_;(try clear hb);(try clear hb2);(try clear hk);(try clear hi);refine hK.out _ _ ⟨(ze BK886.out 0).trans rfl, (ze BK886.out 1).trans rfl⟩ (fun hHeld => ?_);clear hK K;refine zc0 (a' := ?_) ?_ ?_;rotate_left
    ·show Act.put _ (some 16) _ = _
     simp only [Act.put, Zs1, Zs2, Zs3, zbh, zbj];rfl
    refine zbv (i := 13) (N := some 19) (v := ?_) (a' := ?_) #[true, true, true, true, true, true, true, true, true, true, true, true, true, true, true, true, true, false, false, false, false] rfl rfl (zbl HT_.out (by kernel_rfl)) (fun _ _ _ h => h) (Or.inl ⟨by rfl, ?_⟩) ?_ ?_;rotate_left
    ·intro w'
     go_simp;with_reducible rfl
    rotate_left
    ·simp only [Act.put, Zs1, Zs2, Zs3, zbh, zbj]
     rfl
    refine one_ (i := 17) (N := some 23) #[true, true, true, true, true, true, true, true, true, true, true, true, true, true, true, true, true, true, false, false, false] rfl rfl (zc2 HT_.out (by kernel_rfl)) (by decide) (fun K hK => ?_);refine zd8 Try.func66 (by kernel_rfl) rfl #[.slice A0 l0.length c0] (by rfl) rfl rfl Zmt ?_;with_reducible refine (zb9.calls k _ _ l0 t890 _ ?side1 ?side2 A10.out).mono ?_
    (case side1 => exact Zq6 (Kd.zb4 HR0.out HB.out));(case side2 => exact HC0.out);rintro e w15 ⟨rfl, hb⟩;refine ⟨_, rfl, ?_⟩;have n0_ := za.mk (zbg (g := gb886) (o := .cells #[.int .i64 a1_0, .int .i64 a1_1] 51 (0, 0)) (Zq4 BK886) hb);have n1_ := za.mk (zm (Zq5 HB GE886) hb);clear BK886;clear HB;have BK886 := n0_;have HB := n1_;clear n0_ n1_;(try clear hb);(try clear hb2);(try clear hk);(try clear hi);refine hK.out _ _ ⟨(ze BK886.out 0).trans rfl, (ze BK886.out 1).trans rfl⟩ (fun hHeld => ?_);clear hK K;refine zc0 (a' := ?_) ?_ ?_;rotate_left
    ·show Act.put _ (some 23) _ = _
     simp only [Act.put, Zs1, Zs2, Zs3, zbh, zbj];rfl
    refine zbv (i := 18) (N := some 24) (v := ?_) (a' := ?_) #[true, true, true, true, true, true, true, true, true, true, true, true, true, true, true, true, true, true, true, false, false] rfl rfl (zbl HT_.out (by kernel_rfl)) (fun _ _ _ h => h) (Or.inl ⟨by rfl, ?_⟩) ?_ ?_;rotate_left
    ·intro w'
     go_simp;with_reducible rfl
    rotate_left
    ·simp only [Act.put, Zs1, Zs2, Zs3, zbh, zbj]
     rfl
    refine zbv (i := 19) (N := some 25) (v := ?_) (a' := ?_) #[true, true, true, true, true, true, true, true, true, true, true, true, true, true, true, true, true, true, true, true, false] rfl rfl (zbl HT_.out (by kernel_rfl)) (fun _ _ _ h => h) (Or.inl ⟨by rfl, ?_⟩) ?_ ?_;rotate_left
    ·intro w'
     go_simp;with_reducible rfl
    rotate_left
    ·simp only [Act.put, Zs1, Zs2, Zs3, zbh, zbj]
     rfl
    refine zbv (i := 20) (N := some 26) (v := ?_) (a' := ?_) #[true, true, true, true, true, true, true, true, true, true, true, true, true, true, true, true, true, true, true, true, true] rfl rfl (zbl HT_.out (by kernel_rfl)) (fun _ _ _ h => h) (Or.inl ⟨by rfl, ?_⟩) ?_ ?_;rotate_left
    ·intro w'
     go_simp;with_reducible rfl
    rotate_left
    ·simp only [Act.put, Zs1, Zs2, Zs3, zbh, zbj]
     rfl
    refine ze9 (zd6 HT_.out (by kernel_rfl)) ?_
    try go_wp2
    go_meet
    case rel => exact ⟨_, (decide ((wrap64 (t889 * a1_1)) > (wrap64 (a1_0 * t890)))), Zrs, H', ⟨by first | omega | exact Nat.le_refl _⟩, ⟨Zq4 BK886⟩, ⟨Zq5 HB GE886⟩⟩
   ·replace c8 := Bool.eq_false_iff.mpr c8
    subst c8;have H1 : (zk.j0 k l0 true a1_0 a1_1) = some r := by rw [if_neg (show ¬ (false = true) by decide)] at H; exact H
    clear H;have H := H1;clear H1;have H' := za.mk H;clear H
    try go_wp2
    have n0_ := za.mk (zx BK886.out);have n1_ := za.mk (zbs HB.out);clear BK886;clear HB;have BK886 := n0_;have HB := n1_;clear n0_ n1_;refine zed (n := 21) (S := fun w' => w'.cell? ⟨gb886, 0, none⟩ = some (.int .i64 a1_0) ∧ w'.cell? ⟨gb886, 1, none⟩ = some (.int .i64 a1_1)) (ds := []) #[false, false, false, false, false, false, false, false, false, false, false, false, false, false, false, false, false, false, false, false, false] (by kernel_rfl) rfl rfl ⟨(ze BK886.out 0).trans rfl, (ze BK886.out 1).trans rfl⟩ (fun hHeld => ?_); refine zdd zk.tab1 zk.bits1 (fun HT_ HW_ => ?_);generalize w4.drew = w16 at BK886 HB hHeld ⊢;refine zbv (i := 0) (N := some 6) (v := ?_) (a' := ?_) #[true, false, false, false, false, false, false, false, false, false, false, false, false, false, false, false, false, false, false, false, false] rfl rfl (zbl HT_.out (by kernel_rfl)) (fun _ _ _ h => h) (Or.inl ⟨by rfl, ?_⟩) ?_ ?_;rotate_left
    ·intro w'
     go_simp;with_reducible rfl
    rotate_left
    ·simp only [Act.put, Zs1, Zs2, Zs3, zbh, zbj]
     rfl
    refine one_ (i := 1) (N := some 7) #[true, true, false, false, false, false, false, false, false, false, false, false, false, false, false, false, false, false, false, false, false] rfl rfl (zc2 HT_.out (by kernel_rfl)) (by decide) (fun K hK => ?_);refine zd8 Try.func76 (by kernel_rfl) rfl #[.slice A0 l0.length c0] (by rfl) rfl rfl Zmt ?_;with_reducible refine (zcn.calls _ _ l0 true _ ?side1 ?side2 A5.out).mono ?_
    (case side1 => exact Zq6 (Kd.zb4 HR0.out HB.out));(case side2 => exact HC0.out);rintro e w17 ⟨rfl, hb⟩;refine ⟨_, rfl, ?_⟩;have n0_ := za.mk (zbg (g := gb886) (o := .cells #[.int .i64 a1_0, .int .i64 a1_1] 51 (0, 0)) (Zq4 BK886) hb);have n1_ := za.mk (zm (Zq5 HB GE886) hb);clear BK886;clear HB;have BK886 := n0_;have HB := n1_;clear n0_ n1_;(try clear hb);(try clear hb2);(try clear hk);(try clear hi);refine hK.out _ _ ⟨(ze BK886.out 0).trans rfl, (ze BK886.out 1).trans rfl⟩ (fun hHeld => ?_);clear hK K;refine zc0 (a' := ?_) ?_ ?_;rotate_left
    ·show Act.put _ (some 7) _ = _
     simp only [Act.put, Zs1, Zs2, Zs3, zbh, zbj];rfl
    refine zbv (i := 2) (N := some 8) (v := ?_) (a' := ?_) #[true, true, true, false, false, false, false, false, false, false, false, false, false, false, false, false, false, false, false, false, false] rfl rfl (zbl HT_.out (by kernel_rfl)) (fun _ _ _ h => h) (Or.inl ⟨by rfl, ?_⟩) ?_ ?_;rotate_left
    ·intro w'
     go_simp;with_reducible rfl
    rotate_left
    ·simp only [Act.put, Zs1, Zs2, Zs3, zbh, zbj]
     rfl
    refine zbv (i := 3) (N := some 9) (v := ?_) (a' := ?_) #[true, true, true, true, false, false, false, false, false, false, false, false, false, false, false, false, false, false, false, false, false] rfl rfl (zbl HT_.out (by kernel_rfl)) (fun _ _ _ h => h) (Or.inl ⟨by rfl, ?_⟩) ?_ ?_;rotate_left
    ·intro w'
     go_simp;with_reducible rfl
    rotate_left
    ·simp only [Act.put, Zs1, Zs2, Zs3, zbh, zbj]
     rfl
    refine zdy (i := 4) (N := some 10) (v := ?_) (a' := ?_) #[true, true, true, true, true, false, false, false, false, false, false, false, false, false, false, false, false, false, false, false, false] rfl rfl (zcm HT_.out HW_.out (by kernel_rfl)) (fun _ _ _ h => h) (Or.inl ⟨by rfl, ?_⟩) hHeld ?_ ?_;rotate_left
    ·rintro w' ⟨s0, s1⟩
     go_simp;with_reducible rfl
    rotate_left
    ·simp only [Act.put, Zs1, Zs2, Zs3, zbh, zbj]
     rfl
    refine one_ (i := 5) (N := some 11) #[true, true, true, true, true, true, false, false, false, false, false, false, false, false, false, false, false, false, false, false, false] rfl rfl (zc2 HT_.out (by kernel_rfl)) (by decide) (fun K hK => ?_);refine zd8 Try.func77 (by kernel_rfl) rfl #[.agg #[.int .i64 a1_0, .int .i64 a1_1]] (by rfl) rfl rfl Zmt ?_;with_reducible refine (zcd.calls a1_0 a1_1 false _ A7.out).mono ?_
    rintro e w18 ⟨rfl, hb⟩;refine ⟨_, rfl, ?_⟩;have n0_ := za.mk (zbg (g := gb886) (o := .cells #[.int .i64 a1_0, .int .i64 a1_1] 51 (0, 0)) (Zq4 BK886) hb);have n1_ := za.mk (zm (Zq5 HB GE886) hb);clear BK886;clear HB;have BK886 := n0_;have HB := n1_;clear n0_ n1_;(try clear hb);(try clear hb2);(try clear hk);(try clear hi);refine hK.out _ _ ⟨(ze BK886.out 0).trans rfl, (ze BK886.out 1).trans rfl⟩ (fun hHeld => ?_);clear hK K;refine zc0 (a' := ?_) ?_ ?_;rotate_left
    ·show Act.put _ (some 11) _ = _
     simp only [Act.put, Zs1, Zs2, Zs3, zbh, zbj];rfl
    refine zbv (i := 6) (N := some 12) (v := ?_) (a' := ?_) #[true, true, true, true, true, true, true, false, false, false, false, false, false, false, false, false, false, false, false, false, false] rfl rfl (zbl HT_.out (by kernel_rfl)) (fun _ _ _ h => h) (Or.inl ⟨by rfl, ?_⟩) ?_ ?_;rotate_left
    ·intro w'
     go_simp;with_reducible rfl
    rotate_left
    ·simp only [Act.put, Zs1, Zs2, Zs3, zbh, zbj]
     rfl
    refine zbv (i := 7) (N := some 13) (v := ?_) (a' := ?_) #[true, true, true, true, true, true, true, true, false, false, false, false, false, false, false, false, false, false, false, false, false] rfl rfl (zbl HT_.out (by kernel_rfl)) (fun _ _ _ h => h) (Or.inl ⟨by rfl, ?_⟩) ?_ ?_;rotate_left
    ·intro w'
     go_simp;with_reducible rfl
    rotate_left
    ·simp only [Act.put, Zs1, Zs2, Zs3, zbh, zbj]
     rfl
    refine zbv (i := 8) (N := some 14) (v := ?_) (a' := ?_) #[true, true, true, true, true, true, true, true, true, false, false, false, false, false, false, false, false, false, false, false, false] rfl rfl (zbl HT_.out (by kernel_rfl)) (fun _ _ _ h => h) (Or.inl ⟨by rfl, ?_⟩) ?_ ?_;rotate_left
    ·intro w'
     go_simp;with_reducible rfl
    rotate_left
    ·simp only [Act.put, Zs1, Zs2, Zs3, zbh, zbj]
     rfl
    refine zbv (i := 9) (N := some 15) (v := undef) (a' := ?_) #[true, true, true, true, true, true, true, true, true, true, false, false, false, false, false, false, false, false, false, false, false] rfl rfl (zbl HT_.out (by kernel_rfl)) (fun _ _ _ h => h) (Or.inr ⟨by rfl, rfl⟩) ?_ ?_;rotate_left
    ·simp only [Act.put, Zs1, Zs2, Zs3, zbh, zbj]
     rfl
    refine zbv (i := 10) (N := some 16) (v := undef) (a' := ?_) #[true, true, true, true, true, true, true, true, true, true, true, false, false, false, false, false, false, false, false, false, false] rfl rfl (zbl HT_.out (by kernel_rfl)) (fun _ _ _ h => h) (Or.inr ⟨by rfl, rfl⟩) ?_ ?_;rotate_left
    ·simp only [Act.put, Zs1, Zs2, Zs3, zbh, zbj]
     rfl
    refine zbv (i := 11) (N := some 17) (v := undef) (a' := ?_) #[true, true, true, true, true, true, true, true, true, true, true, true, false, false, false, false, false, false, false, false, false] rfl rfl (zbl HT_.out (by kernel_rfl)) (fun _ _ _ h => h) (Or.inr ⟨by rfl, rfl⟩) ?_ ?_;rotate_left
    ·simp only [Act.put, Zs1, Zs2, Zs3, zbh, zbj]
     rfl
    refine zbv (i := 12) (N := some 18) (v := undef) (a' := ?_) #[true, true, true, true, true, true, true, true, true, true, true, true, true, false, false, false, false, false, false, false, false] rfl rfl (zbl HT_.out (by kernel_rfl)) (fun _ _ _ h => h) (Or.inr ⟨by rfl, rfl⟩) ?_ ?_;rotate_left
    ·simp only [Act.put, Zs1, Zs2, Zs3, zbh, zbj]
     rfl
    refine zbv (i := 13) (N := some 19) (v := undef) (a' := ?_) #[true, true, true, true, true, true, true, true, true, true, true, true, true, true, false, false, false, false, false, false, false] rfl rfl (zbl HT_.out (by kernel_rfl)) (fun _ _ _ h => h) (Or.inr ⟨by rfl, rfl⟩) ?_ ?_;rotate_left
    ·simp only [Act.put, Zs1, Zs2, Zs3, zbh, zbj]
     rfl
    refine zbv (i := 14) (N := some 20) (v := undef) (a' := ?_) #[true, true, true, true, true, true, true, true, true, true, true, true, true, true, true, false, false, false, false, false, false] rfl rfl (zbl HT_.out (by kernel_rfl)) (fun _ _ _ h => h) (Or.inr ⟨by rfl, rfl⟩) ?_ ?_;rotate_left
    ·simp only [Act.put, Zs1, Zs2, Zs3, zbh, zbj]
     rfl
    refine zbv (i := 15) (N := some 21) (v := undef) (a' := ?_) #[true, true, true, true, true, true, true, true, true, true, true, true, true, true, true, true, false, false, false, false, false] rfl rfl (zbl HT_.out (by kernel_rfl)) (fun _ _ _ h => h) (Or.inr ⟨by rfl, rfl⟩) ?_ ?_;rotate_left
    ·simp only [Act.put, Zs1, Zs2, Zs3, zbh, zbj]
     rfl
    refine zbv (i := 16) (N := some 22) (v := undef) (a' := ?_) #[true, true, true, true, true, true, true, true, true, true, true, true, true, true, true, true, true, false, false, false, false] rfl rfl (zbl HT_.out (by kernel_rfl)) (fun _ _ _ h => h) (Or.inr ⟨by rfl, rfl⟩) ?_ ?_;rotate_left
    ·simp only [Act.put, Zs1, Zs2, Zs3, zbh, zbj]
     rfl
    refine zbv (i := 17) (N := some 23) (v := undef) (a' := ?_) #[true, true, true, true, true, true, true, true, true, true, true, true, true, true, true, true, true, true, false, false, false] rfl rfl (zbl HT_.out (by kernel_rfl)) (fun _ _ _ h => h) (Or.inr ⟨by rfl, rfl⟩) ?_ ?_;rotate_left
    ·simp only [Act.put, Zs1, Zs2, Zs3, zbh, zbj]
     rfl
    refine zbv (i := 18) (N := some 24) (v := undef) (a' := ?_) #[true, true, true, true, true, true, true, true, true, true, true, true, true, true, true, true, true, true, true, false, false] rfl rfl (zbl HT_.out (by kernel_rfl)) (fun _ _ _ h => h) (Or.inr ⟨by rfl, rfl⟩) ?_ ?_;rotate_left
    ·simp only [Act.put, Zs1, Zs2, Zs3, zbh, zbj]
     rfl
    refine zbv (i := 19) (N := some 25) (v := undef) (a' := ?_) #[true, true, true, true, true, true, true, true, true, true, true, true, true, true, true, true, true, true, true, true, false] rfl rfl (zbl HT_.out (by kernel_rfl)) (fun _ _ _ h => h) (Or.inr ⟨by rfl, rfl⟩) ?_ ?_;rotate_left
    ·simp only [Act.put, Zs1, Zs2, Zs3, zbh, zbj]
     rfl
    refine zbv (i := 20) (N := some 26) (v := ?_) (a' := ?_) #[true, true, true, true, true, true, true, true, true, true, true, true, true, true, true, true, true, true, true, true, true] rfl rfl (zbl HT_.out (by kernel_rfl)) (fun _ _ _ h => h) (Or.inl ⟨by rfl, ?_⟩) ?_ ?_;rotate_left
    ·intro w'
     go_simp;with_reducible rfl
    rotate_left
    ·simp only [Act.put, Zs1, Zs2, Zs3, zbh, zbj]
     rfl
    refine ze9 (zd6 HT_.out (by kernel_rfl)) ?_
    try go_wp2
    go_meet
    case rel => exact ⟨_, (true), Zrs, H', ⟨by first | omega | exact Nat.le_refl _⟩, ⟨Zq4 BK886⟩, ⟨Zq5 HB GE886⟩⟩
  ·replace c6 := Bool.eq_false_iff.mpr c6
   subst c6;have H1 : (zk.j0 k l0 true a1_0 a1_1) = some r := by rw [if_neg (show ¬ (false = true) by decide)] at H; exact H
   clear H;have H := H1;clear H1;have H' := za.mk H;clear H
   try go_wp2
   have n0_ := za.mk (zx BK886.out);have n1_ := za.mk (zbs HB.out);clear BK886;clear HB;have BK886 := n0_;have HB := n1_;clear n0_ n1_;refine zed (n := 21) (S := fun w' => True) (ds := []) #[false, false, false, false, false, false, false, false, false, false, false, false, false, false, false, false, false, false, false, false, false] (by kernel_rfl) rfl rfl trivial (fun hHeld => ?_); refine zdd zk.tab1 zk.bits1 (fun HT_ HW_ => ?_);generalize w4.drew = w19 at BK886 HB hHeld ⊢;refine zbv (i := 0) (N := some 6) (v := ?_) (a' := ?_) #[true, false, false, false, false, false, false, false, false, false, false, false, false, false, false, false, false, false, false, false, false] rfl rfl (zbl HT_.out (by kernel_rfl)) (fun _ _ _ h => h) (Or.inl ⟨by rfl, ?_⟩) ?_ ?_;rotate_left
   ·intro w'
    go_simp;with_reducible rfl
   rotate_left
   ·simp only [Act.put, Zs1, Zs2, Zs3, zbh, zbj]
    rfl
   refine one_ (i := 1) (N := some 7) #[true, true, false, false, false, false, false, false, false, false, false, false, false, false, false, false, false, false, false, false, false] rfl rfl (zc2 HT_.out (by kernel_rfl)) (by decide) (fun K hK => ?_);refine zd8 Try.func76 (by kernel_rfl) rfl #[.slice A0 l0.length c0] (by rfl) rfl rfl Zmt ?_;with_reducible refine (zcn.calls _ _ l0 false _ ?side1 ?side2 A5.out).mono ?_
   (case side1 => exact Zq6 (Kd.zb4 HR0.out HB.out));(case side2 => exact HC0.out);rintro e w20 ⟨rfl, hb⟩;refine ⟨_, rfl, ?_⟩;have n0_ := za.mk (zbg (g := gb886) (o := .cells #[.int .i64 a1_0, .int .i64 a1_1] 51 (0, 0)) (Zq4 BK886) hb);have n1_ := za.mk (zm (Zq5 HB GE886) hb);clear BK886;clear HB;have BK886 := n0_;have HB := n1_;clear n0_ n1_;(try clear hb);(try clear hb2);(try clear hk);(try clear hi);refine hK.out _ _ trivial (fun hHeld => ?_);clear hK K;refine zc0 (a' := ?_) ?_ ?_;rotate_left
   ·show Act.put _ (some 7) _ = _
    simp only [Act.put, Zs1, Zs2, Zs3, zbh, zbj];rfl
   refine zbv (i := 2) (N := some 8) (v := ?_) (a' := ?_) #[true, true, true, false, false, false, false, false, false, false, false, false, false, false, false, false, false, false, false, false, false] rfl rfl (zbl HT_.out (by kernel_rfl)) (fun _ _ _ h => h) (Or.inl ⟨by rfl, ?_⟩) ?_ ?_;rotate_left
   ·intro w'
    go_simp;with_reducible rfl
   rotate_left
   ·simp only [Act.put, Zs1, Zs2, Zs3, zbh, zbj]
    rfl
   refine zbv (i := 3) (N := some 9) (v := ?_) (a' := ?_) #[true, true, true, true, false, false, false, false, false, false, false, false, false, false, false, false, false, false, false, false, false] rfl rfl (zbl HT_.out (by kernel_rfl)) (fun _ _ _ h => h) (Or.inl ⟨by rfl, ?_⟩) ?_ ?_;rotate_left
   ·intro w'
    go_simp;with_reducible rfl
   rotate_left
   ·simp only [Act.put, Zs1, Zs2, Zs3, zbh, zbj]
    rfl
   refine zbv (i := 4) (N := some 10) (v := undef) (a' := ?_) #[true, true, true, true, true, false, false, false, false, false, false, false, false, false, false, false, false, false, false, false, false] rfl rfl (zbl HT_.out (by kernel_rfl)) (fun _ _ _ h => h) (Or.inr ⟨by rfl, rfl⟩) ?_ ?_;rotate_left
   ·simp only [Act.put, Zs1, Zs2, Zs3, zbh, zbj]
    rfl
   refine zbv (i := 5) (N := some 11) (v := undef) (a' := ?_) #[true, true, true, true, true, true, false, false, false, false, false, false, false, false, false, false, false, false, false, false, false] rfl rfl (zbl HT_.out (by kernel_rfl)) (fun _ _ _ h => h) (Or.inr ⟨by rfl, rfl⟩) ?_ ?_;rotate_left
   ·simp only [Act.put, Zs1, Zs2, Zs3, zbh, zbj]
    rfl
   refine zbv (i := 6) (N := some 12) (v := undef) (a' := ?_) #[true, true, true, true, true, true, true, false, false, false, false, false, false, false, false, false, false, false, false, false, false] rfl rfl (zbl HT_.out (by kernel_rfl)) (fun _ _ _ h => h) (Or.inr ⟨by rfl, rfl⟩) ?_ ?_;rotate_left
   ·simp only [Act.put, Zs1, Zs2, Zs3, zbh, zbj]
    rfl
   refine zbv (i := 7) (N := some 13) (v := ?_) (a' := ?_) #[true, true, true, true, true, true, true, true, false, false, false, false, false, false, false, false, false, false, false, false, false] rfl rfl (zbl HT_.out (by kernel_rfl)) (fun _ _ _ h => h) (Or.inl ⟨by rfl, ?_⟩) ?_ ?_;rotate_left
   ·intro w'
    go_simp;with_reducible rfl
   rotate_left
   ·simp only [Act.put, Zs1, Zs2, Zs3, zbh, zbj]
    rfl
   refine zbv (i := 8) (N := some 14) (v := ?_) (a' := ?_) #[true, true, true, true, true, true, true, true, true, false, false, false, false, false, false, false, false, false, false, false, false] rfl rfl (zbl HT_.out (by kernel_rfl)) (fun _ _ _ h => h) (Or.inl ⟨by rfl, ?_⟩) ?_ ?_;rotate_left
   ·intro w'
    go_simp;with_reducible rfl
   rotate_left
   ·simp only [Act.put, Zs1, Zs2, Zs3, zbh, zbj]
    rfl
   refine zbv (i := 9) (N := some 15) (v := undef) (a' := ?_) #[true, true, true, true, true, true, true, true, true, true, false, false, false, false, false, false, false, false, false, false, false] rfl rfl (zbl HT_.out (by kernel_rfl)) (fun _ _ _ h => h) (Or.inr ⟨by rfl, rfl⟩) ?_ ?_;rotate_left
   ·simp only [Act.put, Zs1, Zs2, Zs3, zbh, zbj]
    rfl
   refine zbv (i := 10) (N := some 16) (v := undef) (a' := ?_) #[true, true, true, true, true, true, true, true, true, true, true, false, false, false, false, false, false, false, false, false, false] rfl rfl (zbl HT_.out (by kernel_rfl)) (fun _ _ _ h => h) (Or.inr ⟨by rfl, rfl⟩) ?_ ?_;rotate_left
   ·simp only [Act.put, Zs1, Zs2, Zs3, zbh, zbj]
    rfl
   refine zbv (i := 11) (N := some 17) (v := undef) (a' := ?_) #[true, true, true, true, true, true, true, true, true, true, true, true, false, false, false, false, false, false, false, false, false] rfl rfl (zbl HT_.out (by kernel_rfl)) (fun _ _ _ h => h) (Or.inr ⟨by rfl, rfl⟩) ?_ ?_;rotate_left
   ·simp only [Act.put, Zs1, Zs2, Zs3, zbh, zbj]
    rfl
   refine zbv (i := 12) (N := some 18) (v := undef) (a' := ?_) #[true, true, true, true, true, true, true, true, true, true, true, true, true, false, false, false, false, false, false, false, false] rfl rfl (zbl HT_.out (by kernel_rfl)) (fun _ _ _ h => h) (Or.inr ⟨by rfl, rfl⟩) ?_ ?_;rotate_left
   ·simp only [Act.put, Zs1, Zs2, Zs3, zbh, zbj]
    rfl
   refine zbv (i := 13) (N := some 19) (v := undef) (a' := ?_) #[true, true, true, true, true, true, true, true, true, true, true, true, true, true, false, false, false, false, false, false, false] rfl rfl (zbl HT_.out (by kernel_rfl)) (fun _ _ _ h => h) (Or.inr ⟨by rfl, rfl⟩) ?_ ?_;rotate_left
   ·simp only [Act.put, Zs1, Zs2, Zs3, zbh, zbj]
    rfl
   refine zbv (i := 14) (N := some 20) (v := undef) (a' := ?_) #[true, true, true, true, true, true, true, true, true, true, true, true, true, true, true, false, false, false, false, false, false] rfl rfl (zbl HT_.out (by kernel_rfl)) (fun _ _ _ h => h) (Or.inr ⟨by rfl, rfl⟩) ?_ ?_;rotate_left
   ·simp only [Act.put, Zs1, Zs2, Zs3, zbh, zbj]
    rfl
   refine zbv (i := 15) (N := some 21) (v := undef) (a' := ?_) #[true, true, true, true, true, true, true, true, true, true, true, true, true, true, true, true, false, false, false, false, false] rfl rfl (zbl HT_.out (by kernel_rfl)) (fun _ _ _ h => h) (Or.inr ⟨by rfl, rfl⟩) ?_ ?_;rotate_left
   ·simp only [Act.put, Zs1, Zs2, Zs3, zbh, zbj]
    rfl
   refine zbv (i := 16) (N := some 22) (v := undef) (a' := ?_) #[true, true, true, true, true, true, true, true, true, true, true, true, true, true, true, true, true, false, false, false, false] rfl rfl (zbl HT_.out (by kernel_rfl)) (fun _ _ _ h => h) (Or.inr ⟨by rfl, rfl⟩) ?_ ?_;rotate_left
   ·simp only [Act.put, Zs1, Zs2, Zs3, zbh, zbj]
    rfl
   refine zbv (i := 17) (N := some 23) (v := undef) (a' := ?_) #[true, true, true, true, true, true, true, true, true, true, true, true, true, true, true, true, true, true, false, false, false] rfl rfl (zbl HT_.out (by kernel_rfl)) (fun _ _ _ h => h) (Or.inr ⟨by rfl, rfl⟩) ?_ ?_;rotate_left
   ·simp only [Act.put, Zs1, Zs2, Zs3, zbh, zbj]
    rfl
   refine zbv (i := 18) (N := some 24) (v := undef) (a' := ?_) #[true, true, true, true, true, true, true, true, true, true, true, true, true, true, true, true, true, true, true, false, false] rfl rfl (zbl HT_.out (by kernel_rfl)) (fun _ _ _ h => h) (Or.inr ⟨by rfl, rfl⟩) ?_ ?_;rotate_left
   ·simp only [Act.put, Zs1, Zs2, Zs3, zbh, zbj]
    rfl
   refine zbv (i := 19) (N := some 25) (v := undef) (a' := ?_) #[true, true, true, true, true, true, true, true, true, true, true, true, true, true, true, true, true, true, true, true, false] rfl rfl (zbl HT_.out (by kernel_rfl)) (fun _ _ _ h => h) (Or.inr ⟨by rfl, rfl⟩) ?_ ?_;rotate_left
   ·simp only [Act.put, Zs1, Zs2, Zs3, zbh, zbj]
    rfl
   refine zbv (i := 20) (N := some 26) (v := ?_) (a' := ?_) #[true, true, true, true, true, true, true, true, true, true, true, true, true, true, true, true, true, true, true, true, true] rfl rfl (zbl HT_.out (by kernel_rfl)) (fun _ _ _ h => h) (Or.inl ⟨by rfl, ?_⟩) ?_ ?_;rotate_left
   ·intro w'
    go_simp;with_reducible rfl
   rotate_left
   ·simp only [Act.put, Zs1, Zs2, Zs3, zbh, zbj]
    rfl
   refine ze9 (zd6 HT_.out (by kernel_rfl)) ?_
   try go_wp2
   go_meet
   case rel => exact ⟨_, (true), Zrs, H', ⟨by first | omega | exact Nat.le_refl _⟩, ⟨Zq4 BK886⟩, ⟨Zq5 HB GE886⟩⟩
 case rest =>
  clear HC3
  (try clear p2);(try clear c6);(try clear p6);(try clear c7);(try clear c8)
  obtain ⟨kq, x26_2, rfl, HA, HJ2, BK886, HB⟩ := hcut
  cases kq with
  | zero => exact absurd HA.out (by simp [zk.j0])
  | succ kj2 =>
   have H := HA.out;clear HA;simp only [zk.j0] at H;by_cases c21 : x26_2 = true
   ·subst c21
    have H1 : (some false) = some r := by rw [if_pos rfl] at H; exact H
    clear H;have H := H1;clear H1;obtain rfl := Option.some.inj H;go_wp2;go_ret;exact ⟨by first | rfl | (simp [zu, zw] <;> rfl) | (simp [*, zu, zw] <;> rfl), Zq5 HB GE886⟩
   ·replace c21 := Bool.eq_false_iff.mpr c21
    subst c21;have H1 : (zk.l0 kj2 l0 1 a1_0 a1_1) = some r := by rw [if_neg (show ¬ (false = true) by decide)] at H; exact H
    clear H;have H := H1;clear H1;have H' := za.mk H;clear H;go_wp2
    go_loopg [5] kj2 (fun kq v5 w' => ∃ (x5_2 : Int), v5 = .int .i64 x5_2 ∧ za (zk.l0 kq l0 x5_2 a1_0 a1_1 = some r) ∧ za (kq ≤ kj2) ∧ za (w'.heap[gb886]? = some (.cells #[.int .i64 a1_0, .int .i64 a1_1] 51 (0, 0))) ∧ za (Below w.heap.size w w'))
    case atStart => exact ⟨(1), Zrs, H', ⟨Nat.le_refl _⟩, ⟨Zq4 BK886⟩, ⟨Zq5 HB GE886⟩⟩
    case round =>
     clear H'
     (try clear c2);(try clear p2);(try clear c6);(try clear p6);(try clear c7);(try clear c8);(try clear c21);(try clear p2);(try clear p6)
     obtain ⟨x5_2, rfl, HA, HK2, BK886, HB⟩ := hrel
     cases gk with
     | zero => exact absurd HA.out (by simp [zk.l0])
     | succ k2 =>
      have H := HA.out;clear HA;simp only [zk.l0] at H;replace H := Option.bind_eq_some_iff.mp H;obtain ⟨t891, A220, H⟩ := H;replace H : ((zd9.f k2 t891 a1_1).bind fun t892 => (if x5_2 ≤ (wrap64 (t892 + (wrap64 (2 * a1_1)))) then ((zco.f k2 l0 x5_2).bind fun t893 => ((zct.f a1_0 a1_1 x5_2).bind fun t894 => (if t893 > t894 then (some false) else (zk.l0 k2 l0 (wrap64 (x5_2 + 1)) a1_0 a1_1)))) else (some true))) = some r := H;have A22 := za.mk A220;clear A220;replace H := Option.bind_eq_some_iff.mp H;obtain ⟨t892, A230, H⟩ := H;replace H : (if x5_2 ≤ (wrap64 (t892 + (wrap64 (2 * a1_1)))) then ((zco.f k2 l0 x5_2).bind fun t893 => ((zct.f a1_0 a1_1 x5_2).bind fun t894 => (if t893 > t894 then (some false) else (zk.l0 k2 l0 (wrap64 (x5_2 + 1)) a1_0 a1_1)))) else (some true)) = some r := H;have A23 := za.mk A230;clear A230;by_cases c24 : x5_2 ≤ (wrap64 (t892 + (wrap64 (2 * a1_1))))
      ·rw [if_pos c24] at H
       have c24b0 : decide (x5_2 ≤ (wrap64 (t892 + (wrap64 (2 * a1_1))))) = true := decide_eq_true c24;clear c24;replace H := Option.bind_eq_some_iff.mp H;obtain ⟨t893, A250, H⟩ := H;replace H : ((zct.f a1_0 a1_1 x5_2).bind fun t894 => (if t893 > t894 then (some false) else (zk.l0 k2 l0 (wrap64 (x5_2 + 1)) a1_0 a1_1))) = some r := H;have A25 := za.mk A250;clear A250;replace H := Option.bind_eq_some_iff.mp H;obtain ⟨t894, A260, H⟩ := H;replace H : (if t893 > t894 then (some false) else (zk.l0 k2 l0 (wrap64 (x5_2 + 1)) a1_0 a1_1)) = some r := H;have A26 := za.mk A260;clear A260;by_cases c27 : t893 > t894
       ·rw [if_pos c27] at H
        have c27b0 : decide (t894 < t893) = true := decide_eq_true c27;clear c27;obtain rfl := Option.some.inj H
        try go_wp2
        have n0_ := za.mk (zx BK886.out);have n1_ := za.mk (zbs HB.out);clear BK886;clear HB;have BK886 := n0_;have HB := n1_;clear n0_ n1_;refine zed (n := 11) (S := fun w' => w'.cell? ⟨gb886, 0, none⟩ = some (.int .i64 a1_0) ∧ w'.cell? ⟨gb886, 1, none⟩ = some (.int .i64 a1_1)) (ds := []) #[false, false, false, false, false, false, false, false, false, false, false] (by kernel_rfl) rfl rfl ⟨(ze BK886.out 0).trans rfl, (ze BK886.out 1).trans rfl⟩ (fun hHeld => ?_); refine zdd zk.tab4 zk.bits4 (fun HT_ HW_ => ?_);generalize wr.drew = w28 at BK886 HB hHeld ⊢;refine zbv (i := 0) (N := some 27) (v := ?_) (a' := ?_) #[true, false, false, false, false, false, false, false, false, false, false] rfl rfl (zbl HT_.out (by kernel_rfl)) (fun _ _ _ h => h) (Or.inl ⟨by rfl, ?_⟩) ?_ ?_;rotate_left
        ·intro w'
         go_simp;with_reducible rfl
        rotate_left
        ·simp only [Act.put, Zs1, Zs2, Zs3, zbh, zbj]
         rfl
        refine zbv (i := 1) (N := some 28) (v := ?_) (a' := ?_) #[true, true, false, false, false, false, false, false, false, false, false] rfl rfl (zbl HT_.out (by kernel_rfl)) (fun _ _ _ h => h) (Or.inl ⟨by rfl, ?_⟩) ?_ ?_;rotate_left
        ·intro w'
         go_simp;with_reducible rfl
        rotate_left
        ·simp only [Act.put, Zs1, Zs2, Zs3, zbh, zbj]
         rfl
        refine zbv (i := 3) (N := some 30) (v := ?_) (a' := ?_) #[true, true, false, true, false, false, false, false, false, false, false] rfl rfl (zbl HT_.out (by kernel_rfl)) (fun _ _ _ h => h) (Or.inl ⟨by rfl, ?_⟩) ?_ ?_;rotate_left
        ·intro w'
         go_simp;with_reducible rfl
        rotate_left
        ·simp only [Act.put, Zs1, Zs2, Zs3, zbh, zbj]
         rfl
        refine zbv (i := 6) (N := some 33) (v := ?_) (a' := ?_) #[true, true, false, true, false, false, true, false, false, false, false] rfl rfl (zbl HT_.out (by kernel_rfl)) (fun _ _ _ h => h) (Or.inl ⟨by rfl, ?_⟩) ?_ ?_;rotate_left
        ·intro w'
         go_simp;with_reducible rfl
        rotate_left
        ·simp only [Act.put, Zs1, Zs2, Zs3, zbh, zbj]
         rfl
        refine zdy (i := 4) (N := some 31) (v := ?_) (a' := ?_) #[true, true, false, true, true, false, true, false, false, false, false] rfl rfl (zcm HT_.out HW_.out (by kernel_rfl)) (fun _ _ _ h => h) (Or.inl ⟨by rfl, ?_⟩) hHeld ?_ ?_;rotate_left
        ·rintro w' ⟨s0, s1⟩
         go_simp;with_reducible rfl
        rotate_left
        ·simp only [Act.put, Zs1, Zs2, Zs3, zbh, zbj]
         rfl
        refine zdy (i := 7) (N := some 34) (v := ?_) (a' := ?_) #[true, true, false, true, true, false, true, true, false, false, false] rfl rfl (zcm HT_.out HW_.out (by kernel_rfl)) (fun _ _ _ h => h) (Or.inl ⟨by rfl, ?_⟩) hHeld ?_ ?_;rotate_left
        ·rintro w' ⟨s0, s1⟩
         go_simp;with_reducible rfl
        rotate_left
        ·simp only [Act.put, Zs1, Zs2, Zs3, zbh, zbj]
         rfl
        refine zbv (i := 8) (N := some 35) (v := ?_) (a' := ?_) #[true, true, false, true, true, false, true, true, true, false, false] rfl rfl (zbl HT_.out (by kernel_rfl)) (fun _ _ _ h => h) (Or.inl ⟨by rfl, ?_⟩) ?_ ?_;rotate_left
        ·intro w'
         go_simp;with_reducible rfl
        rotate_left
        ·simp only [Act.put, Zs1, Zs2, Zs3, zbh, zbj]
         rfl
        refine one_ (i := 2) (N := some 29) #[true, true, true, true, true, false, true, true, true, false, false] rfl rfl (zc2 HT_.out (by kernel_rfl)) (by decide) (fun K hK => ?_);refine zd8 Try.func66 (by kernel_rfl) rfl #[.slice A0 l0.length c0] (by rfl) rfl rfl Zmt ?_;with_reducible refine (zb9.calls k2 _ _ l0 t891 _ ?side1 ?side2 A22.out).mono ?_
        (case side1 => exact Zq6 (Kd.zb4 HR0.out HB.out));(case side2 => exact HC0.out);rintro e w29 ⟨rfl, hb⟩;refine ⟨_, rfl, ?_⟩;have n0_ := za.mk (zbg (g := gb886) (o := .cells #[.int .i64 a1_0, .int .i64 a1_1] 51 (0, 0)) (Zq4 BK886) hb);have n1_ := za.mk (zm (Zq5 HB GE886) hb);clear BK886;clear HB;have BK886 := n0_;have HB := n1_;clear n0_ n1_;(try clear hb);(try clear hb2);(try clear hk);(try clear hi);refine hK.out _ _ ⟨(ze BK886.out 0).trans rfl, (ze BK886.out 1).trans rfl⟩ (fun hHeld => ?_);clear hK K;refine zc0 (a' := ?_) ?_ ?_;rotate_left
        ·show Act.put _ (some 29) _ = _
         simp only [Act.put, Zs1, Zs2, Zs3, zbh, zbj];rfl
        refine one_ (i := 5) (N := some 32) #[true, true, true, true, true, true, true, true, true, false, false] rfl rfl (zc2 HT_.out (by kernel_rfl)) (by decide) (fun K hK => ?_);refine zd8 Try.func78 (by kernel_rfl) rfl #[.int .i64 t891, .int .i64 a1_1] (by rfl) rfl rfl Zmt ?_;with_reducible refine (zd9.calls k2 t891 a1_1 t892 _ A23.out).mono ?_
        rintro e w' ⟨rfl, ⟨nd, rfl⟩⟩;refine ⟨_, rfl, ?_⟩;refine hK.out _ _ ⟨(ze BK886.out 0).trans rfl, (ze BK886.out 1).trans rfl⟩ (fun hHeld => ?_);clear hK K;refine zc0 (a' := ?_) ?_ ?_;rotate_left
        ·show Act.put _ (some 32) _ = _
         simp only [Act.put, Zs1, Zs2, Zs3, zbh, zbj];rfl
        refine zbv (i := 9) (N := some 36) (v := ?_) (a' := ?_) #[true, true, true, true, true, true, true, true, true, true, false] rfl rfl (zbl HT_.out (by kernel_rfl)) (fun _ _ _ h => h) (Or.inl ⟨by rfl, ?_⟩) ?_ ?_;rotate_left
        ·intro w'
         go_simp;with_reducible rfl
        rotate_left
        ·simp only [Act.put, Zs1, Zs2, Zs3, zbh, zbj]
         rfl
        refine zbv (i := 10) (N := some 37) (v := ?_) (a' := ?_) #[true, true, true, true, true, true, true, true, true, true, true] rfl rfl (zbl HT_.out (by kernel_rfl)) (fun _ _ _ h => h) (Or.inl ⟨by rfl, ?_⟩) ?_ ?_;rotate_left
        ·intro w'
         go_simp;with_reducible rfl
        rotate_left
        ·simp only [Act.put, Zs1, Zs2, Zs3, zbh, zbj]
         rfl
        refine ze9 (zd6 HT_.out (by kernel_rfl)) ?_
        try go_wp2
        (try (rw [zdv w29]; generalize hq_ : World.drewN w29 _ = w29; have n0_ : za (w29.heap[gb886]? = some (.cells #[.int .i64 a1_0, .int .i64 a1_1] 51 (0, 0))) := ⟨by rw [← hq_]; exact (Zq4 BK886)⟩; have n1_ : za (Below w.heap.size w w29) := ⟨by rw [← hq_]; exact (Zq5 HB GE886)⟩; clear BK886 HB hq_; have BK886 := n0_; have HB := n1_; clear n0_ n1_));have n0_ := za.mk (zx BK886.out);have n1_ := za.mk (zbs HB.out);clear BK886;clear HB;have BK886 := n0_;have HB := n1_;clear n0_ n1_;refine zed (n := 7) (S := fun w' => w'.cell? ⟨gb886, 0, none⟩ = some (.int .i64 a1_0) ∧ w'.cell? ⟨gb886, 1, none⟩ = some (.int .i64 a1_1)) (ds := []) #[false, false, false, false, false, false, false] (by kernel_rfl) rfl rfl ⟨(ze BK886.out 0).trans rfl, (ze BK886.out 1).trans rfl⟩ (fun hHeld => ?_);generalize w29.drew = w30 at BK886 HB hHeld ⊢;refine zbv (i := 0) (N := some 40) (v := ?_) (a' := ?_) #[true, false, false, false, false, false, false] rfl rfl (by kernel_rfl) (fun _ _ _ h => h) (Or.inl ⟨by rfl, ?_⟩) ?_ ?_;rotate_left
        ·intro w'
         go_simp;with_reducible rfl
        rotate_left
        ·simp only [Act.put, Zs1, Zs2, Zs3, zbh, zbj]
         rfl
        refine zbv (i := 1) (N := some 41) (v := ?_) (a' := ?_) #[true, true, false, false, false, false, false] rfl rfl (by kernel_rfl) (fun _ _ _ h => h) (Or.inl ⟨by rfl, ?_⟩) ?_ ?_;rotate_left
        ·intro w'
         go_simp;with_reducible rfl
        rotate_left
        ·simp only [Act.put, Zs1, Zs2, Zs3, zbh, zbj]
         rfl
        refine zbv (i := 4) (N := some 44) (v := ?_) (a' := ?_) #[true, true, false, false, true, false, false] rfl rfl (by kernel_rfl) (fun _ _ _ h => h) (Or.inl ⟨by rfl, ?_⟩) ?_ ?_;rotate_left
        ·intro w'
         go_simp;with_reducible rfl
        rotate_left
        ·simp only [Act.put, Zs1, Zs2, Zs3, zbh, zbj]
         rfl
        refine zdy (i := 3) (N := some 43) (v := ?_) (a' := ?_) #[true, true, false, true, true, false, false] rfl rfl (by kernel_rfl) (fun _ _ _ h => h) (Or.inl ⟨by rfl, ?_⟩) hHeld ?_ ?_;rotate_left
        ·rintro w' ⟨s0, s1⟩
         go_simp;with_reducible rfl
        rotate_left
        ·simp only [Act.put, Zs1, Zs2, Zs3, zbh, zbj]
         rfl
        refine one_ (i := 2) (N := some 42) #[true, true, true, true, true, false, false] rfl rfl (by kernel_rfl) (by decide) (fun K hK => ?_);refine zd8 Try.func79 (by kernel_rfl) rfl #[.slice A0 l0.length c0, .int .i64 x5_2] (by rfl) rfl rfl Zmt ?_;with_reducible refine (zco.calls k2 _ _ l0 x5_2 t893 _ ?side1 ?side2 A25.out).mono ?_
        (case side1 => exact Zq6 (Kd.zb4 HR0.out HB.out));(case side2 => exact HC0.out);rintro e w31 ⟨rfl, hb⟩;refine ⟨_, rfl, ?_⟩;have n0_ := za.mk (zbg (g := gb886) (o := .cells #[.int .i64 a1_0, .int .i64 a1_1] 51 (0, 0)) (Zq4 BK886) hb);have n1_ := za.mk (zm (Zq5 HB GE886) hb);clear BK886;clear HB;have BK886 := n0_;have HB := n1_;clear n0_ n1_;(try clear hb);(try clear hb2);(try clear hk);(try clear hi);refine hK.out _ _ ⟨(ze BK886.out 0).trans rfl, (ze BK886.out 1).trans rfl⟩ (fun hHeld => ?_);clear hK K;refine zc0 (a' := ?_) ?_ ?_;rotate_left
        ·show Act.put _ (some 42) _ = _
         simp only [Act.put, Zs1, Zs2, Zs3, zbh, zbj];rfl
        refine one_ (i := 5) (N := some 45) #[true, true, true, true, true, true, false] rfl rfl (by kernel_rfl) (by decide) (fun K hK => ?_);refine zd8 Try.func80 (by kernel_rfl) rfl #[.agg #[.int .i64 a1_0, .int .i64 a1_1], .int .i64 x5_2] (by rfl) rfl rfl Zmt ?_;with_reducible refine (zct.calls a1_0 a1_1 x5_2 t894 _ A26.out).mono ?_
        rintro e w32 ⟨rfl, hb⟩;refine ⟨_, rfl, ?_⟩;have n0_ := za.mk (zbg (g := gb886) (o := .cells #[.int .i64 a1_0, .int .i64 a1_1] 51 (0, 0)) (Zq4 BK886) hb);have n1_ := za.mk (zm (Zq5 HB GE886) hb);clear BK886;clear HB;have BK886 := n0_;have HB := n1_;clear n0_ n1_;(try clear hb);(try clear hb2);(try clear hk);(try clear hi);refine hK.out _ _ ⟨(ze BK886.out 0).trans rfl, (ze BK886.out 1).trans rfl⟩ (fun hHeld => ?_);clear hK K;refine zc0 (a' := ?_) ?_ ?_;rotate_left
        ·show Act.put _ (some 45) _ = _
         simp only [Act.put, Zs1, Zs2, Zs3, zbh, zbj];rfl
        refine zbv (i := 6) (N := some 46) (v := ?_) (a' := ?_) #[true, true, true, true, true, true, true] rfl rfl (by kernel_rfl) (fun _ _ _ h => h) (Or.inl ⟨by rfl, ?_⟩) ?_ ?_;rotate_left
        ·intro w'
         go_simp;with_reducible rfl
        rotate_left
        ·simp only [Act.put, Zs1, Zs2, Zs3, zbh, zbj]
         rfl
        refine ze9 (by kernel_rfl) ?_
        try go_wp2
        go_ret;exact ⟨by first | rfl | (simp [zu, zw] <;> rfl) | (simp [*, zu, zw] <;> rfl), Zq5 HB GE886⟩
       ·rw [if_neg c27] at H
        have c27b0 : decide (t894 < t893) = false := decide_eq_false c27;clear c27;have H' := za.mk H;clear H
        try go_wp2
        have n0_ := za.mk (zx BK886.out);have n1_ := za.mk (zbs HB.out);clear BK886;clear HB;have BK886 := n0_;have HB := n1_;clear n0_ n1_;refine zed (n := 11) (S := fun w' => w'.cell? ⟨gb886, 0, none⟩ = some (.int .i64 a1_0) ∧ w'.cell? ⟨gb886, 1, none⟩ = some (.int .i64 a1_1)) (ds := []) #[false, false, false, false, false, false, false, false, false, false, false] (by kernel_rfl) rfl rfl ⟨(ze BK886.out 0).trans rfl, (ze BK886.out 1).trans rfl⟩ (fun hHeld => ?_); refine zdd zk.tab4 zk.bits4 (fun HT_ HW_ => ?_);generalize wr.drew = w33 at BK886 HB hHeld ⊢;refine zbv (i := 0) (N := some 27) (v := ?_) (a' := ?_) #[true, false, false, false, false, false, false, false, false, false, false] rfl rfl (zbl HT_.out (by kernel_rfl)) (fun _ _ _ h => h) (Or.inl ⟨by rfl, ?_⟩) ?_ ?_;rotate_left
        ·intro w'
         go_simp;with_reducible rfl
        rotate_left
        ·simp only [Act.put, Zs1, Zs2, Zs3, zbh, zbj]
         rfl
        refine zbv (i := 1) (N := some 28) (v := ?_) (a' := ?_) #[true, true, false, false, false, false, false, false, false, false, false] rfl rfl (zbl HT_.out (by kernel_rfl)) (fun _ _ _ h => h) (Or.inl ⟨by rfl, ?_⟩) ?_ ?_;rotate_left
        ·intro w'
         go_simp;with_reducible rfl
        rotate_left
        ·simp only [Act.put, Zs1, Zs2, Zs3, zbh, zbj]
         rfl
        refine zbv (i := 3) (N := some 30) (v := ?_) (a' := ?_) #[true, true, false, true, false, false, false, false, false, false, false] rfl rfl (zbl HT_.out (by kernel_rfl)) (fun _ _ _ h => h) (Or.inl ⟨by rfl, ?_⟩) ?_ ?_;rotate_left
        ·intro w'
         go_simp;with_reducible rfl
        rotate_left
        ·simp only [Act.put, Zs1, Zs2, Zs3, zbh, zbj]
         rfl
        refine zbv (i := 6) (N := some 33) (v := ?_) (a' := ?_) #[true, true, false, true, false, false, true, false, false, false, false] rfl rfl (zbl HT_.out (by kernel_rfl)) (fun _ _ _ h => h) (Or.inl ⟨by rfl, ?_⟩) ?_ ?_;rotate_left
        ·intro w'
         go_simp;with_reducible rfl
        rotate_left
        ·simp only [Act.put, Zs1, Zs2, Zs3, zbh, zbj]
         rfl
        refine zdy (i := 4) (N := some 31) (v := ?_) (a' := ?_) #[true, true, false, true, true, false, true, false, false, false, false] rfl rfl (zcm HT_.out HW_.out (by kernel_rfl)) (fun _ _ _ h => h) (Or.inl ⟨by rfl, ?_⟩) hHeld ?_ ?_;rotate_left
        ·rintro w' ⟨s0, s1⟩
         go_simp;with_reducible rfl
        rotate_left
        ·simp only [Act.put, Zs1, Zs2, Zs3, zbh, zbj]
         rfl
        refine zdy (i := 7) (N := some 34) (v := ?_) (a' := ?_) #[true, true, false, true, true, false, true, true, false, false, false] rfl rfl (zcm HT_.out HW_.out (by kernel_rfl)) (fun _ _ _ h => h) (Or.inl ⟨by rfl, ?_⟩) hHeld ?_ ?_;rotate_left
        ·rintro w' ⟨s0, s1⟩
         go_simp;with_reducible rfl
        rotate_left
        ·simp only [Act.put, Zs1, Zs2, Zs3, zbh, zbj]
         rfl
        refine zbv (i := 8) (N := some 35) (v := ?_) (a' := ?_) #[true, true, false, true, true, false, true, true, true, false, false] rfl rfl (zbl HT_.out (by kernel_rfl)) (fun _ _ _ h => h) (Or.inl ⟨by rfl, ?_⟩) ?_ ?_;rotate_left
        ·intro w'
         go_simp;with_reducible rfl
        rotate_left
        ·simp only [Act.put, Zs1, Zs2, Zs3, zbh, zbj]
         rfl
        refine one_ (i := 2) (N := some 29) #[true, true, true, true, true, false, true, true, true, false, false] rfl rfl (zc2 HT_.out (by kernel_rfl)) (by decide) (fun K hK => ?_);refine zd8 Try.func66 (by kernel_rfl) rfl #[.slice A0 l0.length c0] (by rfl) rfl rfl Zmt ?_;with_reducible refine (zb9.calls k2 _ _ l0 t891 _ ?side1 ?side2 A22.out).mono ?_
        (case side1 => exact Zq6 (Kd.zb4 HR0.out HB.out));(case side2 => exact HC0.out);rintro e w34 ⟨rfl, hb⟩;refine ⟨_, rfl, ?_⟩;have n0_ := za.mk (zbg (g := gb886) (o := .cells #[.int .i64 a1_0, .int .i64 a1_1] 51 (0, 0)) (Zq4 BK886) hb);have n1_ := za.mk (zm (Zq5 HB GE886) hb);clear BK886;clear HB;have BK886 := n0_;have HB := n1_;clear n0_ n1_;(try clear hb);(try clear hb2);(try clear hk);(try clear hi);refine hK.out _ _ ⟨(ze BK886.out 0).trans rfl, (ze BK886.out 1).trans rfl⟩ (fun hHeld => ?_);clear hK K;refine zc0 (a' := ?_) ?_ ?_;rotate_left
        ·show Act.put _ (some 29) _ = _
         simp only [Act.put, Zs1, Zs2, Zs3, zbh, zbj];rfl
        refine one_ (i := 5) (N := some 32) #[true, true, true, true, true, true, true, true, true, false, false] rfl rfl (zc2 HT_.out (by kernel_rfl)) (by decide) (fun K hK => ?_);refine zd8 Try.func78 (by kernel_rfl) rfl #[.int .i64 t891, .int .i64 a1_1] (by rfl) rfl rfl Zmt ?_;with_reducible refine (zd9.calls k2 t891 a1_1 t892 _ A23.out).mono ?_
        rintro e w' ⟨rfl, ⟨nd, rfl⟩⟩;refine ⟨_, rfl, ?_⟩;refine hK.out _ _ ⟨(ze BK886.out 0).trans rfl, (ze BK886.out 1).trans rfl⟩ (fun hHeld => ?_);clear hK K;refine zc0 (a' := ?_) ?_ ?_;rotate_left
        ·show Act.put _ (some 32) _ = _
         simp only [Act.put, Zs1, Zs2, Zs3, zbh, zbj];rfl
        refine zbv (i := 9) (N := some 36) (v := ?_) (a' := ?_) #[true, true, true, true, true, true, true, true, true, true, false] rfl rfl (zbl HT_.out (by kernel_rfl)) (fun _ _ _ h => h) (Or.inl ⟨by rfl, ?_⟩) ?_ ?_;rotate_left
        ·intro w'
         go_simp;with_reducible rfl
        rotate_left
        ·simp only [Act.put, Zs1, Zs2, Zs3, zbh, zbj]
         rfl
        refine zbv (i := 10) (N := some 37) (v := ?_) (a' := ?_) #[true, true, true, true, true, true, true, true, true, true, true] rfl rfl (zbl HT_.out (by kernel_rfl)) (fun _ _ _ h => h) (Or.inl ⟨by rfl, ?_⟩) ?_ ?_;rotate_left
        ·intro w'
         go_simp;with_reducible rfl
        rotate_left
        ·simp only [Act.put, Zs1, Zs2, Zs3, zbh, zbj]
         rfl
        refine ze9 (zd6 HT_.out (by kernel_rfl)) ?_
        try go_wp2
        (try (rw [zdv w34]; generalize hq_ : World.drewN w34 _ = w34; have n0_ : za (w34.heap[gb886]? = some (.cells #[.int .i64 a1_0, .int .i64 a1_1] 51 (0, 0))) := ⟨by rw [← hq_]; exact (Zq4 BK886)⟩; have n1_ : za (Below w.heap.size w w34) := ⟨by rw [← hq_]; exact (Zq5 HB GE886)⟩; clear BK886 HB hq_; have BK886 := n0_; have HB := n1_; clear n0_ n1_));have n0_ := za.mk (zx BK886.out);have n1_ := za.mk (zbs HB.out);clear BK886;clear HB;have BK886 := n0_;have HB := n1_;clear n0_ n1_;refine zed (n := 7) (S := fun w' => w'.cell? ⟨gb886, 0, none⟩ = some (.int .i64 a1_0) ∧ w'.cell? ⟨gb886, 1, none⟩ = some (.int .i64 a1_1)) (ds := []) #[false, false, false, false, false, false, false] (by kernel_rfl) rfl rfl ⟨(ze BK886.out 0).trans rfl, (ze BK886.out 1).trans rfl⟩ (fun hHeld => ?_);generalize w34.drew = w35 at BK886 HB hHeld ⊢;refine zbv (i := 0) (N := some 40) (v := ?_) (a' := ?_) #[true, false, false, false, false, false, false] rfl rfl (by kernel_rfl) (fun _ _ _ h => h) (Or.inl ⟨by rfl, ?_⟩) ?_ ?_;rotate_left
        ·intro w'
         go_simp;with_reducible rfl
        rotate_left
        ·simp only [Act.put, Zs1, Zs2, Zs3, zbh, zbj]
         rfl
        refine zbv (i := 1) (N := some 41) (v := ?_) (a' := ?_) #[true, true, false, false, false, false, false] rfl rfl (by kernel_rfl) (fun _ _ _ h => h) (Or.inl ⟨by rfl, ?_⟩) ?_ ?_;rotate_left
        ·intro w'
         go_simp;with_reducible rfl
        rotate_left
        ·simp only [Act.put, Zs1, Zs2, Zs3, zbh, zbj]
         rfl
        refine zbv (i := 4) (N := some 44) (v := ?_) (a' := ?_) #[true, true, false, false, true, false, false] rfl rfl (by kernel_rfl) (fun _ _ _ h => h) (Or.inl ⟨by rfl, ?_⟩) ?_ ?_;rotate_left
        ·intro w'
         go_simp;with_reducible rfl
        rotate_left
        ·simp only [Act.put, Zs1, Zs2, Zs3, zbh, zbj]
         rfl
        refine zdy (i := 3) (N := some 43) (v := ?_) (a' := ?_) #[true, true, false, true, true, false, false] rfl rfl (by kernel_rfl) (fun _ _ _ h => h) (Or.inl ⟨by rfl, ?_⟩) hHeld ?_ ?_;rotate_left
        ·rintro w' ⟨s0, s1⟩
         go_simp;with_reducible rfl
        rotate_left
        ·simp only [Act.put, Zs1, Zs2, Zs3, zbh, zbj]
         rfl
        refine one_ (i := 2) (N := some 42) #[true, true, true, true, true, false, false] rfl rfl (by kernel_rfl) (by decide) (fun K hK => ?_);refine zd8 Try.func79 (by kernel_rfl) rfl #[.slice A0 l0.length c0, .int .i64 x5_2] (by rfl) rfl rfl Zmt ?_;with_reducible refine (zco.calls k2 _ _ l0 x5_2 t893 _ ?side1 ?side2 A25.out).mono ?_
        (case side1 => exact Zq6 (Kd.zb4 HR0.out HB.out));(case side2 => exact HC0.out);rintro e w36 ⟨rfl, hb⟩;refine ⟨_, rfl, ?_⟩;have n0_ := za.mk (zbg (g := gb886) (o := .cells #[.int .i64 a1_0, .int .i64 a1_1] 51 (0, 0)) (Zq4 BK886) hb);have n1_ := za.mk (zm (Zq5 HB GE886) hb);clear BK886;clear HB;have BK886 := n0_;have HB := n1_;clear n0_ n1_;(try clear hb);(try clear hb2);(try clear hk);(try clear hi);refine hK.out _ _ ⟨(ze BK886.out 0).trans rfl, (ze BK886.out 1).trans rfl⟩ (fun hHeld => ?_);clear hK K;refine zc0 (a' := ?_) ?_ ?_;rotate_left
        ·show Act.put _ (some 42) _ = _
         simp only [Act.put, Zs1, Zs2, Zs3, zbh, zbj];rfl
        refine one_ (i := 5) (N := some 45) #[true, true, true, true, true, true, false] rfl rfl (by kernel_rfl) (by decide) (fun K hK => ?_);refine zd8 Try.func80 (by kernel_rfl) rfl #[.agg #[.int .i64 a1_0, .int .i64 a1_1], .int .i64 x5_2] (by rfl) rfl rfl Zmt ?_;with_reducible refine (zct.calls a1_0 a1_1 x5_2 t894 _ A26.out).mono ?_
        rintro e w37 ⟨rfl, hb⟩;refine ⟨_, rfl, ?_⟩;have n0_ := za.mk (zbg (g := gb886) (o := .cells #[.int .i64 a1_0, .int .i64 a1_1] 51 (0, 0)) (Zq4 BK886) hb);have n1_ := za.mk (zm (Zq5 HB GE886) hb);clear BK886;clear HB;have BK886 := n0_;have HB := n1_;clear n0_ n1_;(try clear hb);(try clear hb2);(try clear hk);(try clear hi);refine hK.out _ _ ⟨(ze BK886.out 0).trans rfl, (ze BK886.out 1).trans rfl⟩ (fun hHeld => ?_);clear hK K;refine zc0 (a' := ?_) ?_ ?_;rotate_left
        ·show Act.put _ (some 45) _ = _
         simp only [Act.put, Zs1, Zs2, Zs3, zbh, zbj];rfl
        refine zbv (i := 6) (N := some 46) (v := ?_) (a' := ?_) #[true, true, true, true, true, true, true] rfl rfl (by kernel_rfl) (fun _ _ _ h => h) (Or.inl ⟨by rfl, ?_⟩) ?_ ?_;rotate_left
        ·intro w'
         go_simp;with_reducible rfl
        rotate_left
        ·simp only [Act.put, Zs1, Zs2, Zs3, zbh, zbj]
         rfl
        refine ze9 (by kernel_rfl) ?_
        try go_wp2
        go_roundg k2
        case measure => have := HJ2.out; have := HK2.out; omega
        case rel => exact ⟨(wrap64 (x5_2 + 1)), Zrs, H', ⟨by have := HJ2.out; have := HK2.out; omega⟩, ⟨Zq4 BK886⟩, ⟨Zq5 HB GE886⟩⟩
      ·rw [if_neg c24] at H
       have c24b0 : decide (x5_2 ≤ (wrap64 (t892 + (wrap64 (2 * a1_1))))) = false := decide_eq_false c24;clear c24;obtain rfl := Option.some.inj H
       try go_wp2
       have n0_ := za.mk (zx BK886.out);have n1_ := za.mk (zbs HB.out);clear BK886;clear HB;have BK886 := n0_;have HB := n1_;clear n0_ n1_;refine zed (n := 11) (S := fun w' => w'.cell? ⟨gb886, 0, none⟩ = some (.int .i64 a1_0) ∧ w'.cell? ⟨gb886, 1, none⟩ = some (.int .i64 a1_1)) (ds := []) #[false, false, false, false, false, false, false, false, false, false, false] (by kernel_rfl) rfl rfl ⟨(ze BK886.out 0).trans rfl, (ze BK886.out 1).trans rfl⟩ (fun hHeld => ?_); refine zdd zk.tab4 zk.bits4 (fun HT_ HW_ => ?_);generalize wr.drew = w38 at BK886 HB hHeld ⊢;refine zbv (i := 0) (N := some 27) (v := ?_) (a' := ?_) #[true, false, false, false, false, false, false, false, false, false, false] rfl rfl (zbl HT_.out (by kernel_rfl)) (fun _ _ _ h => h) (Or.inl ⟨by rfl, ?_⟩) ?_ ?_;rotate_left
       ·intro w'
        go_simp;with_reducible rfl
       rotate_left
       ·simp only [Act.put, Zs1, Zs2, Zs3, zbh, zbj]
        rfl
       refine zbv (i := 1) (N := some 28) (v := ?_) (a' := ?_) #[true, true, false, false, false, false, false, false, false, false, false] rfl rfl (zbl HT_.out (by kernel_rfl)) (fun _ _ _ h => h) (Or.inl ⟨by rfl, ?_⟩) ?_ ?_;rotate_left
       ·intro w'
        go_simp;with_reducible rfl
       rotate_left
       ·simp only [Act.put, Zs1, Zs2, Zs3, zbh, zbj]
        rfl
       refine zbv (i := 3) (N := some 30) (v := ?_) (a' := ?_) #[true, true, false, true, false, false, false, false, false, false, false] rfl rfl (zbl HT_.out (by kernel_rfl)) (fun _ _ _ h => h) (Or.inl ⟨by rfl, ?_⟩) ?_ ?_;rotate_left
       ·intro w'
        go_simp;with_reducible rfl
       rotate_left
       ·simp only [Act.put, Zs1, Zs2, Zs3, zbh, zbj]
        rfl
       refine zbv (i := 6) (N := some 33) (v := ?_) (a' := ?_) #[true, true, false, true, false, false, true, false, false, false, false] rfl rfl (zbl HT_.out (by kernel_rfl)) (fun _ _ _ h => h) (Or.inl ⟨by rfl, ?_⟩) ?_ ?_;rotate_left
       ·intro w'
        go_simp;with_reducible rfl
       rotate_left
       ·simp only [Act.put, Zs1, Zs2, Zs3, zbh, zbj]
        rfl
       refine zdy (i := 4) (N := some 31) (v := ?_) (a' := ?_) #[true, true, false, true, true, false, true, false, false, false, false] rfl rfl (zcm HT_.out HW_.out (by kernel_rfl)) (fun _ _ _ h => h) (Or.inl ⟨by rfl, ?_⟩) hHeld ?_ ?_;rotate_left
       ·rintro w' ⟨s0, s1⟩
        go_simp;with_reducible rfl
       rotate_left
       ·simp only [Act.put, Zs1, Zs2, Zs3, zbh, zbj]
        rfl
       refine zdy (i := 7) (N := some 34) (v := ?_) (a' := ?_) #[true, true, false, true, true, false, true, true, false, false, false] rfl rfl (zcm HT_.out HW_.out (by kernel_rfl)) (fun _ _ _ h => h) (Or.inl ⟨by rfl, ?_⟩) hHeld ?_ ?_;rotate_left
       ·rintro w' ⟨s0, s1⟩
        go_simp;with_reducible rfl
       rotate_left
       ·simp only [Act.put, Zs1, Zs2, Zs3, zbh, zbj]
        rfl
       refine zbv (i := 8) (N := some 35) (v := ?_) (a' := ?_) #[true, true, false, true, true, false, true, true, true, false, false] rfl rfl (zbl HT_.out (by kernel_rfl)) (fun _ _ _ h => h) (Or.inl ⟨by rfl, ?_⟩) ?_ ?_;rotate_left
       ·intro w'
        go_simp;with_reducible rfl
       rotate_left
       ·simp only [Act.put, Zs1, Zs2, Zs3, zbh, zbj]
        rfl
       refine one_ (i := 2) (N := some 29) #[true, true, true, true, true, false, true, true, true, false, false] rfl rfl (zc2 HT_.out (by kernel_rfl)) (by decide) (fun K hK => ?_);refine zd8 Try.func66 (by kernel_rfl) rfl #[.slice A0 l0.length c0] (by rfl) rfl rfl Zmt ?_;with_reducible refine (zb9.calls k2 _ _ l0 t891 _ ?side1 ?side2 A22.out).mono ?_
       (case side1 => exact Zq6 (Kd.zb4 HR0.out HB.out));(case side2 => exact HC0.out);rintro e w39 ⟨rfl, hb⟩;refine ⟨_, rfl, ?_⟩;have n0_ := za.mk (zbg (g := gb886) (o := .cells #[.int .i64 a1_0, .int .i64 a1_1] 51 (0, 0)) (Zq4 BK886) hb);have n1_ := za.mk (zm (Zq5 HB GE886) hb);clear BK886;clear HB;have BK886 := n0_;have HB := n1_;clear n0_ n1_;(try clear hb);(try clear hb2);(try clear hk);(try clear hi);refine hK.out _ _ ⟨(ze BK886.out 0).trans rfl, (ze BK886.out 1).trans rfl⟩ (fun hHeld => ?_);clear hK K;refine zc0 (a' := ?_) ?_ ?_;rotate_left
       ·show Act.put _ (some 29) _ = _
        simp only [Act.put, Zs1, Zs2, Zs3, zbh, zbj];rfl
       refine one_ (i := 5) (N := some 32) #[true, true, true, true, true, true, true, true, true, false, false] rfl rfl (zc2 HT_.out (by kernel_rfl)) (by decide) (fun K hK => ?_);refine zd8 Try.func78 (by kernel_rfl) rfl #[.int .i64 t891, .int .i64 a1_1] (by rfl) rfl rfl Zmt ?_;with_reducible refine (zd9.calls k2 t891 a1_1 t892 _ A23.out).mono ?_
       rintro e w' ⟨rfl, ⟨nd, rfl⟩⟩;refine ⟨_, rfl, ?_⟩;refine hK.out _ _ ⟨(ze BK886.out 0).trans rfl, (ze BK886.out 1).trans rfl⟩ (fun hHeld => ?_);clear hK K;refine zc0 (a' := ?_) ?_ ?_;rotate_left
       ·show Act.put _ (some 32) _ = _
        simp only [Act.put, Zs1, Zs2, Zs3, zbh, zbj];rfl
       refine zbv (i := 9) (N := some 36) (v := ?_) (a' := ?_) #[true, true, true, true, true, true, true, true, true, true, false] rfl rfl (zbl HT_.out (by kernel_rfl)) (fun _ _ _ h => h) (Or.inl ⟨by rfl, ?_⟩) ?_ ?_;rotate_left
       ·intro w'
        go_simp;with_reducible rfl
       rotate_left
       ·simp only [Act.put, Zs1, Zs2, Zs3, zbh, zbj]
        rfl
       refine zbv (i := 10) (N := some 37) (v := ?_) (a' := ?_) #[true, true, true, true, true, true, true, true, true, true, true] rfl rfl (zbl HT_.out (by kernel_rfl)) (fun _ _ _ h => h) (Or.inl ⟨by rfl, ?_⟩) ?_ ?_;rotate_left
       ·intro w'
        go_simp;with_reducible rfl
       rotate_left
       ·simp only [Act.put, Zs1, Zs2, Zs3, zbh, zbj]
        rfl
       refine ze9 (zd6 HT_.out (by kernel_rfl)) ?_
       try go_wp2
       go_ret;exact ⟨by first | rfl | (simp [zu, zw] <;> rfl) | (simp [*, zu, zw] <;> rfl), Zq5 HB GE886⟩
theorem Zq22 {X0 P : Prop} (x0 : za X0) (h : X0 → P := by intro x0; (with_reducible repeat (first | apply Kd.zdr | apply Kd.zds | apply Kd.zdb)); exact x0) : P := h x0.out
mutual
def laws_FnSupplySafe.j0 : Nat → List (S34) → Bool → Int → Int → List Int → List Int → Option (Bool)
 | 0, _, _, _, _, _, _ => none
 | k + 1, x4, x42, x909000, x909001, x916000, x916001 => if x42 = true then ((zeg.f).bind fun t924 => (some t924)) else ((zd2.f x4 x916000 x916001).bind fun t925 => (laws_FnSupplySafe.l0 k x4 t925 0 x909000 x909001))
def laws_FnSupplySafe.l0 : Nat → List (S34) → List Int → Int → Int → Int → Option (Bool)
 | 0, _, _, _, _, _ => none
 | k + 1, x4, x8, x9, x909000, x909001 => if x9 < (x8.length : Int) then (if 0 ≤ x9 then (if 0 ≤ (rd x8 x9) then (if (rd x8 x9) < (x4.length : Int) then (if x909001 = 0 then (none) else (if ((zf x4 (rd x8 x9)).f2) ≤ (wrap64 ((wrap64 ((120 : Int) / x909001)) * x909001)) then (some false) else (laws_FnSupplySafe.l0 k x4 x8 (wrap64 (x9 + 1)) x909000 x909001))) else (none)) else (none)) else (none)) else (some true)
end
def laws_FnSupplySafe.f (k : Nat) (l0 : List Int) : Option (Bool) := if (l0.length : Int) > 1048576 then (some true) else ((zbd.f k l0).bind fun bt897 => ((zc7.f k bt897.1 bt897.2.1 bt897.2.2.1 bt897.2.2.2.1 bt897.2.2.2.2).bind fun bt909 => ((zba.f k bt897.1 bt897.2.1 bt897.2.2.1 bt897.2.2.2.1 bt897.2.2.2.2).bind fun bt916 => ((zcs.f k bt909.1 bt909.2 bt916.1 bt916.2).bind fun t922 => (if t922 = true then (if (bt909.1.length : Int) = 120 then ((zk.f k bt897.1 bt897.2.2.1 bt897.2.2.2.1).bind fun t923 => (laws_FnSupplySafe.j0 k bt897.2.1 (!t923) bt897.2.2.1 bt897.2.2.2.1 bt909.1 bt909.2)) else (laws_FnSupplySafe.j0 k bt897.2.1 true bt897.2.2.1 bt897.2.2.2.1 bt909.1 bt909.2)) else (some false))))))
def laws_FnSupplySafe.T5 : Bool × List (List Nat × List Nat) := (true, [([], []), ([], []), ([], []), ([], []), ([], []), ([1, 2, 3, 4], [1, 2, 3, 4]), ([0, 5, 5], [0, 5]), ([6], [6])])
def laws_FnSupplySafe.B5 : List Nat := [0, 0, 0, 0, 0, 30, 63, 127]
theorem laws_FnSupplySafe.tab5 : rtab .any (opsOf Try.f9 5) = laws_FnSupplySafe.T5 := by kernel_rfl
theorem laws_FnSupplySafe.bits5 : zea laws_FnSupplySafe.T5.2 laws_FnSupplySafe.B5 = true := by kernel_rfl
def laws_FnSupplySafe.T13 : Bool × List (List Nat × List Nat) := (true, [([], []), ([], []), ([], []), ([1, 2], [1, 2]), ([3], [3]), ([0, 4], [0, 4]), ([5], [5]), ([6], [6]), ([], []), ([8], [8]), ([9], [9]), ([], []), ([11], [11]), ([10, 12], [10, 12]), ([7, 13], [7, 13])])
def laws_FnSupplySafe.B13 : List Nat := [0, 0, 0, 6, 14, 31, 63, 127, 0, 256, 768, 0, 2048, 7936, 16383]
theorem laws_FnSupplySafe.tab13 : rtab .any (opsOf Try.f9 13) = laws_FnSupplySafe.T13 := by kernel_rfl
theorem laws_FnSupplySafe.bits13 : zea laws_FnSupplySafe.T13.2 laws_FnSupplySafe.B13 = true := by kernel_rfl
set_option maxHeartbeats 8000000 in
theorem laws_FnSupplySafe.calls (k : Nat) (A0 : Option Addr) (c0 : Nat) (l0 : List Int) (r : Bool) (w : World) (hr0 : Kd.C (Kd.int .u8) w A0 l0.length l0) (hc0 : l0.length ≤ c0) (h : laws_FnSupplySafe.f k l0 = some r) (hrt : r = true) :
  Calls Try.prog 9 #[.slice A0 l0.length c0] w fun e w' => e = .returned (.bool r) ∧ Below w.heap.size w w' := by
 have HRT := za.mk hrt
 clear hrt
 have hu51 := Try.underlying51
 have hu29 := Try.underlying29
 have HR0 := za.mk hr0
 have HC0 := za.mk hc0
 clear hr0 hc0
 have HB := za.mk (Below.refl w.heap.size w)
 have H : (if (l0.length : Int) > 1048576 then (some true) else ((zbd.f k l0).bind fun bt897 => ((zc7.f k bt897.1 bt897.2.1 bt897.2.2.1 bt897.2.2.2.1 bt897.2.2.2.2).bind fun bt909 => ((zba.f k bt897.1 bt897.2.1 bt897.2.2.1 bt897.2.2.2.1 bt897.2.2.2.2).bind fun bt916 => ((zcs.f k bt909.1 bt909.2 bt916.1 bt916.2).bind fun t922 => (if t922 = true then (if (bt909.1.length : Int) = 120 then ((zk.f k bt897.1 bt897.2.2.1 bt897.2.2.2.1).bind fun t923 => (laws_FnSupplySafe.j0 k bt897.2.1 (!t923) bt897.2.2.1 bt897.2.2.2.1 bt909.1 bt909.2)) else (laws_FnSupplySafe.j0 k bt897.2.1 true bt897.2.2.1 bt897.2.2.2.1 bt909.1 bt909.2)) else (some false))))))) = some r := h
 clear h
 by_cases c2 : (l0.length : Int) > 1048576
 ·rw [if_pos c2] at H
  have c2b0 : decide (1048576 < (l0.length : Int)) = true := decide_eq_true c2;have c2b1 : decide (1048576 < l0.length) = true := decide_eq_true (by omega);clear c2;obtain rfl := Option.some.inj H;go_enter Try.func9, Try.ntmps9;go_wp2;go_ret;exact ⟨by first | rfl | (simp [zu, zw] <;> rfl) | (simp [*, zu, zw] <;> rfl), Zq3 HB⟩
 ·rw [if_neg c2] at H
  have c2b0 : decide (1048576 < (l0.length : Int)) = false := decide_eq_false c2;have c2b1 : decide (1048576 < l0.length) = false := decide_eq_false (by omega);clear c2;replace H := Option.bind_eq_some_iff.mp H;obtain ⟨⟨t897, t900, t903, t904, t905⟩, A30, H⟩ := H;replace H : ((zc7.f k t897 t900 t903 t904 t905).bind fun bt909 => ((zba.f k t897 t900 t903 t904 t905).bind fun bt916 => ((zcs.f k bt909.1 bt909.2 bt916.1 bt916.2).bind fun t922 => (if t922 = true then (if (bt909.1.length : Int) = 120 then ((zk.f k t897 t903 t904).bind fun t923 => (laws_FnSupplySafe.j0 k t900 (!t923) t903 t904 bt909.1 bt909.2)) else (laws_FnSupplySafe.j0 k t900 true t903 t904 bt909.1 bt909.2)) else (some false))))) = some r := H;have A3 := za.mk A30;clear A30;replace H := Option.bind_eq_some_iff.mp H;obtain ⟨⟨t909, t912⟩, A40, H⟩ := H;replace H : ((zba.f k t897 t900 t903 t904 t905).bind fun bt916 => ((zcs.f k t909 t912 bt916.1 bt916.2).bind fun t922 => (if t922 = true then (if (t909.length : Int) = 120 then ((zk.f k t897 t903 t904).bind fun t923 => (laws_FnSupplySafe.j0 k t900 (!t923) t903 t904 t909 t912)) else (laws_FnSupplySafe.j0 k t900 true t903 t904 t909 t912)) else (some false)))) = some r := H;have A4 := za.mk A40;clear A40;replace H := Option.bind_eq_some_iff.mp H;obtain ⟨⟨t916, t919⟩, A50, H⟩ := H;replace H : ((zcs.f k t909 t912 t916 t919).bind fun t922 => (if t922 = true then (if (t909.length : Int) = 120 then ((zk.f k t897 t903 t904).bind fun t923 => (laws_FnSupplySafe.j0 k t900 (!t923) t903 t904 t909 t912)) else (laws_FnSupplySafe.j0 k t900 true t903 t904 t909 t912)) else (some false))) = some r := H;have A5 := za.mk A50;clear A50;replace H := Option.bind_eq_some_iff.mp H;obtain ⟨t922, A60, H⟩ := H;replace H : (if t922 = true then (if (t909.length : Int) = 120 then ((zk.f k t897 t903 t904).bind fun t923 => (laws_FnSupplySafe.j0 k t900 (!t923) t903 t904 t909 t912)) else (laws_FnSupplySafe.j0 k t900 true t903 t904 t909 t912)) else (some false)) = some r := H;have A6 := za.mk A60;clear A60;by_cases c7 : t922 = true
  ·subst c7
   have H1 : (if (t909.length : Int) = 120 then ((zk.f k t897 t903 t904).bind fun t923 => (laws_FnSupplySafe.j0 k t900 (!t923) t903 t904 t909 t912)) else (laws_FnSupplySafe.j0 k t900 true t903 t904 t909 t912)) = some r := by rw [if_pos rfl] at H; exact H
   clear H;have H := H1;clear H1;have HC8 := za.mk H;clear H;go_enter Try.func9, Try.ntmps9
   try go_wp2_with (first | ((with_reducible refine zbc (f := 30) rfl ?_); refine zby (some 15) rfl rfl Try.func30 (by kernel_rfl) rfl #[.slice A0 l0.length c0] rfl Zmt ?_; (with_reducible refine (zbd.calls k _ _ l0 t897 t900 t903 t904 t905 _ ?side1 ?side2 A3.out).mono ?_); (case side1 => exact Zq20 HR0); (case side2 => exact HC0.out); rintro e w9 ⟨v898, v901, v906, rfl, ho0, ho1, ho2, hb⟩; replace ho0 := Kd.Q_of ho0; replace ho1 := Kd.Q_of ho1; replace ho2 := Kd.Q_of ho2; refine ⟨_, rfl, ?_⟩; have n0_ := za.mk (Kd.zez ho0 (zy (Zq3 HB))); have n1_ := za.mk (Kd.zez ho1 (zy (Zq3 HB))); have n2_ := za.mk (Kd.zez ho2 (zy (Zq3 HB))); have n3_ := za.mk (zm (Zq3 HB) hb); clear HB; have HO899 := n0_; have HO902 := n1_; have HO907 := n2_; have HB := n3_; clear n0_ n1_ n2_ n3_; (try clear hb); (try clear hb2); (try clear hk); (try clear hi); (try clear ho0); (try clear ho1); (try clear ho2)) | ((with_reducible refine zbp (N := 5) rfl ?_); refine zbt ?hg (N := 5) ?hd (cs := #[.int .i64 0, .int .i64 0]) (t := 51) ?hr ?_; (case hd => rfl); (case hg => rfl); (case hr => first | (go_simp; done) | (go_simp; rfl)); intro gb908 hg w10 hbox hb; have n0_ := za.mk (Kd.zcu (Zq22 HO899) hb); have n1_ := za.mk (Kd.zcu (Zq22 HO902) hb); have n2_ := za.mk (Kd.zcu (Zq22 HO907) hb); have n3_ := za.mk (zm (Zq3 HB) hb); have n4_ := za.mk (hbox); have n5_ := za.mk ((by rw [hg]; exact (zy (Zq3 HB)) : w.heap.size ≤ gb908)); have n6_ := za.mk ((by rw [hg]; exact (zy (Zq3 HB)) : w.heap.size ≤ gb908)); clear HO899; clear HO902; clear HO907; clear HB; have HO899 := n0_; have HO902 := n1_; have HO907 := n2_; have HB := n3_; have BK908 := n4_; have GW908 := n5_; have GE908 := n6_; clear n0_ n1_ n2_ n3_ n4_ n5_ n6_; clear hb hbox hg; have hcz11_0 : w10.cell? ⟨gb908, 0, none⟩ = some (.int .i64 0) := (ze BK908.out 0).trans rfl; have hcz11_1 : w10.cell? ⟨gb908, 1, none⟩ = some (.int .i64 0) := (ze BK908.out 1).trans rfl; have hfz11_0 := zg BK908.out 0; have hfz11_1 := zg BK908.out 1; obtain ⟨Ao12, co12, eo12⟩ := Kd.zeq HO899.out; subst eo12; obtain ⟨Ao13, co13, eo13⟩ := Kd.zeq HO902.out; subst eo13; obtain ⟨Ao14, co14, eo14⟩ := Kd.zeq HO907.out; subst eo14) | ((with_reducible refine zbc (f := 31) rfl ?_); refine zby (some 24) rfl rfl Try.func31 (by kernel_rfl) rfl #[.slice Ao12 t897.length co12, .slice Ao13 t900.length co13, .agg #[.int .i64 t903, .int .i64 t904], .slice Ao14 t905.length co14] rfl Zmt ?_; (with_reducible refine (zc7.calls k _ _ t897 _ _ t900 t903 t904 _ _ t905 t909 t912 _ ?side1 ?side2 ?side3 ?side4 ?side5 ?side6 A4.out).mono ?_); (case side1 => refine (Kd.zch (e := 88) (base := w.heap.size) (ok := fun k_ => True) (n := t897.length) (c := co12) ?_).2.2; exact (by (with_reducible repeat (first | apply Kd.zdr | apply Kd.zds | apply Kd.zdb)); exact (Kd.zdo (Kd.zev (p := ⟨gb908, 1, none⟩) (Kd.zev (p := ⟨gb908, 0, none⟩) (Kd.zep HO899.out BK908.out (by decide)) (fun _ hk => hk.2) (.int .i64 t903)) (fun _ hk => hk.2) (.int .i64 t904)) (fun _ h_ => h_.1)))); (case side2 => exact (Kd.zch HO899.out).2.1); (case side3 => refine (Kd.zch (e := 34) (base := w.heap.size) (ok := fun k_ => True) (n := t900.length) (c := co13) ?_).2.2; exact (by (with_reducible repeat (first | apply Kd.zdr | apply Kd.zds | apply Kd.zdb)); exact (Kd.zdo (Kd.zev (p := ⟨gb908, 1, none⟩) (Kd.zev (p := ⟨gb908, 0, none⟩) (Kd.zep HO902.out BK908.out (by decide)) (fun _ hk => hk.2) (.int .i64 t903)) (fun _ hk => hk.2) (.int .i64 t904)) (fun _ h_ => h_.1)))); (case side4 => exact (Kd.zch HO902.out).2.1); (case side5 => refine (Kd.zch (e := 4) (base := w.heap.size) (ok := fun k_ => True) (n := t905.length) (c := co14) ?_).2.2; exact (by (with_reducible repeat (first | apply Kd.zdr | apply Kd.zds | apply Kd.zdb)); exact (Kd.zdo (Kd.zev (p := ⟨gb908, 1, none⟩) (Kd.zev (p := ⟨gb908, 0, none⟩) (Kd.zep HO907.out BK908.out (by decide)) (fun _ hk => hk.2) (.int .i64 t903)) (fun _ hk => hk.2) (.int .i64 t904)) (fun _ h_ => h_.1)))); (case side6 => exact (Kd.zch HO907.out).2.1); rintro e w15 ⟨v910, v913, rfl, ho0, ho1, hb⟩; replace ho0 := Kd.Q_of ho0; replace ho1 := Kd.Q_of ho1; refine ⟨_, rfl, ?_⟩; have n0_ := za.mk (Kd.zcu (by (with_reducible repeat (first | apply Kd.zdr | apply Kd.zds | apply Kd.zdb)); exact (Kd.zdo (Kd.zev (p := ⟨gb908, 1, none⟩) (Kd.zev (p := ⟨gb908, 0, none⟩) (Kd.zep HO899.out BK908.out (by decide)) (fun _ hk => hk.2) (.int .i64 t903)) (fun _ hk => hk.2) (.int .i64 t904)) (fun _ h_ => h_.1))) hb); have n1_ := za.mk (Kd.zcu (by (with_reducible repeat (first | apply Kd.zdr | apply Kd.zds | apply Kd.zdb)); exact (Kd.zdo (Kd.zev (p := ⟨gb908, 1, none⟩) (Kd.zev (p := ⟨gb908, 0, none⟩) (Kd.zep HO902.out BK908.out (by decide)) (fun _ hk => hk.2) (.int .i64 t903)) (fun _ hk => hk.2) (.int .i64 t904)) (fun _ h_ => h_.1))) hb); have n2_ := za.mk (Kd.zcu (by (with_reducible repeat (first | apply Kd.zdr | apply Kd.zds | apply Kd.zdb)); exact (Kd.zdo (Kd.zev (p := ⟨gb908, 1, none⟩) (Kd.zev (p := ⟨gb908, 0, none⟩) (Kd.zep HO907.out BK908.out (by decide)) (fun _ hk => hk.2) (.int .i64 t903)) (fun _ hk => hk.2) (.int .i64 t904)) (fun _ h_ => h_.1))) hb); have n3_ := za.mk (Kd.zez ho0 (zy (Zq5 HB GE908))); have n4_ := za.mk (Kd.zez ho1 (zy (Zq5 HB GE908))); have n5_ := za.mk (zbg (g := gb908) (o := .cells #[.int .i64 t903, .int .i64 t904] 51 (0, 0)) (by (with_reducible repeat (first | refine zt ?_ _ | refine zx ?_ | refine zq ?_ _)); refine zb2 (cs := #[.int .i64 t903, .int .i64 0]) ?_ 1 _ rfl; (with_reducible repeat (first | refine zt ?_ _ | refine zx ?_ | refine zq ?_ _)); refine zb2 (cs := #[.int .i64 0, .int .i64 0]) ?_ 0 _ rfl; (with_reducible repeat (first | refine zt ?_ _ | refine zx ?_ | refine zq ?_ _)); exact BK908.out) hb); have n6_ := za.mk (zm (Zq5 HB GE908) hb); clear HO899; clear HO902; clear HO907; clear BK908; clear HB; have HO899 := n0_; have HO902 := n1_; have HO907 := n2_; have HO911 := n3_; have HO914 := n4_; have BK908 := n5_; have HB := n6_; clear n0_ n1_ n2_ n3_ n4_ n5_ n6_; (try clear hb); (try clear hb2); (try clear hk); (try clear hi); (try clear ho0); (try clear ho1)) | ((with_reducible refine zbp (N := 7) rfl ?_); refine zbt ?hg (N := 7) ?hd (cs := #[.slice none 0 0, .slice none 0 0]) (t := 29) ?hr ?_; (case hd => rfl); (case hg => rfl); (case hr => first | (go_simp; done) | (go_simp; rfl)); intro gb915 hg w16 hbox hb; have n0_ := za.mk (Kd.zcu (Zq22 HO899) hb); have n1_ := za.mk (Kd.zcu (Zq22 HO902) hb); have n2_ := za.mk (Kd.zcu (Zq22 HO907) hb); have n3_ := za.mk (Kd.zcu (Zq22 HO911) hb); have n4_ := za.mk (Kd.zcu (Zq22 HO914) hb); have n5_ := za.mk (zbg (g := gb908) (o := .cells #[.int .i64 t903, .int .i64 t904] 51 (0, 0)) (Zq4 BK908) hb); have n6_ := za.mk (zm (Zq5 HB GE908) hb); have n7_ := za.mk (hbox); have n8_ := za.mk ((by rw [hg]; exact (zy (Zq5 HB GE908)) : w.heap.size ≤ gb915)); have n9_ := za.mk ((by rw [hg]; exact (zy (Zq5 HB GE908)) : w.heap.size ≤ gb915)); have n10_ := za.mk ((by rw [hg]; exact Nat.ne_of_lt (zc8 (g := gb908) (o := .cells #[.int .i64 t903, .int .i64 t904] 51 (0, 0)) (Zq4 BK908)) : gb908 ≠ gb915)); have n11_ := za.mk ((by rw [hg]; exact Nat.ne_of_gt (zc8 (g := gb908) (o := .cells #[.int .i64 t903, .int .i64 t904] 51 (0, 0)) (Zq4 BK908)) : gb915 ≠ gb908)); clear HO899; clear HO902; clear HO907; clear HO911; clear HO914; clear BK908; clear HB; have HO899 := n0_; have HO902 := n1_; have HO907 := n2_; have HO911 := n3_; have HO914 := n4_; have BK908 := n5_; have HB := n6_; have BK915 := n7_; have GW915 := n8_; have GE915 := n9_; have NB908_915 := n10_; have NB915_908 := n11_; clear n0_ n1_ n2_ n3_ n4_ n5_ n6_ n7_ n8_ n9_ n10_ n11_; clear hb hbox hg; obtain ⟨Ao17, co17, eo17⟩ := Kd.zeq HO911.out; subst eo17; have hnb18 := NB915_908.out; have hnc18 := NB908_915.out; have hcz19_0 : w16.cell? ⟨gb915, 0, none⟩ = some (.slice none 0 0) := (ze BK915.out 0).trans rfl; have hcz19_1 : w16.cell? ⟨gb915, 1, none⟩ = some (.slice none 0 0) := (ze BK915.out 1).trans rfl; have hfz19_0 := zg BK915.out 0; have hfz19_1 := zg BK915.out 1; obtain ⟨Ao20, co20, eo20⟩ := Kd.zeq HO914.out; subst eo20))
   have n0_ : za (Kd.Q k88 88 ((w16.setCell ⟨gb915, 0, none⟩ (.slice Ao17 t909.length co17)).setCell ⟨gb915, 1, none⟩ (.slice Ao20 t912.length co20)) w.heap.size (fun _ => True) (.slice Ao12 t897.length co12) t897) := ⟨by (with_reducible repeat (first | apply Kd.zdr | apply Kd.zds | apply Kd.zdb)); exact Kd.zdo (Kd.zev (p := ⟨gb915, 1, none⟩) (Kd.zev (p := ⟨gb915, 0, none⟩) (Kd.zep HO899.out BK915.out (by decide)) (fun _ hk => hk.2) (.slice Ao17 t909.length co17)) (fun _ hk => hk.2) (.slice Ao20 t912.length co20)) (fun _ hk => trivial)⟩;have n1_ : za (Kd.Q k34 34 ((w16.setCell ⟨gb915, 0, none⟩ (.slice Ao17 t909.length co17)).setCell ⟨gb915, 1, none⟩ (.slice Ao20 t912.length co20)) w.heap.size (fun _ => True) (.slice Ao13 t900.length co13) t900) := ⟨by (with_reducible repeat (first | apply Kd.zdr | apply Kd.zds | apply Kd.zdb)); exact Kd.zdo (Kd.zev (p := ⟨gb915, 1, none⟩) (Kd.zev (p := ⟨gb915, 0, none⟩) (Kd.zep HO902.out BK915.out (by decide)) (fun _ hk => hk.2) (.slice Ao17 t909.length co17)) (fun _ hk => hk.2) (.slice Ao20 t912.length co20)) (fun _ hk => trivial)⟩;have n2_ : za (Kd.Q Kd.bool 4 ((w16.setCell ⟨gb915, 0, none⟩ (.slice Ao17 t909.length co17)).setCell ⟨gb915, 1, none⟩ (.slice Ao20 t912.length co20)) w.heap.size (fun _ => True) (.slice Ao14 t905.length co14) t905) := ⟨by (with_reducible repeat (first | apply Kd.zdr | apply Kd.zds | apply Kd.zdb)); exact Kd.zdo (Kd.zev (p := ⟨gb915, 1, none⟩) (Kd.zev (p := ⟨gb915, 0, none⟩) (Kd.zep HO907.out BK915.out (by decide)) (fun _ hk => hk.2) (.slice Ao17 t909.length co17)) (fun _ hk => hk.2) (.slice Ao20 t912.length co20)) (fun _ hk => trivial)⟩;have n3_ : za (Kd.Q (Kd.int .i64) 3 ((w16.setCell ⟨gb915, 0, none⟩ (.slice Ao17 t909.length co17)).setCell ⟨gb915, 1, none⟩ (.slice Ao20 t912.length co20)) w.heap.size (fun k_ => some k_ ≠ (.slice Ao20 t912.length co20 : Value).ownBlock) (.slice Ao17 t909.length co17) t909) := ⟨by (with_reducible repeat (first | apply Kd.zdr | apply Kd.zds | apply Kd.zdb)); exact Kd.zdo (Kd.zev (p := ⟨gb915, 1, none⟩) (Kd.zev (p := ⟨gb915, 0, none⟩) (Kd.zep HO911.out BK915.out (by decide)) (fun _ hk => hk.2) (.slice Ao17 t909.length co17)) (fun _ hk => hk.2) (.slice Ao20 t912.length co20)) (fun _ hk => hk.1)⟩;have n4_ : za (Kd.Q (Kd.int .i64) 3 ((w16.setCell ⟨gb915, 0, none⟩ (.slice Ao17 t909.length co17)).setCell ⟨gb915, 1, none⟩ (.slice Ao20 t912.length co20)) w.heap.size (fun k_ => some k_ ≠ (.slice Ao17 t909.length co17 : Value).ownBlock) (.slice Ao20 t912.length co20) t912) := ⟨by (with_reducible repeat (first | apply Kd.zdr | apply Kd.zds | apply Kd.zdb)); exact Kd.zdo (Kd.zev (p := ⟨gb915, 1, none⟩) (Kd.zev (p := ⟨gb915, 0, none⟩) (Kd.zep HO914.out BK915.out (by decide)) (fun _ hk => hk.2) (.slice Ao17 t909.length co17)) (fun _ hk => hk.2) (.slice Ao20 t912.length co20)) (fun _ hk => hk.1)⟩;have n5_ : za (((w16.setCell ⟨gb915, 0, none⟩ (.slice Ao17 t909.length co17)).setCell ⟨gb915, 1, none⟩ (.slice Ao20 t912.length co20)).heap[gb908]? = some (.cells #[.int .i64 t903, .int .i64 t904] 51 (0, 0))) := ⟨by (with_reducible repeat (first | refine zt ?_ _ | refine zx ?_ | refine zq ?_ _)); refine zcj ?_ NB908_915.out _; (with_reducible repeat (first | refine zt ?_ _ | refine zx ?_ | refine zq ?_ _)); refine zcj ?_ NB908_915.out _; (with_reducible repeat (first | refine zt ?_ _ | refine zx ?_ | refine zq ?_ _)); exact BK908.out⟩;have n6_ : za (((w16.setCell ⟨gb915, 0, none⟩ (.slice Ao17 t909.length co17)).setCell ⟨gb915, 1, none⟩ (.slice Ao20 t912.length co20)).heap[gb915]? = some (.cells #[.slice Ao17 t909.length co17, .slice Ao20 t912.length co20] 29 (0, 0))) := ⟨by (with_reducible repeat (first | refine zt ?_ _ | refine zx ?_ | refine zq ?_ _)); refine zb2 (cs := #[.slice Ao17 t909.length co17, .slice none 0 0]) ?_ 1 _ rfl; (with_reducible repeat (first | refine zt ?_ _ | refine zx ?_ | refine zq ?_ _)); refine zb2 (cs := #[.slice none 0 0, .slice none 0 0]) ?_ 0 _ rfl; (with_reducible repeat (first | refine zt ?_ _ | refine zx ?_ | refine zq ?_ _)); exact BK915.out⟩;have n7_ : za (Below w.heap.size w ((w16.setCell ⟨gb915, 0, none⟩ (.slice Ao17 t909.length co17)).setCell ⟨gb915, 1, none⟩ (.slice Ao20 t912.length co20))) := ⟨Zq7 HB GE908 GE915⟩;(try clear HO899);(try clear HO902);(try clear HO907);(try clear HO911);(try clear HO914);(try clear BK908);(try clear BK915);(try clear HB);generalize ((w16.setCell ⟨gb915, 0, none⟩ (.slice Ao17 t909.length co17)).setCell ⟨gb915, 1, none⟩ (.slice Ao20 t912.length co20)) = w21 at n0_ n1_ n2_ n3_ n4_ n5_ n6_ n7_ ⊢;have HO899 := n0_;have HO902 := n1_;have HO907 := n2_;have HO911 := n3_;have HO914 := n4_;have BK908 := n5_;have BK915 := n6_;have HB := n7_;clear n0_ n1_ n2_ n3_ n4_ n5_ n6_ n7_;have n0_ := za.mk (Kd.zdb HO899.out);have n1_ := za.mk (Kd.zdb HO902.out);have n2_ := za.mk (Kd.zdb HO907.out);have n3_ := za.mk (Kd.zdb HO911.out);have n4_ := za.mk (Kd.zdb HO914.out);have n5_ := za.mk (zx BK908.out);have n6_ := za.mk (zx BK915.out);have n7_ := za.mk (zbs HB.out);clear HO899;clear HO902;clear HO907;clear HO911;clear HO914;clear BK908;clear BK915;clear HB;have HO899 := n0_;have HO902 := n1_;have HO907 := n2_;have HO911 := n3_;have HO914 := n4_;have BK908 := n5_;have BK915 := n6_;have HB := n7_;clear n0_ n1_ n2_ n3_ n4_ n5_ n6_ n7_
   refine zed (n := 8) (S := fun w' => w'.cell? ⟨gb915, 0, none⟩ = some (.slice Ao17 t909.length co17) ∧ w'.cell? ⟨gb915, 1, none⟩ = some (.slice Ao20 t912.length co20) ∧ w'.cell? ⟨gb908, 0, none⟩ = some (.int .i64 t903) ∧ w'.cell? ⟨gb908, 1, none⟩ = some (.int .i64 t904)) (ds := []) #[false, false, false, false, false, false, false, false] (by kernel_rfl) rfl rfl ⟨(ze BK915.out 0).trans rfl, (ze BK915.out 1).trans rfl, (ze BK908.out 0).trans rfl, (ze BK908.out 1).trans rfl⟩ (fun hHeld => ?_); refine zdd laws_FnSupplySafe.tab5 laws_FnSupplySafe.bits5 (fun HT_ HW_ => ?_);generalize w21.drew = w22 at HO899 HO902 HO907 HO911 HO914 BK908 BK915 HB hHeld ⊢;refine zbv (i := 1) (N := some 26) (v := ?_) (a' := ?_) #[false, true, false, false, false, false, false, false] rfl rfl (zbl HT_.out (by kernel_rfl)) (fun _ _ _ h => h) (Or.inl ⟨by rfl, ?_⟩) ?_ ?_;rotate_left
   ·intro w'
    go_simp;with_reducible rfl
   rotate_left
   ·simp only [Act.put, Zs1, Zs2, Zs3, zbh, zbj]
    rfl
   refine zbv (i := 2) (N := some 27) (v := ?_) (a' := ?_) #[false, true, true, false, false, false, false, false] rfl rfl (zbl HT_.out (by kernel_rfl)) (fun _ _ _ h => h) (Or.inl ⟨by rfl, ?_⟩) ?_ ?_;rotate_left
   ·intro w'
    go_simp;with_reducible rfl
   rotate_left
   ·simp only [Act.put, Zs1, Zs2, Zs3, zbh, zbj]
    rfl
   refine zbv (i := 4) (N := some 29) (v := ?_) (a' := ?_) #[false, true, true, false, true, false, false, false] rfl rfl (zbl HT_.out (by kernel_rfl)) (fun _ _ _ h => h) (Or.inl ⟨by rfl, ?_⟩) ?_ ?_;rotate_left
   ·intro w'
    go_simp;with_reducible rfl
   rotate_left
   ·simp only [Act.put, Zs1, Zs2, Zs3, zbh, zbj]
    rfl
   refine zdy (i := 0) (N := some 25) (v := ?_) (a' := ?_) #[true, true, true, false, true, false, false, false] rfl rfl (zcm HT_.out HW_.out (by kernel_rfl)) (fun _ _ _ h => h) (Or.inl ⟨by rfl, ?_⟩) hHeld ?_ ?_;rotate_left
   ·rintro w' ⟨s0, s1, s2, s3⟩
    go_simp;with_reducible rfl
   rotate_left
   ·simp only [Act.put, Zs1, Zs2, Zs3, zbh, zbj]
    rfl
   refine zdy (i := 3) (N := some 28) (v := ?_) (a' := ?_) #[true, true, true, true, true, false, false, false] rfl rfl (zcm HT_.out HW_.out (by kernel_rfl)) (fun _ _ _ h => h) (Or.inl ⟨by rfl, ?_⟩) hHeld ?_ ?_;rotate_left
   ·rintro w' ⟨s0, s1, s2, s3⟩
    go_simp;with_reducible rfl
   rotate_left
   ·simp only [Act.put, Zs1, Zs2, Zs3, zbh, zbj]
    rfl
   refine one_ (i := 5) (N := some 30) #[true, true, true, true, true, true, false, false] rfl rfl (zc2 HT_.out (by kernel_rfl)) (by decide) (fun K hK => ?_);refine zd8 Try.func32 (by kernel_rfl) rfl #[.slice Ao12 t897.length co12, .slice Ao13 t900.length co13, .agg #[.int .i64 t903, .int .i64 t904], .slice Ao14 t905.length co14] (by rfl) rfl rfl Zmt ?_;with_reducible refine (zba.calls k _ _ t897 _ _ t900 t903 t904 _ _ t905 t916 t919 _ ?side1 ?side2 ?side3 ?side4 ?side5 ?side6 A5.out).mono ?_
   (case side1 => exact Zq6 ((Kd.zch HO899.out).2.2));(case side2 => exact (Kd.zch HO899.out).2.1);(case side3 => exact Zq6 ((Kd.zch HO902.out).2.2));(case side4 => exact (Kd.zch HO902.out).2.1);(case side5 => exact Zq6 ((Kd.zch HO907.out).2.2));(case side6 => exact (Kd.zch HO907.out).2.1);rintro e w23 ⟨v917, v920, rfl, ho0, ho1, hb⟩; replace ho0 := Kd.Q_of ho0; replace ho1 := Kd.Q_of ho1;refine ⟨_, rfl, ?_⟩;have n0_ := za.mk (Kd.zcu (Zq22 HO899) hb);have n1_ := za.mk (Kd.zcu (Zq22 HO902) hb);have n2_ := za.mk (Kd.zcu (Zq22 HO907) hb);have n3_ := za.mk (Kd.zdo (Kd.zi1 (Kd.zi1 (Kd.Q_old (Zq22 HO911) hb) (Kd.zg2 ho0)) (Kd.zg2 ho1)) (fun _ h_ => h_.1));have n4_ := za.mk (Kd.zdo (Kd.zi1 (Kd.zi1 (Kd.Q_old (Zq22 HO914) hb) (Kd.zg2 ho0)) (Kd.zg2 ho1)) (fun _ h_ => h_.1));have n5_ := za.mk (Kd.zez (Kd.zg3 (Kd.zg3 ho0 (Kd.Q_lt (Zq22 HO911))) (Kd.Q_lt (Zq22 HO914))) (zy (Zq7 HB GE908 GE915)));have n6_ := za.mk (Kd.zez (Kd.zg3 (Kd.zg3 ho1 (Kd.Q_lt (Zq22 HO911))) (Kd.Q_lt (Zq22 HO914))) (zy (Zq7 HB GE908 GE915)));have n7_ := za.mk (zbg (g := gb908) (o := .cells #[.int .i64 t903, .int .i64 t904] 51 (0, 0)) (Zq4 BK908) hb);have n8_ := za.mk (zbg (g := gb915) (o := .cells #[.slice Ao17 t909.length co17, .slice Ao20 t912.length co20] 29 (0, 0)) (Zq4 BK915) hb);have n9_ := za.mk (zm (Zq7 HB GE908 GE915) hb);clear HO899;clear HO902;clear HO907;clear HO911;clear HO914;clear BK908;clear BK915;clear HB;have HO899 := n0_;have HO902 := n1_;have HO907 := n2_;have HO911 := n3_;have HO914 := n4_;have HO918 := n5_;have HO921 := n6_;have BK908 := n7_;have BK915 := n8_;have HB := n9_;clear n0_ n1_ n2_ n3_ n4_ n5_ n6_ n7_ n8_ n9_;(try clear hb);(try clear hb2);(try clear hk);(try clear hi);(try clear ho0);(try clear ho1);obtain ⟨Ao24, co24, eo24⟩ := Kd.zeq HO918.out;(first | subst eo24 | (injection eo24 with f1_ f2_ f3_; have f4_ := f1_.symm; have f5_ := f3_.symm; clear f1_ f2_ f3_; subst f4_; subst f5_));obtain ⟨Ao25, co25, eo25⟩ := Kd.zeq HO921.out;(first | subst eo25 | (injection eo25 with f1_ f2_ f3_; have f4_ := f1_.symm; have f5_ := f3_.symm; clear f1_ f2_ f3_; subst f4_; subst f5_));refine hK.out _ _ ⟨(ze BK915.out 0).trans rfl, (ze BK915.out 1).trans rfl, (ze BK908.out 0).trans rfl, (ze BK908.out 1).trans rfl⟩ (fun hHeld => ?_);clear hK K;refine zc0 (a' := ?_) ?_ ?_;rotate_left
   ·show Act.put _ (some 30) _ = _
    simp only [Act.put, Zs1, Zs2, Zs3, zbh, zbj];rfl
   refine one_ (i := 6) (N := some 31) #[true, true, true, true, true, true, true, false] rfl rfl (zc2 HT_.out (by kernel_rfl)) (by decide) (fun K hK => ?_);refine zd8 Try.func13 (by kernel_rfl) rfl #[.agg #[.slice Ao17 t909.length co17, .slice Ao20 t912.length co20], .agg #[.slice Ao24 t916.length co24, .slice Ao25 t919.length co25]] (by rfl) rfl rfl Zmt ?_;with_reducible refine (zcs.calls k _ _ t909 _ _ t912 _ _ t916 _ _ t919 true _ ?side1 ?side2 ?side3 ?side4 ?side5 ?side6 ?side7 ?side8 A6.out).mono ?_
   (case side1 => exact Zq6 ((Kd.zch HO911.out).2.2));(case side2 => exact (Kd.zch HO911.out).2.1);(case side3 => exact Zq6 ((Kd.zch HO914.out).2.2));(case side4 => exact (Kd.zch HO914.out).2.1);(case side5 => exact Zq6 ((Kd.zch HO918.out).2.2));(case side6 => exact (Kd.zch HO918.out).2.1);(case side7 => exact Zq6 ((Kd.zch HO921.out).2.2));(case side8 => exact (Kd.zch HO921.out).2.1);rintro e w26 ⟨rfl, hb⟩;refine ⟨_, rfl, ?_⟩;have n0_ := za.mk (Kd.zcu (Zq22 HO899) hb);have n1_ := za.mk (Kd.zcu (Zq22 HO902) hb);have n2_ := za.mk (Kd.zcu (Zq22 HO907) hb);have n3_ := za.mk (Kd.zcu (Zq22 HO911) hb);have n4_ := za.mk (Kd.zcu (Zq22 HO914) hb);have n5_ := za.mk (Kd.zcu (Zq22 HO918) hb);have n6_ := za.mk (Kd.zcu (Zq22 HO921) hb);have n7_ := za.mk (zbg (g := gb908) (o := .cells #[.int .i64 t903, .int .i64 t904] 51 (0, 0)) (Zq4 BK908) hb);have n8_ := za.mk (zbg (g := gb915) (o := .cells #[.slice Ao17 t909.length co17, .slice Ao20 t912.length co20] 29 (0, 0)) (Zq4 BK915) hb);have n9_ := za.mk (zm (Zq7 HB GE908 GE915) hb);clear HO899;clear HO902;clear HO907;clear HO911;clear HO914;clear HO918;clear HO921;clear BK908;clear BK915;clear HB;have HO899 := n0_;have HO902 := n1_;have HO907 := n2_;have HO911 := n3_;have HO914 := n4_;have HO918 := n5_;have HO921 := n6_;have BK908 := n7_;have BK915 := n8_;have HB := n9_;clear n0_ n1_ n2_ n3_ n4_ n5_ n6_ n7_ n8_ n9_;(try clear hb);(try clear hb2);(try clear hk);(try clear hi);refine hK.out _ _ ⟨(ze BK915.out 0).trans rfl, (ze BK915.out 1).trans rfl, (ze BK908.out 0).trans rfl, (ze BK908.out 1).trans rfl⟩ (fun hHeld => ?_);clear hK K;refine zc0 (a' := ?_) ?_ ?_;rotate_left
   ·show Act.put _ (some 31) _ = _
    simp only [Act.put, Zs1, Zs2, Zs3, zbh, zbj];rfl
   refine zbv (i := 7) (N := some 32) (v := ?_) (a' := ?_) #[true, true, true, true, true, true, true, true] rfl rfl (zbl HT_.out (by kernel_rfl)) (fun _ _ _ h => h) (Or.inl ⟨by rfl, ?_⟩) ?_ ?_;rotate_left
   ·intro w'
    go_simp;with_reducible rfl
   rotate_left
   ·simp only [Act.put, Zs1, Zs2, Zs3, zbh, zbj]
    rfl
   refine ze9 (zd6 HT_.out (by kernel_rfl)) ?_
   go_upto_region 7 with (fail)
   go_cut [42] (fun v42 wc => ∃ (kq : Nat) (x42_7 : Bool), v42 = .bool x42_7 ∧ za (laws_FnSupplySafe.j0 kq t900 x42_7 t903 t904 t909 t912 = some r) ∧ za (kq ≤ k) ∧ za (Kd.Q k34 34 wc w.heap.size (fun _ => True) (.slice Ao13 t900.length co13) t900) ∧ za (Kd.Q (Kd.int .i64) 3 wc w.heap.size (fun k_ => some k_ ≠ ((.slice Ao20 t912.length co20) : Value).ownBlock) (.slice Ao17 t909.length co17) t909) ∧ za (Kd.Q (Kd.int .i64) 3 wc w.heap.size (fun k_ => some k_ ≠ ((.slice Ao17 t909.length co17) : Value).ownBlock) (.slice Ao20 t912.length co20) t912) ∧ za (wc.heap[gb908]? = some (.cells #[.int .i64 t903, .int .i64 t904] 51 (0, 0))) ∧ za (wc.heap[gb915]? = some (.cells #[(.slice Ao17 t909.length co17), (.slice Ao20 t912.length co20)] 29 (0, 0))) ∧ za (Below w.heap.size w wc))
   case first =>
    have H := HC8.out;clear HC8;by_cases c27 : (t909.length : Int) = 120
    ·rw [if_pos c27] at H
     have c27b0 : ((t909.length : Int) == 120) = true := beq_iff_eq.mpr c27;have c27b1 : ((t909.length : Int) != 120) = false := bne_eq_false_iff_eq.mpr c27;clear c27;(first | rw [c27b0] | (simp only [zbh, zbj]; rw [c27b0]) | skip);replace H := Option.bind_eq_some_iff.mp H;obtain ⟨t923, A280, H⟩ := H;replace H : (laws_FnSupplySafe.j0 k t900 (!t923) t903 t904 t909 t912) = some r := H;have A28 := za.mk A280;clear A280;have H' := za.mk H;clear H;have hnb29 := NB915_908.out;have hnc29 := NB908_915.out;have hcz30_0 : w26.cell? ⟨gb915, 0, none⟩ = some (.slice Ao17 t909.length co17) := (ze BK915.out 0).trans rfl;have hcz30_1 : w26.cell? ⟨gb915, 1, none⟩ = some (.slice Ao20 t912.length co20) := (ze BK915.out 1).trans rfl;have hfz30_0 := zg BK915.out 0;have hfz30_1 := zg BK915.out 1;have hcz31_0 : w26.cell? ⟨gb908, 0, none⟩ = some (.int .i64 t903) := (ze BK908.out 0).trans rfl;have hcz31_1 : w26.cell? ⟨gb908, 1, none⟩ = some (.int .i64 t904) := (ze BK908.out 1).trans rfl;have hfz31_0 := zg BK908.out 0;have hfz31_1 := zg BK908.out 1;go_wp2_with (first | (go_at_call 37; (with_reducible refine (zk.calls k _ _ t897 t903 t904 t923 _ ?side1 ?side2 A28.out).mono ?_); (case side1 => exact Zq6 ((Kd.zch HO899.out).2.2)); (case side2 => exact (Kd.zch HO899.out).2.1); rintro e w32 ⟨rfl, hb⟩; have n0_ := za.mk (Kd.zcu (Zq22 HO899) hb); have n1_ := za.mk (Kd.zcu (Zq22 HO902) hb); have n2_ := za.mk (Kd.zcu (Zq22 HO907) hb); have n3_ := za.mk (Kd.zcu (Zq22 HO911) hb); have n4_ := za.mk (Kd.zcu (Zq22 HO914) hb); have n5_ := za.mk (Kd.zcu (Zq22 HO918) hb); have n6_ := za.mk (Kd.zcu (Zq22 HO921) hb); have n7_ := za.mk (zbg (g := gb908) (o := .cells #[.int .i64 t903, .int .i64 t904] 51 (0, 0)) (Zq4 BK908) hb); have n8_ := za.mk (zbg (g := gb915) (o := .cells #[.slice Ao17 t909.length co17, .slice Ao20 t912.length co20] 29 (0, 0)) (Zq4 BK915) hb); have n9_ := za.mk (zm (Zq7 HB GE908 GE915) hb); clear HO899; clear HO902; clear HO907; clear HO911; clear HO914; clear HO918; clear HO921; clear BK908; clear BK915; clear HB; have HO899 := n0_; have HO902 := n1_; have HO907 := n2_; have HO911 := n3_; have HO914 := n4_; have HO918 := n5_; have HO921 := n6_; have BK908 := n7_; have BK915 := n8_; have HB := n9_; clear n0_ n1_ n2_ n3_ n4_ n5_ n6_ n7_ n8_ n9_; (try clear hb); (try clear hb2); (try clear hk); (try clear hi)));go_meet
     case rel => exact ⟨_, (!t923), Zrs, H', ⟨by first | omega | exact Nat.le_refl _⟩, ⟨Zq22 HO902⟩, ⟨by (with_reducible repeat (first | apply Kd.zdr | apply Kd.zds | apply Kd.zdb)); exact Kd.zdo HO911.out (fun _ hk => hk.1.1)⟩, ⟨by (with_reducible repeat (first | apply Kd.zdr | apply Kd.zds | apply Kd.zdb)); exact Kd.zdo HO914.out (fun _ hk => hk.1.1)⟩, ⟨Zq4 BK908⟩, ⟨Zq4 BK915⟩, ⟨Zq7 HB GE908 GE915⟩⟩
    ·rw [if_neg c27] at H
     have c27b0 : ((t909.length : Int) == 120) = false := beq_eq_false_iff_ne.mpr c27;have c27b1 : ((t909.length : Int) != 120) = true := bne_iff_ne.mpr c27;(first | rw [c27b0] | (simp only [zbh, zbj]; rw [c27b0]) | skip);have H' := za.mk H;clear H;have hnb33 := NB915_908.out;have hnc33 := NB908_915.out;have hcz34_0 : w26.cell? ⟨gb915, 0, none⟩ = some (.slice Ao17 t909.length co17) := (ze BK915.out 0).trans rfl;have hcz34_1 : w26.cell? ⟨gb915, 1, none⟩ = some (.slice Ao20 t912.length co20) := (ze BK915.out 1).trans rfl;have hfz34_0 := zg BK915.out 0;have hfz34_1 := zg BK915.out 1;go_wp2;go_meet
     case rel => exact ⟨_, (true), Zrs, H', ⟨by first | omega | exact Nat.le_refl _⟩, ⟨Zq22 HO902⟩, ⟨by (with_reducible repeat (first | apply Kd.zdr | apply Kd.zds | apply Kd.zdb)); exact Kd.zdo HO911.out (fun _ hk => hk.1.1)⟩, ⟨by (with_reducible repeat (first | apply Kd.zdr | apply Kd.zds | apply Kd.zdb)); exact Kd.zdo HO914.out (fun _ hk => hk.1.1)⟩, ⟨Zq4 BK908⟩, ⟨Zq4 BK915⟩, ⟨Zq7 HB GE908 GE915⟩⟩
   case rest =>
    clear HC8
    (try clear c1);(try clear c2);(try clear c2b0);(try clear c2b1);(try clear p2);(try clear c3);(try clear c7);(try clear c9);(try clear c13);(try clear c18);(try clear c27);(try clear c27b0);(try clear c27b1);(try clear c29);(try clear c30);(try clear c31);(try clear c32);(try clear c33);(try clear hcz11_0);(try clear hcz11_1);(try clear hcz19_0);(try clear hcz19_1);(try clear hcz30_0);(try clear hcz30_1);(try clear hcz31_0);(try clear hcz31_1);(try clear hcz34_0);(try clear hcz34_1);(try clear hfz11_0);(try clear hfz11_1);(try clear hfz19_0);(try clear hfz19_1);(try clear hfz30_0);(try clear hfz30_1);(try clear hfz31_0);(try clear hfz31_1);(try clear hfz34_0);(try clear hfz34_1)
    obtain ⟨kq, x42_7, rfl, HA, HJ7, HO_4, HO_916000, HO_916001, BK908, BK915, HB⟩ := hcut
    cases kq with
    | zero => exact absurd HA.out (by simp [laws_FnSupplySafe.j0])
    | succ kj7 =>
     have H := HA.out;clear HA;simp only [laws_FnSupplySafe.j0] at H;by_cases c35 : x42_7 = true
     ·subst c35
      have H1 : ((zeg.f).bind fun t924 => (some t924)) = some r := by rw [if_pos rfl] at H; exact H
      clear H;have H := H1;clear H1;replace H := Option.bind_eq_some_iff.mp H;obtain ⟨t924, A360, H⟩ := H;replace H : (some t924) = some r := H;have A36 := za.mk A360;clear A360;obtain rfl := Option.some.inj H;go_wp2_with (first | ((with_reducible refine zbc (f := 15) rfl ?_); refine zby (some 43) rfl rfl Try.func15 (by kernel_rfl) rfl #[] rfl Zmt ?_; (with_reducible refine (zeg.calls  t924 _ A36.out).mono ?_); rintro e w37 ⟨rfl, hb⟩; refine ⟨_, rfl, ?_⟩; have n0_ := za.mk (Kd.zcu (Zq22 HO_4) hb); have n1_ := za.mk (Kd.zcu (Zq22 HO_916000) hb); have n2_ := za.mk (Kd.zcu (Zq22 HO_916001) hb); have n3_ := za.mk (zbg (g := gb908) (o := .cells #[.int .i64 t903, .int .i64 t904] 51 (0, 0)) (Zq4 BK908) hb); have n4_ := za.mk (zbg (g := gb915) (o := .cells #[.slice Ao17 t909.length co17, .slice Ao20 t912.length co20] 29 (0, 0)) (Zq4 BK915) hb); have n5_ := za.mk (zm (Zq7 HB GE908 GE915) hb); clear HO_4; clear HO_916000; clear HO_916001; clear BK908; clear BK915; clear HB; have HO_4 := n0_; have HO_916000 := n1_; have HO_916001 := n2_; have BK908 := n3_; have BK915 := n4_; have HB := n5_; clear n0_ n1_ n2_ n3_ n4_ n5_; (try clear hb); (try clear hb2); (try clear hk); (try clear hi)));go_ret;exact ⟨by first | rfl | (simp [zu, zw] <;> rfl) | (simp [*, zu, zw] <;> rfl), Zq7 HB GE908 GE915⟩
     ·replace c35 := Bool.eq_false_iff.mpr c35
      subst c35;have H1 : ((zd2.f t900 t909 t912).bind fun t925 => (laws_FnSupplySafe.l0 kj7 t900 t925 0 t903 t904)) = some r := by rw [if_neg (show ¬ (false = true) by decide)] at H; exact H
      clear H;have H := H1;clear H1;replace H := Option.bind_eq_some_iff.mp H;obtain ⟨t925, A380, H⟩ := H;replace H : (laws_FnSupplySafe.l0 kj7 t900 t925 0 t903 t904) = some r := H;have A38 := za.mk A380;clear A380;have H' := za.mk H;clear H;have hnb39 := NB915_908.out;have hnc39 := NB908_915.out;have hcz40_0 : wc.cell? ⟨gb915, 0, none⟩ = some (.slice Ao17 t909.length co17) := (ze BK915.out 0).trans rfl;have hcz40_1 : wc.cell? ⟨gb915, 1, none⟩ = some (.slice Ao20 t912.length co20) := (ze BK915.out 1).trans rfl;have hfz40_0 := zg BK915.out 0;have hfz40_1 := zg BK915.out 1;go_wp2_with (first | ((with_reducible refine zbc (f := 29) rfl ?_); refine zby (some 46) rfl rfl Try.func29 (by kernel_rfl) rfl #[.slice Ao13 t900.length co13, .agg #[.slice Ao17 t909.length co17, .slice Ao20 t912.length co20]] rfl Zmt ?_; (with_reducible refine (zd2.calls _ _ t900 _ _ t909 _ _ t912 t925 _ ?side1 ?side2 ?side3 ?side4 ?side5 ?side6 A38.out).mono ?_); (case side1 => exact Zq6 ((Kd.zch HO_4.out).2.2)); (case side2 => exact (Kd.zch HO_4.out).2.1); (case side3 => exact Zq6 ((Kd.zch HO_916000.out).2.2)); (case side4 => exact (Kd.zch HO_916000.out).2.1); (case side5 => exact Zq6 ((Kd.zch HO_916001.out).2.2)); (case side6 => exact (Kd.zch HO_916001.out).2.1); rintro e w41 ⟨v926, rfl, ho0, hb⟩; refine ⟨_, rfl, ?_⟩; have n0_ := za.mk (Kd.zcu (Zq22 HO_4) hb); have n1_ := za.mk (Kd.zh4 (Zq22 HO_916000) (Kd.zg2 ho0) hb); have n2_ := za.mk (Kd.zh4 (Zq22 HO_916001) (Kd.zg2 ho0) hb); have n3_ := za.mk (Kd.zez (Kd.zg3 (Kd.zg3 ho0 (Kd.Q_lt (Zq22 HO_916000))) (Kd.Q_lt (Zq22 HO_916001))) (zy (Zq7 HB GE908 GE915))); have n4_ := za.mk (zbg (g := gb908) (o := .cells #[.int .i64 t903, .int .i64 t904] 51 (0, 0)) (Zq4 BK908) hb); have n5_ := za.mk (zbg (g := gb915) (o := .cells #[.slice Ao17 t909.length co17, .slice Ao20 t912.length co20] 29 (0, 0)) (Zq4 BK915) hb); have n6_ := za.mk (zm (Zq7 HB GE908 GE915) hb); clear HO_4; clear HO_916000; clear HO_916001; clear BK908; clear BK915; clear HB; have HO_4 := n0_; have HO_916000 := n1_; have HO_916001 := n2_; have HO927 := n3_; have BK908 := n4_; have BK915 := n5_; have HB := n6_; clear n0_ n1_ n2_ n3_ n4_ n5_ n6_; (try clear hb); (try clear hb2); (try clear hk); (try clear hi); (try clear ho0)))
      go_loopg [9] kj7 (fun kq v9 w' => ∃ (x9_2 : Int), v9 = .int .i64 x9_2 ∧ za (laws_FnSupplySafe.l0 kq t900 t925 x9_2 t903 t904 = some r) ∧ za (kq ≤ kj7) ∧ za (Kd.Q k34 34 w' w.heap.size (fun _ => True) (.slice Ao13 t900.length co13) t900) ∧ za (Kd.Q (Kd.int .i64) 3 w' w.heap.size (fun k_ => some k_ ≠ ((.slice Ao17 t909.length co17) : Value).ownBlock ∧ some k_ ≠ ((.slice Ao20 t912.length co20) : Value).ownBlock) v926 t925) ∧ za (Kd.Q (Kd.int .i64) 3 w' w.heap.size (fun k_ => some k_ ≠ (v926 : Value).ownBlock ∧ some k_ ≠ ((.slice Ao20 t912.length co20) : Value).ownBlock) (.slice Ao17 t909.length co17) t909) ∧ za (Kd.Q (Kd.int .i64) 3 w' w.heap.size (fun k_ => some k_ ≠ (v926 : Value).ownBlock ∧ some k_ ≠ ((.slice Ao17 t909.length co17) : Value).ownBlock) (.slice Ao20 t912.length co20) t912) ∧ za (w'.heap[gb908]? = some (.cells #[.int .i64 t903, .int .i64 t904] 51 (0, 0))) ∧ za (w'.heap[gb915]? = some (.cells #[(.slice Ao17 t909.length co17), (.slice Ao20 t912.length co20)] 29 (0, 0))) ∧ za (Below w.heap.size w w'))
      case atStart => exact ⟨(0), Zrs, H', ⟨Nat.le_refl _⟩, ⟨Zq22 HO_4⟩, ⟨by (with_reducible repeat (first | apply Kd.zdr | apply Kd.zds | apply Kd.zdb)); exact Kd.zdo HO927.out (fun _ hk => ⟨hk.1.2, hk.2⟩)⟩, ⟨by (with_reducible repeat (first | apply Kd.zdr | apply Kd.zds | apply Kd.zdb)); exact Kd.zdo HO_916000.out (fun _ hk => ⟨hk.2, hk.1⟩)⟩, ⟨by (with_reducible repeat (first | apply Kd.zdr | apply Kd.zds | apply Kd.zdb)); exact Kd.zdo HO_916001.out (fun _ hk => ⟨hk.2, hk.1⟩)⟩, ⟨Zq4 BK908⟩, ⟨Zq4 BK915⟩, ⟨Zq7 HB GE908 GE915⟩⟩
      case round =>
       clear H'
       (try clear c1);(try clear c2);(try clear c2b0);(try clear c2b1);(try clear p2);(try clear c3);(try clear c7);(try clear c9);(try clear c13);(try clear c15);(try clear c18);(try clear c27);(try clear c27b0);(try clear c27b1);(try clear c29);(try clear c30);(try clear c31);(try clear c32);(try clear c33);(try clear c35);(try clear c39);(try clear hcz11_0);(try clear hcz11_1);(try clear hcz19_0);(try clear hcz19_1);(try clear hcz30_0);(try clear hcz30_1);(try clear hcz31_0);(try clear hcz31_1);(try clear hcz34_0);(try clear hcz34_1);(try clear hcz40_0);(try clear hcz40_1);(try clear hfz11_0);(try clear hfz11_1);(try clear hfz19_0);(try clear hfz19_1);(try clear hfz30_0);(try clear hfz30_1);(try clear hfz31_0);(try clear hfz31_1);(try clear hfz34_0);(try clear hfz34_1);(try clear hfz40_0);(try clear hfz40_1);(try clear p2)
       obtain ⟨x9_2, rfl, HA, HK2, HO_4, HO_8, HO_916000, HO_916001, BK908, BK915, HB⟩ := hrel
       cases gk with
       | zero => exact absurd HA.out (by simp [laws_FnSupplySafe.l0])
       | succ k2 =>
        have H := HA.out;clear HA;simp only [laws_FnSupplySafe.l0] at H;by_cases c42 : x9_2 < (t925.length : Int)
        ·rw [if_pos c42] at H
         have c42b0 : decide (x9_2 < (t925.length : Int)) = true := decide_eq_true c42;clear c42;by_cases c43 : 0 ≤ x9_2
         ·rw [if_pos c43] at H
          have c43b0 : decide (0 ≤ x9_2) = true := decide_eq_true c43;clear c43;by_cases c44 : 0 ≤ (rd t925 x9_2)
          ·rw [if_pos c44] at H
           have c44b0 : decide (0 ≤ (rd t925 x9_2)) = true := decide_eq_true c44;clear c44;by_cases c45 : (rd t925 x9_2) < (t900.length : Int)
           ·rw [if_pos c45] at H
            have c45b0 : decide ((rd t925 x9_2) < (t900.length : Int)) = true := decide_eq_true c45;clear c45;by_cases c46 : t904 = 0
            ·rw [if_pos c46] at H
             exact absurd H (by simp)
            ·rw [if_neg c46] at H
             have c46b0 : (t904 == 0) = false := beq_eq_false_iff_ne.mpr c46;have c46b1 : (t904 != 0) = true := bne_iff_ne.mpr c46;by_cases c47 : ((zf t900 (rd t925 x9_2)).f2) ≤ (wrap64 ((wrap64 ((120 : Int) / t904)) * t904))
             ·rw [if_pos c47] at H
              have c47b0 : decide (((zf t900 (rd t925 x9_2)).f2) ≤ (wrap64 ((wrap64 (Int.tdiv 120 t904)) * t904))) = true := by rw [Int.tdiv_eq_ediv_of_nonneg (by decide)]; exact decide_eq_true c47
              clear c47;obtain rfl := Option.some.inj H;obtain ⟨Ao48, co48, eo48⟩ := Kd.zeq HO_8.out;subst eo48
              try go_wp2
              have n0_ := za.mk (Kd.zdb HO_4.out);have n1_ := za.mk (Kd.zdb HO_8.out);have n2_ := za.mk (Kd.zdb HO_916000.out);have n3_ := za.mk (Kd.zdb HO_916001.out);have n4_ := za.mk (zx BK908.out);have n5_ := za.mk (zx BK915.out);have n6_ := za.mk (zbs HB.out);clear HO_4;clear HO_8;clear HO_916000;clear HO_916001;clear BK908;clear BK915;clear HB;have HO_4 := n0_;have HO_8 := n1_;have HO_916000 := n2_;have HO_916001 := n3_;have BK908 := n4_;have BK915 := n5_;have HB := n6_;clear n0_ n1_ n2_ n3_ n4_ n5_ n6_;have p928 : 0 ≤ (x9_2 : Int) := of_decide_eq_true Zas;have q928 : x9_2 < (t925.length : Int) := of_decide_eq_true Zas;obtain ⟨ad928, e928, hx928_0⟩ := Kd.zcq (Kd.zch HO_8.out).2.2 x9_2 p928 q928
              cases e928
              replace p928 := eq_true p928;replace q928 := eq_true q928;have p929 : 0 ≤ ((rd t925 x9_2) : Int) := of_decide_eq_true Zas;have q929 : (rd t925 x9_2) < (t900.length : Int) := of_decide_eq_true Zas;obtain ⟨ad929, e929, hx929_0, hx929_1, hx929_2, hx929_3⟩ := zdh (Kd.zch HO_4.out).2.2 (rd t925 x9_2) p929 q929
              cases e929
              replace p929 := eq_true p929;replace q929 := eq_true q929;refine zed (n := 15) (S := fun w' => w'.cell? ⟨gb908, 0, none⟩ = some (.int .i64 t903) ∧ w'.cell? ⟨gb908, 1, none⟩ = some (.int .i64 t904) ∧ w'.cell? (ad928.add (x9_2).toNat) = some (.int .i64 (rd t925 x9_2)) ∧ w'.cell? (ad929.add (((rd t925 x9_2)).toNat * 4)) = some (.int .i64 ((zf t900 (rd t925 x9_2)).f0)) ∧ w'.cell? ⟨(ad929.add (((rd t925 x9_2)).toNat * 4)).block, (ad929.add (((rd t925 x9_2)).toNat * 4)).off + 1, none⟩ = some (.int .i64 ((zf t900 (rd t925 x9_2)).f1)) ∧ w'.cell? ⟨(ad929.add (((rd t925 x9_2)).toNat * 4)).block, (ad929.add (((rd t925 x9_2)).toNat * 4)).off + 2, none⟩ = some (.int .i64 ((zf t900 (rd t925 x9_2)).f2)) ∧ w'.cell? ⟨(ad929.add (((rd t925 x9_2)).toNat * 4)).block, (ad929.add (((rd t925 x9_2)).toNat * 4)).off + 3, none⟩ = some (.int .i64 ((zf t900 (rd t925 x9_2)).f3))) (ds := []) #[false, false, false, false, false, false, false, false, false, false, false, false, false, false, false] (by kernel_rfl) rfl rfl ⟨(ze BK908.out 0).trans rfl, (ze BK908.out 1).trans rfl, hx928_0, hx929_0, hx929_1, hx929_2, hx929_3⟩ (fun hHeld => ?_); refine zdd laws_FnSupplySafe.tab13 laws_FnSupplySafe.bits13 (fun HT_ HW_ => ?_);generalize wr.drew = w49 at HO_4 HO_8 HO_916000 HO_916001 BK908 BK915 HB hx928_0 hx929_0 hx929_1 hx929_2 hx929_3 hHeld ⊢;refine zbv (i := 0) (N := some 53) (v := ?_) (a' := ?_) #[true, false, false, false, false, false, false, false, false, false, false, false, false, false, false] rfl rfl (zbl HT_.out (by kernel_rfl)) (fun _ _ _ h => h) (Or.inl ⟨by rfl, ?_⟩) ?_ ?_;rotate_left
              ·intro w'
               go_simp;with_reducible rfl
              rotate_left
              ·simp only [Act.put, Zs1, Zs2, Zs3, zbh, zbj]
               rfl
              refine zbv (i := 1) (N := some 54) (v := ?_) (a' := ?_) #[true, true, false, false, false, false, false, false, false, false, false, false, false, false, false] rfl rfl (zbl HT_.out (by kernel_rfl)) (fun _ _ _ h => h) (Or.inl ⟨by rfl, ?_⟩) ?_ ?_;rotate_left
              ·intro w'
               go_simp;with_reducible rfl
              rotate_left
              ·simp only [Act.put, Zs1, Zs2, Zs3, zbh, zbj]
               rfl
              refine zbv (i := 2) (N := some 55) (v := ?_) (a' := ?_) #[true, true, true, false, false, false, false, false, false, false, false, false, false, false, false] rfl rfl (zbl HT_.out (by kernel_rfl)) (fun _ _ _ h => h) (Or.inl ⟨by rfl, ?_⟩) ?_ ?_;rotate_left
              ·intro w'
               go_simp;with_reducible rfl
              rotate_left
              ·simp only [Act.put, Zs1, Zs2, Zs3, zbh, zbj]
               rfl
              refine zbv (i := 3) (N := some 56) (v := ?_) (a' := ?_) #[true, true, true, true, false, false, false, false, false, false, false, false, false, false, false] rfl rfl (zbl HT_.out (by kernel_rfl)) (fun _ _ _ h => h) (Or.inl ⟨by rfl, ?_⟩) ?_ ?_;rotate_left
              ·intro w'
               go_simp;with_reducible rfl
              rotate_left
              ·simp only [Act.put, Zs1, Zs2, Zs3, zbh, zbj]
               rfl
              refine zbv (i := 8) (N := some 61) (v := ?_) (a' := ?_) #[true, true, true, true, false, false, false, false, true, false, false, false, false, false, false] rfl rfl (zbl HT_.out (by kernel_rfl)) (fun _ _ _ h => h) (Or.inl ⟨by rfl, ?_⟩) ?_ ?_;rotate_left
              ·intro w'
               go_simp;with_reducible rfl
              rotate_left
              ·simp only [Act.put, Zs1, Zs2, Zs3, zbh, zbj]
               rfl
              refine zbv (i := 11) (N := some 64) (v := ?_) (a' := ?_) #[true, true, true, true, false, false, false, false, true, false, false, true, false, false, false] rfl rfl (zbl HT_.out (by kernel_rfl)) (fun _ _ _ h => h) (Or.inl ⟨by rfl, ?_⟩) ?_ ?_;rotate_left
              ·intro w'
               go_simp;with_reducible rfl
              rotate_left
              ·simp only [Act.put, Zs1, Zs2, Zs3, zbh, zbj]
               rfl
              refine zdy (i := 4) (N := some 57) (v := ?_) (a' := ?_) #[true, true, true, true, true, false, false, false, true, false, false, true, false, false, false] rfl rfl (zcm HT_.out HW_.out (by kernel_rfl)) (fun _ _ _ h => h) (Or.inl ⟨by rfl, ?_⟩) hHeld ?_ ?_;rotate_left
              ·rintro w' ⟨s0, s1, s2, s3, s4, s5, s6⟩
               go_simp;with_reducible rfl
              rotate_left
              ·simp only [Act.put, Zs1, Zs2, Zs3, zbh, zbj]
               rfl
              refine zbv (i := 5) (N := some 58) (v := ?_) (a' := ?_) #[true, true, true, true, true, true, false, false, true, false, false, true, false, false, false] rfl rfl (zbl HT_.out (by kernel_rfl)) (fun _ _ _ h => h) (Or.inl ⟨by rfl, ?_⟩) ?_ ?_;rotate_left
              ·intro w'
               go_simp;with_reducible rfl
              rotate_left
              ·simp only [Act.put, Zs1, Zs2, Zs3, zbh, zbj]
               rfl
              refine zbv (i := 6) (N := some 59) (v := ?_) (a' := ?_) #[true, true, true, true, true, true, true, false, true, false, false, true, false, false, false] rfl rfl (zbl HT_.out (by kernel_rfl)) (fun _ _ _ h => h) (Or.inl ⟨by rfl, ?_⟩) ?_ ?_;rotate_left
              ·intro w'
               go_simp;with_reducible rfl
              rotate_left
              ·simp only [Act.put, Zs1, Zs2, Zs3, zbh, zbj]
               rfl
              refine zdy (i := 7) (N := some 60) (v := ?_) (a' := ?_) #[true, true, true, true, true, true, true, true, true, false, false, true, false, false, false] rfl rfl (zcm HT_.out HW_.out (by kernel_rfl)) (fun _ _ _ h => h) (Or.inl ⟨by rfl, ?_⟩) hHeld ?_ ?_;rotate_left
              ·rintro w' ⟨s0, s1, s2, s3, s4, s5, s6⟩
               go_simp;with_reducible rfl
              rotate_left
              ·simp only [Act.put, Zs1, Zs2, Zs3, zbh, zbj]
               rfl
              refine zdy (i := 9) (N := some 62) (v := ?_) (a' := ?_) #[true, true, true, true, true, true, true, true, true, true, false, true, false, false, false] rfl rfl (zcm HT_.out HW_.out (by kernel_rfl)) (fun _ _ _ h => h) (Or.inl ⟨by rfl, ?_⟩) hHeld ?_ ?_;rotate_left
              ·rintro w' ⟨s0, s1, s2, s3, s4, s5, s6⟩
               go_simp;with_reducible rfl
              rotate_left
              ·simp only [Act.put, Zs1, Zs2, Zs3, zbh, zbj]
               rfl
              refine zbv (i := 10) (N := some 63) (v := ?_) (a' := ?_) #[true, true, true, true, true, true, true, true, true, true, true, true, false, false, false] rfl rfl (zbl HT_.out (by kernel_rfl)) (fun _ _ _ h => h) (Or.inl ⟨by rfl, ?_⟩) ?_ ?_;rotate_left
              ·intro w'
               go_simp;with_reducible rfl
              rotate_left
              ·simp only [Act.put, Zs1, Zs2, Zs3, zbh, zbj]
               rfl
              refine zdy (i := 12) (N := some 65) (v := ?_) (a' := ?_) #[true, true, true, true, true, true, true, true, true, true, true, true, true, false, false] rfl rfl (zcm HT_.out HW_.out (by kernel_rfl)) (fun _ _ _ h => h) (Or.inl ⟨by rfl, ?_⟩) hHeld ?_ ?_;rotate_left
              ·rintro w' ⟨s0, s1, s2, s3, s4, s5, s6⟩
               go_simp;with_reducible rfl
              rotate_left
              ·simp only [Act.put, Zs1, Zs2, Zs3, zbh, zbj]
               rfl
              refine zbv (i := 13) (N := some 66) (v := ?_) (a' := ?_) #[true, true, true, true, true, true, true, true, true, true, true, true, true, true, false] rfl rfl (zbl HT_.out (by kernel_rfl)) (fun _ _ _ h => h) (Or.inl ⟨by rfl, ?_⟩) ?_ ?_;rotate_left
              ·intro w'
               go_simp;with_reducible rfl
              rotate_left
              ·simp only [Act.put, Zs1, Zs2, Zs3, zbh, zbj]
               rfl
              refine zbv (i := 14) (N := some 67) (v := ?_) (a' := ?_) #[true, true, true, true, true, true, true, true, true, true, true, true, true, true, true] rfl rfl (zbl HT_.out (by kernel_rfl)) (fun _ _ _ h => h) (Or.inl ⟨by rfl, ?_⟩) ?_ ?_;rotate_left
              ·intro w'
               go_simp;with_reducible rfl
              rotate_left
              ·simp only [Act.put, Zs1, Zs2, Zs3, zbh, zbj]
               rfl
              refine ze9 (zd6 HT_.out (by kernel_rfl)) ?_
              try go_wp2
              go_ret;exact ⟨by first | rfl | (simp [zu, zw] <;> rfl) | (simp [*, zu, zw] <;> rfl), Zq7 HB GE908 GE915⟩
             ·rw [if_neg c47] at H
              have c47b0 : decide (((zf t900 (rd t925 x9_2)).f2) ≤ (wrap64 ((wrap64 (Int.tdiv 120 t904)) * t904))) = false := by rw [Int.tdiv_eq_ediv_of_nonneg (by decide)]; exact decide_eq_false c47
              clear c47;have H' := za.mk H;clear H;obtain ⟨Ao50, co50, eo50⟩ := Kd.zeq HO_8.out;subst eo50
              try go_wp2
              have n0_ := za.mk (Kd.zdb HO_4.out);have n1_ := za.mk (Kd.zdb HO_8.out);have n2_ := za.mk (Kd.zdb HO_916000.out);have n3_ := za.mk (Kd.zdb HO_916001.out);have n4_ := za.mk (zx BK908.out);have n5_ := za.mk (zx BK915.out);have n6_ := za.mk (zbs HB.out);clear HO_4;clear HO_8;clear HO_916000;clear HO_916001;clear BK908;clear BK915;clear HB;have HO_4 := n0_;have HO_8 := n1_;have HO_916000 := n2_;have HO_916001 := n3_;have BK908 := n4_;have BK915 := n5_;have HB := n6_;clear n0_ n1_ n2_ n3_ n4_ n5_ n6_;have p928 : 0 ≤ (x9_2 : Int) := of_decide_eq_true Zas;have q928 : x9_2 < (t925.length : Int) := of_decide_eq_true Zas;obtain ⟨ad928, e928, hx928_0⟩ := Kd.zcq (Kd.zch HO_8.out).2.2 x9_2 p928 q928
              cases e928
              replace p928 := eq_true p928;replace q928 := eq_true q928;have p929 : 0 ≤ ((rd t925 x9_2) : Int) := of_decide_eq_true Zas;have q929 : (rd t925 x9_2) < (t900.length : Int) := of_decide_eq_true Zas;obtain ⟨ad929, e929, hx929_0, hx929_1, hx929_2, hx929_3⟩ := zdh (Kd.zch HO_4.out).2.2 (rd t925 x9_2) p929 q929
              cases e929
              replace p929 := eq_true p929;replace q929 := eq_true q929;refine zed (n := 15) (S := fun w' => w'.cell? ⟨gb908, 0, none⟩ = some (.int .i64 t903) ∧ w'.cell? ⟨gb908, 1, none⟩ = some (.int .i64 t904) ∧ w'.cell? (ad928.add (x9_2).toNat) = some (.int .i64 (rd t925 x9_2)) ∧ w'.cell? (ad929.add (((rd t925 x9_2)).toNat * 4)) = some (.int .i64 ((zf t900 (rd t925 x9_2)).f0)) ∧ w'.cell? ⟨(ad929.add (((rd t925 x9_2)).toNat * 4)).block, (ad929.add (((rd t925 x9_2)).toNat * 4)).off + 1, none⟩ = some (.int .i64 ((zf t900 (rd t925 x9_2)).f1)) ∧ w'.cell? ⟨(ad929.add (((rd t925 x9_2)).toNat * 4)).block, (ad929.add (((rd t925 x9_2)).toNat * 4)).off + 2, none⟩ = some (.int .i64 ((zf t900 (rd t925 x9_2)).f2)) ∧ w'.cell? ⟨(ad929.add (((rd t925 x9_2)).toNat * 4)).block, (ad929.add (((rd t925 x9_2)).toNat * 4)).off + 3, none⟩ = some (.int .i64 ((zf t900 (rd t925 x9_2)).f3))) (ds := []) #[false, false, false, false, false, false, false, false, false, false, false, false, false, false, false] (by kernel_rfl) rfl rfl ⟨(ze BK908.out 0).trans rfl, (ze BK908.out 1).trans rfl, hx928_0, hx929_0, hx929_1, hx929_2, hx929_3⟩ (fun hHeld => ?_); refine zdd laws_FnSupplySafe.tab13 laws_FnSupplySafe.bits13 (fun HT_ HW_ => ?_);generalize wr.drew = w51 at HO_4 HO_8 HO_916000 HO_916001 BK908 BK915 HB hx928_0 hx929_0 hx929_1 hx929_2 hx929_3 hHeld ⊢;refine zbv (i := 0) (N := some 53) (v := ?_) (a' := ?_) #[true, false, false, false, false, false, false, false, false, false, false, false, false, false, false] rfl rfl (zbl HT_.out (by kernel_rfl)) (fun _ _ _ h => h) (Or.inl ⟨by rfl, ?_⟩) ?_ ?_;rotate_left
              ·intro w'
               go_simp;with_reducible rfl
              rotate_left
              ·simp only [Act.put, Zs1, Zs2, Zs3, zbh, zbj]
               rfl
              refine zbv (i := 1) (N := some 54) (v := ?_) (a' := ?_) #[true, true, false, false, false, false, false, false, false, false, false, false, false, false, false] rfl rfl (zbl HT_.out (by kernel_rfl)) (fun _ _ _ h => h) (Or.inl ⟨by rfl, ?_⟩) ?_ ?_;rotate_left
              ·intro w'
               go_simp;with_reducible rfl
              rotate_left
              ·simp only [Act.put, Zs1, Zs2, Zs3, zbh, zbj]
               rfl
              refine zbv (i := 2) (N := some 55) (v := ?_) (a' := ?_) #[true, true, true, false, false, false, false, false, false, false, false, false, false, false, false] rfl rfl (zbl HT_.out (by kernel_rfl)) (fun _ _ _ h => h) (Or.inl ⟨by rfl, ?_⟩) ?_ ?_;rotate_left
              ·intro w'
               go_simp;with_reducible rfl
              rotate_left
              ·simp only [Act.put, Zs1, Zs2, Zs3, zbh, zbj]
               rfl
              refine zbv (i := 3) (N := some 56) (v := ?_) (a' := ?_) #[true, true, true, true, false, false, false, false, false, false, false, false, false, false, false] rfl rfl (zbl HT_.out (by kernel_rfl)) (fun _ _ _ h => h) (Or.inl ⟨by rfl, ?_⟩) ?_ ?_;rotate_left
              ·intro w'
               go_simp;with_reducible rfl
              rotate_left
              ·simp only [Act.put, Zs1, Zs2, Zs3, zbh, zbj]
               rfl
              refine zbv (i := 8) (N := some 61) (v := ?_) (a' := ?_) #[true, true, true, true, false, false, false, false, true, false, false, false, false, false, false] rfl rfl (zbl HT_.out (by kernel_rfl)) (fun _ _ _ h => h) (Or.inl ⟨by rfl, ?_⟩) ?_ ?_;rotate_left
              ·intro w'
               go_simp;with_reducible rfl
              rotate_left
              ·simp only [Act.put, Zs1, Zs2, Zs3, zbh, zbj]
               rfl
              refine zbv (i := 11) (N := some 64) (v := ?_) (a' := ?_) #[true, true, true, true, false, false, false, false, true, false, false, true, false, false, false] rfl rfl (zbl HT_.out (by kernel_rfl)) (fun _ _ _ h => h) (Or.inl ⟨by rfl, ?_⟩) ?_ ?_;rotate_left
              ·intro w'
               go_simp;with_reducible rfl
              rotate_left
              ·simp only [Act.put, Zs1, Zs2, Zs3, zbh, zbj]
               rfl
              refine zdy (i := 4) (N := some 57) (v := ?_) (a' := ?_) #[true, true, true, true, true, false, false, false, true, false, false, true, false, false, false] rfl rfl (zcm HT_.out HW_.out (by kernel_rfl)) (fun _ _ _ h => h) (Or.inl ⟨by rfl, ?_⟩) hHeld ?_ ?_;rotate_left
              ·rintro w' ⟨s0, s1, s2, s3, s4, s5, s6⟩
               go_simp;with_reducible rfl
              rotate_left
              ·simp only [Act.put, Zs1, Zs2, Zs3, zbh, zbj]
               rfl
              refine zbv (i := 5) (N := some 58) (v := ?_) (a' := ?_) #[true, true, true, true, true, true, false, false, true, false, false, true, false, false, false] rfl rfl (zbl HT_.out (by kernel_rfl)) (fun _ _ _ h => h) (Or.inl ⟨by rfl, ?_⟩) ?_ ?_;rotate_left
              ·intro w'
               go_simp;with_reducible rfl
              rotate_left
              ·simp only [Act.put, Zs1, Zs2, Zs3, zbh, zbj]
               rfl
              refine zbv (i := 6) (N := some 59) (v := ?_) (a' := ?_) #[true, true, true, true, true, true, true, false, true, false, false, true, false, false, false] rfl rfl (zbl HT_.out (by kernel_rfl)) (fun _ _ _ h => h) (Or.inl ⟨by rfl, ?_⟩) ?_ ?_;rotate_left
              ·intro w'
               go_simp;with_reducible rfl
              rotate_left
              ·simp only [Act.put, Zs1, Zs2, Zs3, zbh, zbj]
               rfl
              refine zdy (i := 7) (N := some 60) (v := ?_) (a' := ?_) #[true, true, true, true, true, true, true, true, true, false, false, true, false, false, false] rfl rfl (zcm HT_.out HW_.out (by kernel_rfl)) (fun _ _ _ h => h) (Or.inl ⟨by rfl, ?_⟩) hHeld ?_ ?_;rotate_left
              ·rintro w' ⟨s0, s1, s2, s3, s4, s5, s6⟩
               go_simp;with_reducible rfl
              rotate_left
              ·simp only [Act.put, Zs1, Zs2, Zs3, zbh, zbj]
               rfl
              refine zdy (i := 9) (N := some 62) (v := ?_) (a' := ?_) #[true, true, true, true, true, true, true, true, true, true, false, true, false, false, false] rfl rfl (zcm HT_.out HW_.out (by kernel_rfl)) (fun _ _ _ h => h) (Or.inl ⟨by rfl, ?_⟩) hHeld ?_ ?_;rotate_left
              ·rintro w' ⟨s0, s1, s2, s3, s4, s5, s6⟩
               go_simp;with_reducible rfl
              rotate_left
              ·simp only [Act.put, Zs1, Zs2, Zs3, zbh, zbj]
               rfl
              refine zbv (i := 10) (N := some 63) (v := ?_) (a' := ?_) #[true, true, true, true, true, true, true, true, true, true, true, true, false, false, false] rfl rfl (zbl HT_.out (by kernel_rfl)) (fun _ _ _ h => h) (Or.inl ⟨by rfl, ?_⟩) ?_ ?_;rotate_left
              ·intro w'
               go_simp;with_reducible rfl
              rotate_left
              ·simp only [Act.put, Zs1, Zs2, Zs3, zbh, zbj]
               rfl
              refine zdy (i := 12) (N := some 65) (v := ?_) (a' := ?_) #[true, true, true, true, true, true, true, true, true, true, true, true, true, false, false] rfl rfl (zcm HT_.out HW_.out (by kernel_rfl)) (fun _ _ _ h => h) (Or.inl ⟨by rfl, ?_⟩) hHeld ?_ ?_;rotate_left
              ·rintro w' ⟨s0, s1, s2, s3, s4, s5, s6⟩
               go_simp;with_reducible rfl
              rotate_left
              ·simp only [Act.put, Zs1, Zs2, Zs3, zbh, zbj]
               rfl
              refine zbv (i := 13) (N := some 66) (v := ?_) (a' := ?_) #[true, true, true, true, true, true, true, true, true, true, true, true, true, true, false] rfl rfl (zbl HT_.out (by kernel_rfl)) (fun _ _ _ h => h) (Or.inl ⟨by rfl, ?_⟩) ?_ ?_;rotate_left
              ·intro w'
               go_simp;with_reducible rfl
              rotate_left
              ·simp only [Act.put, Zs1, Zs2, Zs3, zbh, zbj]
               rfl
              refine zbv (i := 14) (N := some 67) (v := ?_) (a' := ?_) #[true, true, true, true, true, true, true, true, true, true, true, true, true, true, true] rfl rfl (zbl HT_.out (by kernel_rfl)) (fun _ _ _ h => h) (Or.inl ⟨by rfl, ?_⟩) ?_ ?_;rotate_left
              ·intro w'
               go_simp;with_reducible rfl
              rotate_left
              ·simp only [Act.put, Zs1, Zs2, Zs3, zbh, zbj]
               rfl
              refine ze9 (zd6 HT_.out (by kernel_rfl)) ?_
              try go_wp2
              go_roundg k2
              case measure => have := HJ7.out; have := HK2.out; omega
              case rel => exact ⟨(wrap64 (x9_2 + 1)), Zrs, H', ⟨by have := HJ7.out; have := HK2.out; omega⟩, ⟨Zq22 HO_4⟩, ⟨Zq22 HO_8⟩, ⟨Zq22 HO_916000⟩, ⟨Zq22 HO_916001⟩, ⟨Zq4 BK908⟩, ⟨Zq4 BK915⟩, ⟨Zq7 HB GE908 GE915⟩⟩
           ·rw [if_neg c45] at H
            exact absurd H (by simp)
          ·rw [if_neg c44] at H
           exact absurd H (by simp)
         ·rw [if_neg c43] at H
          exact absurd H (by simp)
        ·rw [if_neg c42] at H
         have c42b0 : decide (x9_2 < (t925.length : Int)) = false := decide_eq_false c42;clear c42;obtain rfl := Option.some.inj H;obtain ⟨Ao52, co52, eo52⟩ := Kd.zeq HO_8.out;subst eo52;go_wp2;go_ret;exact ⟨by first | rfl | (simp [zu, zw] <;> rfl) | (simp [*, zu, zw] <;> rfl), Zq7 HB GE908 GE915⟩
  ·replace c7 := Bool.eq_false_iff.mpr c7
   subst c7;have H1 : (some false) = some r := by rw [if_neg (show ¬ (false = true) by decide)] at H; exact H
   exact Bool.noConfusion ((Option.some.inj H1).trans HRT.out)
def laws_FnSupplySafe.Pure : Prop := ∀ (l0 : List Int), l0.length * 1 ≤ 140737488351232 → (l0.length ≤ maxLen ∧ ∀ y0 ∈ l0, (Lit.int .u8 y0).wf = true) → ∃ k, laws_FnSupplySafe.f k l0 = some true
def zd4.f (a0_0 : Int) (a0_1 : Int) (a0_2 : Int) : Option (Bool) := some (a0_1 != a0_2)
set_option maxHeartbeats 8000000 in
theorem zd4.calls (a0_0 : Int) (a0_1 : Int) (a0_2 : Int) (r : Bool) (w : World) (h : zd4.f a0_0 a0_1 a0_2 = some r) :
  Calls Try.prog 105 #[.agg #[.int .i64 a0_0, .int .i64 a0_1, .int .i64 a0_2]] w fun e w' => e = .returned (.bool r) ∧ Below w.heap.size w w' := by
 have hu88 := Try.underlying88
 have HB := za.mk (Below.refl w.heap.size w)
 have H : (some (a0_1 != a0_2)) = some r := h
 clear h
 obtain rfl := Option.some.inj H
 go_enter Try.func105, Try.ntmps105
 go_wp2_with (first | ((with_reducible refine zbp (N := 1) rfl ?_); refine zbt ?hg (N := 1) ?hd (cs := #[.int .i64 a0_0, .int .i64 a0_1, .int .i64 a0_2]) (t := 88) ?hr ?_; (case hd => rfl); (case hg => rfl); (case hr => first | (go_simp; done) | (go_simp; rfl)); intro gb558 hg w2 hbox hb; have n0_ := za.mk (zm (Zq3 HB) hb); have n1_ := za.mk (hbox); have n2_ := za.mk ((by rw [hg]; exact (zy (Zq3 HB)) : w.heap.size ≤ gb558)); have n3_ := za.mk ((by rw [hg]; exact (zy (Zq3 HB)) : w.heap.size ≤ gb558)); clear HB; have HB := n0_; have BK558 := n1_; have GW558 := n2_; have GE558 := n3_; clear n0_ n1_ n2_ n3_; clear hb hbox hg; have hcz3_0 : w2.cell? ⟨gb558, 0, none⟩ = some (.int .i64 a0_0) := (ze BK558.out 0).trans rfl; have hcz3_1 : w2.cell? ⟨gb558, 1, none⟩ = some (.int .i64 a0_1) := (ze BK558.out 1).trans rfl; have hcz3_2 : w2.cell? ⟨gb558, 2, none⟩ = some (.int .i64 a0_2) := (ze BK558.out 2).trans rfl; have hfz3_0 := zg BK558.out 0; have hfz3_1 := zg BK558.out 1; have hfz3_2 := zg BK558.out 2))
 go_ret
 exact ⟨by first | rfl | (simp [zu, zw] <;> rfl) | (simp [*, zu, zw] <;> rfl), Zq5 HB GE558⟩
def zes.bad (x : S88) : Bool := x.f1 != x.f2
theorem zes.is (x : S88) : zd4.f x.f0 x.f1 x.f2 = some (zes.bad x) := by
  unfold zd4.f zes.bad
  rfl
def zes.f (l0 : List S88) : Option Bool := some (l0.any zes.bad)
theorem zes.calls (A0 : Option Addr) (c0 : Nat) (l0 : List S88) (r : Bool) (w : World) (hr0 : Kd.C k88 w A0 l0.length l0) (hc0 : l0.length ≤ c0) (h : zes.f l0 = some r) :
    Calls Try.prog 104 #[.slice A0 l0.length c0, .func (.func 105) #[] #[]] w fun e w' => e = .returned (.bool r) ∧ Below w.heap.size w w' := by
  obtain rfl := Option.some.inj h
  exact zf3 zes.bad 105 #[] (enters_of Try.func105 (by kernel_rfl) rfl) A0 c0 l0 w (fun W' x _ => (zd4.calls x.f0 x.f1 x.f2 _ W' (zes.is x)).mono fun e w' hh => ⟨hh.1, hh.2⟩) hr0
end Go.Proofs.Ytkdfjomhichkoaa.P
namespace Go.Proofs.Ytkdfjomhichkoaa.Base
open Go.RowKit Go.Proofs.Ytkdfjomhichkoaa.P Go.Proofs.YtkdfjomhichkoaaW.PrintWords Go.Proofs.YtkdfjomhichkoaaW.PrintLast Go.Proofs.YtkdfjomhichkoaaW.PrintMore
theorem w64 {x : Int} (h0 : -9223372036854775808 ≤ x) (h1 : x < 9223372036854775808) : wrap64 x = x := by unfold wrap64; omega
theorem zfs {a b A B : Int} (ha : 0 ≤ a) (hA : a ≤ A) (hb : 0 ≤ b) (hB : b ≤ B) : 0 ≤ a * b ∧ a * b ≤ A * B :=
  ⟨Int.mul_nonneg ha hb, Int.mul_le_mul hA hB hb (by omega)⟩
theorem in_f (a b c : Int) : zc1.f a b c = some (decide (b ≤ a ∧ a ≤ c)) := by
  unfold zc1.f
  by_cases h : a ≥ b
  · rw [if_pos h]; simp [show b ≤ a from h]
  · rw [if_neg h]; simp [show ¬ b ≤ a from h]
theorem ze8 (a b c : Int) : zbz.f a b c = some (decide (b ≤ a ∧ a ≤ c)) := by
  unfold zbz.f
  by_cases h : a ≥ b
  · rw [if_pos h]; simp [show b ≤ a from h]
  · rw [if_neg h]; simp [show ¬ b ≤ a from h]
theorem and_two (p q : Prop) [Decidable p] [Decidable q] : (if decide p = true then some (decide q) else some false) = some (decide (p ∧ q)) := by
  by_cases hp : p <;> by_cases hq : q <;> simp [hp, hq]
theorem zgr {α : Type} (p : Prop) [Decidable p] (x y : Option α) : (some (decide p)).bind (fun t => if t = true then x else y) = if p then x else y := by
  by_cases hp : p <;> simp [hp]
theorem mn_min (a b : Int) : mn a b = min a b := by unfold mn; omega
theorem mx_max (a b : Int) : mx a b = max a b := by unfold mx; omega
theorem zgs {a b : Int} (h : 0 ≤ a) : Int.tdiv a b = a / b := Int.tdiv_eq_ediv_of_nonneg h
theorem tmod_pos {a b : Int} (h : 0 ≤ a) : Int.tmod a b = a % b := Int.tmod_eq_emod_of_nonneg h
end Go.Proofs.Ytkdfjomhichkoaa.Base
namespace Go.Proofs.Ytkdfjomhichkoaa.Alive
open Go.RowKit Go.Proofs.Ytkdfjomhichkoaa.P Go.Proofs.Ytkdfjomhichkoaa.Base Go.Proofs.YtkdfjomhichkoaaW.PrintWords Go.Proofs.YtkdfjomhichkoaaW.PrintLast
def TV (c d p : Int) : Prop := 1 ≤ c ∧ c ≤ 8 ∧ c ≤ d ∧ d ≤ p ∧ p ≤ 12
instance (c d p : Int) : Decidable (TV c d p) := by unfold TV; infer_instance
theorem task_f (c d p : Int) : zcz.f c d p = some (decide (TV c d p)) := by
  unfold zcz.f
  rw [in_f, in_f, zgr, zgr]
  by_cases h1 : 1 ≤ c ∧ c ≤ 8
  · by_cases h2 : c ≤ d ∧ d ≤ p
    · rw [if_pos h1, if_pos h2]; congr 1; rw [decide_eq_decide]; unfold TV; omega
    · rw [if_pos h1, if_neg h2]; congr 1; symm; rw [decide_eq_false_iff_not]; unfold TV; omega
  · rw [if_neg h1]; congr 1; symm; rw [decide_eq_false_iff_not]; unfold TV; omega
theorem alive_f : zeg.f = some true := by
  unfold zeg.f
  rw [task_f]; rfl
end Go.Proofs.Ytkdfjomhichkoaa.Alive
namespace Go.Proofs.Ytkdfjomhichkoaa.Set
open Go.RowKit Go.Proofs.Ytkdfjomhichkoaa.P Go.Proofs.Ytkdfjomhichkoaa.Base Go.Proofs.Ytkdfjomhichkoaa.Alive Go.Proofs.YtkdfjomhichkoaaW.PrintWords Go.Proofs.YtkdfjomhichkoaaW.PrintLast
abbrev Task := S88
def TVt (t : Task) : Prop := TV t.f0 t.f1 t.f2
instance (t : Task) : Decidable (TVt t) := by unfold TVt; infer_instance
def zec (l : List Task) : Prop := l.length ≤ 5 ∧ ∀ t ∈ l, TVt t
instance (l : List Task) : Decidable (zec l) := by unfold zec; infer_instance
def Impl (l : List Task) : Prop := zec l ∧ ∀ t ∈ l, t.f1 = t.f2
instance (l : List Task) : Decidable (Impl l) := by unfold Impl; infer_instance
theorem taskOk_iff (t : Task) : taskOk t = decide (TVt t) := by
  unfold taskOk
  rw [decide_eq_decide]; unfold TVt TV; omega
theorem zjy (l : List Task) : zdg.f l = some (decide (¬ ∀ t ∈ l, TVt t)) := by
  unfold zdg.f
  congr 1
  rw [Bool.eq_iff_iff, List.any_eq_true]
  simp [zdg.bad, taskOk_iff]
theorem set_f (l : List Task) : zcn.f l = some (decide (zec l)) := by
  unfold zcn.f
  by_cases h : (l.length : Int) ≤ 5
  · rw [if_pos h, zjy]
    simp only [Option.bind_some]
    congr 1
    rw [Bool.eq_iff_iff]
    unfold zec
    have : l.length ≤ 5 := by omega
    simp [this]
  · rw [if_neg h]
    congr 1; symm; rw [decide_eq_false_iff_not]
    unfold zec; omega
end Go.Proofs.Ytkdfjomhichkoaa.Set
namespace Go.Proofs.Ytkdfjomhichkoaa.Gen
open Go.RowKit Go.Proofs.YtkdfjomhichkoaaW.PrintWords Go.Proofs.YtkdfjomhichkoaaW.PrintLast
def Tot {α : Type} (g : Nat → Option α) (P : α → Prop) : Prop := ∃ r, Ev g r ∧ P r
theorem Tot.ret {α : Type} {P : α → Prop} (a : α) (h : P a) : Tot (fun _ => some a) P := ⟨a, Ev.now a, h⟩
theorem Tot.mono {α : Type} {P Q : α → Prop} {g : Nat → Option α} (h : Tot g P) (hpq : ∀ a, P a → Q a) : Tot g Q := by
  obtain ⟨r, h1, h2⟩ := h
  exact ⟨r, h1, hpq r h2⟩
theorem Tot.congr {α : Type} {P : α → Prop} {g f : Nat → Option α} (e : ∀ k, g k = f k) (h : Tot f P) : Tot g P := by
  have : g = f := funext e
  rw [this]; exact h
theorem Tot.step {α : Type} {P : α → Prop} {g f : Nat → Option α} (e : ∀ k, g (k + 1) = f k) (h : Tot f P) : Tot g P := by
  obtain ⟨r, h1, h2⟩ := h
  exact ⟨r, Ev.step e h1, h2⟩
theorem Tot.bind {α β : Type} {P : α → Prop} {Q : β → Prop} {g : Nat → Option α} {f : Nat → α → Option β} (h : Tot g P) (hf : ∀ a, P a → Tot (fun k => f k a) Q) : Tot (fun k => (g k).bind (f k)) Q := by
  obtain ⟨r, h1, h2⟩ := h
  obtain ⟨q, h3, h4⟩ := hf r h2
  exact ⟨q, Ev.bind h1 h3, h4⟩
theorem Tot.zjg {α β : Type} {Q : β → Prop} {g : Option α} {f : Nat → α → Option β} {a : α} (h : g = some a) (hf : Tot (fun k => f k a) Q) : Tot (fun k => g.bind (f k)) Q := by
  subst h; exact hf
theorem Tot.yes {α : Type} {P : α → Prop} {c : Prop} [Decidable c] {g f : Nat → Option α} (hc : c) (h : Tot g P) : Tot (fun k => if c then g k else f k) P := by
  simp only [if_pos hc]; exact h
theorem Tot.no {α : Type} {P : α → Prop} {c : Prop} [Decidable c] {g f : Nat → Option α} (hc : ¬ c) (h : Tot f P) : Tot (fun k => if c then g k else f k) P := by
  simp only [if_neg hc]; exact h
theorem Tot.ite {α : Type} {P : α → Prop} {c : Prop} [Decidable c] {g f : Nat → Option α} (h1 : c → Tot g P) (h2 : ¬ c → Tot f P) : Tot (fun k => if c then g k else f k) P := by
  by_cases hc : c
  · exact Tot.yes hc (h1 hc)
  · exact Tot.no hc (h2 hc)
theorem Tot.rounds {g : Nat → Option Bool} (h : Tot g (fun r => r = true)) : ∃ k, g k = some true := by
  obtain ⟨r, h1, rfl⟩ := h
  exact h1.rounds
theorem Tot.val {α : Type} {g : Nat → Option α} {a : α} (h : Ev g a) : Tot g (fun r => r = a) := ⟨a, h, rfl⟩
theorem Tot.ev {α : Type} {g : Nat → Option α} {a : α} (h : Tot g (fun r => r = a)) : Ev g a := by
  obtain ⟨r, h1, rfl⟩ := h
  exact h1
theorem Tot.loop {σ ρ : Type} {P : ρ → Prop} (F : Nat → Nat → σ → Option ρ) (n : Nat) (Inv : Nat → σ → Prop)
    (hstep : ∀ i s, i < n → Inv i s → (∀ s', Inv (i + 1) s' → Tot (fun k => F k (i + 1) s') P) → Tot (fun k => F k i s) P)
    (hend : ∀ s, Inv n s → Tot (fun k => F k n s) P) : ∀ i s, i ≤ n → Inv i s → Tot (fun k => F k i s) P := by
  have key : ∀ d i s, i + d = n → Inv i s → Tot (fun k => F k i s) P := by
    intro d
    induction d with
    | zero => intro i s hi h; obtain rfl : i = n := by omega
              exact hend s h
    | succ d ih => intro i s hi h; exact hstep i s (by omega) h (fun s' hs' => ih (i + 1) s' (by omega) hs')
  intro i s hi h
  exact key (n - i) i s (by omega) h
theorem zjz {α : Type} (d : α) (xs : List α) (i : Nat) (h : i < xs.length) : rdOf d xs (i : Int) = xs[i] := by
  unfold rdOf
  rw [List.getD_eq_getElem?_getD, Int.toNat_natCast, List.getElem?_eq_getElem h]
  rfl
theorem zj0 (xs : List Int) (i : Nat) (h : i < xs.length) : rd xs (i : Int) = xs[i] := by
  unfold rd
  rw [List.getD_eq_getElem?_getD, Int.toNat_natCast, List.getElem?_eq_getElem h]
  rfl
theorem fill_step {β : Type} (acc tgt : List β) (i : Nat) (hl : acc.length = tgt.length) (h : acc.take i = tgt.take i) (hi : i < tgt.length) : (acc.set i tgt[i]).take (i + 1) = tgt.take (i + 1) := by
  rw [List.take_succ_eq_append_getElem (by simpa [hl] using hi), List.take_succ_eq_append_getElem hi]
  rw [List.take_set_of_le (Nat.le_refl i), h]
  simp
theorem Tot.copy {β : Type} (F : Nat → List β → Int → Option (List β)) (tgt : List β) (z : β)
    (hstep : ∀ k acc (i : Nat) (h : i < tgt.length), acc.length = tgt.length → F (k + 1) acc (i : Int) = F k (acc.set i tgt[i]) ((i : Int) + 1))
    (hend : ∀ k acc, acc.length = tgt.length → F (k + 1) acc (tgt.length : Int) = some acc) : Tot (fun k => F k (List.replicate tgt.length z) 0) (fun r => r = tgt) := by
  have key : ∀ d (i : Nat) acc, i + d = tgt.length → acc.length = tgt.length → acc.take i = tgt.take i → Tot (fun k => F k acc (i : Int)) (fun r => r = tgt) := by
    intro d
    induction d with
    | zero =>
      intro i acc hi hl ht
      obtain rfl : i = tgt.length := by omega
      refine Tot.step (f := fun _ => some acc) (fun k => hend k acc hl) (Tot.ret _ ?_)
      rw [List.take_length, ← hl, List.take_length] at ht
      exact ht
    | succ d ih =>
      intro i acc hi hl ht
      have hlt : i < tgt.length := by omega
      refine Tot.step (fun k => hstep k acc i hlt hl) ?_
      have := ih (i + 1) (acc.set i tgt[i]) (by omega) (by simpa using hl) (fill_step acc tgt i hl ht hlt)
      simpa using this
  simpa using key tgt.length 0 (List.replicate tgt.length z) (by omega) (by simp) (by simp)
theorem Tot.look {ρ : Type} {r : ρ} (F : Nat → Int → Option ρ) (n : Nat) (hstep : ∀ k (i : Nat), i < n → F (k + 1) (i : Int) = F k ((i : Int) + 1)) (hend : ∀ k, F (k + 1) (n : Int) = some r) : Tot (fun k => F k 0) (fun q => q = r) := by
  have key : ∀ d (i : Nat), i + d = n → Tot (fun k => F k (i : Int)) (fun q => q = r) := by
    intro d
    induction d with
    | zero => intro i hi; obtain rfl : i = n := by omega
              exact Tot.step (f := fun _ => some r) (fun k => hend k) (Tot.ret _ rfl)
    | succ d ih => intro i hi; exact Tot.step (fun k => hstep k i (by omega)) (by simpa using ih (i + 1) (by omega))
  simpa using key n 0 (by omega)
end Go.Proofs.Ytkdfjomhichkoaa.Gen
namespace Go.Proofs.Ytkdfjomhichkoaa.Tm
open Go.RowKit Go.Proofs.Ytkdfjomhichkoaa.P Go.Proofs.Ytkdfjomhichkoaa.Base Go.Proofs.Ytkdfjomhichkoaa.Gen Go.Proofs.Ytkdfjomhichkoaa.Alive Go.Proofs.Ytkdfjomhichkoaa.Set Go.Proofs.YtkdfjomhichkoaaW.PrintWords Go.Proofs.YtkdfjomhichkoaaW.PrintLast
def sm {α : Type} (f : α → Int) : List α → Int
  | [] => 0
  | a :: l => f a + sm f l
theorem sm_append {α : Type} (f : α → Int) (l m : List α) : sm f (l ++ m) = sm f l + sm f m := by
  induction l with
  | nil => simp [sm]
  | cons a l ih => rw [List.cons_append, sm, sm, ih]; omega
theorem zj1 {α : Type} (f : α → Int) (l : List α) (i : Nat) (h : i < l.length) : sm f (l.take (i + 1)) = sm f (l.take i) + f l[i] := by
  rw [List.take_succ_eq_append_getElem h, sm_append]
  simp [sm]
theorem zih {α : Type} (f g : α → Int) (l : List α) (h : ∀ a ∈ l, f a = g a) : sm f l = sm g l := by
  induction l with
  | nil => rfl
  | cons a l ih => rw [sm, sm, h a (List.mem_cons_self ..), ih (fun x hx => h x (List.mem_cons_of_mem _ hx))]
theorem sm_nonneg {α : Type} (f : α → Int) (l : List α) (h : ∀ a ∈ l, 0 ≤ f a) : 0 ≤ sm f l := by
  induction l with
  | nil => exact Int.le_refl _
  | cons a l ih =>
    have h1 := h a (List.mem_cons_self ..)
    have h2 := ih (fun x hx => h x (List.mem_cons_of_mem _ hx))
    rw [sm]; omega
theorem sm_bd {α : Type} (f : α → Int) (l : List α) (B : Int) (hB : ∀ a ∈ l, f a ≤ B) : sm f l ≤ l.length * B := by
  induction l with
  | nil => simp [sm]
  | cons a l ih =>
    have h1 := hB a (List.mem_cons_self ..)
    have h2 := ih (fun x hx => hB x (List.mem_cons_of_mem _ hx))
    rw [sm, List.length_cons, Int.natCast_add, Int.add_mul]; simp only [Int.natCast_one, Int.one_mul]; omega
theorem sm_add {α : Type} (f g : α → Int) (l : List α) : sm (fun a => f a + g a) l = sm f l + sm g l := by
  induction l with
  | nil => rfl
  | cons a l ih => rw [sm, sm, sm, ih]; omega
theorem sm_mul {α : Type} (f : α → Int) (c : Int) (l : List α) : sm (fun a => c * f a) l = c * sm f l := by
  induction l with
  | nil => simp [sm]
  | cons a l ih => rw [sm, sm, ih, Int.mul_add]
theorem zj2 {α : Type} (f : α → Int) (l : List α) (B : Int) (h0 : ∀ a ∈ l, 0 ≤ f a ∧ f a ≤ B) (i : Nat) (hi : i ≤ l.length) : 0 ≤ sm f (l.take i) ∧ sm f (l.take i) ≤ i * B := by
  refine ⟨sm_nonneg _ _ (fun a ha => (h0 a (List.mem_of_mem_take ha)).1), ?_⟩
  have := sm_bd f (l.take i) B (fun a ha => (h0 a (List.mem_of_mem_take ha)).2)
  rwa [List.length_take, Nat.min_eq_left hi] at this
def hy (l : List Task) : Nat := l.foldl (fun h t => Nat.lcm h t.f2.toNat) 1
theorem hy_take (l : List Task) (i : Nat) (h : i < l.length) : hy (l.take (i + 1)) = Nat.lcm (hy (l.take i)) l[i].f2.toNat := by
  unfold hy
  rw [List.take_succ_eq_append_getElem h, List.foldl_append]
  rfl
theorem fold_dvd (l : List Task) : ∀ h : Nat, h ∣ l.foldl (fun h t => Nat.lcm h t.f2.toNat) h ∧ ∀ t ∈ l, t.f2.toNat ∣ l.foldl (fun h t => Nat.lcm h t.f2.toNat) h := by
  induction l with
  | nil => intro h; exact ⟨Nat.dvd_refl _, fun t ht => by simp at ht⟩
  | cons a l ih =>
    intro h
    obtain ⟨h1, h2⟩ := ih (Nat.lcm h a.f2.toNat)
    refine ⟨Nat.dvd_trans (Nat.dvd_lcm_left _ _) h1, fun t ht => ?_⟩
    rcases List.mem_cons.1 ht with rfl | ht
    · exact Nat.dvd_trans (Nat.dvd_lcm_right _ _) h1
    · exact h2 t ht
theorem hy_dvd {l : List Task} {t : Task} (ht : t ∈ l) : t.f2.toNat ∣ hy l := (fold_dvd l 1).2 t ht
theorem fold_least (l : List Task) (m : Nat) (hm : ∀ t ∈ l, t.f2.toNat ∣ m) : ∀ h : Nat, h ∣ m → l.foldl (fun h t => Nat.lcm h t.f2.toNat) h ∣ m := by
  induction l with
  | nil => intro h hh; exact hh
  | cons a l ih =>
    intro h hh
    exact ih (fun t ht => hm t (List.mem_cons_of_mem _ ht)) _ (Nat.lcm_dvd hh (hm a (List.mem_cons_self ..)))
theorem hy_least {l : List Task} {m : Nat} (hm : ∀ t ∈ l, t.f2.toNat ∣ m) : hy l ∣ m := fold_least l m hm 1 (Nat.one_dvd _)
def AllV (l : List Task) : Prop := ∀ t ∈ l, TVt t
theorem _root_.Go.Proofs.Ytkdfjomhichkoaa.Set.zec.all {l : List Task} (h : zec l) : AllV l := h.2
theorem zhf {p : Nat} (h1 : 1 ≤ p) (h2 : p ≤ 12) : p ∣ 27720 := by
  have : p = 1 ∨ p = 2 ∨ p = 3 ∨ p = 4 ∨ p = 5 ∨ p = 6 ∨ p = 7 ∨ p = 8 ∨ p = 9 ∨ p = 10 ∨ p = 11 ∨ p = 12 := by omega
  rcases this with rfl | rfl | rfl | rfl | rfl | rfl | rfl | rfl | rfl | rfl | rfl | rfl <;> decide
theorem zii {l : List Task} (h : AllV l) : hy l ∣ 27720 := hy_least fun t ht => by
  have := h t ht
  unfold TVt TV at this
  exact zhf (by omega) (by omega)
theorem zij {l : List Task} (h : AllV l) : 1 ≤ hy l ∧ hy l ≤ 27720 := by
  have h1 := zii h
  have h2 := Nat.le_of_dvd (by omega) h1
  have h3 : hy l ≠ 0 := fun e => by rw [e] at h1; simp at h1
  omega
theorem AllV.take {l : List Task} (h : AllV l) (i : Nat) : AllV (l.take i) := fun t ht => h t (List.mem_of_mem_take ht)
theorem lcm_div (a b : Nat) (h : 0 < a) : a / Nat.gcd a b * b = Nat.lcm a b := by
  unfold Nat.lcm
  obtain ⟨k, hk⟩ := Nat.gcd_dvd_left a b
  have hg : 0 < Nat.gcd a b := Nat.gcd_pos_of_pos_left _ h
  generalize Nat.gcd a b = g at *
  subst hk
  rw [Nat.mul_div_cancel_left _ hg, Nat.mul_assoc, Nat.mul_div_cancel_left _ hg]
def wk (l : List Task) (m : Int) : Int := sm (fun t => m / t.f2 * t.f0) l
def ld (l : List Task) : Int := wk l (hy l)
def d1 (t : Int) (x : Task) : Int := if t ≥ x.f1 then ((t - x.f1) / x.f2 + 1) * x.f0 else 0
def dm (l : List Task) (t : Int) : Int := sm (d1 t) l
theorem d1_bd {x : Task} (hx : TVt x) {t : Int} (h0 : 0 ≤ t) : 0 ≤ d1 t x ∧ d1 t x ≤ 8 * (t + 1) := by
  unfold TVt TV at hx
  unfold d1
  split
  · rename_i h
    have h1 := Int.ediv_nonneg (show 0 ≤ t - x.f1 by omega) (show 0 ≤ x.f2 by omega)
    have h2 := Int.ediv_le_self x.f2 (show 0 ≤ t - x.f1 by omega)
    have h3 := zfs (a := (t - x.f1) / x.f2 + 1) (b := x.f0) (A := t + 1) (B := 8) (by omega) (by omega) (by omega) (by omega)
    omega
  · omega
theorem d1_add {x : Task} (hx : TVt x) {t q : Int} (h0 : 0 ≤ t) (hq : 0 ≤ q) : d1 (t + q * x.f2) x = d1 t x + q * x.f0 := by
  unfold TVt TV at hx
  unfold d1
  by_cases h : t ≥ x.f1
  · have hm := Int.mul_nonneg hq (show 0 ≤ x.f2 by omega)
    rw [if_pos h, if_pos (by omega), show t + q * x.f2 - x.f1 = t - x.f1 + q * x.f2 by omega, Int.add_mul_ediv_right _ _ (by omega)]
    rw [show (t - x.f1) / x.f2 + q + 1 = (t - x.f1) / x.f2 + 1 + q by omega, Int.add_mul]
  · rw [if_neg h]
    by_cases hz : q = 0
    · subst hz
      rw [if_neg (by omega)]; omega
    · have hm : x.f2 ≤ q * x.f2 := by
        have := Int.mul_le_mul_of_nonneg_right (show 1 ≤ q by omega) (show 0 ≤ x.f2 by omega)
        omega
      have e : (t - x.f1) / x.f2 = -1 := by
        have e1 : (t - x.f1 + 1 * x.f2) / x.f2 = (t - x.f1) / x.f2 + 1 := Int.add_mul_ediv_right _ _ (by omega)
        have e2 : (t - x.f1 + 1 * x.f2) / x.f2 = 0 := Int.ediv_eq_zero_of_lt (by omega) (by omega)
        omega
      rw [if_pos (by omega), show t + q * x.f2 - x.f1 = t - x.f1 + q * x.f2 by omega, Int.add_mul_ediv_right _ _ (by omega), e]
      rw [show -1 + q + 1 = q by omega]; omega
theorem dm_add {l : List Task} (hl : AllV l) {t m : Int} (h0 : 0 ≤ t) (hm : 0 ≤ m) (hd : ∀ x ∈ l, x.f2 ∣ m) : dm l (t + m) = dm l t + wk l m := by
  unfold dm wk
  rw [← sm_add]
  apply zih
  intro x hx
  have hv := hl x hx
  have hv' := hv
  unfold TVt TV at hv'
  obtain ⟨q, rfl⟩ := hd x hx
  have hq : 0 ≤ q := by
    apply Classical.byContradiction
    intro h
    have := Int.mul_lt_mul_of_pos_left (show q < 0 by omega) (show 0 < x.f2 by omega)
    omega
  rw [Int.mul_ediv_cancel_left _ (by omega), Int.mul_comm, d1_add hv h0 hq]
theorem dm_zero {l : List Task} (hl : AllV l) : dm l 0 = 0 := by
  unfold dm
  have : sm (d1 0) l = sm (fun _ => 0) l := zih _ _ _ fun x hx => by
    have := hl x hx
    unfold TVt TV at this
    unfold d1; rw [if_neg (by omega)]
  rw [this]
  clear this hl
  induction l with
  | nil => rfl
  | cons a l ih => rw [sm, ih]; rfl
theorem hy_int {l : List Task} (hl : AllV l) {x : Task} (hx : x ∈ l) : x.f2 ∣ (hy l : Int) := by
  have h1 := hy_dvd hx
  have := hl x hx
  unfold TVt TV at this
  have := Int.natCast_dvd_natCast.2 h1
  rwa [Int.toNat_of_nonneg (by omega)] at this
def Edf (l : List Task) : Prop := zec l ∧ ∀ t : Int, 1 ≤ t → t ≤ hy l → dm l t ≤ t
theorem ld_bd {l : List Task} (h : zec l) : 0 ≤ ld l ∧ ld l ≤ 1108800 := by
  have hb := zij h.all
  have h1 : ∀ t ∈ l, 0 ≤ (hy l : Int) / t.f2 * t.f0 ∧ (hy l : Int) / t.f2 * t.f0 ≤ 27720 * 8 := by
    intro t ht
    have := h.2 t ht
    unfold TVt TV at this
    have h1 := Int.ediv_nonneg (show 0 ≤ (hy l : Int) by omega) (show 0 ≤ t.f2 by omega)
    have h2 := Int.ediv_le_self t.f2 (show 0 ≤ (hy l : Int) by omega)
    exact zfs h1 (by omega) (by omega) (by omega)
  have h2 := zj2 _ l _ h1 l.length (Nat.le_refl _)
  rw [List.take_length] at h2
  have h3 := h.1
  unfold ld wk
  omega
end Go.Proofs.Ytkdfjomhichkoaa.Tm
namespace Go.Proofs.Ytkdfjomhichkoaa.Edf
def su (f : Nat → Int) : Nat → Int
  | 0 => 0
  | n + 1 => su f n + f n
theorem zfo {f g : Nat → Int} {n : Nat} (h : ∀ i, i < n → f i = g i) : su f n = su g n := by
  induction n with
  | zero => rfl
  | succ n ih => rw [su, su, ih (fun i hi => h i (by omega)), h n (by omega)]
theorem su_le {f g : Nat → Int} {n : Nat} (h : ∀ i, i < n → f i ≤ g i) : su f n ≤ su g n := by
  induction n with
  | zero => exact Int.le_refl _
  | succ n ih =>
    have h1 := ih (fun i hi => h i (by omega))
    have h2 := h n (by omega)
    rw [su, su]; omega
theorem zj3 (n : Nat) : su (fun _ => 0) n = 0 := by
  induction n with
  | zero => rfl
  | succ n ih => rw [su, ih]; rfl
theorem su_nonneg {f : Nat → Int} {n : Nat} (h : ∀ i, i < n → 0 ≤ f i) : 0 ≤ su f n := by
  have := su_le (f := fun _ => 0) (g := f) (n := n) h
  rw [zj3] at this
  exact this
theorem su_add (f g : Nat → Int) (n : Nat) : su (fun i => f i + g i) n = su f n + su g n := by
  induction n with
  | zero => rfl
  | succ n ih => rw [su, su, su, ih]; omega
theorem su_ge {f : Nat → Int} {n j : Nat} (h : ∀ i, i < n → 0 ≤ f i) (hj : j < n) : f j ≤ su f n := by
  induction n with
  | zero => omega
  | succ n ih =>
    have h0 := su_nonneg (f := f) (n := n) (fun i hi => h i (by omega))
    have hn := h n (by omega)
    rw [su]
    by_cases e : j = n
    · subst e; omega
    · have := ih (fun i hi => h i (by omega)) (by omega)
      omega
theorem su_one {n j : Nat} (hj : j < n) (c : Int) : su (fun i => if i = j then c else 0) n = c := by
  induction n with
  | zero => omega
  | succ n ih =>
    rw [su]
    by_cases e : j = n
    · subst e
      have : su (fun i => if i = j then c else 0) j = su (fun _ => 0) j := zfo fun i hi => if_neg (by omega)
      rw [this, zj3, if_pos rfl]; omega
    · rw [ih (by omega), if_neg (by omega)]; omega
theorem su_kinds (f : Nat → Int) (tk : Nat → Nat) (m : Nat) : ∀ n, (∀ i, i < n → tk i < m) → su f n = su (fun k => su (fun i => if tk i = k then f i else 0) n) m := by
  intro n
  induction n with
  | zero => intro _; rw [show su f 0 = 0 from rfl]; symm; exact zj3 m
  | succ n ih =>
    intro h
    rw [su, ih (fun i hi => h i (by omega))]
    have : su (fun k => su (fun i => if tk i = k then f i else 0) (n + 1)) m = su (fun k => su (fun i => if tk i = k then f i else 0) n + (if k = tk n then f n else 0)) m := zfo fun k _ => by
      rw [su]
      by_cases e : tk n = k
      · rw [if_pos e, if_pos e.symm]
      · rw [if_neg e, if_neg (fun h => e h.symm)]
    rw [this, su_add, su_one (h n (by omega))]
structure Sch (n : Nat) (rel ex : Nat → Int) (L : Nat → Nat → Int) (r : Nat → Int) : Prop where
  start : ∀ i, i < n → L 0 i = ex i
  step : ∀ t i, i < n → L (t + 1) i = L t i - (if r t = (i : Int) then 1 else 0)
  rng : ∀ t, r t = -1 ∨ ∃ i, i < n ∧ r t = (i : Int) ∧ rel i ≤ (t : Int) ∧ 0 < L t i
  pos : ∀ i, i < n → 1 ≤ ex i
section
variable {n : Nat} {rel ex : Nat → Int} {L : Nat → Nat → Int} {r : Nat → Int}
theorem Sch.nonneg (h : Sch n rel ex L r) : ∀ t i, i < n → 0 ≤ L t i := by
  intro t
  induction t with
  | zero => intro i hi; rw [h.start i hi]; have := h.pos i hi; omega
  | succ t ih =>
    intro i hi
    rw [h.step t i hi]
    have h1 := ih i hi
    split
    · rename_i e
      rcases h.rng t with h2 | ⟨j, hj, h2, _, h3⟩
      · omega
      · have : i = j := by omega
        subst this; omega
    · omega
theorem Sch.mono (h : Sch n rel ex L r) (i : Nat) (hi : i < n) : ∀ s t, s ≤ t → L t i ≤ L s i := by
  intro s t hst
  induction t with
  | zero => obtain rfl : s = 0 := by omega
            exact Int.le_refl _
  | succ t ih =>
    by_cases e : s = t + 1
    · subst e; exact Int.le_refl _
    · have := ih (by omega)
      rw [h.step t i hi]
      split <;> omega
theorem Sch.le_ex (h : Sch n rel ex L r) (t i : Nat) (hi : i < n) : L t i ≤ ex i := by
  rw [← h.start i hi]
  exact h.mono i hi 0 t (by omega)
theorem Sch.whole (h : Sch n rel ex L r) (i : Nat) (hi : i < n) : ∀ t : Nat, (t : Int) ≤ rel i → L t i = ex i := by
  intro t
  induction t with
  | zero => intro _; exact h.start i hi
  | succ t ih =>
    intro ht
    rw [h.step t i hi, ih (by omega), if_neg]
    · omega
    · intro e
      rcases h.rng t with h2 | ⟨j, hj, h2, h3, _⟩
      · omega
      · have : i = j := by omega
        subst this; omega
def lf (n : Nat) (L : Nat → Nat → Int) (S : Nat → Prop) [DecidablePred S] (t : Nat) : Int := su (fun i => if S i then L t i else 0) n
theorem Sch.run_in (h : Sch n rel ex L r) (S : Nat → Prop) [DecidablePred S] (t i : Nat) (hi : i < n) (hr : r t = (i : Int)) (hS : S i) : lf n L S (t + 1) = lf n L S t - 1 := by
  unfold lf
  have e : su (fun j => if S j then L t j else 0) n = su (fun j => (if S j then L (t + 1) j else 0) + (if j = i then 1 else 0)) n := zfo fun j hj => by
    rw [h.step t j hj]
    by_cases e : j = i
    · subst e
      rw [if_pos hS, if_pos hS, if_pos hr, if_pos rfl]; omega
    · rw [if_neg e, if_neg (show ¬ r t = (j : Int) by omega)]
      split <;> omega
  rw [e, su_add, su_one hi]; omega
theorem Sch.run_out (h : Sch n rel ex L r) (S : Nat → Prop) [DecidablePred S] (t : Nat) (hr : ∀ i, i < n → S i → r t ≠ (i : Int)) : lf n L S (t + 1) = lf n L S t := by
  unfold lf
  refine zfo fun j hj => ?_
  rw [h.step t j hj]
  by_cases e : S j
  · rw [if_pos e, if_pos e, if_neg (hr j hj e)]; omega
  · rw [if_neg e, if_neg e]
theorem Sch.busy (h : Sch n rel ex L r) (S : Nat → Prop) [DecidablePred S] (c : Nat → Int) (a : Nat) : ∀ d : Nat,
    (∀ t, a ≤ t → t < a + d → (c (t + 1) = c t + 1 ∧ ∃ i, i < n ∧ r t = (i : Int) ∧ S i) ∨ (c (t + 1) = c t ∧ r t = -1)) → lf n L S (a + d) = lf n L S a - (c (a + d) - c a) := by
  intro d
  induction d with
  | zero => intro _; rw [Nat.add_zero]; omega
  | succ d ih =>
    intro hh
    have h1 := ih (fun t h1 h2 => hh t h1 (by omega))
    rw [show a + (d + 1) = a + d + 1 by omega]
    rcases hh (a + d) (by omega) (by omega) with ⟨h2, i, hi, hr, hS⟩ | ⟨h2, hr⟩
    · rw [h.run_in S _ i hi hr hS]; omega
    · rw [h.run_out S _ (fun i hi _ => by omega)]; omega
theorem Sch.late (h : Sch n rel ex L r) (S : Nat → Prop) [DecidablePred S] (c : Nat → Int) (a d J : Nat) (hJ : J < n) (hS : S J) (hl : 0 < L (a + d) J)
    (hh : ∀ t, a ≤ t → t < a + d → (c (t + 1) = c t + 1 ∧ ∃ i, i < n ∧ r t = (i : Int) ∧ S i) ∨ (c (t + 1) = c t ∧ r t = -1)) :
    c (a + d) - c a + 1 ≤ su (fun i => if S i then ex i else 0) n := by
  have h1 := h.busy S c a d hh
  have h2 : lf n L S a ≤ su (fun i => if S i then ex i else 0) n := su_le fun i hi => by
    split
    · exact h.le_ex a i hi
    · exact Int.le_refl _
  have h3 : (if S J then L (a + d) J else 0) ≤ lf n L S (a + d) := su_ge (f := fun i => if S i then L (a + d) i else 0) (fun i hi => by
    split
    · exact h.nonneg _ i hi
    · exact Int.le_refl _) hJ
  rw [if_pos hS] at h3
  omega
end
theorem few (rel dl ex : Nat → Int) (K : Nat → Prop) [DecidablePred K] (P C a b : Int)
    (hsp : ∀ i j, i < j → K i → K j → rel i + P ≤ rel j) (hex : ∀ i, K i → ex i ≤ C) :
    ∀ n, su (fun i => if K i ∧ a ≤ rel i ∧ dl i ≤ b then ex i else 0) n = 0 ∨
      ∃ c : Int, ∃ j, j < n ∧ K j ∧ a ≤ rel j ∧ dl j ≤ b ∧ 1 ≤ c ∧ a + (c - 1) * P ≤ rel j ∧ su (fun i => if K i ∧ a ≤ rel i ∧ dl i ≤ b then ex i else 0) n ≤ c * C := by
  intro n
  induction n with
  | zero => exact Or.inl rfl
  | succ n ih =>
    rw [su]
    by_cases hk : K n ∧ a ≤ rel n ∧ dl n ≤ b
    · rw [if_pos hk]
      have hx := hex n hk.1
      right
      rcases ih with h0 | ⟨c, j, hj, kj, aj, bj, c1, hc, hs⟩
      · refine ⟨1, n, by omega, hk.1, hk.2.1, hk.2.2, by omega, ?_, ?_⟩
        · rw [Int.sub_self, Int.zero_mul]; omega
        · rw [h0, Int.one_mul]; omega
      · have hsp' := hsp j n (by omega) kj hk.1
        refine ⟨c + 1, n, by omega, hk.1, hk.2.1, hk.2.2, by omega, ?_, ?_⟩
        · rw [show c + 1 - 1 = (c - 1) + 1 by omega, Int.add_mul, Int.one_mul]; omega
        · rw [Int.add_mul, Int.one_mul]; omega
    · rw [if_neg hk, Int.add_zero]
      rcases ih with h0 | ⟨c, j, hj, h⟩
      · exact Or.inl h0
      · exact Or.inr ⟨c, j, by omega, h⟩
theorem few_le (rel dl ex : Nat → Int) (K : Nat → Prop) [DecidablePred K] (P D C a b : Int) (hP : 1 ≤ P) (hC : 0 ≤ C)
    (hsp : ∀ i j, i < j → K i → K j → rel i + P ≤ rel j) (hdl : ∀ i, K i → dl i = rel i + D) (hex : ∀ i, K i → ex i ≤ C) (n : Nat) :
    su (fun i => if K i ∧ a ≤ rel i ∧ dl i ≤ b then ex i else 0) n ≤ if b - a ≥ D then ((b - a - D) / P + 1) * C else 0 := by
  rcases few rel dl ex K P C a b hsp hex n with h0 | ⟨c, j, _, kj, aj, bj, c1, hc, hs⟩
  · rw [h0]
    split
    · rename_i h
      have := Int.ediv_nonneg (show 0 ≤ b - a - D by omega) (show 0 ≤ P by omega)
      exact Int.mul_nonneg (by omega) hC
    · exact Int.le_refl _
  · have hj := hdl j kj
    have hcp : 0 ≤ (c - 1) * P := Int.mul_nonneg (by omega) (by omega)
    rw [if_pos (by omega)]
    have hq : c - 1 ≤ (b - a - D) / P := by
      apply (Int.le_ediv_iff_mul_le (by omega)).2
      omega
    exact Int.le_trans hs (Int.mul_le_mul_of_nonneg_right (by omega) hC)
theorem last_bad (G : Nat → Prop) : ∀ d : Nat, ∃ a, a ≤ d ∧ (∀ t, a ≤ t → t < d → G t) ∧ (a = 0 ∨ ¬ G (a - 1)) := by
  intro d
  induction d with
  | zero => exact ⟨0, Nat.le_refl _, fun t _ h => by omega, Or.inl rfl⟩
  | succ d ih =>
    by_cases h : G d
    · obtain ⟨a, h1, h2, h3⟩ := ih
      refine ⟨a, by omega, fun t ha hd => ?_, h3⟩
      by_cases e : t = d
      · subst e; exact h
      · exact h2 t ha (by omega)
    · exact ⟨d + 1, Nat.le_refl _, fun t _ _ => by omega, Or.inr h⟩
theorem demand_le {n m : Nat} {rel dl ex : Nat → Int} {tk : Nat → Nat} {P C : Nat → Int} (htk : ∀ i, i < n → tk i < m) (hP : ∀ k, k < m → 1 ≤ P k) (hC : ∀ k, k < m → 0 ≤ C k)
    (D : Nat → Int) (hdl : ∀ i, i < n → dl i = rel i + D (tk i)) (hex : ∀ i, i < n → ex i ≤ C (tk i)) (hsp : ∀ i j, i < j → j < n → tk i = tk j → rel i + P (tk i) ≤ rel j) (a b : Int) :
    su (fun i => if a ≤ rel i ∧ dl i ≤ b then ex i else 0) n ≤ su (fun k => if b - a ≥ D k then ((b - a - D k) / P k + 1) * C k else 0) m := by
  rw [su_kinds _ tk m n htk]
  refine su_le fun k hk => ?_
  have h := few_le rel dl ex (fun i => i < n ∧ tk i = k) (P k) (D k) (C k) a b (hP k hk) (hC k hk) (fun i j hij hi hj => by
    have := hsp i j hij hj.1 (by rw [hi.2, hj.2])
    rwa [hi.2] at this) (fun i hi => by rw [hdl i hi.1, hi.2]) (fun i hi => by have := hex i hi.1; rwa [hi.2] at this) n
  refine Int.le_trans (Int.le_of_eq (zfo fun i hi => ?_)) h
  by_cases e : tk i = k
  · by_cases e2 : a ≤ rel i ∧ dl i ≤ b
    · rw [if_pos e, if_pos e2, if_pos ⟨⟨hi, e⟩, e2⟩]
    · rw [if_pos e, if_neg e2, if_neg (fun h => e2 h.2)]
  · rw [if_neg e, if_neg (fun h => e h.1.2)]
section
variable {n m : Nat} {rel dl ex : Nat → Int} {L : Nat → Nat → Int} {r : Nat → Int} {tk : Nat → Nat} {P C : Nat → Int}
theorem started (h : Sch n rel ex L r) (hnp : ∀ t i, i < n → r t = (i : Int) → 0 < L (t + 1) i → r (t + 1) = (i : Int)) (i : Nat) (hi : i < n) :
    ∀ t, 0 < L t i → L t i < ex i → r t = (i : Int) ∧ 1 ≤ t ∧ r (t - 1) = (i : Int) := by
  intro t
  induction t with
  | zero => intro _ h2; rw [h.start i hi] at h2; omega
  | succ t ih =>
    intro h1 h2
    by_cases e : r t = (i : Int)
    · exact ⟨hnp t i hi e h1, by omega, by simpa using e⟩
    · have := h.step t i hi
      rw [if_neg e] at this
      have := (ih (by omega) (by omega)).1
      exact absurd this e
end
theorem edf_supply {n : Nat} {rel dl ex : Nat → Int} {L : Nat → Nat → Int} {r : Nat → Int} (h : Sch n rel ex L r) (sup : Nat → Prop) (c : Nat → Int)
    (hc : ∀ t, (sup t ∧ c (t + 1) = c t + 1) ∨ (¬ sup t ∧ c (t + 1) = c t ∧ r t = -1)) (hrel : ∀ i, i < n → 0 ≤ rel i)
    (hidle : ∀ t, sup t → r t = -1 → ∀ i, i < n → rel i ≤ (t : Int) → L t i = 0)
    (hedf : ∀ t i, i < n → r t = (i : Int) → ∀ j, j < n → rel j ≤ (t : Int) → 0 < L t j → dl i ≤ dl j)
    (J : Nat) (hJ : J < n) (d : Nat) (hd : dl J = (d : Int))
    (hD : ∀ a : Nat, a ≤ d → su (fun i => if (a : Int) ≤ rel i ∧ dl i ≤ (d : Int) then ex i else 0) n ≤ c d - c a) : L d J = 0 := by
  apply Classical.byContradiction
  intro hne
  have hpos : 0 < L d J := by have := h.nonneg d J hJ; omega
  have liveP : ∀ t i, i < n → r t = (i : Int) → 0 < L t i := fun t i hi hr => by
    rcases h.rng t with h3 | ⟨j, hj, h3, _, h4⟩
    · omega
    · obtain rfl : i = j := by omega
      exact h4
  obtain ⟨a, had, hgood, hbad⟩ := last_bad (fun t => ¬ sup t ∨ ∃ i, i < n ∧ r t = (i : Int) ∧ dl i ≤ (d : Int)) d
  have hold : ∀ i, i < n → dl i ≤ (d : Int) → 0 < L a i → (a : Int) ≤ rel i := fun i hi hdi hl => by
    apply Classical.byContradiction
    intro hcn
    by_cases h0 : a = 0
    · subst h0; have := hrel i hi; omega
    · have hb := hbad.resolve_left h0
      have hs : sup (a - 1) := Classical.byContradiction fun hs => hb (Or.inl hs)
      have hm := h.mono i hi (a - 1) a (by omega)
      rcases h.rng (a - 1) with h3 | ⟨j, hj, h3, _, _⟩
      · have := hidle (a - 1) hs h3 i hi (by omega)
        omega
      · have h4 := hedf (a - 1) j hj h3 i hi (by omega) (by omega)
        exact hb (Or.inr ⟨j, hj, h3, by omega⟩)
  have hl := h.late (fun i => (a : Int) ≤ rel i ∧ dl i ≤ (d : Int)) c a (d - a) J hJ ⟨hold J hJ (by omega) (by have := h.mono J hJ a d had; omega), by omega⟩ (by rw [show a + (d - a) = d by omega]; exact hpos) (fun t h1 h2 => by
    rcases hc t with ⟨hs, hc1⟩ | ⟨_, hc1, hr⟩
    · left
      rcases hgood t h1 (by omega) with hg | ⟨i, hi, hr, hdi⟩
      · exact absurd hs hg
      · exact ⟨hc1, i, hi, hr, hold i hi hdi (by have := h.mono i hi a t h1; have := liveP t i hi hr; omega), hdi⟩
    · exact Or.inr ⟨hc1, hr⟩)
  have := hD a had
  rw [show a + (d - a) = d by omega] at hl
  omega
end Go.Proofs.Ytkdfjomhichkoaa.Edf
namespace Go.Proofs.Ytkdfjomhichkoaa.Sim
open Go.RowKit Go.Proofs.Ytkdfjomhichkoaa.Gen Go.Proofs.Ytkdfjomhichkoaa.Edf Go.Proofs.YtkdfjomhichkoaaW.PrintWords Go.Proofs.YtkdfjomhichkoaaW.PrintLast
def bst (ok : Nat → Bool) (key : Nat → Int) : Nat → Int
  | 0 => -1
  | n + 1 => if ok n = true ∧ (bst ok key n < 0 ∨ key n < key (bst ok key n).toNat) then (n : Int) else bst ok key n
theorem bst_sp (ok : Nat → Bool) (key : Nat → Int) : ∀ n, (bst ok key n = -1 ∧ ∀ i, i < n → ok i = false) ∨
    ∃ i : Nat, i < n ∧ bst ok key n = (i : Int) ∧ ok i = true ∧ (∀ j, j < n → ok j = true → key i ≤ key j) ∧ ∀ j, j < i → ok j = true → key i < key j := by
  intro n
  induction n with
  | zero => exact Or.inl ⟨rfl, fun i h => by omega⟩
  | succ n ih =>
    rw [bst]
    by_cases h : ok n = true ∧ (bst ok key n < 0 ∨ key n < key (bst ok key n).toNat)
    · rw [if_pos h]
      right
      refine ⟨n, by omega, rfl, h.1, ?_⟩
      rcases ih with ⟨h1, h2⟩ | ⟨i, hi, h1, h2, h3, _⟩
      · refine ⟨fun j hj ho => ?_, fun j hj ho => ?_⟩
        · by_cases e : j = n
          · subst e; exact Int.le_refl _
          · rw [h2 j (by omega)] at ho; cases ho
        · rw [h2 j hj] at ho; cases ho
      · have hlt : key n < key i := by
          rcases h.2 with h4 | h4
          · omega
          · rw [h1] at h4; simpa using h4
        refine ⟨fun j hj ho => ?_, fun j hj ho => ?_⟩
        · by_cases e : j = n
          · subst e; exact Int.le_refl _
          · have := h3 j (by omega) ho; omega
        · have := h3 j hj ho; omega
    · rw [if_neg h]
      rcases ih with ⟨h1, h2⟩ | ⟨i, hi, h1, h2, h3, h4⟩
      · left
        refine ⟨h1, fun j hj => ?_⟩
        by_cases e : j = n
        · subst e
          cases ho : ok j with
          | false => rfl
          | true => exact absurd ⟨ho, Or.inl (by omega)⟩ h
        · exact h2 j (by omega)
      · right
        refine ⟨i, by omega, h1, h2, fun j hj ho => ?_, h4⟩
        by_cases e : j = n
        · subst e
          apply Classical.byContradiction
          intro hc
          exact h ⟨ho, Or.inr (by rw [h1]; simpa using (by omega : key j < key i))⟩
        · exact h3 j (by omega) ho
theorem bst_congr {ok ok' : Nat → Bool} {key key' : Nat → Int} {n : Nat} (h1 : ∀ i, i < n → ok i = ok' i) (h2 : ∀ i, i < n → key i = key' i) : bst ok key n = bst ok' key' n := by
  induction n with
  | zero => rfl
  | succ n ih =>
    have e := ih (fun i hi => h1 i (by omega)) (fun i hi => h2 i (by omega))
    rw [bst, bst, e, h1 n (by omega), h2 n (by omega)]
    have hb := bst_sp ok' key' n
    by_cases hneg : bst ok' key' n < 0
    · simp only [hneg, true_or]
    · rcases hb with ⟨h3, _⟩ | ⟨i, hi, h3, _⟩
      · omega
      · have : key (bst ok' key' n).toNat = key' (bst ok' key' n).toNat := by rw [h3]; exact h2 _ (by simpa using (by omega : i < n + 1))
        rw [this]
def zj4 (left : List Int) (i : Int) : List Int := if i < 0 then left else left.set i.toNat (rd left i - 1)
section
variable (pick : List Int → Nat → Int) (ex : List Int)
def stL : Nat → List Int
  | 0 => ex
  | t + 1 => zj4 (stL t) (pick (stL t) t)
def runL (t : Nat) : Int := pick (stL pick ex t) t
def finL : Nat → List Int
  | 0 => List.replicate ex.length (-1)
  | t + 1 => if 0 ≤ runL pick ex t ∧ rd (stL pick ex (t + 1)) (runL pick ex t) = 0 then (finL t).set (runL pick ex t).toNat ((t : Int) + 1) else finL t
end
theorem zen (l : List Int) (i : Nat) (x : Int) (h : i < l.length) : rd (l.set i x) (i : Int) = x := by
  rw [zj0 _ i (by simpa using h)]
  simp
theorem zfg (l : List Int) (i a : Nat) (x : Int) (h : a ≠ i) : rd (l.set i x) (a : Int) = rd l (a : Int) := by
  unfold rd
  rw [List.getD_eq_getElem?_getD, List.getD_eq_getElem?_getD, Int.toNat_natCast, List.getElem?_set_ne (by omega)]
def zj5 (rel : Nat → Int) (n : Nat) (pick : List Int → Nat → Int) : Prop := ∀ left t, left.length = n → pick left t = -1 ∨ ∃ i, i < n ∧ pick left t = ((i : Nat) : Int) ∧ rel i ≤ (t : Int) ∧ 0 < rd left (i : Int)
section
variable {pick : List Int → Nat → Int} {ex : List Int} {rel : Nat → Int}
theorem stepL_len (left : List Int) (i : Int) : (zj4 left i).length = left.length := by
  unfold zj4; split
  · rfl
  · rw [List.length_set]
theorem zfh : ∀ t, (stL pick ex t).length = ex.length
  | 0 => rfl
  | t + 1 => by rw [stL, stepL_len, zfh t]
theorem zf4 : ∀ t, (finL pick ex t).length = ex.length
  | 0 => by rw [finL, List.length_replicate]
  | t + 1 => by
    rw [finL]; split
    · rw [List.length_set, zf4 t]
    · exact zf4 t
theorem zjh (hp : zj5 rel ex.length pick) (hpos : ∀ i, i < ex.length → 1 ≤ rd ex ((i : Nat) : Int)) : Sch ex.length rel (fun i => rd ex (i : Int)) (fun t i => rd (stL pick ex t) (i : Int)) (runL pick ex) := by
  refine ⟨fun i _ => rfl, fun t i hi => ?_, fun t => hp _ t (zfh t), hpos⟩
  have hl : (stL pick ex t).length = ex.length := zfh t
  show rd (stL pick ex (t + 1)) (i : Int) = rd (stL pick ex t) (i : Int) - (if runL pick ex t = (i : Int) then 1 else 0)
  rw [stL]
  show rd (zj4 (stL pick ex t) (runL pick ex t)) (i : Int) = _
  rcases hp _ t hl with h | ⟨j, hj, h, _, _⟩
  · have h : runL pick ex t = -1 := h
    unfold zj4
    rw [h, if_pos (by omega), if_neg (by omega)]; omega
  · have h : runL pick ex t = (j : Int) := h
    unfold zj4
    rw [h, if_neg (by omega), Int.toNat_natCast]
    by_cases e : j = i
    · subst e
      rw [zen _ _ _ (by omega), if_pos rfl]
    · rw [zfg _ _ _ _ (by omega), if_neg (by omega)]; omega
theorem fin_sp (hp : zj5 rel ex.length pick) (hpos : ∀ i, i < ex.length → 1 ≤ rd ex ((i : Nat) : Int)) (i : Nat) (hi : i < ex.length) : ∀ t, (0 < rd (stL pick ex t) (i : Int) ∧ rd (finL pick ex t) (i : Int) = -1) ∨
    (rd (stL pick ex t) (i : Int) = 0 ∧ ∃ f : Nat, 1 ≤ f ∧ f ≤ t ∧ rd (finL pick ex t) (i : Int) = (f : Int) ∧ rd (stL pick ex f) (i : Int) = 0 ∧ runL pick ex (f - 1) = (i : Int)) := by
  have hS := zjh hp hpos
  intro t
  induction t with
  | zero =>
    left
    refine ⟨by have := hpos i hi; rw [stL]; omega, ?_⟩
    rw [finL, zj0 _ i (by rw [List.length_replicate]; exact hi), List.getElem_replicate]
  | succ t ih =>
    have hst := hS.step t i hi
    have hnn := hS.nonneg (t + 1) i hi
    have hl := zf4 (pick := pick) (ex := ex) t
    rw [finL]
    by_cases hr : runL pick ex t = (i : Int)
    · rw [if_pos hr] at hst
      rw [hr, Int.toNat_natCast]
      have hlive : 0 < rd (stL pick ex t) (i : Int) := by
        rcases hS.rng t with h | ⟨j, hj, h, _, h2⟩
        · omega
        · obtain rfl : i = j := by omega
          exact h2
      have hf : rd (finL pick ex t) (i : Int) = -1 := by
        rcases ih with h | h
        · exact h.2
        · omega
      by_cases hz : rd (stL pick ex (t + 1)) (i : Int) = 0
      · rw [if_pos ⟨by omega, hz⟩]
        right
        refine ⟨hz, t + 1, by omega, Nat.le_refl _, ?_, hz, by simpa using hr⟩
        rw [zen _ _ _ (by omega)]; rfl
      · rw [if_neg (fun h => hz h.2)]
        exact Or.inl ⟨by omega, hf⟩
    · rw [if_neg hr] at hst
      have e1 : rd (stL pick ex (t + 1)) (i : Int) = rd (stL pick ex t) (i : Int) := by omega
      have e2 : rd (if 0 ≤ runL pick ex t ∧ rd (stL pick ex (t + 1)) (runL pick ex t) = 0 then (finL pick ex t).set (runL pick ex t).toNat ((t : Int) + 1) else finL pick ex t) (i : Int) = rd (finL pick ex t) (i : Int) := by
        split
        · rename_i h
          exact zfg _ _ _ _ (by omega)
        · rfl
      rw [e1, e2]
      rcases ih with h | ⟨h1, f, h2, h3, h4⟩
      · exact Or.inl h
      · exact Or.inr ⟨h1, f, h2, by omega, h4⟩
end
end Go.Proofs.Ytkdfjomhichkoaa.Sim
namespace Go.Proofs.Ytkdfjomhichkoaa.Jobs
open Go.RowKit Go.Proofs.Ytkdfjomhichkoaa.P Go.Proofs.Ytkdfjomhichkoaa.Base Go.Proofs.Ytkdfjomhichkoaa.Gen Go.Proofs.Ytkdfjomhichkoaa.Alive Go.Proofs.Ytkdfjomhichkoaa.Set Go.Proofs.Ytkdfjomhichkoaa.Tm Go.Proofs.Ytkdfjomhichkoaa.Edf Go.Proofs.Ytkdfjomhichkoaa.Sim Go.Proofs.YtkdfjomhichkoaaW.PrintWords Go.Proofs.YtkdfjomhichkoaaW.PrintLast
abbrev Job := S34
def rj (l : List Job) (i : Nat) : Job := zf l (i : Int)
def tk (l : List Task) (i : Int) : Task := zbe l i
theorem rj_at (l : List Job) (i : Nat) (h : i < l.length) : rj l i = l[i] := by
  unfold rj zf
  rw [List.getD_eq_getElem?_getD, Int.toNat_natCast, List.getElem?_eq_getElem h]
  rfl
theorem tk_at (l : List Task) (i : Nat) (h : i < l.length) : tk l (i : Int) = l[i] := by
  unfold tk zbe
  rw [List.getD_eq_getElem?_getD, Int.toNat_natCast, List.getElem?_eq_getElem h]
  rfl
def One (l : List Task) (js : List Job) (i : Nat) : Prop :=
  (0 ≤ (rj js i).f0 ∧ (rj js i).f0 < (l.length : Int)) ∧ (0 ≤ (rj js i).f1 ∧ (rj js i).f1 ≤ 119) ∧ (1 ≤ (rj js i).f3 ∧ (rj js i).f3 ≤ (tk l (rj js i).f0).f0) ∧
    (rj js i).f2 = (rj js i).f1 + (tk l (rj js i).f0).f1 ∧
    (0 < i → (rj js (i - 1)).f1 < (rj js i).f1 ∨ ((rj js (i - 1)).f1 = (rj js i).f1 ∧ (rj js (i - 1)).f0 < (rj js i).f0)) ∧
    ∀ p, p < i → (rj js p).f0 = (rj js i).f0 → (rj js p).f1 + (tk l (rj js i).f0).f2 ≤ (rj js i).f1
def JL (l : List Task) (js : List Job) : Prop := zec l ∧ js.length ≤ 60 ∧ ∀ i, i < js.length → One l js i
noncomputable instance (l : List Task) (js : List Job) : Decidable (JL l js) := Classical.propDecidable _
section
variable {l : List Task} {js : List Job}
def rel (js : List Job) (i : Nat) : Int := (rj js i).f1
def dl (js : List Job) (i : Nat) : Int := (rj js i).f2
def exs (js : List Job) : List Int := js.map (fun j => j.f3)
def tki (js : List Job) (i : Nat) : Nat := (rj js i).f0.toNat
theorem zd7 (js : List Job) : (exs js).length = js.length := by unfold exs; rw [List.length_map]
theorem exs_rd (js : List Job) (i : Nat) (h : i < js.length) : rd (exs js) (i : Int) = (rj js i).f3 := by
  rw [zj0 _ i (by rw [zd7]; exact h), rj_at js i h]
  unfold exs
  rw [List.getElem_map]
theorem JL.pos (h : JL l js) : ∀ i, i < (exs js).length → 1 ≤ rd (exs js) ((i : Nat) : Int) := fun i hi => by
  rw [zd7] at hi
  rw [exs_rd js i hi]
  exact (h.2.2 i hi).2.2.1.1
theorem JL.tkm (h : JL l js) (i : Nat) (hi : i < js.length) : tki js i < l.length ∧ ((tki js i : Nat) : Int) = (rj js i).f0 := by
  have := (h.2.2 i hi).1
  unfold tki
  omega
def P (l : List Task) (k : Nat) : Int := (tk l (k : Int)).f2
def C (l : List Task) (k : Nat) : Int := (tk l (k : Int)).f0
def D (l : List Task) (k : Nat) : Int := (tk l (k : Int)).f1
theorem zik (hs : zec l) (k : Nat) (hk : k < l.length) : 1 ≤ C l k ∧ C l k ≤ 8 ∧ C l k ≤ D l k ∧ D l k ≤ P l k ∧ P l k ≤ 12 := by
  have := hs.2 _ (List.getElem_mem hk)
  unfold C D P
  rw [tk_at l k hk]
  exact this
theorem su_sm (f : Task → Int) (l : List Task) : su (fun k => f (tk l (k : Int))) l.length = sm f l := by
  have key : ∀ i, i ≤ l.length → su (fun k => f (tk l (k : Int))) i = sm f (l.take i) := by
    intro i
    induction i with
    | zero => intro _; rfl
    | succ i ih =>
      intro hi
      rw [su, ih (by omega), zj1 f l i (by omega), tk_at l i (by omega)]
  have := key l.length (Nat.le_refl _)
  rwa [List.take_length] at this
theorem JL.dl_eq (h : JL l js) (i : Nat) (hi : i < js.length) : dl js i = rel js i + D l (tki js i) := by
  have h1 := (h.2.2 i hi).2.2.2.1
  have h2 := (h.tkm i hi).2
  unfold dl rel D
  rw [h2]; exact h1
theorem JL.ex_le (h : JL l js) (i : Nat) (hi : i < js.length) : rd (exs js) (i : Int) ≤ C l (tki js i) := by
  have h1 := (h.2.2 i hi).2.2.1.2
  have h2 := (h.tkm i hi).2
  rw [exs_rd js i hi]
  unfold C
  rw [h2]; exact h1
theorem JL.sep (h : JL l js) : ∀ i j, i < j → j < js.length → tki js i = tki js j → rel js i + P l (tki js i) ≤ rel js j := by
  intro i j hij hj he
  have h1 := (h.2.2 j hj).2.2.2.2.2 i hij
  have h2 := (h.tkm i (by omega)).2
  have h3 := (h.tkm j hj).2
  unfold rel P
  rw [he, h3]
  exact h1 (by omega)
theorem JL.rel0 (h : JL l js) (i : Nat) (hi : i < js.length) : 0 ≤ rel js i := (h.2.2 i hi).2.1.1
theorem JL.demand (h : JL l js) (a b : Int) : su (fun i => if a ≤ rel js i ∧ dl js i ≤ b then rd (exs js) (i : Int) else 0) js.length ≤ dm l (b - a) := by
  have h1 := demand_le (n := js.length) (m := l.length) (rel := rel js) (dl := dl js) (ex := fun i => rd (exs js) (i : Int)) (tk := tki js) (P := P l) (C := C l)
    (fun i hi => (h.tkm i hi).1) (fun k hk => by have := zik h.1 k hk; omega) (fun k hk => by have := zik h.1 k hk; omega) (D l) (fun i hi => h.dl_eq i hi) (fun i hi => h.ex_le i hi) h.sep a b
  refine Int.le_trans h1 (Int.le_of_eq ?_)
  unfold dm
  rw [← su_sm (d1 (b - a)) l]
  refine zfo fun k hk => ?_
  unfold d1 C D P
  rfl
end
def rdyb (js : List Job) (left : List Int) (t : Nat) (i : Nat) : Bool := decide ((rj js i).f1 ≤ (t : Int) ∧ 0 < rd left (i : Int))
def edfp (js : List Job) (left : List Int) (t : Nat) : Int := bst (rdyb js left t) (dl js) js.length
def startp (js : List Job) (left : List Int) (t : Nat) : Int := bst (fun i => rdyb js left t i && decide (rd left (i : Int) < (rj js i).f3)) (dl js) js.length
def npp (js : List Job) (left : List Int) (t : Nat) : Int := if 0 ≤ startp js left t then startp js left t else edfp js left t
def supp (js : List Job) (on : Nat → Bool) (left : List Int) (t : Nat) : Int := if on t = true then edfp js left t else -1
theorem zj6 (js : List Job) (left : List Int) (t : Nat) : (edfp js left t = -1 ∧ ∀ i, i < js.length → rel js i ≤ (t : Int) → rd left (i : Int) ≤ 0) ∨
    ∃ i : Nat, i < js.length ∧ edfp js left t = (i : Int) ∧ rel js i ≤ (t : Int) ∧ 0 < rd left (i : Int) ∧ ∀ j, j < js.length → rel js j ≤ (t : Int) → 0 < rd left (j : Int) → dl js i ≤ dl js j := by
  rcases bst_sp (rdyb js left t) (dl js) js.length with ⟨h1, h2⟩ | ⟨i, hi, h1, h2, h3, _⟩
  · left
    refine ⟨h1, fun i hi hr => ?_⟩
    have := h2 i hi
    unfold rdyb at this
    rw [decide_eq_false_iff_not] at this
    unfold rel at hr
    omega
  · right
    unfold rdyb at h2
    have h2 := of_decide_eq_true h2
    refine ⟨i, hi, h1, h2.1, h2.2, fun j hj hr hl => h3 j hj ?_⟩
    unfold rdyb
    exact decide_eq_true ⟨hr, hl⟩
theorem edfp_picks (js : List Job) : zj5 (rel js) (exs js).length (edfp js) := fun left t _ => by
  rw [zd7]
  rcases zj6 js left t with ⟨h, _⟩ | ⟨i, hi, h1, h2, h3, _⟩
  · exact Or.inl h
  · exact Or.inr ⟨i, hi, h1, h2, h3⟩
theorem ze4 (js : List Job) (on : Nat → Bool) : zj5 (rel js) (exs js).length (supp js on) := fun left t hl => by
  unfold supp
  split
  · exact edfp_picks js left t hl
  · exact Or.inl rfl
end Go.Proofs.Ytkdfjomhichkoaa.Jobs
namespace Go.Proofs.Ytkdfjomhichkoaa.Leg
open Go.RowKit Go.Proofs.Ytkdfjomhichkoaa.P Go.Proofs.Ytkdfjomhichkoaa.Base Go.Proofs.Ytkdfjomhichkoaa.Gen Go.Proofs.Ytkdfjomhichkoaa.Alive Go.Proofs.Ytkdfjomhichkoaa.Set Go.Proofs.Ytkdfjomhichkoaa.Tm Go.Proofs.Ytkdfjomhichkoaa.Edf Go.Proofs.Ytkdfjomhichkoaa.Sim Go.Proofs.Ytkdfjomhichkoaa.Jobs Go.Proofs.YtkdfjomhichkoaaW.PrintWords Go.Proofs.YtkdfjomhichkoaaW.PrintLast
theorem zf5 (js : List Job) (k : Int) : ∀ i, (lastOf js i k = none ∧ ∀ p, p < i → (rj js p).f0 ≠ k) ∨ ∃ p, p < i ∧ (rj js p).f0 = k ∧ lastOf js i k = some (rj js p).f1 ∧ ∀ q, p < q → q < i → (rj js q).f0 ≠ k := by
  intro i
  induction i with
  | zero => exact Or.inl ⟨rfl, fun p h => by omega⟩
  | succ i ih =>
    rw [lastOf]
    by_cases h : (jrd js i).f0 = k
    · rw [if_pos h]
      exact Or.inr ⟨i, by omega, h, rfl, fun q h1 h2 => by omega⟩
    · rw [if_neg h]
      have h' : (rj js i).f0 ≠ k := h
      rcases ih with ⟨h1, h2⟩ | ⟨p, h1, h2, h3, h4⟩
      · refine Or.inl ⟨h1, fun p hp => ?_⟩
        by_cases e : p = i
        · subst e; exact h'
        · exact h2 p (by omega)
      · refine Or.inr ⟨p, by omega, h2, h3, fun q h5 h6 => ?_⟩
        by_cases e : q = i
        · subst e; exact h'
        · exact h4 q h5 (by omega)
def Loc (l : List Task) (js : List Job) (i : Nat) : Prop :=
  (0 ≤ (rj js i).f0 ∧ (rj js i).f0 < (l.length : Int)) ∧ (0 ≤ (rj js i).f1 ∧ (rj js i).f1 ≤ 119) ∧ (1 ≤ (rj js i).f3 ∧ (rj js i).f3 ≤ (tk l (rj js i).f0).f0) ∧
    (0 < i → (rj js (i - 1)).f1 < (rj js i).f1 ∨ ((rj js (i - 1)).f1 = (rj js i).f1 ∧ (rj js (i - 1)).f0 < (rj js i).f0))
theorem one_loc {l : List Task} {js : List Job} {i : Nat} (h : One l js i) : Loc l js i := ⟨h.1, h.2.1, h.2.2.1, h.2.2.2.2.1⟩
theorem mono_rel {l : List Task} {js : List Job} {n : Nat} (h : ∀ i, i < n → Loc l js i) : ∀ q p, p ≤ q → q < n → (rj js p).f1 ≤ (rj js q).f1 := by
  intro q
  induction q with
  | zero => intro p hp _; obtain rfl : p = 0 := by omega
            exact Int.le_refl _
  | succ q ih =>
    intro p hp hq
    by_cases e : p = q + 1
    · subst e; exact Int.le_refl _
    · have h1 := ih p (by omega) (by omega)
      have h2 := (h (q + 1) hq).2.2.2 (by omega)
      rw [Nat.add_sub_cancel] at h2
      omega
theorem dist_iff {l : List Task} {js : List Job} {i n : Nat} (hi : i < n) (h : ∀ p, p < n → Loc l js p) :
    (∀ p, p < i → (rj js p).f0 = (rj js i).f0 → (rj js p).f1 + (tk l (rj js i).f0).f2 ≤ (rj js i).f1) ↔ ∀ b, lastOf js i (rj js i).f0 = some b → b + (tk l (rj js i).f0).f2 ≤ (rj js i).f1 := by
  constructor
  · intro hh b hb
    rcases zf5 js (rj js i).f0 i with ⟨h1, _⟩ | ⟨p, h1, h2, h3, _⟩
    · rw [h1] at hb; cases hb
    · rw [h3] at hb
      obtain rfl := Option.some.inj hb
      exact hh p h1 h2
  · intro hh p hp he
    rcases zf5 js (rj js i).f0 i with ⟨_, h2⟩ | ⟨q, h1, h2, h3, h4⟩
    · exact absurd he (h2 p hp)
    · have h5 := hh _ h3
      have h6 : p ≤ q := by
        apply Classical.byContradiction
        intro hc
        exact h4 p (by omega) hp he
      have := mono_rel h q p h6 (by omega)
      omega
theorem tk_ok {l : List Task} (hs : zec l) (k : Int) (h0 : 0 ≤ k) (h1 : k < (l.length : Int)) : 1 ≤ (tk l k).f0 ∧ (tk l k).f0 ≤ 8 ∧ (tk l k).f0 ≤ (tk l k).f1 ∧ (tk l k).f1 ≤ (tk l k).f2 ∧ (tk l k).f2 ≤ 12 := by
  obtain ⟨n, rfl⟩ := Int.eq_ofNat_of_zero_le h0
  have hn : n < l.length := by omega
  rw [tk_at l n hn]
  exact hs.2 _ (List.getElem_mem hn)
theorem zgt {p : Nat → Bool} : ∀ {n : Nat}, allB p n = true ↔ ∀ i, i < n → p i = true := by
  intro n
  constructor
  · exact fun h => zhd h
  · intro h
    cases e : allB p n with
    | true => rfl
    | false =>
      have key : ∀ m, m ≤ n → allB p m = true := by
        intro m
        induction m with
        | zero => intro _; rfl
        | succ m ih => intro hm; rw [allB, ih (by omega), h m (by omega)]; rfl
      rw [key n (Nat.le_refl _)] at e
      cases e
theorem zji (l : List Task) (js : List Job) (i : Nat) : zgj l js i = true ↔ Loc l js i := by
  unfold zgj Loc
  have e : jrd js i = rj js i := rfl
  have e2 : jrd js (i - 1) = rj js (i - 1) := rfl
  rw [Bool.and_eq_true, Bool.and_eq_true, Bool.and_eq_true, Bool.or_eq_true]
  unfold inRng relOk exOk bhd
  simp only [decide_eq_true_eq, Bool.not_eq_true', Bool.or_eq_false_iff, Bool.and_eq_false_iff, decide_eq_false_iff_not, e, e2]
  have e3 : trd l (rj js i).f0 = tk l (rj js i).f0 := rfl
  rw [e3]
  constructor
  · rintro ⟨⟨⟨h1, h2⟩, h3⟩, h4⟩
    refine ⟨by omega, h2, h3, fun h0 => ?_⟩
    rcases h4 with h4 | ⟨h4, h5⟩
    · omega
    · rcases h5 with h5 | h5 <;> omega
  · rintro ⟨h1, h2, h3, h4⟩
    refine ⟨⟨⟨by omega, h2⟩, h3⟩, ?_⟩
    by_cases h0 : i = 0
    · exact Or.inl h0
    · right
      have := h4 (by omega)
      constructor
      · omega
      · by_cases e4 : (rj js (i - 1)).f1 = (rj js i).f1
        · right; omega
        · left; exact e4
theorem zjj {l : List Task} {js : List Job} {i n : Nat} (hs : zec l) (hi : i < n) (h : ∀ p, p < n → Loc l js p) : zhr l js i = true ↔ ∀ b, lastOf js i (rj js i).f0 = some b → b + (tk l (rj js i).f0).f2 ≤ (rj js i).f1 := by
  unfold zhr
  have e : jrd js i = rj js i := rfl
  have e3 : trd l (rj js i).f0 = tk l (rj js i).f0 := rfl
  rw [e, e3]
  have hb := (h i hi).2.1
  have ht := tk_ok hs _ (h i hi).1.1 (h i hi).1.2
  rcases zf5 js (rj js i).f0 i with ⟨h1, _⟩ | ⟨p, h1, _, h3, _⟩
  · rw [h1]
    exact ⟨fun _ b hb => (by cases hb), fun _ => rfl⟩
  · rw [h3]
    have hp := (h p (by omega)).2.1
    simp only [Bool.not_eq_true', decide_eq_false_iff_not]
    rw [w64 (by omega) (by omega)]
    constructor
    · intro h5 b hb
      obtain rfl := Option.some.inj hb
      omega
    · intro h5
      have := h5 _ rfl
      omega
theorem leg_iff {l : List Task} {js : List Job} (hs : zec l) : legB l js = true ↔ JL l js := by
  unfold legB
  by_cases ho : ordB l js = true
  · rw [if_pos ho]
    unfold ordB at ho
    rw [Bool.and_eq_true, decide_eq_true_eq, zgt] at ho
    have hloc : ∀ p, p < js.length → Loc l js p := fun p hp => (zji l js p).1 (ho.1 p hp)
    have hlate : (!(js.any (zjb l))) = true ↔ ∀ i, i < js.length → (rj js i).f2 = (rj js i).f1 + (tk l (rj js i).f0).f1 := by
      rw [Bool.not_eq_true', List.any_eq_false]
      have one : ∀ i, i < js.length → (¬ zjb l (rj js i) = true ↔ (rj js i).f2 = (rj js i).f1 + (tk l (rj js i).f0).f1) := fun i hi => by
        have hb := (hloc i hi).2.1
        have ht := tk_ok hs _ (hloc i hi).1.1 (hloc i hi).1.2
        unfold zjb
        have e3 : trd l (rj js i).f0 = tk l (rj js i).f0 := rfl
        rw [e3, w64 (by omega) (by omega), bne_iff_ne, Ne, Classical.not_not]
      constructor
      · intro hh i hi
        rw [← one i hi, rj_at js i hi]
        exact hh _ (List.getElem_mem hi)
      · intro hh x hx
        obtain ⟨i, hi, rfl⟩ := List.getElem_of_mem hx
        rw [← rj_at js i hi]
        exact (one i hi).2 (hh i hi)
    by_cases hp : spcB l js = true
    · rw [if_pos hp, hlate]
      unfold spcB at hp
      rw [zgt] at hp
      constructor
      · intro hh
        refine ⟨hs, by omega, fun i hi => ⟨(hloc i hi).1, (hloc i hi).2.1, (hloc i hi).2.2.1, hh i hi, (hloc i hi).2.2.2, ?_⟩⟩
        exact (dist_iff hi hloc).2 ((zjj hs hi hloc).1 (hp i hi))
      · intro hh i hi
        exact (hh.2.2 i hi).2.2.2.1
    · rw [if_neg hp]
      constructor
      · intro h; cases h
      · intro hh
        refine absurd ?_ hp
        unfold spcB
        rw [zgt]
        intro i hi
        exact (zjj hs hi hloc).2 ((dist_iff hi hloc).1 (hh.2.2 i hi).2.2.2.2.2)
  · rw [if_neg ho]
    constructor
    · intro h; cases h
    · intro hh
      refine absurd ?_ ho
      unfold ordB
      rw [Bool.and_eq_true, decide_eq_true_eq, zgt]
      exact ⟨fun i hi => (zji l js i).2 (one_loc (hh.2.2 i hi)), by have := hh.2.1; omega⟩
theorem impl_jl (l : List Task) (js : List Job) (hl : l.length ≤ 1000000000) (hj : js.length ≤ 1000000000) : zc6.f l js = some (decide (JL l js)) := by
  unfold zc6.f
  rw [set_f l]
  simp only [Option.bind_some]
  by_cases hs : zec l
  · rw [decide_eq_true hs, if_pos rfl, if_pos ⟨hl, hj⟩]
    congr 1
    rw [Bool.eq_iff_iff, leg_iff hs, decide_eq_true_eq]
  · rw [decide_eq_false hs, if_neg (by simp), decide_eq_false (fun h => hs h.1)]
end Go.Proofs.Ytkdfjomhichkoaa.Leg
namespace Go.Proofs.Ytkdfjomhichkoaa.Tm
open Go.RowKit Go.Proofs.Ytkdfjomhichkoaa.P Go.Proofs.Ytkdfjomhichkoaa.Base Go.Proofs.Ytkdfjomhichkoaa.Gen Go.Proofs.Ytkdfjomhichkoaa.Alive Go.Proofs.Ytkdfjomhichkoaa.Set Go.Proofs.YtkdfjomhichkoaaW.PrintWords Go.Proofs.YtkdfjomhichkoaaW.PrintLast
theorem zjk (l : List Task) (i : Nat) (h : i < l.length) : zbe l (i : Int) = l[i] := by
  unfold zbe
  rw [List.getD_eq_getElem?_getD, Int.toNat_natCast, List.getElem?_eq_getElem h]
  rfl
theorem stv_f (c d p : Int) : zdm.f c d p = some (decide (TV c d p)) := by
  unfold zdm.f
  rw [ze8, ze8, ze8, zgr, zgr]
  by_cases h1 : 1 ≤ c ∧ c ≤ 8
  · by_cases h2 : c ≤ d ∧ d ≤ p
    · rw [if_pos h1, if_pos h2]; simp only [Option.bind_some]; congr 1; rw [decide_eq_decide]; unfold TV; omega
    · rw [if_pos h1, if_neg h2]; congr 1; symm; rw [decide_eq_false_iff_not]; unfold TV; omega
  · rw [if_neg h1]; congr 1; symm; rw [decide_eq_false_iff_not]; unfold TV; omega
theorem sset_ev (l : List Task) (hl : l.length ≤ 2097152) : Ev (fun k => zb0.f k l) (decide (zec l)) := by
  have loop : ∀ d i, i + d = l.length → (∀ j (h : j < l.length), j < i → TVt l[j]) → Ev (fun k => zb0.l0 k l (i : Int)) (decide (zec l)) := by
    intro d
    induction d with
    | zero =>
      intro i hi hm
      have ha : ∀ t ∈ l, TVt t := by
        intro t ht
        obtain ⟨j, hj, rfl⟩ := List.mem_iff_getElem.1 ht
        exact hm j hj (by omega)
      refine Ev.step (f := fun _ => some (decide (zec l))) (fun k => ?_) (Ev.now _)
      simp only [zb0.l0]
      rw [if_neg (by omega)]
      congr 1
      rw [decide_eq_decide]
      unfold zec
      exact ⟨fun h => ⟨by omega, ha⟩, fun h => by omega⟩
    | succ d ih =>
      intro i hi hm
      have hil : i < l.length := by omega
      by_cases hv : TVt l[i]
      · refine Ev.step (fun k => ?_) (ih (i + 1) (by omega) (fun j hj hji => ?_))
        · have hv' : TV l[i].f0 l[i].f1 l[i].f2 := hv
          simp only [zb0.l0]
          rw [if_pos (by omega), if_pos (by omega), zjk l i hil, stv_f, decide_eq_true hv', w64 (by omega) (by omega)]
          rfl
        · by_cases e : j = i
          · subst e; exact hv
          · exact hm j hj (by omega)
      · rw [decide_eq_false (fun h => hv (h.2 _ (List.getElem_mem hil)))]
        have hv' : ¬ TV l[i].f0 l[i].f1 l[i].f2 := hv
        refine Ev.step (f := fun _ => some false) (fun k => ?_) (Ev.now _)
        simp only [zb0.l0]
        rw [if_pos (by omega), if_pos (by omega), zjk l i hil, stv_f, decide_eq_false hv']
        rfl
  exact loop l.length 0 (by omega) (fun j _ h => by omega)
end Go.Proofs.Ytkdfjomhichkoaa.Tm
namespace Go.Proofs.Ytkdfjomhichkoaa.Leg
open Go.RowKit Go.Proofs.Ytkdfjomhichkoaa.P Go.Proofs.Ytkdfjomhichkoaa.Base Go.Proofs.Ytkdfjomhichkoaa.Gen Go.Proofs.Ytkdfjomhichkoaa.Alive Go.Proofs.Ytkdfjomhichkoaa.Set Go.Proofs.Ytkdfjomhichkoaa.Tm Go.Proofs.Ytkdfjomhichkoaa.Edf Go.Proofs.Ytkdfjomhichkoaa.Sim Go.Proofs.Ytkdfjomhichkoaa.Jobs Go.Proofs.YtkdfjomhichkoaaW.PrintWords Go.Proofs.YtkdfjomhichkoaaW.PrintLast
def nx (l : List Task) (js : List Job) (i : Nat) (k : Nat) : Int := match lastOf js i (k : Int) with
  | none => 0
  | some b => b + (tk l (k : Int)).f2
theorem rjI (js : List Job) (i : Nat) : zf js (i : Int) = rj js i := rfl
theorem tkI (l : List Task) (i : Int) : zbe l i = tk l i := rfl
theorem spec_jl (l : List Task) (js : List Job) (hl : l.length ≤ 2097152) (hj : js.length ≤ 2097152) : Ev (fun k => zo.f k l js) (decide (JL l js)) := by
  unfold zo.f
  refine Ev.bind (sset_ev l hl) ?_
  have bad : ¬ JL l js → Ev (fun k => zo.j0 k l js true) (decide (JL l js)) := fun h => by
    rw [decide_eq_false h]
    exact Ev.step (f := fun _ => some false) (fun k => by simp [zo.j0]) (Ev.now _)
  by_cases hs : zec l
  · simp only [decide_eq_true hs, if_true]
    by_cases h60 : js.length ≤ 60
    · have hno : ¬ (js.length : Int) > 60 := by omega
      rw [decide_eq_false hno]
      have hl5 := hs.1
      have loop : ∀ d i (y : List Int), i + d = js.length → (∀ p, p < i → One l js p) → y.length = l.length → (∀ k : Nat, k < l.length → rd y (k : Int) = nx l js i k) → Ev (fun k => zo.l0 k l js y (i : Int)) (decide (JL l js)) := by
        intro d
        induction d with
        | zero =>
          intro i y hi hp _ _
          rw [decide_eq_true (show JL l js from ⟨hs, h60, fun p hpl => hp p (by omega)⟩)]
          refine Ev.step (f := fun _ => some true) (fun k => ?_) (Ev.now _)
          simp only [zo.l0]
          rw [if_neg (by omega)]
        | succ d ih =>
          intro i y hi hp hy hr
          have hil : i < js.length := by omega
          have out : ¬ One l js i → decide (JL l js) = false := fun h => decide_eq_false (fun hh => h (hh.2.2 i hil))
          have no2 : ¬ One l js i → ∀ a b c e, Ev (fun k => zo.j2 k l js y (i : Int) true a b c e) (decide (JL l js)) := fun h a b c e => by
            rw [out h]
            exact Ev.step (f := fun _ => some false) (fun k => by simp [zo.j2]) (Ev.now _)
          have no3 : ¬ One l js i → ∀ a b c e u v z, Ev (fun k => zo.j3 k l js y (i : Int) true a b c e u v z) (decide (JL l js)) := fun h a b c e u v z => by
            rw [out h]
            exact Ev.step (f := fun _ => some false) (fun k => by simp [zo.j3]) (Ev.now _)
          have w1 : wrap64 ((l.length : Int) - 1) = (l.length : Int) - 1 := w64 (by omega) (by omega)
          by_cases h1 : 0 ≤ (rj js i).f0 ∧ (rj js i).f0 ≤ (l.length : Int) - 1
          · by_cases h2 : 0 ≤ (rj js i).f1 ∧ (rj js i).f1 ≤ 119
            · have ht := tk_ok hs (rj js i).f0 h1.1 (by omega)
              obtain ⟨q, hq⟩ : ∃ q : Nat, (rj js i).f0 = (q : Int) := ⟨(rj js i).f0.toNat, by omega⟩
              have hql : q < l.length := by omega
              have hnx := hr q hql
              have hlast := zf5 js (q : Int) i
              have dist : (rj js i).f1 < rd y (q : Int) ↔ ¬ ∀ p, p < i → (rj js p).f0 = (rj js i).f0 → (rj js p).f1 + (tk l (rj js i).f0).f2 ≤ (rj js i).f1 := by
                rw [hnx, hq]
                unfold nx
                rcases hlast with ⟨h3, h4⟩ | ⟨p, h3, h4, h5, h6⟩
                · rw [h3]
                  simp only
                  constructor
                  · intro h7; omega
                  · intro h7
                    exact absurd (fun p hp2 he => absurd he (h4 p hp2)) h7
                · rw [h5]
                  simp only
                  constructor
                  · intro h7 h8
                    have := h8 p h3 h4; omega
                  · intro h7
                    apply Classical.byContradiction
                    intro h8
                    refine h7 (fun p2 hp2 he => ?_)
                    have h9 : p2 ≤ p := by
                      apply Classical.byContradiction
                      intro hc
                      exact h6 p2 (by omega) hp2 he
                    have := mono_rel (l := l) (n := i) (fun a ha => one_loc (hp a ha)) p p2 h9 h3
                    omega
              have step2 : Ev (fun k => zo.j2 k l js y (i : Int) false (rj js i).f0 (rj js i).f1 (rj js i).f2 (rj js i).f3) (decide (JL l js)) := by
                have go : ∀ b : Bool, (b = true → ¬ One l js i) → (b = false → (1 ≤ (rj js i).f3 ∧ (rj js i).f3 ≤ (tk l (rj js i).f0).f0) ∧ (rj js i).f2 = (rj js i).f1 + (tk l (rj js i).f0).f1 ∧ ∀ p, p < i → (rj js p).f0 = (rj js i).f0 → (rj js p).f1 + (tk l (rj js i).f0).f2 ≤ (rj js i).f1) →
                    Ev (fun k => zo.j3 k l js y (i : Int) b (rj js i).f0 (rj js i).f1 (rj js i).f2 (rj js i).f3 (tk l (rj js i).f0).f0 (tk l (rj js i).f0).f1 (tk l (rj js i).f0).f2) (decide (JL l js)) := by
                  intro b hb1 hb2
                  cases b with
                  | true => exact no3 (hb1 rfl) _ _ _ _ _ _ _
                  | false =>
                    obtain ⟨h3, h4, h5⟩ := hb2 rfl
                    have fin : One l js i → Ev (fun k => zo.l0 k l js (y.set q ((rj js i).f1 + (tk l (rj js i).f0).f2)) (wrap64 ((i : Int) + 1))) (decide (JL l js)) := by
                      intro hone
                      rw [show wrap64 ((i : Int) + 1) = ((i + 1 : Nat) : Int) by rw [w64 (by omega) (by omega)]; omega]
                      refine ih (i + 1) _ (by omega) (fun p hp2 => ?_) (by rw [List.length_set]; exact hy) (fun k hk => ?_)
                      · by_cases e : p = i
                        · subst e; exact hone
                        · exact hp p (by omega)
                      · unfold nx
                        rw [lastOf]
                        have ej : jrd js i = rj js i := rfl
                        rw [ej]
                        by_cases e : k = q
                        · subst e
                          rw [zen _ _ _ (by omega), if_pos hq, hq]
                        · rw [zfg _ _ _ _ e, if_neg (by omega), hr k hk]
                          rfl
                    have hset : wrap64 ((rj js i).f1 + (tk l (rj js i).f0).f2) = (rj js i).f1 + (tk l (rj js i).f0).f2 := w64 (by omega) (by omega)
                    have htn : (rj js i).f0.toNat = q := by omega
                    by_cases h0 : i = 0
                    · refine Ev.step (fun k => ?_) (fin ⟨by omega, h2, h3, h4, fun h => by omega, h5⟩)
                      simp only [zo.j3]
                      rw [if_neg (by simp), if_neg (by omega), if_pos (by omega), if_pos (by omega), hset, htn]
                    · have e1 : wrap64 ((i : Int) - 1) = ((i - 1 : Nat) : Int) := by rw [w64 (by omega) (by omega)]; omega
                      by_cases h6 : (rj js (i - 1)).f1 > (rj js i).f1
                      · have hn : ¬ One l js i := fun h => by have := h.2.2.2.2.1 (by omega); omega
                        rw [out hn]
                        refine Ev.step (f := fun _ => some false) (fun k => ?_) (Ev.now _)
                        simp only [zo.j3]
                        rw [if_neg (by simp), if_pos (by omega), e1, if_pos (by omega), if_pos (by omega), rjI, if_pos h6]
                      · by_cases h7 : (rj js (i - 1)).f1 = (rj js i).f1
                        · by_cases h8 : (rj js (i - 1)).f0 ≥ (rj js i).f0
                          · have hn : ¬ One l js i := fun h => by have := h.2.2.2.2.1 (by omega); omega
                            rw [out hn]
                            refine Ev.step (f := fun _ => some false) (fun k => ?_) (Ev.now _)
                            simp only [zo.j3]
                            rw [if_neg (by simp), if_pos (by omega), e1, if_pos (by omega), if_pos (by omega), rjI, if_neg h6, if_pos h7, if_pos h8]
                          · refine Ev.step (fun k => ?_) (fin ⟨by omega, h2, h3, h4, fun _ => Or.inr ⟨h7, by omega⟩, h5⟩)
                            simp only [zo.j3]
                            rw [if_neg (by simp), if_pos (by omega), e1, if_pos (by omega), if_pos (by omega), rjI, if_neg h6, if_pos h7, if_neg h8, if_pos (by omega), if_pos (by omega), hset, htn]
                        · refine Ev.step (fun k => ?_) (fin ⟨by omega, h2, h3, h4, fun _ => Or.inl (by omega), h5⟩)
                          simp only [zo.j3]
                          rw [if_neg (by simp), if_pos (by omega), e1, if_pos (by omega), if_pos (by omega), rjI, if_neg h6, if_neg h7, if_pos (by omega), if_pos (by omega), hset, htn]
                have hwd : wrap64 ((rj js i).f1 + (tk l (rj js i).f0).f1) = (rj js i).f1 + (tk l (rj js i).f0).f1 := w64 (by omega) (by omega)
                by_cases h3 : (rj js i).f1 < rd y (rj js i).f0
                · refine Ev.step (fun k => ?_) (go true (fun _ h => ?_) (fun h => by cases h))
                  · simp only [zo.j2]
                    rw [if_neg (by simp), if_pos (by omega), if_pos (by omega), if_pos (by omega), if_pos h3]
                    rfl
                  · rw [hq] at h3
                    exact dist.1 h3 h.2.2.2.2.2
                · have h3' : ∀ p, p < i → (rj js p).f0 = (rj js i).f0 → (rj js p).f1 + (tk l (rj js i).f0).f2 ≤ (rj js i).f1 := by
                    apply Classical.byContradiction
                    intro hc
                    exact h3 (by rw [hq]; exact dist.2 hc)
                  by_cases h4 : (rj js i).f2 = (rj js i).f1 + (tk l (rj js i).f0).f1
                  · by_cases h5 : 1 ≤ (rj js i).f3 ∧ (rj js i).f3 ≤ (tk l (rj js i).f0).f0
                    · refine Ev.step (fun k => ?_) (go false (fun h => by cases h) (fun _ => ⟨h5, h4, h3'⟩))
                      simp only [zo.j2]
                      rw [if_neg (by simp), if_pos (by omega), if_pos (by omega), if_pos (by omega), if_neg h3, tkI, hwd, if_pos h4, ze8, decide_eq_true h5]
                      rfl
                    · refine Ev.step (fun k => ?_) (go true (fun _ h => h5 h.2.2.1) (fun h => by cases h))
                      simp only [zo.j2]
                      rw [if_neg (by simp), if_pos (by omega), if_pos (by omega), if_pos (by omega), if_neg h3, tkI, hwd, if_pos h4, ze8, decide_eq_false h5]
                      rfl
                  · refine Ev.step (fun k => ?_) (go true (fun _ h => h4 h.2.2.2.1) (fun h => by cases h))
                    simp only [zo.j2]
                    rw [if_neg (by simp), if_pos (by omega), if_pos (by omega), if_pos (by omega), if_neg h3, tkI, hwd, if_neg h4]
              refine Ev.step (fun k => ?_) step2
              simp only [zo.l0]
              rw [if_pos (by omega), if_pos (by omega), rjI, w1, ze8, decide_eq_true h1]
              simp only [Option.bind_some, if_true]
              rw [ze8, decide_eq_true h2]
              rfl
            · refine Ev.step (fun k => ?_) (no2 (fun h => h2 h.2.1) (rj js i).f0 (rj js i).f1 (rj js i).f2 (rj js i).f3)
              simp only [zo.l0]
              rw [if_pos (by omega), if_pos (by omega), rjI, w1, ze8, decide_eq_true h1]
              simp only [Option.bind_some, if_true]
              rw [ze8, decide_eq_false h2]
              rfl
          · refine Ev.step (fun k => ?_) (no2 (fun h => h1 (by have := h.1; omega)) (rj js i).f0 (rj js i).f1 (rj js i).f2 (rj js i).f3)
            simp only [zo.l0]
            rw [if_pos (by omega), if_pos (by omega), rjI, w1, ze8, decide_eq_false h1]
            rfl
      refine Ev.step (fun k => ?_) (loop js.length 0 (List.replicate l.length 0) (by omega) (fun p h => by omega) (by simp) (fun k hk => ?_))
      · simp only [zo.j0]
        rw [if_neg (by simp), if_pos (by omega), if_pos (by rw [Int.toNat_natCast]; omega), Int.toNat_natCast]
        rfl
      · rw [zj0 _ k (by simpa using hk), List.getElem_replicate]
        rfl
    · rw [decide_eq_true (show (js.length : Int) > 60 by omega)]
      exact bad (fun h => h60 h.2.1)
  · simp only [decide_eq_false hs]
    exact bad (fun h => hs h.1)
end Go.Proofs.Ytkdfjomhichkoaa.Leg
namespace Go.Proofs.Ytkdfjomhichkoaa.Nps
open Go.RowKit Go.Proofs.Ytkdfjomhichkoaa.P Go.Proofs.Ytkdfjomhichkoaa.Base Go.Proofs.Ytkdfjomhichkoaa.Gen Go.Proofs.Ytkdfjomhichkoaa.Set Go.Proofs.Ytkdfjomhichkoaa.Edf Go.Proofs.Ytkdfjomhichkoaa.Sim Go.Proofs.Ytkdfjomhichkoaa.Jobs Go.Proofs.YtkdfjomhichkoaaW.PrintWords Go.Proofs.YtkdfjomhichkoaaW.PrintLast
theorem best_bst (ok : Nat → Bool) (key : Nat → Int) : ∀ n, zf0 ok key n = bst ok key n
  | 0 => rfl
  | n + 1 => by rw [zf0, bst, best_bst ok key n]
def sch (js : List Job) (pick : List Int → Nat → Int) : List Int × List Int := ((List.range 120).map (runL pick (exs js)), finL pick (exs js) 120)
section
variable {pick : List Int → Nat → Int} {ex : List Int}
theorem st_idle {t : Nat} (h : runL pick ex t = -1) : stL pick ex (t + 1) = stL pick ex t ∧ finL pick ex (t + 1) = finL pick ex t := by
  have h' : pick (stL pick ex t) t = -1 := h
  constructor
  · rw [stL, h']; rfl
  · rw [finL, h]; rfl
theorem st_run {t i : Nat} (h : runL pick ex t = (i : Int)) (hi : i < ex.length) : stL pick ex (t + 1) = (stL pick ex t).set i (rd (stL pick ex t) (i : Int) - 1) ∧
    finL pick ex (t + 1) = if rd (stL pick ex t) (i : Int) - 1 = 0 then (finL pick ex t).set i ((t : Int) + 1) else finL pick ex t := by
  have h' : pick (stL pick ex t) t = (i : Int) := h
  have e : stL pick ex (t + 1) = (stL pick ex t).set i (rd (stL pick ex t) (i : Int) - 1) := by
    rw [stL, h']
    unfold zj4
    rw [if_neg (by omega), Int.toNat_natCast]
  refine ⟨e, ?_⟩
  rw [finL, h, e, zen _ _ _ (by rw [zfh]; exact hi), Int.toNat_natCast]
  by_cases hz : rd (stL pick ex t) (i : Int) - 1 = 0
  · rw [if_pos ⟨by omega, hz⟩, if_pos hz]
  · rw [if_neg (fun h => hz h.2), if_neg hz]
end
def Agree (js : List Job) (pk : List Int → Int → Int) (pick : List Int → Nat → Int) : Prop :=
  ∀ (dn left : List Int) (t : Nat), dn.length = js.length → left.length = js.length → (∀ i, i < js.length → rd left (i : Int) = rd (exs js) (i : Int) - rd dn (i : Int)) → pk dn (t : Int) = pick left t
theorem sim_rel {js : List Job} {pk : List Int → Int → Int} {pick : List Int → Nat → Int} {rel : Nat → Int} (ha : Agree js pk pick) (hp : zj5 rel js.length pick) (hex : ∀ i, i < js.length → 1 ≤ rd (exs js) (i : Int) ∧ rd (exs js) (i : Int) ≤ 8) : ∀ t,
    (∀ i, i < js.length → rd (stL pick (exs js) t) (i : Int) = rd (exs js) (i : Int) - rd (simT pk js t).1 (i : Int)) ∧ (simT pk js t).2 = finL pick (exs js) t := by
  have hel : (exs js).length = js.length := zd7 js
  have hS := zjh (pick := pick) (ex := exs js) (rel := rel) (by rw [hel]; exact hp) (fun i hi => (hex i (by omega)).1)
  intro t
  induction t with
  | zero =>
    refine ⟨fun i hi => ?_, ?_⟩
    · rw [stL, simT, zj0 (List.replicate js.length 0) i (by simpa using hi), List.getElem_replicate]; omega
    · rw [finL, simT, hel]
  | succ t ih =>
    have hsl := zf1 pk js t
    have hstl : (stL pick (exs js) t).length = js.length := by rw [zfh, hel]
    have hrun : pk (simT pk js t).1 (t : Int) = runL pick (exs js) t := ha _ _ t hsl.1 hstl ih.1
    rcases hp _ t hstl with h | ⟨j, hj, h, _, hpos⟩
    · have h : runL pick (exs js) t = -1 := h
      have e := st_idle h
      rw [e.1, e.2, zi8 (by rw [hrun, h])]
      exact ih
    · have h : runL pick (exs js) t = (j : Int) := h
      have e := st_run h (by rw [hel]; exact hj)
      have hd := ih.1 j hj
      have hx := hex j hj
      have hle := hS.le_ex t j (by rw [hel]; exact hj)
      have hf3 : (jrd js j).f3 = rd (exs js) (j : Int) := (exs_rd js j hj).symm
      have es := zi9 (pk := pk) (js := js) (t := t) (b := j) (by rw [hrun, h]) rfl hf3
      rw [w64 (x := rd (simT pk js t).1 (j : Int) + 1) (by omega) (by omega)] at es
      rw [es, e.1, e.2]
      refine ⟨fun i hi => ?_, ?_⟩
      · by_cases eij : i = j
        · subst eij
          simp only
          rw [zen _ _ _ (by omega), zen _ _ _ (by omega)]; omega
        · simp only
          rw [zfg _ _ _ _ eij, zfg _ _ _ _ eij]
          exact ih.1 i hi
      · simp only
        rw [ih.2]
        by_cases hz : rd (stL pick (exs js) t) (j : Int) - 1 = 0
        · rw [if_pos hz, if_pos (by omega)]
        · rw [if_neg hz, if_neg (by omega)]
theorem sim_sch {js : List Job} {pk : List Int → Int → Int} {pick : List Int → Nat → Int} {rel : Nat → Int} (ha : Agree js pk pick) (hp : zj5 rel js.length pick) (hex : ∀ i, i < js.length → 1 ≤ rd (exs js) (i : Int) ∧ rd (exs js) (i : Int) ≤ 8) : simR pk js = sch js pick := by
  have hr := sim_rel ha hp hex
  unfold simR sch
  rw [(hr 120).2]
  congr 1
  apply List.map_congr_left
  intro t _
  have hsl := zf1 pk js t
  exact ha _ _ t hsl.1 (by rw [zfh, zd7]) (hr t).1
theorem rdy_eq {js : List Job} {dn left : List Int} {t : Nat} {i : Nat} (hi : i < js.length) (h : rd left (i : Int) = rd (exs js) (i : Int) - rd dn (i : Int)) : rdyD js dn (t : Int) i = rdyb js left t i := by
  unfold rdyD rdyb
  rw [exs_rd js i hi] at h
  have e : jrd js i = rj js i := rfl
  rw [e, Bool.eq_iff_iff, Bool.and_eq_true, decide_eq_true_eq, decide_eq_true_eq, decide_eq_true_eq]
  omega
theorem edf_agree (js : List Job) : Agree js (edfD js) (edfp js) := by
  intro dn left t h1 h2 h3
  unfold edfD edfp
  rw [best_bst]
  exact bst_congr (fun i hi => rdy_eq hi (h3 i hi)) (fun i _ => rfl)
theorem exs_bd {l : List Task} {js : List Job} (h : JL l js) : ∀ i, i < js.length → 1 ≤ rd (exs js) (i : Int) ∧ rd (exs js) (i : Int) ≤ 8 := fun i hi => by
  have h1 := h.pos i (by rw [zd7]; exact hi)
  have h2 := h.ex_le i hi
  have h3 := zik h.1 (tki js i) (h.tkm i hi).1
  omega
def keys (js : List Job) : List Int := js.map (fun j => j.f2)
theorem keys_len (js : List Job) : (keys js).length = js.length := by unfold keys; rw [List.length_map]
theorem keys_rd (js : List Job) (i : Nat) (h : i < js.length) : rd (keys js) (i : Int) = dl js i := by
  unfold dl
  rw [zj0 _ i (by rw [keys_len]; exact h), rj_at js i h]
  unfold keys
  rw [List.getElem_map]
theorem rjT (js : List Job) (i : Nat) : zf js (i : Int) = rj js i := rfl
theorem map_take {α β : Type} (f : α → β) (l : List α) (i : Nat) (h : i < l.length) : (l.take (i + 1)).map f = (l.take i).map f ++ [f l[i]] := by
  rw [List.take_succ_eq_append_getElem h, List.map_append]
  rfl
theorem keys_ev (js : List Job) (hn : js.length ≤ 1000) : Ev (fun k => zb3.f k js) (keys js) := by
  have loop : ∀ d i, i + d = js.length → Ev (fun k => zb3.l0 k js ((js.take i).map (fun j => j.f2)) (i : Int)) (keys js) := by
    intro d
    induction d with
    | zero =>
      intro i hi
      refine Ev.step (f := fun _ => some (keys js)) (fun k => ?_) (Ev.now _)
      simp only [zb3.l0]
      rw [if_neg (by omega), List.take_of_length_le (by omega)]
      rfl
    | succ d ih =>
      intro i hi
      have hil : i < js.length := by omega
      refine Ev.step (fun k => ?_) (ih (i + 1) (by omega))
      simp only [zb3.l0]
      rw [if_pos (by omega), if_pos (by omega), if_pos (by rw [List.length_map, List.length_take]; omega), rjT, rj_at js i hil, map_take _ _ _ hil, w64 (by omega) (by omega)]
      rfl
  have := loop js.length 0 (by omega)
  exact this
theorem best_ev (js : List Job) (left : List Int) (t : Nat) (hn : js.length ≤ 1000) (hl : left.length = js.length) : Ev (fun k => zcg.f k js left (keys js) (t : Int)) (edfp js left t) := by
  have hk := keys_len js
  have loop : ∀ d i, i + d = js.length → Ev (fun k => zcg.l0 k js left (keys js) (t : Int) (bst (rdyb js left t) (dl js) i) (i : Int)) (edfp js left t) := by
    intro d
    induction d with
    | zero =>
      intro i hi
      obtain rfl : i = js.length := by omega
      refine Ev.step (f := fun _ => some (edfp js left t)) (fun k => ?_) (Ev.now _)
      simp only [zcg.l0]
      rw [if_neg (by omega)]
      rfl
    | succ d ih =>
      intro i hi
      have hil : i < js.length := by omega
      have hb := bst_sp (rdyb js left t) (dl js) i
      refine Ev.step (fun k => ?_) (ih (i + 1) (by omega))
      simp only [zcg.l0]
      rw [if_pos (by omega), if_pos (by omega), rjT, w64 (by omega) (by omega)]
      have e1 : ((i : Int) + 1) = ((i + 1 : Nat) : Int) := by omega
      rw [e1, bst]
      by_cases h1 : (rj js i).f1 ≤ (t : Int)
      · rw [if_pos h1, if_pos (by omega)]
        by_cases h2 : 0 < rd left (i : Int)
        · have hok : rdyb js left t i = true := by unfold rdyb; exact decide_eq_true ⟨h1, h2⟩
          rw [if_pos (show rd left (i : Int) > 0 from h2)]
          rcases hb with ⟨h3, _⟩ | ⟨b, h3, h4, _⟩
          · rw [h3, if_pos (by omega), if_pos ⟨hok, Or.inl (by omega)⟩]
          · rw [h4, if_neg (by omega), if_pos (by omega), if_pos (by omega), if_pos (by omega), keys_rd js i hil, keys_rd js b (by omega), Int.toNat_natCast]
            by_cases h5 : dl js i < dl js b
            · rw [if_pos h5, if_pos ⟨hok, Or.inr h5⟩]
            · rw [if_neg h5, if_neg (fun h => h.2.elim (fun h6 => by omega) h5)]
        · have hok : rdyb js left t i = false := by unfold rdyb; exact decide_eq_false (fun h => h2 h.2)
          rw [if_neg (show ¬ rd left (i : Int) > 0 from h2), if_neg (fun h => by rw [hok] at h; cases h.1)]
      · have hok : rdyb js left t i = false := by unfold rdyb; exact decide_eq_false (fun h => h1 h.1)
        rw [if_neg h1, if_neg (fun h => by rw [hok] at h; cases h.1)]
  have := loop js.length 0 (by omega)
  exact this
end Go.Proofs.Ytkdfjomhichkoaa.Nps
namespace Go.Proofs.Ytkdfjomhichkoaa.Npr
open Go.RowKit Go.Proofs.Ytkdfjomhichkoaa.P Go.Proofs.Ytkdfjomhichkoaa.Base Go.Proofs.Ytkdfjomhichkoaa.Gen Go.Proofs.Ytkdfjomhichkoaa.Alive Go.Proofs.Ytkdfjomhichkoaa.Set Go.Proofs.Ytkdfjomhichkoaa.Tm Go.Proofs.Ytkdfjomhichkoaa.Edf Go.Proofs.Ytkdfjomhichkoaa.Sim Go.Proofs.Ytkdfjomhichkoaa.Jobs Go.Proofs.Ytkdfjomhichkoaa.Leg Go.Proofs.Ytkdfjomhichkoaa.Nps Go.Proofs.YtkdfjomhichkoaaW.PrintWords Go.Proofs.YtkdfjomhichkoaaW.PrintLast
noncomputable def RN (l : List Task) (js : List Job) : List Int × List Int := if JL l js then sch js (npp js) else ([], [])
theorem sch_len (js : List Job) (pick : List Int → Nat → Int) : (sch js pick).1.length = 120 ∧ (sch js pick).2.length = js.length := by
  unfold sch
  refine ⟨by simp, ?_⟩
  simp only
  rw [zf4, zd7]
end Go.Proofs.Ytkdfjomhichkoaa.Npr
namespace Go.Proofs.Ytkdfjomhichkoaa.Npk
open Go.RowKit Go.Proofs.Ytkdfjomhichkoaa.P Go.Proofs.Ytkdfjomhichkoaa.Base Go.Proofs.Ytkdfjomhichkoaa.Gen Go.Proofs.Ytkdfjomhichkoaa.Alive Go.Proofs.Ytkdfjomhichkoaa.Set Go.Proofs.Ytkdfjomhichkoaa.Tm Go.Proofs.Ytkdfjomhichkoaa.Edf Go.Proofs.Ytkdfjomhichkoaa.Sim Go.Proofs.Ytkdfjomhichkoaa.Jobs Go.Proofs.Ytkdfjomhichkoaa.Leg Go.Proofs.Ytkdfjomhichkoaa.Nps Go.Proofs.Ytkdfjomhichkoaa.Npr Go.Proofs.YtkdfjomhichkoaaW.PrintWords Go.Proofs.YtkdfjomhichkoaaW.PrintLast
theorem met {js : List Job} {pick : List Int → Nat → Int} (hP : zj5 (rel js) (exs js).length pick) (hpos : ∀ i, i < (exs js).length → 1 ≤ rd (exs js) ((i : Nat) : Int)) {i : Nat} (hi : i < (exs js).length) {d : Nat} (h0 : rd (stL pick (exs js) d) (i : Int) = 0) (hd : d ≤ 120) : ∃ f : Nat, f ≤ d ∧ rd (finL pick (exs js) 120) (i : Int) = (f : Int) := by
  have hS := zjh hP hpos
  have hm := hS.mono i hi d 120 hd
  rcases fin_sp hP hpos i hi 120 with ⟨h1, _⟩ | ⟨_, f, h1, h2, h3, h4, h5⟩
  · omega
  · refine ⟨f, ?_, h3⟩
    apply Classical.byContradiction
    intro hn
    have h6 := hS.mono i hi d (f - 1) (by omega)
    rcases hS.rng (f - 1) with h7 | ⟨j, hj, h7, _, h8⟩
    · rw [h5] at h7; omega
    · rw [h5] at h7
      obtain rfl : i = j := by omega
      omega
end Go.Proofs.Ytkdfjomhichkoaa.Npk
namespace Go.Proofs.Ytkdfjomhichkoaa.Tm
open Go.RowKit Go.Proofs.Ytkdfjomhichkoaa.P Go.Proofs.Ytkdfjomhichkoaa.Base Go.Proofs.Ytkdfjomhichkoaa.Gen Go.Proofs.Ytkdfjomhichkoaa.Alive Go.Proofs.Ytkdfjomhichkoaa.Set Go.Proofs.YtkdfjomhichkoaaW.PrintWords Go.Proofs.YtkdfjomhichkoaaW.PrintLast
theorem nmod (a b : Nat) : Int.tmod (a : Int) (b : Int) = ((a % b : Nat) : Int) := by
  rw [tmod_pos (by omega)]; omega
theorem ndiv (a b : Nat) : Int.tdiv (a : Int) (b : Int) = ((a / b : Nat) : Int) := by
  rw [zgs (by omega)]; omega
theorem gcd_step (a b : Nat) : Nat.gcd b (a % b) = Nat.gcd a b := by
  rw [Nat.gcd_comm b (a % b), ← Nat.gcd_rec, Nat.gcd_comm]
theorem gcd_ev : ∀ (b a : Nat), Ev (fun k => zdl.f k (a : Int) (b : Int)) ((Nat.gcd a b : Nat) : Int) := by
  intro b
  induction b using Nat.strongRecOn with
  | ind b ih =>
    intro a
    rcases Nat.eq_zero_or_pos b with rfl | hb
    · refine Ev.step (f := fun _ => some (a : Int)) (fun k => ?_) ?_
      · unfold zdl.f
        simp only [zdl.l0]
        rw [if_pos (by omega)]
      · rw [Nat.gcd_zero_right]; exact Ev.now _
    · have h := ih (a % b) (Nat.mod_lt _ hb) b
      rw [gcd_step] at h
      refine Ev.step (fun k => ?_) h
      unfold zdl.f
      simp only [zdl.l0]
      rw [if_neg (by omega), nmod]
theorem lcm_val {h p : Nat} (h1 : 1 ≤ h) (h2 : h ≤ 27720) (h3 : Nat.lcm h p ≤ 27720) : ((Nat.gcd h p : Nat) : Int) ≠ 0 ∧ wrap64 (wrap64 (Int.tdiv (h : Int) ((Nat.gcd h p : Nat) : Int)) * (p : Int)) = ((Nat.lcm h p : Nat) : Int) := by
  have hg : 0 < Nat.gcd h p := Nat.gcd_pos_of_pos_left _ h1
  refine ⟨by omega, ?_⟩
  have hd := Nat.div_le_self h (Nat.gcd h p)
  have hl := lcm_div h p h1
  rw [ndiv]
  generalize h / Nat.gcd h p = q at hd hl ⊢
  rw [w64 (x := ((q : Nat) : Int)) (by omega) (by omega), ← Int.natCast_mul, hl, w64 (by omega) (by omega)]
theorem lcm_ev {h p : Nat} (h1 : 1 ≤ h) (h2 : h ≤ 27720) (h3 : Nat.lcm h p ≤ 27720) : Ev (fun k => zd9.f k (h : Int) (p : Int)) ((Nat.lcm h p : Nat) : Int) := by
  have hv := lcm_val h1 h2 h3
  unfold zd9.f
  refine Ev.bind (gcd_ev p h) ?_
  rw [if_neg hv.1, hv.2]
  exact Ev.now _
theorem pnat {l : List Task} (hl : AllV l) (i : Nat) (h : i < l.length) : l[i].f2 = ((l[i].f2.toNat : Nat) : Int) := by
  have := hl _ (List.getElem_mem h)
  unfold TVt TV at this
  omega
theorem zgu {l : List Task} (hs : zec l) : Ev (fun k => zb9.f k l) ((hy l : Nat) : Int) := by
  have hl := hs.all
  have hlen := hs.1
  have loop : ∀ d i, i + d = l.length → Ev (fun k => zb9.l0 k ((hy (l.take i) : Nat) : Int) l (l.length : Int) (i : Int)) ((hy l : Nat) : Int) := by
    intro d
    induction d with
    | zero =>
      intro i hi
      refine Ev.step (f := fun _ => some ((hy l : Nat) : Int)) (fun k => ?_) (Ev.now _)
      simp only [zb9.l0]
      rw [if_neg (by omega), List.take_of_length_le (by omega)]
    | succ d ih =>
      intro i hi
      have hil : i < l.length := by omega
      have hb := zij (hl.take i)
      have hb2 := zij (hl.take (i + 1))
      rw [hy_take _ _ hil] at hb2
      refine Ev.step (f := fun k => (zd9.f k ((hy (l.take i) : Nat) : Int) ((l[i].f2.toNat : Nat) : Int)).bind fun t => zb9.l0 k t l (l.length : Int) ((i : Int) + 1)) (fun k => ?_) ?_
      · simp only [zb9.l0]
        rw [if_pos (by omega), if_pos (by omega), if_pos (by omega), zjk l i hil, ← pnat hl i hil, w64 (by omega) (by omega)]
      · refine Ev.bind (lcm_ev hb.1 hb.2 hb2.2) ?_
        rw [← hy_take _ _ hil]
        exact ih (i + 1) (by omega)
  exact loop l.length 0 (by omega)
theorem wk1_bd {l : List Task} (hs : zec l) : ∀ t ∈ l, 0 ≤ (hy l : Int) / t.f2 ∧ (hy l : Int) / t.f2 ≤ 27720 ∧ 0 ≤ (hy l : Int) / t.f2 * t.f0 ∧ (hy l : Int) / t.f2 * t.f0 ≤ 221760 := by
  intro t ht
  have hb := zij hs.all
  have := hs.2 t ht
  unfold TVt TV at this
  have h1 := Int.ediv_nonneg (show 0 ≤ (hy l : Int) by omega) (show 0 ≤ t.f2 by omega)
  have h2 := Int.ediv_le_self t.f2 (show 0 ≤ (hy l : Int) by omega)
  have h3 := zfs (a := (hy l : Int) / t.f2) (b := t.f0) (A := 27720) (B := 8) h1 (by omega) (by omega) (by omega)
  omega
theorem load_ev {l : List Task} (hs : zec l) : Ev (fun k => zcy.f k l) (ld l) := by
  have hl := hs.all
  have hlen := hs.1
  have hb := zij hl
  have h1 := wk1_bd hs
  have loop : ∀ d i, i + d = l.length → Ev (fun k => zcy.l0 k (hy l : Int) (sm (fun t => (hy l : Int) / t.f2 * t.f0) (l.take i)) l (l.length : Int) (i : Int)) (ld l) := by
    intro d
    induction d with
    | zero =>
      intro i hi
      refine Ev.step (f := fun _ => some (ld l)) (fun k => ?_) (Ev.now _)
      simp only [zcy.l0]
      rw [if_neg (by omega), List.take_of_length_le (by omega)]
      rfl
    | succ d ih =>
      intro i hi
      have hil : i < l.length := by omega
      have hi1 := h1 _ (List.getElem_mem hil)
      have hv := hl _ (List.getElem_mem hil)
      unfold TVt TV at hv
      have ht := zj2 (fun t => (hy l : Int) / t.f2 * t.f0) l 221760 (fun a ha => by have := h1 a ha; exact ⟨this.2.2.1, this.2.2.2⟩) i (by omega)
      have IH := ih (i + 1) (by omega)
      rw [zj1 _ _ _ hil] at IH
      refine Ev.step (fun k => ?_) IH
      simp only [zcy.l0]
      rw [if_pos (by omega), if_pos (by omega), if_pos (by omega), zjk l i hil, if_neg (by omega), zgs (by omega), w64 (x := (hy l : Int) / l[i].f2) (by omega) (by omega), w64 (x := (hy l : Int) / l[i].f2 * l[i].f0) (by omega) (by omega), w64 (x := (i : Int) + 1) (by omega) (by omega), w64 (by omega) (by omega)]
      rfl
  unfold zcy.f
  exact Ev.bind (zgu hs) (loop l.length 0 (by omega))
theorem dm_take_bd {l : List Task} (hs : zec l) {t : Int} (h0 : 0 ≤ t) (i : Nat) (hi : i ≤ l.length) : 0 ≤ sm (d1 t) (l.take i) ∧ sm (d1 t) (l.take i) ≤ i * (8 * (t + 1)) :=
  zj2 _ l _ (fun a ha => d1_bd (hs.2 a ha) h0) i hi
theorem d1_val {x : Task} (hx : TVt x) {t : Int} (h0 : 0 ≤ t) (h1 : t ≤ 100000) (h : t ≥ x.f1) : x.f2 ≠ 0 ∧ wrap64 (wrap64 (wrap64 (Int.tdiv (wrap64 (t - x.f1)) x.f2) + 1) * x.f0) = d1 t x := by
  have hb := d1_bd hx h0
  unfold TVt TV at hx
  unfold d1 at hb ⊢
  rw [if_pos h] at hb ⊢
  have h2 := Int.ediv_nonneg (show 0 ≤ t - x.f1 by omega) (show 0 ≤ x.f2 by omega)
  have h3 := Int.ediv_le_self x.f2 (show 0 ≤ t - x.f1 by omega)
  refine ⟨by omega, ?_⟩
  rw [w64 (x := t - x.f1) (by omega) (by omega), zgs (by omega), w64 (x := (t - x.f1) / x.f2) (by omega) (by omega), w64 (x := (t - x.f1) / x.f2 + 1) (by omega) (by omega), w64 (by omega) (by omega)]
theorem demand_ev {l : List Task} (hs : zec l) {t : Int} (h0 : 0 ≤ t) (h1 : t ≤ 100000) : Ev (fun k => zco.f k l t) (dm l t) := by
  have hlen := hs.1
  have loop : ∀ d i, i + d = l.length → Ev (fun k => zco.l0 k t (sm (d1 t) (l.take i)) l (l.length : Int) (i : Int)) (dm l t) := by
    intro d
    induction d with
    | zero =>
      intro i hi
      refine Ev.step (f := fun _ => some (dm l t)) (fun k => ?_) (Ev.now _)
      simp only [zco.l0]
      rw [if_neg (by omega), List.take_of_length_le (by omega)]
      rfl
    | succ d ih =>
      intro i hi
      have hil : i < l.length := by omega
      have hv := hs.2 _ (List.getElem_mem hil)
      have hb := d1_bd hv h0
      have ht := dm_take_bd hs h0 i (by omega)
      have hm : (i : Int) * (8 * (t + 1)) ≤ 5 * (8 * (t + 1)) := Int.mul_le_mul_of_nonneg_right (by omega) (by omega)
      have IH := ih (i + 1) (by omega)
      rw [zj1 _ _ _ hil] at IH
      refine Ev.step (fun k => ?_) IH
      simp only [zco.l0]
      rw [if_pos (by omega), if_pos (by omega), if_pos (by omega), zjk l i hil, w64 (x := (i : Int) + 1) (by omega) (by omega)]
      by_cases h : t ≥ l[i].f1
      · have := d1_val hv h0 h1 h
        rw [if_pos h, if_neg this.1, this.2, w64 (by omega) (by omega)]
        rfl
      · have e : d1 t l[i] = 0 := if_neg h
        rw [if_neg h, e, Int.add_zero]
        rfl
  exact loop l.length 0 (by omega)
end Go.Proofs.Ytkdfjomhichkoaa.Tm
namespace Go.Proofs.Ytkdfjomhichkoaa.Np
open Go.RowKit Go.Proofs.Ytkdfjomhichkoaa.P Go.Proofs.Ytkdfjomhichkoaa.Base Go.Proofs.Ytkdfjomhichkoaa.Gen Go.Proofs.Ytkdfjomhichkoaa.Alive Go.Proofs.Ytkdfjomhichkoaa.Set Go.Proofs.Ytkdfjomhichkoaa.Tm Go.Proofs.YtkdfjomhichkoaaW.PrintWords Go.Proofs.YtkdfjomhichkoaaW.PrintLast
noncomputable instance (p : Prop) : Decidable p := Classical.propDecidable p
def n1 (P t : Int) (y : Task) : Int := if y.f2 < P then (t - 1) / y.f2 * y.f0 else 0
def np1 (l : List Task) (x : Task) (t : Int) : Int := x.f0 + sm (n1 x.f2 t) l
def NP (l : List Task) : Prop := Impl l ∧ ld l ≤ hy l ∧ ∀ x ∈ l, ∀ t : Int, (∃ y ∈ l, y.f2 < t) → t < x.f2 → np1 l x t ≤ t
noncomputable instance (l : List Task) : Decidable (NP l) := Classical.propDecidable _
end Go.Proofs.Ytkdfjomhichkoaa.Np
namespace Go.Proofs.Ytkdfjomhichkoaa.Sup
open Go.RowKit Go.Proofs.Ytkdfjomhichkoaa.P Go.Proofs.Ytkdfjomhichkoaa.Base Go.Proofs.YtkdfjomhichkoaaW.PrintWords Go.Proofs.YtkdfjomhichkoaaW.PrintLast
def SV (b p : Int) : Prop := 1 ≤ b ∧ b ≤ p ∧ p ≤ 12
instance (b p : Int) : Decidable (SV b p) := by unfold SV; infer_instance
theorem sv_f (b p : Int) : zcd.f b p = some (decide (SV b p)) := by
  unfold zcd.f
  rw [in_f]; simp only [Option.bind_some]
  rw [and_two]
  congr 1; rw [decide_eq_decide]; unfold SV; omega
theorem ssv_f (b p : Int) : zcr.f b p = some (decide (SV b p)) := by
  unfold zcr.f
  rw [ze8, ze8]; simp only [Option.bind_some]
  rw [and_two]
  congr 1; rw [decide_eq_decide]; unfold SV; omega
def sb (b p t : Int) : Int := if t - (p - b) < 0 then 0 else (t - (p - b)) / p * b + max 0 (min b (t - (p - b) - (t - (p - b)) / p * p - (p - b)))
theorem div_bd {x p : Int} (h0 : 0 ≤ x) (hp : 1 ≤ p) : 0 ≤ x / p ∧ x / p ≤ x ∧ x / p * p ≤ x ∧ x < x / p * p + p := by
  have h1 := Int.ediv_nonneg h0 (show 0 ≤ p by omega)
  have h2 := Int.ediv_le_self p h0
  have h3 := Int.mul_ediv_add_emod x p
  have h4 := Int.emod_nonneg x (show p ≠ 0 by omega)
  have h5 := Int.emod_lt_of_pos x (show 0 < p by omega)
  rw [Int.mul_comm] at h3
  omega
end Go.Proofs.Ytkdfjomhichkoaa.Sup
namespace Go.Proofs.Ytkdfjomhichkoaa.Pat
open Go.RowKit Go.Proofs.Ytkdfjomhichkoaa.P Go.Proofs.Ytkdfjomhichkoaa.Base Go.Proofs.Ytkdfjomhichkoaa.Sup Go.Proofs.Ytkdfjomhichkoaa.Gen Go.Proofs.YtkdfjomhichkoaaW.PrintWords Go.Proofs.YtkdfjomhichkoaaW.PrintLast
def cnt (l : List Bool) (a n : Nat) : Nat := ((l.drop a).take n).countP (fun b => b)
theorem zgv (l : List Bool) (a : Nat) : cnt l a 0 = 0 := by simp [cnt]
theorem zil (l : List Bool) (a n : Nat) (h : a + n < l.length) : cnt l a (n + 1) = cnt l a n + if l[a + n] = true then 1 else 0 := by
  unfold cnt
  rw [List.take_succ_eq_append_getElem (by simp; omega), List.countP_append, List.getElem_drop]
  by_cases hb : l[a + n] = true <;> simp [hb]
theorem cnt_le (l : List Bool) (a n : Nat) : cnt l a n ≤ n := by
  unfold cnt
  exact Nat.le_trans (List.countP_le_length) (List.length_take_le _ _)
def rest (b p : Nat) (l : List Bool) (q : Nat) : Prop := ∀ j : Nat, q ≤ j → j < 121 → (j + 1) * p ≤ 120 → cnt l (j * p) p = b
instance (b p : Nat) (l : List Bool) (q : Nat) : Decidable (rest b p l q) := by
  unfold rest
  exact decidable_of_iff (∀ j : Nat, j < 121 → q ≤ j → (j + 1) * p ≤ 120 → cnt l (j * p) p = b) ⟨fun h j h1 h2 h3 => h j h2 h1 h3, fun h j h1 h2 h3 => h j h2 h1 h3⟩
theorem rest_no {b p : Nat} {l : List Bool} {q : Nat} (h : 120 < (q + 1) * p) : rest b p l q := by
  intro j h1 _ h3
  have : (q + 1) * p ≤ (j + 1) * p := Nat.mul_le_mul_right _ (by omega)
  omega
theorem zf6 {b p : Nat} {l : List Bool} {q : Nat} (hp : 1 ≤ p) (h : (q + 1) * p ≤ 120) : rest b p l q ↔ cnt l (q * p) p = b ∧ rest b p l (q + 1) := by
  have hq : q < 121 := by
    have : (q + 1) * 1 ≤ (q + 1) * p := Nat.mul_le_mul_left _ hp
    omega
  constructor
  · intro hr
    exact ⟨hr q (Nat.le_refl q) hq h, fun j h1 h2 h3 => hr j (by omega) h2 h3⟩
  · rintro ⟨h1, h2⟩ j h3 h4 h5
    rcases Nat.lt_or_ge q j with hj | hj
    · exact h2 j (by omega) h4 h5
    · obtain rfl : j = q := by omega
      exact h1
section
variable (b p : Nat) (l : List Bool) (hl : l.length = 120) (hp : 1 ≤ p) (hp2 : p ≤ 12)
include hl hp hp2
theorem spec_l1 (q : Nat) (hq : (q + 1) * p ≤ 120) (R : Bool) (hR : cnt l (q * p) p = b → Ev (fun k => zz.l0 k l ((q : Int) * p + p) b p) R) (hN : cnt l (q * p) p ≠ b → R = false) :
    ∀ d (j : Nat), j + d = p → Ev (fun k => zz.l1 k l ((q : Int) * p) (cnt l (q * p) j : Int) (j : Int) b p) R := by
  have hqq : q * p + p ≤ 120 := by rw [← Nat.succ_mul]; exact hq
  have ec : ((q * p : Nat) : Int) = (q : Int) * p := by push_cast; rfl
  have hb0 : (0 : Int) ≤ (q : Int) * p := by omega
  intro d
  induction d with
  | zero =>
    intro j hj
    obtain rfl : j = p := by omega
    by_cases hc : cnt l (q * j) j = b
    · refine Ev.step (f := fun k => zz.l0 k l ((q : Int) * j + j) b j) (fun k => ?_) (hR hc)
      simp only [zz.l1]
      rw [if_neg (by omega), if_pos (by omega), w64 (by omega) (by omega)]
    · refine Ev.step (f := fun _ => some false) (fun k => ?_) (by rw [hN hc]; exact Ev.now _)
      simp only [zz.l1]
      rw [if_neg (by omega), if_neg (by omega)]
  | succ d ih =>
    intro j hj
    have hcl := cnt_le l (q * p) j
    have hs := zil l (q * p) j (by omega)
    refine Ev.step (f := fun k => zz.l1 k l ((q : Int) * p) (cnt l (q * p) (j + 1) : Int) ((j + 1 : Nat) : Int) b p) (fun k => ?_) (ih (j + 1) (by omega))
    simp only [zz.l1]
    rw [if_pos (by omega), w64 (x := (q : Int) * p + j) (by omega) (by omega), if_pos (by omega), if_pos (by omega)]
    rw [show (q : Int) * p + j = ((q * p + j : Nat) : Int) by push_cast; rfl, zjz _ _ _ (by omega), w64 (x := (j : Int) + 1) (by omega) (by omega), w64 (x := (cnt l (q * p) j : Int) + 1) (by omega) (by omega)]
    by_cases hb : l[q * p + j] = true
    · rw [if_pos hb] at hs ⊢
      rw [hs]; push_cast; rfl
    · rw [if_neg hb] at hs ⊢
      rw [hs]; push_cast; rfl
theorem impl_l1 (q : Nat) (hq : (q + 1) * p ≤ 120) (R : Bool) (hR : cnt l (q * p) p = b → Ev (fun k => z8.l0 k l ((q : Int) * p + p) b p) R) (hN : cnt l (q * p) p ≠ b → R = false) :
    ∀ d (j : Nat), j + d = p → Ev (fun k => z8.l1 k l ((q : Int) * p) (cnt l (q * p) j : Int) ((l.take (q * p + p)).drop (q * p)) (p : Int) (j : Int) b p) R := by
  have hqq : q * p + p ≤ 120 := by rw [← Nat.succ_mul]; exact hq
  have hb0 : (0 : Int) ≤ (q : Int) * p := by omega
  have ec : ((q * p : Nat) : Int) = (q : Int) * p := by push_cast; rfl
  intro d
  induction d with
  | zero =>
    intro j hj
    obtain rfl : j = p := by omega
    by_cases hc : cnt l (q * j) j = b
    · refine Ev.step (f := fun k => z8.l0 k l ((q : Int) * j + j) b j) (fun k => ?_) (hR hc)
      simp only [z8.l1]
      rw [if_neg (by omega), if_pos (by omega), w64 (by omega) (by omega)]
    · refine Ev.step (f := fun _ => some false) (fun k => ?_) (by rw [hN hc]; exact Ev.now _)
      simp only [z8.l1]
      rw [if_neg (by omega), if_neg (by omega)]
  | succ d ih =>
    intro j hj
    have hcl := cnt_le l (q * p) j
    have hs := zil l (q * p) j (by omega)
    have hll : ((l.take (q * p + p)).drop (q * p)).length = p := by simp; omega
    refine Ev.step (f := fun k => z8.l1 k l ((q : Int) * p) (cnt l (q * p) (j + 1) : Int) ((l.take (q * p + p)).drop (q * p)) (p : Int) ((j + 1 : Nat) : Int) b p) (fun k => ?_) (ih (j + 1) (by omega))
    simp only [z8.l1]
    rw [if_pos (by omega), if_pos (by omega), if_pos (by omega)]
    rw [zjz _ _ _ (by omega), w64 (x := (j : Int) + 1) (by omega) (by omega), w64 (x := (cnt l (q * p) j : Int) + 1) (by omega) (by omega)]
    rw [List.getElem_drop, List.getElem_take]
    by_cases hb : l[q * p + j] = true
    · rw [if_pos hb] at hs ⊢
      rw [hs]; push_cast; rfl
    · rw [if_neg hb] at hs ⊢
      rw [hs]; push_cast; rfl
theorem spec_l0 : ∀ d (q : Nat), q + d = 121 → Ev (fun k => zz.l0 k l ((q : Int) * p) b p) (decide (rest b p l q)) := by
  intro d
  induction d with
  | zero =>
    intro q hq
    obtain rfl : q = 121 := by omega
    have hr : rest b p l 121 := fun j h1 h2 h3 => absurd h2 (by omega)
    refine Ev.step (f := fun _ => some true) (fun k => ?_) (by simp only [hr, decide_true]; exact Ev.now _)
    simp only [zz.l0]
    rw [w64 (by omega) (by omega), if_neg (by omega)]
  | succ d ih =>
    intro q hq
    have hb1 : (q : Int) * p ≤ 121 * 12 := (zfs (by omega) (by omega) (by omega) (by omega)).2
    have hb0 : (0 : Int) ≤ (q : Int) * p := (zfs (A := 121) (B := 12) (by omega) (by omega) (by omega) (by omega)).1
    have e1 : (((q + 1) * p : Nat) : Int) = (q : Int) * p + p := by push_cast; rw [Int.add_mul, Int.one_mul]
    by_cases h : (q + 1) * p ≤ 120
    · have hi := ih (q + 1) (by omega)
      rw [show (((q + 1 : Nat) : Int) * p) = (q : Int) * p + p by rw [← e1]; push_cast; rfl] at hi
      have h0 := spec_l1 b p l hl hp hp2 q h (decide (rest b p l q)) (fun hc => by
        have : decide (rest b p l q) = decide (rest b p l (q + 1)) := by rw [decide_eq_decide, zf6 hp h]; exact ⟨fun h => h.2, fun h => ⟨hc, h⟩⟩
        rw [this]; exact hi) (fun hc => by simp only [decide_eq_false_iff_not, zf6 hp h]; exact fun h => hc h.1) p 0 (by omega)
      rw [zgv] at h0
      refine Ev.step (fun k => ?_) h0
      simp only [zz.l0]
      rw [w64 (by omega) (by omega), if_pos (by omega)]
      rfl
    · have hr : rest b p l q := rest_no (by omega)
      refine Ev.step (f := fun _ => some true) (fun k => ?_) (by simp only [hr, decide_true]; exact Ev.now _)
      simp only [zz.l0]
      rw [w64 (by omega) (by omega), if_neg (by omega)]
theorem impl_l0 : ∀ d (q : Nat), q + d = 121 → Ev (fun k => z8.l0 k l ((q : Int) * p) b p) (decide (rest b p l q)) := by
  intro d
  induction d with
  | zero =>
    intro q hq
    obtain rfl : q = 121 := by omega
    have hr : rest b p l 121 := fun j h1 h2 h3 => absurd h2 (by omega)
    refine Ev.step (f := fun _ => some true) (fun k => ?_) (by simp only [hr, decide_true]; exact Ev.now _)
    simp only [z8.l0]
    rw [w64 (by omega) (by omega), if_neg (by omega)]
  | succ d ih =>
    intro q hq
    have hb1 : (q : Int) * p ≤ 121 * 12 := (zfs (by omega) (by omega) (by omega) (by omega)).2
    have hb0 : (0 : Int) ≤ (q : Int) * p := (zfs (A := 121) (B := 12) (by omega) (by omega) (by omega) (by omega)).1
    have e1 : (((q + 1) * p : Nat) : Int) = (q : Int) * p + p := by push_cast; rw [Int.add_mul, Int.one_mul]
    by_cases h : (q + 1) * p ≤ 120
    · have hi := ih (q + 1) (by omega)
      rw [show (((q + 1 : Nat) : Int) * p) = (q : Int) * p + p by rw [← e1]; push_cast; rfl] at hi
      have h0 := impl_l1 b p l hl hp hp2 q h (decide (rest b p l q)) (fun hc => by
        have : decide (rest b p l q) = decide (rest b p l (q + 1)) := by rw [decide_eq_decide, zf6 hp h]; exact ⟨fun h => h.2, fun h => ⟨hc, h⟩⟩
        rw [this]; exact hi) (fun hc => by simp only [decide_eq_false_iff_not, zf6 hp h]; exact fun h => hc h.1) p 0 (by omega)
      rw [zgv] at h0
      refine Ev.step (fun k => ?_) h0
      have hqq : q * p + p ≤ 120 := by rw [← Nat.succ_mul]; exact h
      have ec : ((q * p : Nat) : Int) = (q : Int) * p := by push_cast; rfl
      have et : ((q : Int) * p + p).toNat = q * p + p := by omega
      have et2 : ((q : Int) * p).toNat = q * p := by omega
      simp only [z8.l0]
      rw [w64 (by omega) (by omega), if_pos (by omega), if_pos (by omega), if_pos (by omega), if_pos (by omega), et, et2]
      have hll : ((l.take (q * p + p)).drop (q * p)).length = p := by simp; omega
      rw [hll]
      rfl
    · have hr : rest b p l q := rest_no (by omega)
      refine Ev.step (f := fun _ => some true) (fun k => ?_) (by simp only [hr, decide_true]; exact Ev.now _)
      simp only [z8.l0]
      rw [w64 (by omega) (by omega), if_neg (by omega)]
end
def PV (b p : Int) (l : List Bool) : Prop := SV b p ∧ l.length = 120 ∧ rest b.toNat p.toNat l 0
instance (b p : Int) (l : List Bool) : Decidable (PV b p l) := by unfold PV; infer_instance
theorem spec_pat (b p : Int) (l : List Bool) : Ev (fun k => zz.f k b p l) (decide (PV b p l)) := by
  by_cases h1 : SV b p
  · have h1' := h1
    unfold SV at h1'
    by_cases h2 : l.length = 120
    · have h := spec_l0 b.toNat p.toNat l h2 (by omega) (by omega) 121 0 (by omega)
      have e : decide (PV b p l) = decide (rest b.toNat p.toNat l 0) := by rw [decide_eq_decide]; exact ⟨fun h => h.2.2, fun h => ⟨h1, h2, h⟩⟩
      rw [e]
      have eb : ((b.toNat : Nat) : Int) = b := by omega
      have ep : ((p.toNat : Nat) : Int) = p := by omega
      rw [eb, ep] at h
      have hs : Ev (fun k => zz.j0 k l ((l.length : Int) != 120) b p) (decide (rest b.toNat p.toNat l 0)) := by
        refine Ev.step (f := fun k => zz.l0 k l (((0 : Nat) : Int) * p) b p) (fun k => ?_) h
        simp only [zz.j0]
        rw [if_neg (by simp [h2])]
        simp
      refine Ev.congr (fun k => ?_) hs
      unfold zz.f
      rw [ssv_f]
      simp only [Option.bind_some, h1, decide_true, if_true]
    · have e : decide (PV b p l) = false := by rw [decide_eq_false_iff_not]; exact fun h => h2 h.2.1
      rw [e]
      have hs : Ev (fun k => zz.j0 k l ((l.length : Int) != 120) b p) false := by
        refine Ev.step (f := fun _ => some false) (fun k => ?_) (Ev.now _)
        simp only [zz.j0]
        rw [if_pos (by simp; omega)]
      refine Ev.congr (fun k => ?_) hs
      unfold zz.f
      rw [ssv_f]
      simp only [Option.bind_some, h1, decide_true, if_true]
  · have e : decide (PV b p l) = false := by rw [decide_eq_false_iff_not]; exact fun h => h1 h.1
    rw [e]
    have hs : Ev (fun k => zz.j0 k l true b p) false := Ev.step (f := fun _ => some false) (fun k => by simp [zz.j0]) (Ev.now _)
    refine Ev.congr (fun k => ?_) hs
    unfold zz.f
    rw [ssv_f]
    simp [h1]
theorem impl_pat (b p : Int) (l : List Bool) : Ev (fun k => z8.f k b p l) (decide (PV b p l)) := by
  by_cases h1 : SV b p
  · have h1' := h1
    unfold SV at h1'
    by_cases h2 : l.length = 120
    · have h := impl_l0 b.toNat p.toNat l h2 (by omega) (by omega) 121 0 (by omega)
      have e : decide (PV b p l) = decide (rest b.toNat p.toNat l 0) := by rw [decide_eq_decide]; exact ⟨fun h => h.2.2, fun h => ⟨h1, h2, h⟩⟩
      rw [e]
      have eb : ((b.toNat : Nat) : Int) = b := by omega
      have ep : ((p.toNat : Nat) : Int) = p := by omega
      rw [eb, ep] at h
      have hs : Ev (fun k => z8.j0 k l ((l.length : Int) != 120) b p) (decide (rest b.toNat p.toNat l 0)) := by
        refine Ev.step (f := fun k => z8.l0 k l (((0 : Nat) : Int) * p) b p) (fun k => ?_) h
        simp only [z8.j0]
        rw [if_neg (by simp [h2])]
        simp
      refine Ev.congr (fun k => ?_) hs
      unfold z8.f
      rw [sv_f]
      simp only [Option.bind_some, h1, decide_true, if_true]
    · have e : decide (PV b p l) = false := by rw [decide_eq_false_iff_not]; exact fun h => h2 h.2.1
      rw [e]
      have hs : Ev (fun k => z8.j0 k l ((l.length : Int) != 120) b p) false := by
        refine Ev.step (f := fun _ => some false) (fun k => ?_) (Ev.now _)
        simp only [z8.j0]
        rw [if_pos (by simp; omega)]
      refine Ev.congr (fun k => ?_) hs
      unfold z8.f
      rw [sv_f]
      simp only [Option.bind_some, h1, decide_true, if_true]
  · have e : decide (PV b p l) = false := by rw [decide_eq_false_iff_not]; exact fun h => h1 h.1
    rw [e]
    have hs : Ev (fun k => z8.j0 k l true b p) false := Ev.step (f := fun _ => some false) (fun k => by simp [z8.j0]) (Ev.now _)
    refine Ev.congr (fun k => ?_) hs
    unfold z8.f
    rw [sv_f]
    simp [h1]
end Go.Proofs.Ytkdfjomhichkoaa.Pat
namespace Go.Proofs.Ytkdfjomhichkoaa.Rs
open Go.RowKit Go.Proofs.Ytkdfjomhichkoaa.P Go.Proofs.Ytkdfjomhichkoaa.Base Go.Proofs.Ytkdfjomhichkoaa.Gen Go.Proofs.Ytkdfjomhichkoaa.Alive Go.Proofs.Ytkdfjomhichkoaa.Set Go.Proofs.Ytkdfjomhichkoaa.Tm Go.Proofs.Ytkdfjomhichkoaa.Sup Go.Proofs.Ytkdfjomhichkoaa.Pat Go.Proofs.Ytkdfjomhichkoaa.Edf Go.Proofs.Ytkdfjomhichkoaa.Sim Go.Proofs.Ytkdfjomhichkoaa.Jobs Go.Proofs.Ytkdfjomhichkoaa.Leg Go.Proofs.Ytkdfjomhichkoaa.Nps Go.Proofs.Ytkdfjomhichkoaa.Npr Go.Proofs.YtkdfjomhichkoaaW.PrintWords Go.Proofs.YtkdfjomhichkoaaW.PrintLast
def onb (pat : List Bool) (t : Nat) : Bool := rdOf false pat (t : Int)
noncomputable def RS (l : List Task) (js : List Job) (b p : Int) (pat : List Bool) : List Int × List Int := if PV b p pat ∧ JL l js then sch js (supp js (onb pat)) else ([], [])
theorem pau_agree (js : List Job) (tk : Int → Bool) (on : Nat → Bool) (h : ∀ t : Nat, tk (t : Int) = !(on t)) : Agree js (pauD js tk) (supp js on) := by
  intro dn left t h1 h2 h3
  unfold pauD supp
  rw [h t, edf_agree js dn left t h1 h2 h3]
  cases on t <;> simp
theorem impl_rs (l : List Task) (js : List Job) (b p : Int) (pat : List Bool) (hl : l.length ≤ 2097152) (hj : js.length ≤ 2097152) : Ev (fun k => zc7.f k l js b p pat) (RS l js b p pat) := by
  unfold zc7.f RS
  refine Ev.bind (impl_pat b p pat) ?_
  by_cases hp : PV b p pat
  · simp only [decide_eq_true hp, if_true]
    rw [impl_jl l js (by omega) (by omega)]
    simp only [Option.bind_some]
    by_cases h : JL l js
    · have hpl := hp.2.1
      have e := sim_sch (pau_agree js (fun t => !(rdOf false pat t)) (onb pat) (fun t => rfl)) (by have := ze4 js (onb pat); rwa [zd7] at this) (exs_bd h)
      rw [if_pos (⟨hp, h⟩ : PV b p pat ∧ JL l js)]
      refine Ev.congr (fun k => ?_) (Ev.now _)
      rw [decide_eq_true h, if_pos rfl, if_pos (by have := h.2.1; omega), e]
    · rw [if_neg (show ¬ (PV b p pat ∧ JL l js) from fun hh => h hh.2)]
      refine Ev.congr (fun k => ?_) (Ev.now _)
      rw [decide_eq_false h, if_neg (by simp)]
  · simp only [decide_eq_false hp]
    rw [if_neg (show ¬ (PV b p pat ∧ JL l js) from fun hh => hp hh.1)]
    exact Ev.step (fun k => by rw [if_neg (by simp)]) (Ev.now _)
theorem zjl {l : List Task} {js : List Job} {pat : List Bool} (hl : JL l js) (hpl : pat.length = 120) : Ev (fun k => zba.l0 k js pat [] (keys js) 0 []) (sch js (supp js (onb pat))) := by
  have h60 := hl.2.1
  have hS := zjh (ze4 js (onb pat)) hl.pos
  have ticks : ∀ d t : Nat, t + d = 120 → Ev (fun k => zba.l1 k js pat (stL (supp js (onb pat)) (exs js) t) (keys js) (t : Int) ((List.range t).map (runL (supp js (onb pat)) (exs js))) (finL (supp js (onb pat)) (exs js) t)) (sch js (supp js (onb pat))) := by
    intro d
    induction d with
    | zero =>
      intro t ht
      obtain rfl : t = 120 := by omega
      refine Ev.step (f := fun _ => some (sch js (supp js (onb pat)))) (fun k => ?_) (Ev.now _)
      simp only [zba.l1]
      rw [if_neg (by omega)]
      rfl
    | succ d ih =>
      intro t ht
      have hst : (stL (supp js (onb pat)) (exs js) t).length = js.length := by rw [zfh, zd7]
      have hfl : (finL (supp js (onb pat)) (exs js) t).length = js.length := by rw [zf4, zd7]
      have hw : wrap64 ((t : Int) + 1) = ((t + 1 : Nat) : Int) := by rw [w64 (by omega) (by omega)]; omega
      have hrange : (List.range (t + 1)).map (runL (supp js (onb pat)) (exs js)) = (List.range t).map (runL (supp js (onb pat)) (exs js)) ++ [runL (supp js (onb pat)) (exs js) t] := by rw [List.range_succ, List.map_append]; rfl
      have body : Ev (fun k => zba.j3 k js pat (stL (supp js (onb pat)) (exs js) t) (keys js) (t : Int) (runL (supp js (onb pat)) (exs js) t) ((List.range t).map (runL (supp js (onb pat)) (exs js))) (finL (supp js (onb pat)) (exs js) t)) (sch js (supp js (onb pat))) := by
        have hp := ze4 js (onb pat) (stL (supp js (onb pat)) (exs js) t) t (zfh t)
        rw [zd7] at hp
        rcases hp with hr | ⟨i, hi, hr, hrel, hliv⟩
        · have hr : runL (supp js (onb pat)) (exs js) t = -1 := hr
          have e := st_idle hr
          refine Ev.step (fun k => ?_) (ih (t + 1) (by omega))
          simp only [zba.j3]
          rw [if_pos (by rw [List.length_map, List.length_range]; omega), Option.bind_some, hr, if_neg (by omega), hw, e.1, e.2, hrange, hr]
        · have hr : runL (supp js (onb pat)) (exs js) t = (i : Int) := hr
          have e := st_run hr (by rw [zd7]; exact hi)
          have hle := hS.le_ex t i (by rw [zd7]; exact hi)
          have hxb := exs_bd hl i hi
          have hw2 : wrap64 (rd (stL (supp js (onb pat)) (exs js) t) (i : Int) - 1) = rd (stL (supp js (onb pat)) (exs js) t) (i : Int) - 1 := w64 (by omega) (by omega)
          by_cases hz : rd (stL (supp js (onb pat)) (exs js) t) (i : Int) - 1 = 0
          · refine Ev.step (fun k => ?_) (ih (t + 1) (by omega))
            simp only [zba.j3]
            rw [if_pos (by rw [List.length_map, List.length_range]; omega), Option.bind_some, hr, if_pos (by omega), if_pos (by omega), if_pos (by omega), Option.bind_some, hw2, Int.toNat_natCast, zen _ _ _ (by omega), if_pos hz, if_pos (by omega), hw, e.1, e.2, if_pos hz, hrange, hr]
            rfl
          · refine Ev.step (fun k => ?_) (ih (t + 1) (by omega))
            simp only [zba.j3]
            rw [if_pos (by rw [List.length_map, List.length_range]; omega), Option.bind_some, hr, if_pos (by omega), if_pos (by omega), if_pos (by omega), Option.bind_some, hw2, Int.toNat_natCast, zen _ _ _ (by omega), if_neg hz, hw, e.1, e.2, if_neg hz, hrange, hr]
      by_cases hon : onb pat t = true
      · have hb := best_ev js (stL (supp js (onb pat)) (exs js) t) t (by omega) hst
        have hpk : runL (supp js (onb pat)) (exs js) t = edfp js (stL (supp js (onb pat)) (exs js) t) t := by
          show supp js (onb pat) (stL (supp js (onb pat)) (exs js) t) t = _
          conv => lhs; unfold supp
          rw [if_pos hon]
          rfl
        rw [← hpk] at hb
        refine Ev.step (f := fun k => (zcg.f k js (stL (supp js (onb pat)) (exs js) t) (keys js) (t : Int)).bind fun t608 => (zba.j3 k js pat (stL (supp js (onb pat)) (exs js) t) (keys js) (t : Int) t608 ((List.range t).map (runL (supp js (onb pat)) (exs js))) (finL (supp js (onb pat)) (exs js) t))) (fun k => ?_) (Ev.bind hb body)
        simp only [zba.l1]
        rw [if_pos (by omega), if_pos (by omega), if_pos (by omega), if_pos (show rdOf false pat (t : Int) = true from hon)]
      · have hpk : runL (supp js (onb pat)) (exs js) t = -1 := by
          show supp js (onb pat) (stL (supp js (onb pat)) (exs js) t) t = _
          conv => lhs; unfold supp
          rw [if_neg hon]
        have body2 := body
        rw [hpk] at body2
        refine Ev.step (fun k => ?_) body2
        simp only [zba.l1]
        rw [if_pos (by omega), if_pos (by omega), if_pos (by omega), if_neg (show ¬ rdOf false pat (t : Int) = true from hon)]
  have build : ∀ d i : Nat, i + d = js.length → Ev (fun k => zba.l0 k js pat ((js.take i).map (fun j => j.f3)) (keys js) (i : Int) (List.replicate i (-1))) (sch js (supp js (onb pat))) := by
    intro d
    induction d with
    | zero =>
      intro i hi
      obtain rfl : i = js.length := by omega
      refine Ev.step (fun k => ?_) (ticks 120 0 (by omega))
      simp only [zba.l0]
      rw [if_neg (by omega), List.take_of_length_le (Nat.le_refl _)]
      have e : finL (supp js (onb pat)) (exs js) 0 = List.replicate js.length (-1) := by rw [finL, zd7]
      rw [e]
      rfl
    | succ d ih =>
      intro i hi
      have hil : i < js.length := by omega
      refine Ev.step (fun k => ?_) (ih (i + 1) (by omega))
      simp only [zba.l0]
      rw [if_pos (by omega), if_pos (by omega), if_pos (by rw [List.length_map, List.length_take]; omega), if_pos (by rw [List.length_replicate]; omega), rjT, rj_at js i hil, map_take _ _ _ hil, w64 (by omega) (by omega), List.replicate_succ']
      rfl
  exact build js.length 0 (by omega)
theorem spec_rs (l : List Task) (js : List Job) (b p : Int) (pat : List Bool) (hl : l.length ≤ 2097152) (hj : js.length ≤ 2097152) : Ev (fun k => zba.f k l js b p pat) (RS l js b p pat) := by
  unfold zba.f
  refine Ev.bind (spec_jl l js (by omega) (by omega)) ?_
  have bad : ¬ (PV b p pat ∧ JL l js) → Ev (fun k => zba.j0 k js pat true) (RS l js b p pat) := fun h => by
    unfold RS
    rw [if_neg h]
    exact Ev.step (f := fun _ => some ([], [])) (fun k => by simp [zba.j0]) (Ev.now _)
  by_cases h : JL l js
  · simp only [decide_eq_true h, if_true]
    refine Ev.bind (spec_pat b p pat) ?_
    by_cases hp : PV b p pat
    · rw [decide_eq_true hp]
      unfold RS
      rw [if_pos (⟨hp, h⟩ : PV b p pat ∧ JL l js)]
      refine Ev.step (f := fun k => (zb3.f k js).bind fun t597 => (zba.l0 k js pat (([] : List Int)) t597 0 ([] : List Int))) (fun k => by simp [zba.j0]) ?_
      exact Ev.bind (keys_ev js (by have := h.2.1; omega)) (zjl h hp.2.1)
    · rw [decide_eq_false hp]
      exact bad (fun hh => hp hh.1)
  · simp only [decide_eq_false h]
    exact bad (fun hh => h hh.2)
theorem RS_len (l : List Task) (js : List Job) (b p : Int) (pat : List Bool) : (RS l js b p pat).1.length ≤ 120 ∧ (RS l js b p pat).2.length ≤ 60 := by
  unfold RS
  split
  · rename_i h
    have h1 := sch_len js (supp js (onb pat))
    have h2 := h.2.2.1
    omega
  · simp
end Go.Proofs.Ytkdfjomhichkoaa.Rs
namespace Go.Proofs.Ytkdfjomhichkoaa.SupLaw
open Go.RowKit Go.Proofs.Ytkdfjomhichkoaa.Base Go.Proofs.Ytkdfjomhichkoaa.Sup
theorem div_eq {x p q : Int} (hp : 1 ≤ p) (h1 : q * p ≤ x) (h2 : x < q * p + p) : x / p = q := by
  have e : x = q * p + (x - q * p) := by omega
  rw [e, Int.add_comm, Int.add_mul_ediv_right _ _ (by omega), Int.ediv_eq_zero_of_lt (by omega) (by omega)]
  omega
theorem zjm {b p t : Int} (h : t - (p - b) < 0) : sb b p t = 0 := by unfold sb; rw [if_pos h]
theorem zj7 {b p t k : Int} (hv : SV b p) (h1 : k * p ≤ t - (p - b)) (h2 : t - (p - b) < k * p + p) (hk : 0 ≤ k) : sb b p t = k * b + max 0 (min b (t - (p - b) - k * p - (p - b))) := by
  unfold SV at hv
  have hkp : 0 ≤ k * p := Int.mul_nonneg hk (by omega)
  unfold sb
  rw [if_neg (by omega), div_eq (by omega) h1 h2]
theorem sb_k {b p t : Int} (hv : SV b p) (h : 0 ≤ t - (p - b)) : ∃ k, 0 ≤ k ∧ k * p ≤ t - (p - b) ∧ t - (p - b) < k * p + p := by
  unfold SV at hv
  have hd := div_bd (x := t - (p - b)) (p := p) h (by omega)
  exact ⟨_, hd.1, hd.2.2.1, hd.2.2.2⟩
theorem sb_period {b p t : Int} (hv : SV b p) (ht : p - b ≤ t) : sb b p (t + p) = sb b p t + b := by
  have hv' := hv
  unfold SV at hv'
  obtain ⟨k, hk, h1, h2⟩ := sb_k hv (t := t) (by omega)
  have e : (k + 1) * p = k * p + p := by rw [Int.add_mul, Int.one_mul]
  have e2 : (k + 1) * b = k * b + b := by rw [Int.add_mul, Int.one_mul]
  rw [zj7 hv h1 h2 hk, zj7 (k := k + 1) hv (by omega) (by omega) (by omega), e, e2]
  have e3 : t + p - (p - b) - (k * p + p) - (p - b) = t - (p - b) - k * p - (p - b) := by omega
  rw [e3]; omega
theorem sb_zero {b p t : Int} (hv : SV b p) (ht : t ≤ 2 * (p - b)) : sb b p t = 0 := by
  have hv' := hv
  unfold SV at hv'
  by_cases hx : t - (p - b) < 0
  · exact zjm hx
  · rw [zj7 (k := 0) hv (by omega) (by omega) (by omega)]; omega
theorem sb_nonneg {b p t : Int} (hv : SV b p) : 0 ≤ sb b p t := by
  have hv' := hv
  unfold SV at hv'
  by_cases hx : t - (p - b) < 0
  · rw [zjm hx]; omega
  · obtain ⟨k, hk, h1, h2⟩ := sb_k hv (t := t) (by omega)
    have := Int.mul_nonneg hk (show 0 ≤ b by omega)
    rw [zj7 hv h1 h2 hk]; omega
end Go.Proofs.Ytkdfjomhichkoaa.SupLaw
namespace Go.Proofs.Ytkdfjomhichkoaa.PatLaw
open Go.RowKit Go.Proofs.Ytkdfjomhichkoaa.Base Go.Proofs.Ytkdfjomhichkoaa.Sup Go.Proofs.Ytkdfjomhichkoaa.SupLaw Go.Proofs.Ytkdfjomhichkoaa.Pat
theorem zfu (l : List Bool) (a n m : Nat) : cnt l a (n + m) = cnt l a n + cnt l (a + n) m := by
  unfold cnt
  rw [List.take_add, List.countP_append, List.drop_drop]
theorem zgw {l : List Bool} {b p : Nat} (hr : rest b p l 0) (hp : 1 ≤ p) : ∀ q : Nat, q * p ≤ 120 → cnt l 0 (q * p) = q * b := by
  intro q
  induction q with
  | zero => intro _; simp [zgv]
  | succ q ih =>
    intro h
    have h' : q * p + p ≤ 120 := by rw [← Nat.succ_mul]; exact h
    rw [Nat.succ_mul, zfu, ih (by omega), Nat.zero_add]
    have hq : q < 121 := by
      have : (q + 1) * 1 ≤ (q + 1) * p := Nat.mul_le_mul_left _ hp
      omega
    rw [hr q (by omega) hq h, Nat.succ_mul]
theorem window {i j x y b p : Int} (hv : SV b p) (hx : 0 ≤ x) (hx2 : x < p) (hy : 0 ≤ y) (hy2 : y < p) (hL : i * p + x ≤ j * p + y) (hij : i ≤ j) :
    sb b p (j * p + y - (i * p + x)) ≤ max 0 (j * b + max 0 (y - (p - b)) - (i * b + min x b)) := by
  have hv' := hv
  unfold SV at hv'
  obtain ⟨d, rfl⟩ : ∃ d, j = i + d := ⟨j - i, by omega⟩
  have e1 : (i + d) * p = i * p + d * p := Int.add_mul ..
  have e2 : (i + d) * b = i * b + d * b := Int.add_mul ..
  have hd : 0 ≤ d := by omega
  rw [e1, e2]
  have e3 : i * p + d * p + y - (i * p + x) = d * p + (y - x) := by omega
  rw [e3]
  have hdb : 0 ≤ d * b := Int.mul_nonneg hd (by omega)
  by_cases ht : 0 ≤ y - x - (p - b)
  · rw [zj7 (k := d) hv (by omega) (by omega) hd]; omega
  · have m1 : (d - 1) * p = d * p - p := by rw [Int.sub_mul, Int.one_mul]
    have m1b : (d - 1) * b = d * b - b := by rw [Int.sub_mul, Int.one_mul]
    by_cases ht2 : -p ≤ y - x - (p - b)
    · by_cases h1 : 1 ≤ d
      · rw [zj7 (k := d - 1) hv (by omega) (by omega) (by omega), m1, m1b]; omega
      · obtain rfl : d = 0 := by omega
        rw [zjm (by omega)]; omega
    · have m2 : (d - 2) * p = d * p - 2 * p := by rw [Int.sub_mul]
      have m2b : (d - 2) * b = d * b - 2 * b := by rw [Int.sub_mul]
      by_cases h2 : 2 ≤ d
      · have h3 : 0 ≤ (d - 2) * b := Int.mul_nonneg (by omega) (by omega)
        rw [zj7 (k := d - 2) hv (by omega) (by omega) (by omega), m2, m2b]; omega
      · have h3 : d = 0 ∨ d = 1 := by omega
        rcases h3 with rfl | rfl
        · rw [zjm (by omega)]; omega
        · rw [zjm (by omega)]; omega
theorem worst {b p : Int} {l : List Bool} (h : PV b p l) (a n : Nat) (hn : ((a + n : Nat) : Int) ≤ 120 / p * p) : sb b p n ≤ (cnt l a n : Int) := by
  have hv := h.1
  have hv' := hv
  unfold SV at hv'
  obtain ⟨B, rfl⟩ := Int.eq_ofNat_of_zero_le (show 0 ≤ b by omega)
  obtain ⟨P, rfl⟩ := Int.eq_ofNat_of_zero_le (show 0 ≤ p by omega)
  have hr : rest B P l 0 := by simpa using h.2.2
  have hP : 1 ≤ P := by omega
  have elast : ((120 / P * P : Nat) : Int) = 120 / (P : Int) * P := by push_cast; rfl
  have hle : 120 / P * P ≤ 120 := Nat.div_mul_le_self 120 P
  rcases Nat.eq_zero_or_pos n with rfl | hnp
  · rw [zgv, sb_zero hv (by omega)]; simp
  have ha : a < 120 / P * P := by omega
  have da := Nat.div_add_mod a P
  have ma := Nat.mod_lt a hP
  have de := Nat.div_add_mod (a + n) P
  have me := Nat.mod_lt (a + n) hP
  rw [Nat.mul_comm] at da de
  have hia : a / P + 1 ≤ 120 / P := by
    have : a / P < 120 / P := Nat.div_lt_of_lt_mul (by rw [Nat.mul_comm]; exact ha)
    omega
  have hia2 : (a / P + 1) * P ≤ 120 := Nat.le_trans (Nat.mul_le_mul_right _ hia) hle
  have hje : (a + n) / P ≤ 120 / P := by
    have := Nat.div_le_div_right (c := P) (show a + n ≤ 120 / P * P by omega)
    rwa [Nat.mul_div_cancel _ hP] at this
  have hje2 : (a + n) / P * P ≤ 120 := Nat.le_trans (Nat.mul_le_mul_right _ hje) hle
  have hij : a / P ≤ (a + n) / P := Nat.div_le_div_right (by omega)
  have c1 := zgw hr hP (a / P) (by rw [Nat.succ_mul] at hia2; omega)
  have c2 := zgw hr hP (a / P + 1) hia2
  have c3 := zgw hr hP ((a + n) / P) hje2
  have s1 := zfu l 0 (a / P * P) (a % P)
  have s2 := zfu l 0 a (P - a % P)
  have s3 := zfu l 0 a n
  have s4 := zfu l 0 ((a + n) / P * P) ((a + n) % P)
  rw [da] at s1
  rw [show a + (P - a % P) = (a / P + 1) * P by rw [Nat.succ_mul]; omega] at s2
  rw [de] at s4
  simp only [Nat.zero_add] at s1 s2 s3 s4
  have b1 := cnt_le l (a / P * P) (a % P)
  have bs : (a / P + 1) * B = a / P * B + B := Nat.succ_mul ..
  have last : (a + n) % P ≤ (P - B) + cnt l ((a + n) / P * P) ((a + n) % P) := by
    rcases Nat.eq_zero_or_pos ((a + n) % P) with h0 | h0
    · omega
    have hj : (a + n) / P + 1 ≤ 120 / P := by
      rcases Nat.lt_or_ge ((a + n) / P) (120 / P) with h1 | h1
      · omega
      · have : 120 / P * P ≤ (a + n) / P * P := Nat.mul_le_mul_right _ h1
        omega
    have hj2 : ((a + n) / P + 1) * P ≤ 120 := Nat.le_trans (Nat.mul_le_mul_right _ hj) hle
    have c4 := zgw hr hP ((a + n) / P + 1) hj2
    have s5 := zfu l 0 (a + n) (P - (a + n) % P)
    rw [show a + n + (P - (a + n) % P) = ((a + n) / P + 1) * P by rw [Nat.succ_mul]; omega] at s5
    simp only [Nat.zero_add] at s5
    have b2 := cnt_le l (a + n) (P - (a + n) % P)
    have bs2 : ((a + n) / P + 1) * B = (a + n) / P * B + B := Nat.succ_mul ..
    omega
  have w := window (i := ((a / P : Nat) : Int)) (j := (((a + n) / P : Nat) : Int)) (x := ((a % P : Nat) : Int)) (y := (((a + n) % P : Nat) : Int)) hv (by omega) (by omega) (by omega) (by omega) (by
    have t1 : ((a / P * P : Nat) : Int) = ((a / P : Nat) : Int) * P := by push_cast; rfl
    have t2 : (((a + n) / P * P : Nat) : Int) = (((a + n) / P : Nat) : Int) * P := by push_cast; rfl
    omega) (by omega)
  have t1 : ((a / P * P : Nat) : Int) = ((a / P : Nat) : Int) * P := by push_cast; rfl
  have t2 : (((a + n) / P * P : Nat) : Int) = (((a + n) / P : Nat) : Int) * P := by push_cast; rfl
  have t3 : ((a / P * B : Nat) : Int) = ((a / P : Nat) : Int) * B := by push_cast; rfl
  have t4 : (((a + n) / P * B : Nat) : Int) = (((a + n) / P : Nat) : Int) * B := by push_cast; rfl
  rw [show (((a + n) / P : Nat) : Int) * (P : Int) + (((a + n) % P : Nat) : Int) - (((a / P : Nat) : Int) * P + ((a % P : Nat) : Int)) = (n : Int) by omega] at w
  have g0 : cnt l 0 a + 0 ≤ cnt l 0 (a / P * P) + a % P := by omega
  omega
end Go.Proofs.Ytkdfjomhichkoaa.PatLaw
namespace Go.Proofs.Ytkdfjomhichkoaa.Sf
open Go.RowKit Go.Proofs.Ytkdfjomhichkoaa.P Go.Proofs.Ytkdfjomhichkoaa.Base Go.Proofs.Ytkdfjomhichkoaa.Gen Go.Proofs.Ytkdfjomhichkoaa.Alive Go.Proofs.Ytkdfjomhichkoaa.Set Go.Proofs.Ytkdfjomhichkoaa.Tm Go.Proofs.Ytkdfjomhichkoaa.Sup Go.Proofs.Ytkdfjomhichkoaa.SupLaw Go.Proofs.YtkdfjomhichkoaaW.PrintWords Go.Proofs.YtkdfjomhichkoaaW.PrintLast
def lim (l : List Task) (p : Int) : Int := (Nat.lcm (hy l) p.toNat : Int) + 2 * p
def SF (l : List Task) (b p : Int) : Prop := zec l ∧ SV b p ∧ ld l * p ≤ b * hy l ∧ ∀ t : Int, 1 ≤ t → t ≤ lim l p → dm l t ≤ sb b p t
noncomputable instance (l : List Task) (b p : Int) : Decidable (SF l b p) := Classical.propDecidable _
noncomputable instance (l : List Task) : Decidable (Edf l) := Classical.propDecidable _
theorem lim_bd {l : List Task} (h : AllV l) {b p : Int} (hv : SV b p) : (hy l : Int) ≤ lim l p ∧ lim l p ≤ 27744 := by
  unfold SV at hv
  have hb := zij h
  have h1 : Nat.lcm (hy l) p.toNat ∣ 27720 := Nat.lcm_dvd (zii h) (zhf (by omega) (by omega))
  have h2 := Nat.le_of_dvd (by omega) h1
  have h3 : hy l ∣ Nat.lcm (hy l) p.toNat := Nat.dvd_lcm_left _ _
  have h4 : 0 < Nat.lcm (hy l) p.toNat := Nat.lcm_pos (by omega) (by omega)
  have h5 := Nat.le_of_dvd h4 h3
  unfold lim
  omega
theorem wk_mul {l : List Task} (hl : AllV l) (q h : Int) (hd : ∀ x ∈ l, x.f2 ∣ h) : wk l (q * h) = q * wk l h := by
  unfold wk
  rw [← sm_mul]
  apply zih
  intro x hx
  have hv := hl x hx
  unfold TVt TV at hv
  obtain ⟨m, rfl⟩ := hd x hx
  rw [show q * (x.f2 * m) = x.f2 * (q * m) by rw [← Int.mul_assoc, Int.mul_comm q, Int.mul_assoc], Int.mul_ediv_cancel_left _ (by omega), Int.mul_ediv_cancel_left _ (by omega), Int.mul_assoc]
theorem sb_periods {b p t : Int} (hv : SV b p) (ht : p - b ≤ t) : ∀ n : Nat, sb b p (t + n * p) = sb b p t + n * b := by
  intro n
  induction n with
  | zero => simp
  | succ n ih =>
    have hn : 0 ≤ (n : Int) * p := Int.mul_nonneg (by omega) (by unfold SV at hv; omega)
    have h := sb_period hv (t := t + n * p) (by omega)
    rw [Int.natCast_add, Int.add_mul, Int.add_mul, Int.natCast_one, Int.one_mul, Int.one_mul, ← Int.add_assoc, h, ih]
    omega
theorem sf_all {l : List Task} {b p : Int} (h : SF l b p) : ∀ n : Nat, dm l (n : Int) ≤ sb b p (n : Int) := by
  have hv := h.2.1
  have hv' := hv
  unfold SV at hv'
  have hb := zij h.1.all
  have hp : p.toNat ≠ 0 := by omega
  obtain ⟨q1, hq1⟩ := Nat.dvd_lcm_left (hy l) p.toNat
  obtain ⟨q2, hq2⟩ := Nat.dvd_lcm_right (hy l) p.toNat
  have hH : 0 < Nat.lcm (hy l) p.toNat := Nat.lcm_pos (by omega) (by omega)
  have hdv : ∀ x ∈ l, x.f2 ∣ ((q1 : Int) * (hy l : Int)) := fun x hx => Int.dvd_trans (hy_int h.1.all hx) (Int.dvd_mul_left _ _)
  have e1 : ((Nat.lcm (hy l) p.toNat : Nat) : Int) = (q1 : Int) * (hy l : Int) := by rw [hq1, Int.natCast_mul, Int.mul_comm]
  have e2 : ((Nat.lcm (hy l) p.toNat : Nat) : Int) = (q2 : Int) * p := by
    rw [hq2, Int.natCast_mul, Int.toNat_of_nonneg (by omega), Int.mul_comm]
  have hw : wk l ((q1 : Int) * (hy l : Int)) = (q1 : Int) * ld l := wk_mul h.1.all _ _ (fun x hx => hy_int h.1.all hx)
  have hle : (q1 : Int) * ld l ≤ (q2 : Int) * b := by
    have h1 := Int.mul_le_mul_of_nonneg_left h.2.2.1 (show 0 ≤ (q1 : Int) by omega)
    have h2 : (q1 : Int) * ld l * p ≤ (q2 : Int) * b * p := by
      have e3 : (q1 : Int) * (b * (hy l : Int)) = (q2 : Int) * b * p := by
        rw [Int.mul_comm b, ← Int.mul_assoc, ← e1, e2, Int.mul_assoc, Int.mul_assoc, Int.mul_comm p b]
      rw [← Int.mul_assoc, e3] at h1
      exact h1
    exact Int.le_of_mul_le_mul_right h2 (by omega)
  intro n
  induction n using Nat.strongRecOn with
  | ind n ih =>
    rcases Nat.eq_zero_or_pos n with rfl | hn
    · rw [show ((0 : Nat) : Int) = 0 from rfl, dm_zero h.1.all]
      exact sb_nonneg hv
    · by_cases hl : (n : Int) ≤ lim l p
      · exact h.2.2.2 n (by omega) hl
      · unfold lim at hl
        have h1 := ih (n - Nat.lcm (hy l) p.toNat) (by omega)
        obtain ⟨m, hm⟩ : ∃ m : Nat, m = n - Nat.lcm (hy l) p.toNat := ⟨_, rfl⟩
        rw [← hm] at h1
        have hn2 : (n : Int) = (m : Int) + (q1 : Int) * (hy l : Int) := by omega
        have hn3 : (n : Int) = (m : Int) + (q2 : Int) * p := by omega
        have h2 := dm_add h.1.all (t := (m : Int)) (m := (q1 : Int) * (hy l : Int)) (by omega) (by omega) hdv
        have h3 := sb_periods hv (t := (m : Int)) (by omega) q2
        rw [← hn2, hw] at h2
        rw [← hn3] at h3
        omega
end Go.Proofs.Ytkdfjomhichkoaa.Sf
namespace Go.Proofs.Ytkdfjomhichkoaa.SupSafe
open Go.RowKit Go.Proofs.Ytkdfjomhichkoaa.P Go.Proofs.Ytkdfjomhichkoaa.Base Go.Proofs.Ytkdfjomhichkoaa.Gen Go.Proofs.Ytkdfjomhichkoaa.Alive Go.Proofs.Ytkdfjomhichkoaa.Set Go.Proofs.Ytkdfjomhichkoaa.Tm Go.Proofs.Ytkdfjomhichkoaa.Sup Go.Proofs.Ytkdfjomhichkoaa.SupLaw Go.Proofs.Ytkdfjomhichkoaa.Pat Go.Proofs.Ytkdfjomhichkoaa.PatLaw Go.Proofs.Ytkdfjomhichkoaa.Sf Go.Proofs.Ytkdfjomhichkoaa.Edf Go.Proofs.Ytkdfjomhichkoaa.Sim Go.Proofs.Ytkdfjomhichkoaa.Jobs Go.Proofs.Ytkdfjomhichkoaa.Leg Go.Proofs.Ytkdfjomhichkoaa.Nps Go.Proofs.Ytkdfjomhichkoaa.Npr Go.Proofs.Ytkdfjomhichkoaa.Npk Go.Proofs.Ytkdfjomhichkoaa.Rs Go.Proofs.YtkdfjomhichkoaaW.PrintWords Go.Proofs.YtkdfjomhichkoaaW.PrintLast
theorem cnt_on (pat : List Bool) (t : Nat) : cnt pat 0 (t + 1) = cnt pat 0 t + if onb pat t = true then 1 else 0 := by
  unfold onb
  rcases Nat.lt_or_ge t pat.length with h | h
  · rw [zil pat 0 t (by omega), zjz _ _ t h]
    simp
  · have e : rdOf false pat (t : Int) = false := by
      unfold rdOf
      rw [List.getD_eq_getElem?_getD, Int.toNat_natCast, List.getElem?_eq_none h]
      rfl
    rw [e, if_neg (by simp)]
    unfold cnt
    rw [List.take_of_length_le (by simp; omega), List.take_of_length_le (by simp; omega)]
    omega
theorem sup_done {l : List Task} {js : List Job} {b p : Int} {pat : List Bool} (h : JL l js) (hp : PV b p pat) (hf : SF l b p) (J : Nat) (hJ : J < js.length) (d : Nat) (hd : dl js J = (d : Int)) (hd2 : (d : Int) ≤ 120 / p * p) : rd (stL (supp js (onb pat)) (exs js) d) (J : Int) = 0 := by
  have hS := zjh (ze4 js (onb pat)) h.pos
  rw [zd7] at hS
  have hr : ∀ t, runL (supp js (onb pat)) (exs js) t = supp js (onb pat) (stL (supp js (onb pat)) (exs js) t) t := fun t => rfl
  have on_ : ∀ t, onb pat t = true → runL (supp js (onb pat)) (exs js) t = edfp js (stL (supp js (onb pat)) (exs js) t) t := fun t ht => by
    rw [hr t]
    show (if onb pat t = true then edfp js (stL (supp js (onb pat)) (exs js) t) t else -1) = _
    rw [if_pos ht]
  have off_ : ∀ t, ¬ onb pat t = true → runL (supp js (onb pat)) (exs js) t = -1 := fun t ht => by
    rw [hr t]
    show (if onb pat t = true then edfp js (stL (supp js (onb pat)) (exs js) t) t else -1) = _
    rw [if_neg ht]
  clear hr
  refine edf_supply (dl := dl js) hS (fun t => onb pat t = true) (fun t => (cnt pat 0 t : Int)) (fun t => ?_) h.rel0 (fun t hs ht i hi hri => ?_) (fun t i hi hri j hj hrj hlj => ?_) J hJ d hd (fun a ha => ?_)
  · have e := cnt_on pat t
    by_cases ho : onb pat t = true
    · left
      rw [if_pos ho] at e
      exact ⟨ho, by omega⟩
    · right
      rw [if_neg ho] at e
      exact ⟨ho, by omega, off_ t ho⟩
  · rw [on_ t hs] at ht
    have h2 := hS.nonneg t i hi
    rcases zj6 js (stL (supp js (onb pat)) (exs js) t) t with ⟨_, h1⟩ | ⟨a, _, h1, _⟩
    · have := h1 i hi hri; omega
    · omega
  · by_cases ho : onb pat t = true
    · rw [on_ t ho] at hri
      rcases zj6 js (stL (supp js (onb pat)) (exs js) t) t with ⟨h1, _⟩ | ⟨a, ha, h1, _, _, h2⟩
      · omega
      · obtain rfl : a = i := by omega
        exact h2 j hj hrj hlj
    · rw [off_ t ho] at hri; omega
  · have h1 := h.demand (a : Int) (d : Int)
    have h2 := sf_all hf (d - a)
    have h3 := worst hp a (d - a) (by rw [show a + (d - a) = d by omega]; exact hd2)
    have h4 := zfu pat 0 a (d - a)
    rw [show a + (d - a) = d by omega, Nat.zero_add] at h4
    rw [show ((d - a : Nat) : Int) = (d : Int) - a by omega] at h2 h3
    have h5 : ((cnt pat 0 d : Nat) : Int) = (cnt pat 0 a : Int) + (cnt pat a (d - a) : Int) := by rw [h4]; push_cast; rfl
    rw [h5]
    omega
theorem missL_mem {js : List Job} {fin : List Int} : ∀ n, ∀ x ∈ zeh js fin n, ∃ i : Nat, i < n ∧ x = (i : Int) ∧ zgh js fin i = true := by
  intro n
  induction n with
  | zero => intro x hx; simp [zeh] at hx
  | succ n ih =>
    intro x hx
    rw [zeh] at hx
    cases hm : zgh js fin n with
    | true =>
      rw [hm] at hx
      rcases List.mem_append.1 hx with hx | hx
      · obtain ⟨i, h1, h2, h3⟩ := ih x hx
        exact ⟨i, by omega, h2, h3⟩
      · exact ⟨n, by omega, by simpa using hx, hm⟩
    | false =>
      rw [hm] at hx
      obtain ⟨i, h1, h2, h3⟩ := ih x hx
      exact ⟨i, by omega, h2, h3⟩
theorem sup_late {l : List Task} {js : List Job} {b p : Int} {pat : List Bool} (h : JL l js) (hp : PV b p pat) (hf : SF l b p) (i : Nat) (hi : i < js.length) (hm : zgh js (sch js (supp js (onb pat))).2 i = true) : 120 / p * p < dl js i := by
  apply Classical.byContradiction
  intro hn
  have hv := hp.1
  unfold SV at hv
  have hle := Int.ediv_mul_le 120 (show p ≠ 0 by omega)
  unfold zgh at hm
  have e0 : (jrd js i).f2 = dl js i := rfl
  rw [e0, if_pos (by omega)] at hm
  have h1 := h.dl_eq i hi
  have h2 := h.rel0 i hi
  have h3 := zik h.1 _ (h.tkm i hi).1
  obtain ⟨d, hdd⟩ := Int.eq_ofNat_of_zero_le (show 0 ≤ dl js i by omega)
  have h0 := sup_done h hp hf i hi d hdd (by omega)
  obtain ⟨f, hf1, hf2⟩ := met (ze4 js (onb pat)) h.pos (by rw [zd7]; exact hi) h0 (by omega)
  have e1 : rd (sch js (supp js (onb pat))).2 (i : Int) = (f : Int) := hf2
  rw [e1, if_neg (by omega)] at hm
  have := of_decide_eq_true hm
  omega
end Go.Proofs.Ytkdfjomhichkoaa.SupSafe
namespace Go.Proofs.Ytkdfjomhichkoaa.Sup
open Go.RowKit Go.Proofs.Ytkdfjomhichkoaa.P Go.Proofs.Ytkdfjomhichkoaa.Base Go.Proofs.YtkdfjomhichkoaaW.PrintWords Go.Proofs.YtkdfjomhichkoaaW.PrintLast
theorem bound_f {b p t : Int} (h : SV b p) (h0 : 0 ≤ t) (h1 : t ≤ 10000000) : zct.f b p t = some (sb b p t) := by
  unfold SV at h
  unfold zct.f sb
  rw [w64 (x := p - b) (by omega) (by omega), w64 (x := t - (p - b)) (by omega) (by omega)]
  by_cases hx : t - (p - b) < 0
  · rw [if_pos hx, if_pos hx]
  · rw [if_neg hx, if_neg hx, if_neg (by omega), zgs (by omega), mx_max, mn_min]
    have hd := div_bd (x := t - (p - b)) (p := p) (by omega) (by omega)
    have hxb : t - (p - b) ≤ 10000000 := by omega
    generalize t - (p - b) = x at *
    generalize x / p = k at *
    have hm := zfs (a := k) (b := b) (A := 10000000) (B := 12) (by omega) (by omega) (by omega) (by omega)
    rw [w64 (x := k) (by omega) (by omega), w64 (x := k * b) (by omega) (by omega), w64 (x := k * p) (by omega) (by omega), w64 (x := x - k * p) (by omega) (by omega), w64 (x := x - k * p - (p - b)) (by omega) (by omega), w64 (by omega) (by omega)]
end Go.Proofs.Ytkdfjomhichkoaa.Sup
