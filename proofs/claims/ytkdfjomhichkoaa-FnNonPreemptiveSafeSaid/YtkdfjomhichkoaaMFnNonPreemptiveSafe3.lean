/- The law FnNonPreemptiveSafe for every input, part 3 of its proof: what the program's functions answer, and the plain law. No condition. -/
import Derived.Test.YtkdfjomhichkoaaMFnNonPreemptiveSafe1
import Derived.Test.YtkdfjomhichkoaaMFnNonPreemptiveSafe2
import Derived.Maps.OwnSet
import Derived.Maps.OwnOps
import Derived.Carry
namespace Go.Proofs.Ytkdfjomhichkoaa.P
open Go.RowKit Go.Proofs.YtkdfjomhichkoaaW.PrintWords Go.Proofs.YtkdfjomhichkoaaW.PrintLast Go.Proofs.YtkdfjomhichkoaaW.PrintMore
attribute [local go_sem] max2_int min2_int max_two min_two max_three min_three max_four min_four
set_option linter.unusedVariables false
set_option linter.unusedSimpArgs false
mutual
def zt.l0 : Nat → List (S88) → Int → List (S34) → List Int → Int → Int → List Int → Int → Option ((List (S34)) × Int)
 | 0, _, _, _, _, _, _, _, _ => none
 | k + 1, x1, x2, x7, x8, x9, x10, x1000, x1001 => if x10 < 100 then (zt.l1 k x1 x2 x7 x8 x9 x10 0 x1000 x1001) else ((zbg.f k x1000 x1001 x2).bind fun bt236 => (if bt236.1 = true then (zt.j3 k x1 x7 (decide ((x7.length : Int) > 0)) x1000 bt236.2) else (zt.j3 k x1 x7 false x1000 bt236.2)))
def zt.l1 : Nat → List (S88) → Int → List (S34) → List Int → Int → Int → Int → List Int → Int → Option ((List (S34)) × Int)
 | 0, _, _, _, _, _, _, _, _, _ => none
 | k + 1, x1, x2, x7, x8, x9, x10, x11, x1000, x1001 => if x11 < (x1.length : Int) then (if 0 ≤ x11 then (if x11 < (x8.length : Int) then (if x10 < (rd x8 x11) then (zt.j2 k x1 x2 x7 x8 x9 x10 x11 true x1000 x1001) else (if (x7.length : Int) = 60 then (zt.j2 k x1 x2 x7 x8 x9 x10 x11 true x1000 x1001) else (if x9 < 2 then ((zb.f k x1000 x1001 (wrap64 (3 + (wrap64 (7 * x9))))).bind fun bt217 => (zt.j2 k x1 x2 x7 x8 x9 x10 x11 (decide (bt217.1 > 1)) x1000 bt217.2)) else (zt.j2 k x1 x2 x7 x8 x9 x10 x11 false x1000 x1001)))) else (none)) else (none)) else (zt.l0 k x1 x2 x7 x8 x9 (wrap64 (x10 + 1)) x1000 x1001)
def zt.j2 : Nat → List (S88) → Int → List (S34) → List Int → Int → Int → Int → Bool → List Int → Int → Option ((List (S34)) × Int)
 | 0, _, _, _, _, _, _, _, _, _, _ => none
 | k + 1, x1, x2, x7, x8, x9, x10, x11, x52, x1000, x1001 => if x52 = true then (zt.l1 k x1 x2 x7 x8 x9 x10 (wrap64 (x11 + 1)) x1000 x1001) else (if 0 ≤ x11 then (if x11 < (x1.length : Int) then ((zb.f k x1000 x1001 3).bind fun bt220 => (if bt220.1 = 0 then ((zb.f k x1000 bt220.2 ((zl x1 x11).f0)).bind fun bt222 => (if x7.length < 4398046511104 then (if x11 < (x8.length : Int) then (zt.l1 k x1 x2 (x7 ++ [(⟨x11, x10, wrap64 (x10 + ((zl x1 x11).f1)), wrap64 (1 + bt222.1)⟩ : S34)]) (x8.set (x11 : Int).toNat (wrap64 (x10 + ((zl x1 x11).f2)))) x9 x10 (wrap64 (x11 + 1)) x1000 bt222.2) else (none)) else (none))) else (if x7.length < 4398046511104 then (if x11 < (x8.length : Int) then (zt.l1 k x1 x2 (x7 ++ [(⟨x11, x10, wrap64 (x10 + ((zl x1 x11).f1)), (zl x1 x11).f0⟩ : S34)]) (x8.set (x11 : Int).toNat (wrap64 (x10 + ((zl x1 x11).f2)))) x9 x10 (wrap64 (x11 + 1)) x1000 bt220.2) else (none)) else (none)))) else (none)) else (none))
def zt.j3 : Nat → List (S88) → List (S34) → Bool → List Int → Int → Option ((List (S34)) × Int)
 | 0, _, _, _, _, _ => none
 | k + 1, x1, x7, x96, x1000, x1001 => if x96 = true then ((zb.f k x1000 x1001 (x7.length : Int)).bind fun bt238 => ((zb.f k x1000 bt238.2 6).bind fun bt240 => (if bt240.1 = 0 then ((some (([(-1), (x1.length : Int)] : List Int) : List Int)).bind fun y242 => ((zb.f k x1000 bt240.2 2).bind fun bt245 => (if 0 ≤ bt245.1 then (if bt245.1 < (y242.length : Int) then (if 0 ≤ bt238.1 then (if bt238.1 < (x7.length : Int) then (some ((x7.set (bt238.1 : Int).toNat (⟨rd y242 bt245.1, (ze x7 bt238.1).f1, (ze x7 bt238.1).f2, (ze x7 bt238.1).f3⟩ : S34)), bt245.2)) else (none)) else (none)) else (none)) else (none)))) else (if bt240.1 = 1 then (if 0 ≤ bt238.1 then (if bt238.1 < (x7.length : Int) then ((some (([(-1), 120, wrap64 (((ze x7 bt238.1).f1) + 1)] : List Int) : List Int)).bind fun y250 => ((zb.f k x1000 bt240.2 3).bind fun bt253 => (if 0 ≤ bt253.1 then (if bt253.1 < (y250.length : Int) then (some ((x7.set (bt238.1 : Int).toNat (⟨(ze x7 bt238.1).f0, rd y250 bt253.1, (ze x7 bt238.1).f2, (ze x7 bt238.1).f3⟩ : S34)), bt253.2)) else (none)) else (none)))) else (none)) else (none)) else (if bt240.1 = 2 then (if 0 ≤ bt238.1 then (if bt238.1 < (x7.length : Int) then (some ((x7.set (bt238.1 : Int).toNat (⟨(ze x7 bt238.1).f0, (ze x7 bt238.1).f1, wrap64 (((ze x7 bt238.1).f2) + 1), (ze x7 bt238.1).f3⟩ : S34)), bt240.2)) else (none)) else (none)) else (if bt240.1 = 3 then ((some (([0, 9] : List Int) : List Int)).bind fun y259 => ((zb.f k x1000 bt240.2 2).bind fun bt262 => (if 0 ≤ bt262.1 then (if bt262.1 < (y259.length : Int) then (if 0 ≤ bt238.1 then (if bt238.1 < (x7.length : Int) then (some ((x7.set (bt238.1 : Int).toNat (⟨(ze x7 bt238.1).f0, (ze x7 bt238.1).f1, (ze x7 bt238.1).f2, rd y259 bt262.1⟩ : S34)), bt262.2)) else (none)) else (none)) else (none)) else (none)))) else (if bt240.1 = 4 then (if 0 ≤ bt238.1 then (if bt238.1 < (x7.length : Int) then (if x7.length < 4398046511104 then (some ((x7 ++ [(⟨(ze x7 bt238.1).f0, (ze x7 bt238.1).f1, (ze x7 bt238.1).f2, (ze x7 bt238.1).f3⟩ : S34)]), bt240.2)) else (none)) else (none)) else (none)) else (zt.l2 k x7 x1000 bt240.2)))))))) else (some (x7, x1001))
def zt.l2 : Nat → List (S34) → List Int → Int → Option ((List (S34)) × Int)
 | 0, _, _, _ => none
 | k + 1, x7, x1000, x1001 => if (x7.length : Int) ≤ 60 then (if x7.length < 4398046511104 then (zt.l2 k (x7 ++ [(⟨0, 119, 120, 1⟩ : S34)]) x1000 x1001) else (none)) else (some (x7, x1001))
end
def zt.f (k : Nat) (s0_0 : List Int) (s0_1 : Int) (l1 : List (S88)) (a2 : Int) : Option ((List (S34)) × Int) := if 0 ≤ (l1.length : Int) then (if ((l1.length : Int) : Int).toNat ≤ 35184372088832 then ((zb.f k s0_0 s0_1 3).bind fun bt214 => (zt.l0 k l1 a2 (([] : List (S34))) (List.replicate ((l1.length : Int) : Int).toNat 0) bt214.1 0 s0_0 bt214.2)) else (none)) else (none)
def zt.T24 : Bool × List (List Nat × List Nat) := (true, [([], []), ([], []), ([], []), ([], []), ([2, 3], [2, 3]), ([4], [4]), ([5], [5]), ([6], [6]), ([7], [7]), ([], []), ([9], [9]), ([8, 10], [8, 10]), ([11], [11]), ([0, 1, 0, 1, 2, 3, 4, 5, 6, 7, 8, 9, 10, 11, 12], [0, 1]), ([13, 0, 1, 2, 3, 4, 5, 6, 7, 8, 9, 10, 11, 12], [13]), ([14, 12, 10, 0, 1, 2, 3, 4, 5, 6, 7, 8, 9, 10, 11, 12], [12, 14])])
def zt.B24 : List Nat := [0, 0, 0, 0, 12, 28, 60, 124, 252, 0, 512, 2044, 4092, 8191, 16383, 32767]
theorem zt.tab24 : rtab .any (opsOf Try.f47 24) = zt.T24 := by kernel_rfl
theorem zt.bits24 : waitsOk zt.T24.2 zt.B24 = true := by kernel_rfl
set_option maxHeartbeats 8000000 in
set_option maxRecDepth 100000 in
theorem zt.calls (k : Nat) (g : Nat) (s0_0 : List Int) (s0_1 : Int) (A1 : Option Addr) (c1 : Nat) (l1 : List (S88)) (a2 : Int) (r1 : List (S34)) (r2 : Int) (w0 w : World) (hI : zi w0 w g s0_0 s0_1) (hB : Below w0.heap.size w0 w) (hr1 : ∀ W_, zq w W_ g none → Kd.C k88 W_ A1 l1.length l1) (hc1 : l1.length ≤ c1) (h : zt.f k s0_0 s0_1 l1 a2 = some (r1, r2)) :
  Calls Try.prog 47 #[.pointer (some ⟨g, 0, none⟩), .slice A1 l1.length c1, .int .i64 a2] w fun e w' => ∃ v0_ : Value, e = .returned (v0_) ∧ Kd.R k34 34 w' w.heap.size (fun _ => True) v0_ r1 ∧ zi w0 w' g s0_0 r2 ∧ Below w0.heap.size w0 w' ∧ zq w w' g none := by
 have hu34 := Try.underlying34
 have HR1 := za.mk hr1
 have HC1 := za.mk hc1
 clear hr1 hc1
 have HI0 := za.mk hI
 have HK := za.mk (zq.refl w g none)
 have HL := za.mk hB.size
 clear hI
 have HW0 := za.mk hB.size
 have HB := za.mk hB
 clear hB
 have H : (if 0 ≤ (l1.length : Int) then (if ((l1.length : Int) : Int).toNat ≤ 35184372088832 then ((zb.f k s0_0 s0_1 3).bind fun bt214 => (zt.l0 k l1 a2 (([] : List (S34))) (List.replicate ((l1.length : Int) : Int).toNat 0) bt214.1 0 s0_0 bt214.2)) else (none)) else (none)) = some (r1, r2) := h
 clear h
 obtain ⟨y208, hy208⟩ : ∃ y_ : List (S34), y_ = (([] : List (S34))) := ⟨_, rfl⟩
 replace H : (if 0 ≤ (l1.length : Int) then (if ((l1.length : Int) : Int).toNat ≤ 35184372088832 then ((zb.f k s0_0 s0_1 3).bind fun bt214 => (zt.l0 k l1 a2 y208 (List.replicate ((l1.length : Int) : Int).toNat 0) bt214.1 0 s0_0 bt214.2)) else (none)) else (none)) = some (r1, r2) := by first | (rw [hy208]; with_reducible exact H) | (have H2_ := (Option.bind_some _ _).symm.trans H; rw [hy208]; with_reducible exact H2_) | (have H2_ := (Option.bind_some _ _).symm.trans H; with_reducible exact H2_) | with_reducible exact H | (rw [hy208]; exact H) | exact H
 have Ny208 := za.mk hy208
 clear hy208
 by_cases c4 : 0 ≤ (l1.length : Int)
 ·rw [if_pos c4] at H
  have c4b0 := eq_true c4
  have c4b1 : decide (0 ≤ (l1.length : Int)) = true := decide_eq_true c4
  clear c4
  by_cases c5 : ((l1.length : Int) : Int).toNat ≤ 35184372088832
  ·rw [if_pos c5] at H
   have c5b0 := eq_true c5
   have c5b1 : decide (((l1.length : Int) : Int).toNat ≤ 35184372088832) = true := decide_eq_true c5
   clear c5
   obtain ⟨y211, hy211⟩ : ∃ y_ : List Int, y_ = (List.replicate ((l1.length : Int) : Int).toNat 0) := ⟨_, rfl⟩
   replace H : ((zb.f k s0_0 s0_1 3).bind fun bt214 => (zt.l0 k l1 a2 y208 y211 bt214.1 0 s0_0 bt214.2)) = some (r1, r2) := by first | (rw [hy211]; with_reducible exact H) | (have H2_ := (Option.bind_some _ _).symm.trans H; rw [hy211]; with_reducible exact H2_) | (have H2_ := (Option.bind_some _ _).symm.trans H; with_reducible exact H2_) | with_reducible exact H | (rw [hy211]; exact H) | exact H
   have Ny211 := za.mk hy211
   clear hy211
   replace H := Option.bind_eq_some_iff.mp H
   obtain ⟨⟨t214, t215⟩, A60, H⟩ := H
   replace H : (zt.l0 k l1 a2 y208 y211 t214 0 s0_0 t215) = some (r1, r2) := H
   have A6 := za.mk A60
   clear A60
   have H' := za.mk H
   clear H
   go_enter Try.func47, Try.ntmps47
   go_wp2_with (first | ((with_reducible refine zbj (N := 14) rfl ?_); (try (refine zcn (by rfl) ?_; dsimp only)); refine Kd.R_lit k34 _ 34 ?hg (N := 14) ?hd (xs := ([] : List (S34))) (inner := []) (ok := fun _ => True) (okp := fun _ => True) ?hr ?hp (fun _ hk => hk) trivial (Below.refl _ _) (Nat.le_refl _) (by simp) ?_; (case hd => rfl); (case hg => rfl); (case hr => first | (go_simp; done) | (go_simp; rfl)); (case hp => exact (Reps.none _ _)); intro v209 w7 ho8 hb hg_ hnew_; clear hg_ hnew_; (first | rw [← Ny208.out] at ho8 | (simp only [Int.reduceToNat] at ho8; rw [← Ny208.out] at ho8)); have n0_ := za.mk (Kd.zca ho8 (zb5 (w := w) (g := g) (row := none) (Zq6 HK.out))); have n1_ := za.mk (zi.below (Zq5 HI0.out) hb); have n2_ := za.mk (zq.trans (Zq6 HK.out) (zq.of_below hb g none) (.inl rfl)); have n3_ := za.mk (zo (Zq3 HB.out (zi.ge HI0.out)) hb); clear HI0; clear HK; clear HB; have HO210 := n0_; have HI0 := n1_; have HK := n2_; have HB := n3_; clear n0_ n1_ n2_ n3_; clear hb ho8) | ((with_reducible refine zbj (N := 17) rfl ?_); (try (refine zcn (by rfl) ?_; dsimp only)); refine Kd.R_make (Kd.int .i64) _ 3 rfl (N := 17) rfl 27 _ _ rfl (l1.length : Int) rfl rfl Try.underlying27 (.int .i64 0) 8 info3 rfl (by decide) (by omega) 0 (ok := fun _ => True) (okp := fun _ => True) rfl (fun _ hk => hk) trivial (of_decide_eq_true Zas) (Nat.le_trans (Nat.mul_le_mul_right _ (of_decide_eq_true Zas : (l1.length : Int).toNat ≤ 35184372088832)) (by omega)) (Below.refl _ _) (Nat.le_refl _) ?_; intro v212 w9 ho10 hb hg_ hnew_; clear hg_ hnew_; (first | rw [← Ny211.out] at ho10 | (simp only [Int.reduceToNat] at ho10; rw [← Ny211.out] at ho10)); have n0_ := za.mk (Kd.zcx (Zq11 HO210.out) hb); have n1_ := za.mk (Kd.zca ho10 (zb5 (w := w) (g := g) (row := none) (Zq6 HK.out))); have n2_ := za.mk (zi.below (Zq5 HI0.out) hb); have n3_ := za.mk (zq.trans (Zq6 HK.out) (zq.of_below hb g none) (.inl rfl)); have n4_ := za.mk (zo (Zq3 HB.out (zi.ge HI0.out)) hb); clear HO210; clear HI0; clear HK; clear HB; have HO210 := n0_; have HO213 := n1_; have HI0 := n2_; have HK := n3_; have HB := n4_; clear n0_ n1_ n2_ n3_ n4_; clear hb ho10) | ((with_reducible refine zba (f := 68) rfl ?_); refine zbx (some 19) rfl rfl Try.func68 (by kernel_rfl) rfl #[.pointer (some ⟨g, 0, none⟩), .int .i64 3] rfl Zmt ?_; (with_reducible refine (zb.calls k g s0_0 s0_1 3 t214 t215 w0 _ ?side1 ?side2 A6.out).mono ?_); (case side1 => exact Zq5 HI0.out); (case side2 => exact Zq3 HB.out (zi.ge HI0.out)); rintro e w11 ⟨rfl, hi, hb, hk⟩; refine ⟨_, rfl, ?_⟩; have n0_ := za.mk (Kd.zbb (Kd.zbp (zi.apart (show zi w0 _ g s0_0 s0_1 from Zq5 HI0.out) (Zq11 HO210.out) (by decide)) hk (fun _ h => h.2)) (fun _ h => h.1)); have n1_ := za.mk (Kd.zbb (Kd.zbp (zi.apart (show zi w0 _ g s0_0 s0_1 from Zq5 HI0.out) (Zq11 HO213.out) (by decide)) hk (fun _ h => h.2)) (fun _ h => h.1)); have n2_ := za.mk (zq.trans (Zq6 HK.out) hk (.inl rfl)); have n3_ := za.mk (hb); have n4_ := za.mk (hi); clear HO210; clear HO213; clear HK; clear HB; clear HI0; have HO210 := n0_; have HO213 := n1_; have HK := n2_; have HB := n3_; have HI0 := n4_; clear n0_ n1_ n2_ n3_ n4_; (try clear hb); (try clear hb2); (try clear hk); (try clear hi)))
   go_loopg [7, 10] k (fun kq v7 v10 w' => ∃ (x7_1 : List (S34)) (x8_1 : List Int) (x10_1 : Int) (x1001_1 : Int), v10 = .int .i64 x10_1 ∧ za (zt.l0 kq l1 a2 x7_1 x8_1 t214 x10_1 s0_0 x1001_1 = some (r1, r2)) ∧ za (kq ≤ k) ∧ za (Kd.R k34 34 w' w.heap.size (fun _ => True) v7 x7_1) ∧ za (Kd.R (Kd.int .i64) 3 w' w.heap.size (fun _ => True) v212 x8_1) ∧ za (zi w0 w' g s0_0 x1001_1) ∧ za (zq w w' g none) ∧ za (Below w0.heap.size w0 w'))
   case atStart => exact ⟨(y208), (y211), (0), (t215), Zrs, H', ⟨Nat.le_refl _⟩, ⟨Zq11 HO210.out⟩, ⟨Zq11 HO213.out⟩, ⟨Zq5 HI0.out⟩, ⟨Zq6 HK.out⟩, ⟨Zq3 HB.out (zi.ge HI0.out)⟩⟩
   case round =>
    clear H'
    try clear c1
    try clear p2
    try clear c4
    try clear c4b0
    try clear c4b1
    try clear c5
    try clear c5b0
    try clear c5b1
    try clear c6
    obtain ⟨x7_1, x8_1, x10_1, x1001_1, rfl, HA, HK1, HO_7, HO_8, HI0, HK, HB⟩ := hrel
    cases gk with
    | zero => exact absurd HA.out (by simp [zt.l0])
    | succ k1 =>
     have H := HA.out
     clear HA
     simp only [zt.l0] at H
     by_cases c12 : x10_1 < 100
     ·rw [if_pos c12] at H
      have c12b0 : decide (x10_1 < 100) = true := decide_eq_true c12
      clear c12
      have H' := za.mk H
      clear H
      go_wp2
      go_loopg [7, 11] k1 (fun kq v7 v11 w' => ∃ (x7_2 : List (S34)) (x8_2 : List Int) (x11_2 : Int) (x1001_2 : Int), v11 = .int .i64 x11_2 ∧ za (zt.l1 kq l1 a2 x7_2 x8_2 t214 x10_1 x11_2 s0_0 x1001_2 = some (r1, r2)) ∧ za (kq ≤ k1) ∧ za (Kd.R k34 34 w' w.heap.size (fun _ => True) v7 x7_2) ∧ za (Kd.R (Kd.int .i64) 3 w' w.heap.size (fun _ => True) v212 x8_2) ∧ za (zi w0 w' g s0_0 x1001_2) ∧ za (zq w w' g none) ∧ za (Below w0.heap.size w0 w'))
      case atStart => exact ⟨(x7_1), (x8_1), (0), (x1001_1), Zrs, H', ⟨Nat.le_refl _⟩, ⟨Zq11 HO_7.out⟩, ⟨Zq11 HO_8.out⟩, ⟨Zq5 HI0.out⟩, ⟨Zq6 HK.out⟩, ⟨Zq3 HB.out (zi.ge HI0.out)⟩⟩
      case round =>
       clear H'
       try clear c1
       try clear p2
       try clear c4
       try clear c4b0
       try clear c4b1
       try clear c5
       try clear c5b0
       try clear c5b1
       try clear c6
       try clear c12
       try clear c12b0
       try clear p2
       obtain ⟨x7_2, x8_2, x11_2, x1001_2, rfl, HA, HK2, HO_7, HO_8, HI0, HK, HB⟩ := hrel
       cases gk with
       | zero => exact absurd HA.out (by simp [zt.l1])
       | succ k2 =>
        have H := HA.out
        clear HA
        simp only [zt.l1] at H
        by_cases c13 : x11_2 < (l1.length : Int)
        ·rw [if_pos c13] at H
         have c13b0 : decide (x11_2 < (l1.length : Int)) = true := decide_eq_true c13
         clear c13
         have HC14 := za.mk H
         clear H
         go_upto_region 10 with (fail)
         go_cut [52] (fun v52 wc => ∃ (kq : Nat) (x52_13 : Bool) (x1001_13 : Int), v52 = .bool x52_13 ∧ za (zt.j2 kq l1 a2 x7_2 x8_2 t214 x10_1 x11_2 x52_13 s0_0 x1001_13 = some (r1, r2)) ∧ za (kq ≤ k2) ∧ za (Kd.R k34 34 wc w.heap.size (fun _ => True) u7 x7_2) ∧ za (Kd.R (Kd.int .i64) 3 wc w.heap.size (fun _ => True) v212 x8_2) ∧ za (zi w0 wc g s0_0 x1001_13) ∧ za (zq w wc g none) ∧ za (Below w0.heap.size w0 wc))
         case first =>
          have H := HC14.out
          clear HC14
          by_cases c15 : 0 ≤ x11_2
          ·rw [if_pos c15] at H
           have c15b0 : decide (0 ≤ x11_2) = true := decide_eq_true c15
           clear c15
           (first | rw [c15b0] | (simp only [zb3, zb4]; rw [c15b0]) | skip)
           by_cases c16 : x11_2 < (x8_2.length : Int)
           ·rw [if_pos c16] at H
            have c16b0 : decide (x11_2 < (x8_2.length : Int)) = true := decide_eq_true c16
            clear c16
            by_cases c17 : x10_1 < (rd x8_2 x11_2)
            ·rw [if_pos c17] at H
             have c17b0 : decide (x10_1 < (rd x8_2 x11_2)) = true := decide_eq_true c17
             clear c17
             have H' := za.mk H
             clear H
             obtain ⟨Ao18, co18, eo18⟩ := Kd.zbv HO_8.out
             subst eo18
             have p216 : 0 ≤ (x11_2 : Int) := of_decide_eq_true Zas
             have q216 : x11_2 < (x8_2.length : Int) := of_decide_eq_true Zas
             obtain ⟨ad216, e216, hx216_0⟩ := Kd.zcf (Kd.zbh HO_8.out).2.2 x11_2 p216 q216
             cases e216
             replace p216 := eq_true p216
             replace q216 := eq_true q216
             go_wp2
             go_meet
             case rel => exact ⟨_, (true), (x1001_2), Zrs, H', ⟨by have := HK1.out; have := HK2.out; first | omega | exact Nat.le_refl _⟩, ⟨Zq11 HO_7.out⟩, ⟨Zq11 HO_8.out⟩, ⟨Zq5 HI0.out⟩, ⟨Zq6 HK.out⟩, ⟨Zq3 HB.out (zi.ge HI0.out)⟩⟩
            ·rw [if_neg c17] at H
             have c17b0 : decide (x10_1 < (rd x8_2 x11_2)) = false := decide_eq_false c17
             clear c17
             by_cases c19 : (x7_2.length : Int) = 60
             ·rw [if_pos c19] at H
              have c19b0 : ((x7_2.length : Int) == 60) = true := beq_iff_eq.mpr c19
              have c19b1 : ((x7_2.length : Int) != 60) = false := bne_eq_false_iff_eq.mpr c19
              clear c19
              have H' := za.mk H
              clear H
              obtain ⟨Ao20, co20, eo20⟩ := Kd.zbv HO_8.out
              subst eo20
              have p216 : 0 ≤ (x11_2 : Int) := of_decide_eq_true Zas
              have q216 : x11_2 < (x8_2.length : Int) := of_decide_eq_true Zas
              obtain ⟨ad216, e216, hx216_0⟩ := Kd.zcf (Kd.zbh HO_8.out).2.2 x11_2 p216 q216
              cases e216
              replace p216 := eq_true p216
              replace q216 := eq_true q216
              obtain ⟨Ao21, co21, eo21⟩ := Kd.zbv HO_7.out
              subst eo21
              go_wp2
              go_meet
              case rel => exact ⟨_, (true), (x1001_2), Zrs, H', ⟨by have := HK1.out; have := HK2.out; first | omega | exact Nat.le_refl _⟩, ⟨Zq11 HO_7.out⟩, ⟨Zq11 HO_8.out⟩, ⟨Zq5 HI0.out⟩, ⟨Zq6 HK.out⟩, ⟨Zq3 HB.out (zi.ge HI0.out)⟩⟩
             ·rw [if_neg c19] at H
              have c19b0 : ((x7_2.length : Int) == 60) = false := beq_eq_false_iff_ne.mpr c19
              have c19b1 : ((x7_2.length : Int) != 60) = true := bne_iff_ne.mpr c19
              by_cases c22 : t214 < 2
              ·rw [if_pos c22] at H
               have c22b0 : decide (t214 < 2) = true := decide_eq_true c22
               clear c22
               replace H := Option.bind_eq_some_iff.mp H
               obtain ⟨⟨t217, t218⟩, A230, H⟩ := H
               replace H : (zt.j2 k2 l1 a2 x7_2 x8_2 t214 x10_1 x11_2 (decide (t217 > 1)) s0_0 t218) = some (r1, r2) := H
               have A23 := za.mk A230
               clear A230
               have H' := za.mk H
               clear H
               obtain ⟨Ao24, co24, eo24⟩ := Kd.zbv HO_8.out
               subst eo24
               have p216 : 0 ≤ (x11_2 : Int) := of_decide_eq_true Zas
               have q216 : x11_2 < (x8_2.length : Int) := of_decide_eq_true Zas
               obtain ⟨ad216, e216, hx216_0⟩ := Kd.zcf (Kd.zbh HO_8.out).2.2 x11_2 p216 q216
               cases e216
               replace p216 := eq_true p216
               replace q216 := eq_true q216
               obtain ⟨Ao25, co25, eo25⟩ := Kd.zbv HO_7.out
               subst eo25
               go_wp2_with (first | (go_at_call 68; (with_reducible refine (zb.calls k2 g s0_0 x1001_2 (wrap64 (3 + (wrap64 (7 * t214)))) t217 t218 w0 _ ?side1 ?side2 A23.out).mono ?_); (case side1 => exact Zq5 HI0.out); (case side2 => exact Zq3 HB.out (zi.ge HI0.out)); rintro e w26 ⟨rfl, hi, hb, hk⟩; have n0_ := za.mk (Kd.zbb (Kd.zbp (zi.apart (show zi w0 _ g s0_0 x1001_2 from Zq5 HI0.out) (Zq11 HO_7.out) (by decide)) hk (fun _ h => h.2)) (fun _ h => h.1)); have n1_ := za.mk (Kd.zbb (Kd.zbp (zi.apart (show zi w0 _ g s0_0 x1001_2 from Zq5 HI0.out) (Zq11 HO_8.out) (by decide)) hk (fun _ h => h.2)) (fun _ h => h.1)); have n2_ := za.mk (zq.trans (Zq6 HK.out) hk (.inl rfl)); have n3_ := za.mk (hb); have n4_ := za.mk (hi); clear HO_7; clear HO_8; clear HK; clear HB; clear HI0; have HO_7 := n0_; have HO_8 := n1_; have HK := n2_; have HB := n3_; have HI0 := n4_; clear n0_ n1_ n2_ n3_ n4_; (try clear hb); (try clear hb2); (try clear hk); (try clear hi)))
               go_meet
               case rel => exact ⟨_, (decide (t217 > 1)), (t218), Zrs, H', ⟨by have := HK1.out; have := HK2.out; first | omega | exact Nat.le_refl _⟩, ⟨Zq11 HO_7.out⟩, ⟨Zq11 HO_8.out⟩, ⟨Zq5 HI0.out⟩, ⟨Zq6 HK.out⟩, ⟨Zq3 HB.out (zi.ge HI0.out)⟩⟩
              ·rw [if_neg c22] at H
               have c22b0 : decide (t214 < 2) = false := decide_eq_false c22
               clear c22
               have H' := za.mk H
               clear H
               obtain ⟨Ao27, co27, eo27⟩ := Kd.zbv HO_8.out
               subst eo27
               have p216 : 0 ≤ (x11_2 : Int) := of_decide_eq_true Zas
               have q216 : x11_2 < (x8_2.length : Int) := of_decide_eq_true Zas
               obtain ⟨ad216, e216, hx216_0⟩ := Kd.zcf (Kd.zbh HO_8.out).2.2 x11_2 p216 q216
               cases e216
               replace p216 := eq_true p216
               replace q216 := eq_true q216
               obtain ⟨Ao28, co28, eo28⟩ := Kd.zbv HO_7.out
               subst eo28
               go_wp2
               go_meet
               case rel => exact ⟨_, (false), (x1001_2), Zrs, H', ⟨by have := HK1.out; have := HK2.out; first | omega | exact Nat.le_refl _⟩, ⟨Zq11 HO_7.out⟩, ⟨Zq11 HO_8.out⟩, ⟨Zq5 HI0.out⟩, ⟨Zq6 HK.out⟩, ⟨Zq3 HB.out (zi.ge HI0.out)⟩⟩
           ·rw [if_neg c16] at H
            exact absurd H (by simp)
          ·rw [if_neg c15] at H
           exact absurd H (by simp)
         case rest =>
          clear HC14
          try clear c1
          try clear c2
          try clear p2
          try clear q2
          try clear hx2
          try clear c4
          try clear c4b0
          try clear c4b1
          try clear c5
          try clear c5b0
          try clear c5b1
          try clear c6
          try clear p6
          try clear c12
          try clear c12b0
          try clear c13
          try clear c13b0
          try clear c15
          try clear c15b0
          try clear c16
          try clear c16b0
          try clear c17
          try clear c17b0
          try clear c19
          try clear c19b0
          try clear c19b1
          try clear p21
          try clear q21
          try clear hx21
          try clear c22
          try clear c22b0
          try clear hx216_0
          try clear p2
          try clear p216
          try clear q216
          obtain ⟨kq, x52_13, x1001_13, rfl, HA, HJ13, HO_7, HO_8, HI0, HK, HB⟩ := hcut
          cases kq with
          | zero => exact absurd HA.out (by simp [zt.j2])
          | succ kj13 =>
           have H := HA.out
           clear HA
           simp only [zt.j2] at H
           by_cases c29 : x52_13 = true
           ·subst c29
            have H1 : (zt.l1 kj13 l1 a2 x7_2 x8_2 t214 x10_1 (wrap64 (x11_2 + 1)) s0_0 x1001_13) = some (r1, r2) := by rw [if_pos rfl] at H; exact H
            clear H
            have H := H1
            clear H1
            have H' := za.mk H
            clear H
            go_wp2
            go_roundg kj13
            case measure => have := HK1.out; have := HK2.out; have := HJ13.out; omega
            case rel => exact ⟨(x7_2), (x8_2), (wrap64 (x11_2 + 1)), (x1001_13), Zrs, H', ⟨by have := HK1.out; have := HK2.out; have := HJ13.out; omega⟩, ⟨Zq11 HO_7.out⟩, ⟨Zq11 HO_8.out⟩, ⟨Zq5 HI0.out⟩, ⟨Zq6 HK.out⟩, ⟨Zq3 HB.out (zi.ge HI0.out)⟩⟩
           ·replace c29 := Bool.eq_false_iff.mpr c29
            subst c29
            have H1 : (if 0 ≤ x11_2 then (if x11_2 < (l1.length : Int) then ((zb.f kj13 s0_0 x1001_13 3).bind fun bt220 => (if bt220.1 = 0 then ((zb.f kj13 s0_0 bt220.2 ((zl l1 x11_2).f0)).bind fun bt222 => (if x7_2.length < 4398046511104 then (if x11_2 < (x8_2.length : Int) then (zt.l1 kj13 l1 a2 (x7_2 ++ [(⟨x11_2, x10_1, wrap64 (x10_1 + ((zl l1 x11_2).f1)), wrap64 (1 + bt222.1)⟩ : S34)]) (x8_2.set (x11_2 : Int).toNat (wrap64 (x10_1 + ((zl l1 x11_2).f2)))) t214 x10_1 (wrap64 (x11_2 + 1)) s0_0 bt222.2) else (none)) else (none))) else (if x7_2.length < 4398046511104 then (if x11_2 < (x8_2.length : Int) then (zt.l1 kj13 l1 a2 (x7_2 ++ [(⟨x11_2, x10_1, wrap64 (x10_1 + ((zl l1 x11_2).f1)), (zl l1 x11_2).f0⟩ : S34)]) (x8_2.set (x11_2 : Int).toNat (wrap64 (x10_1 + ((zl l1 x11_2).f2)))) t214 x10_1 (wrap64 (x11_2 + 1)) s0_0 bt220.2) else (none)) else (none)))) else (none)) else (none)) = some (r1, r2) := by rw [if_neg (show ¬ (false = true) by decide)] at H; exact H
            clear H
            have H := H1
            clear H1
            by_cases c30 : 0 ≤ x11_2
            ·rw [if_pos c30] at H
             have c30b0 : decide (0 ≤ x11_2) = true := decide_eq_true c30
             clear c30
             by_cases c31 : x11_2 < (l1.length : Int)
             ·rw [if_pos c31] at H
              have c31b0 : decide (x11_2 < (l1.length : Int)) = true := decide_eq_true c31
              clear c31
              replace H := Option.bind_eq_some_iff.mp H
              obtain ⟨⟨t220, t221⟩, A320, H⟩ := H
              replace H : (if t220 = 0 then ((zb.f kj13 s0_0 t221 ((zl l1 x11_2).f0)).bind fun bt222 => (if x7_2.length < 4398046511104 then (if x11_2 < (x8_2.length : Int) then (zt.l1 kj13 l1 a2 (x7_2 ++ [(⟨x11_2, x10_1, wrap64 (x10_1 + ((zl l1 x11_2).f1)), wrap64 (1 + bt222.1)⟩ : S34)]) (x8_2.set (x11_2 : Int).toNat (wrap64 (x10_1 + ((zl l1 x11_2).f2)))) t214 x10_1 (wrap64 (x11_2 + 1)) s0_0 bt222.2) else (none)) else (none))) else (if x7_2.length < 4398046511104 then (if x11_2 < (x8_2.length : Int) then (zt.l1 kj13 l1 a2 (x7_2 ++ [(⟨x11_2, x10_1, wrap64 (x10_1 + ((zl l1 x11_2).f1)), (zl l1 x11_2).f0⟩ : S34)]) (x8_2.set (x11_2 : Int).toNat (wrap64 (x10_1 + ((zl l1 x11_2).f2)))) t214 x10_1 (wrap64 (x11_2 + 1)) s0_0 t221) else (none)) else (none))) = some (r1, r2) := H
              have A32 := za.mk A320
              clear A320
              by_cases c33 : t220 = 0
              ·rw [if_pos c33] at H
               have c33b0 : (t220 == 0) = true := beq_iff_eq.mpr c33
               have c33b1 : (t220 != 0) = false := bne_eq_false_iff_eq.mpr c33
               clear c33
               replace H := Option.bind_eq_some_iff.mp H
               obtain ⟨⟨t222, t223⟩, A340, H⟩ := H
               replace H : (if x7_2.length < 4398046511104 then (if x11_2 < (x8_2.length : Int) then (zt.l1 kj13 l1 a2 (x7_2 ++ [(⟨x11_2, x10_1, wrap64 (x10_1 + ((zl l1 x11_2).f1)), wrap64 (1 + t222)⟩ : S34)]) (x8_2.set (x11_2 : Int).toNat (wrap64 (x10_1 + ((zl l1 x11_2).f2)))) t214 x10_1 (wrap64 (x11_2 + 1)) s0_0 t223) else (none)) else (none)) = some (r1, r2) := H
               have A34 := za.mk A340
               clear A340
               by_cases c35 : x7_2.length < 4398046511104
               ·rw [if_pos c35] at H
                have LMc35 := za.mk c35
                clear c35
                obtain ⟨y225, hy225⟩ : ∃ y_ : List (S34), y_ = (x7_2 ++ [(⟨x11_2, x10_1, wrap64 (x10_1 + ((zl l1 x11_2).f1)), wrap64 (1 + t222)⟩ : S34)]) := ⟨_, rfl⟩
                replace H : (if x11_2 < (x8_2.length : Int) then (zt.l1 kj13 l1 a2 y225 (x8_2.set (x11_2 : Int).toNat (wrap64 (x10_1 + ((zl l1 x11_2).f2)))) t214 x10_1 (wrap64 (x11_2 + 1)) s0_0 t223) else (none)) = some (r1, r2) := by first | (rw [hy225]; with_reducible exact H) | (have H2_ := (Option.bind_some _ _).symm.trans H; rw [hy225]; with_reducible exact H2_) | (have H2_ := (Option.bind_some _ _).symm.trans H; with_reducible exact H2_) | with_reducible exact H | (rw [hy225]; exact H) | exact H
                have Ny225 := za.mk hy225
                clear hy225
                by_cases c36 : x11_2 < (x8_2.length : Int)
                ·rw [if_pos c36] at H
                 have c36b0 : decide (x11_2 < (x8_2.length : Int)) = true := decide_eq_true c36
                 clear c36
                 obtain ⟨y229, hy229⟩ : ∃ y_ : List Int, y_ = (x8_2.set (x11_2 : Int).toNat (wrap64 (x10_1 + ((zl l1 x11_2).f2)))) := ⟨_, rfl⟩
                 replace H : (zt.l1 kj13 l1 a2 y225 y229 t214 x10_1 (wrap64 (x11_2 + 1)) s0_0 t223) = some (r1, r2) := by first | (rw [hy229]; with_reducible exact H) | (have H2_ := (Option.bind_some _ _).symm.trans H; rw [hy229]; with_reducible exact H2_) | (have H2_ := (Option.bind_some _ _).symm.trans H; with_reducible exact H2_) | with_reducible exact H | (rw [hy229]; exact H) | exact H
                 have Ny229 := za.mk hy229
                 clear hy229
                 have H' := za.mk H
                 clear H
                 have p219 : 0 ≤ (x11_2 : Int) := of_decide_eq_true Zas
                 have q219 : x11_2 < (l1.length : Int) := of_decide_eq_true Zas
                 obtain ⟨ad219, e219, hx219_0, hx219_1, hx219_2⟩ := zds (Kd.C_foot_now HR1.out HK.out) x11_2 p219 q219
                 cases e219
                 replace p219 := eq_true p219
                 replace q219 := eq_true q219
                 go_wp2_with (first | ((with_reducible refine zba (f := 68) rfl ?_); refine zbx (some 59) rfl rfl Try.func68 (by kernel_rfl) rfl #[.pointer (some ⟨g, 0, none⟩), .int .i64 3] rfl Zmt ?_; (with_reducible refine (zb.calls kj13 g s0_0 x1001_13 3 t220 t221 w0 _ ?side1 ?side2 A32.out).mono ?_); (case side1 => exact Zq5 HI0.out); (case side2 => exact Zq3 HB.out (zi.ge HI0.out)); rintro e w38 ⟨rfl, hi, hb, hk⟩; refine ⟨_, rfl, ?_⟩; have n0_ := za.mk (Kd.zbb (Kd.zbp (zi.apart (show zi w0 _ g s0_0 x1001_13 from Zq5 HI0.out) (Zq11 HO_7.out) (by decide)) hk (fun _ h => h.2)) (fun _ h => h.1)); have n1_ := za.mk (Kd.zbb (Kd.zbp (zi.apart (show zi w0 _ g s0_0 x1001_13 from Zq5 HI0.out) (Zq11 HO_8.out) (by decide)) hk (fun _ h => h.2)) (fun _ h => h.1)); have n2_ := za.mk (zq.trans (Zq6 HK.out) hk (.inl rfl)); have n3_ := za.mk (hb); have n4_ := za.mk (hi); clear HO_7; clear HO_8; clear HK; clear HB; clear HI0; have HO_7 := n0_; have HO_8 := n1_; have HK := n2_; have HB := n3_; have HI0 := n4_; clear n0_ n1_ n2_ n3_ n4_; (try clear hb); (try clear hb2); (try clear hk); (try clear hi)) | ((with_reducible refine zba (f := 68) rfl ?_); refine zbx (some 63) rfl rfl Try.func68 (by kernel_rfl) rfl #[.pointer (some ⟨g, 0, none⟩), .int .i64 ((zl l1 x11_2).f0)] rfl Zmt ?_; (with_reducible refine (zb.calls kj13 g s0_0 t221 ((zl l1 x11_2).f0) t222 t223 w0 _ ?side1 ?side2 A34.out).mono ?_); (case side1 => exact Zq5 HI0.out); (case side2 => exact Zq3 HB.out (zi.ge HI0.out)); rintro e w39 ⟨rfl, hi, hb, hk⟩; refine ⟨_, rfl, ?_⟩; have n0_ := za.mk (Kd.zbb (Kd.zbp (zi.apart (show zi w0 _ g s0_0 t221 from Zq5 HI0.out) (Zq11 HO_7.out) (by decide)) hk (fun _ h => h.2)) (fun _ h => h.1)); have n1_ := za.mk (Kd.zbb (Kd.zbp (zi.apart (show zi w0 _ g s0_0 t221 from Zq5 HI0.out) (Zq11 HO_8.out) (by decide)) hk (fun _ h => h.2)) (fun _ h => h.1)); have n2_ := za.mk (zq.trans (Zq6 HK.out) hk (.inl rfl)); have n3_ := za.mk (hb); have n4_ := za.mk (hi); clear HO_7; clear HO_8; clear HK; clear HB; clear HI0; have HO_7 := n0_; have HO_8 := n1_; have HK := n2_; have HB := n3_; have HI0 := n4_; clear n0_ n1_ n2_ n3_ n4_; (try clear hb); (try clear hb2); (try clear hk); (try clear hi); have p224 : 0 ≤ (x11_2 : Int) := of_decide_eq_true Zas; have q224 : x11_2 < (l1.length : Int) := of_decide_eq_true Zas; obtain ⟨ad224, e224, hx224_0, hx224_1, hx224_2⟩ := zds (Kd.C_foot_now HR1.out HK.out) x11_2 p224 q224; obtain rfl : ad219 = ad224 := (by injection e224); replace p224 := eq_true p224; replace q224 := eq_true q224) | ((with_reducible refine zcd (b := .append) (xs := #[.tmp 65, .tmp 77]) rfl ?_); (try (refine zcn (by rfl) ?_; dsimp only)); at_builtin; refine Kd.zdc k34 w.heap.size rfl (.tmp 65) (.tmp 77) 24 34 (.agg #[(.int .i64 0), (.int .i64 0), (.int .i64 0), (.int .i64 0)]) 32 rfl Try.underlying24 info34 rfl (by decide) (by omega) u7 x7_2 (⟨x11_2, x10_1, wrap64 (x10_1 + ((zl l1 x11_2).f1)), wrap64 (1 + t222)⟩ : S34) [.int .i64 x11_2, .int .i64 x10_1, .int .i64 (wrap64 (x10_1 + ((zl l1 x11_2).f1))), .int .i64 (wrap64 (1 + t222))] (fun _ => True) (fun _ => False) rfl rfl ?aP (fun _ hk => hk.elim) ?aF ?aO (Below.refl _ _) ?aS ?aL ?_; (case aP => exact k34_mkM _ _ _ (⟨x11_2, x10_1, wrap64 (x10_1 + ((zl l1 x11_2).f1)), wrap64 (1 + t222)⟩ : S34)); (case aF => exact (fun _ _ => trivial)); (case aO => exact (Zq11 HO_7.out)); (case aS => exact (zb5 (w := w) (g := g) (row := none) (Zq6 HK.out))); (case aL => have := LMc35.out; omega); intro v226 w40 ho hb hg hat; rw [← Ny225.out] at ho; have n0_ := za.mk (Kd.R_over' (Zq11 HO_8.out) (Kd.R_typed (Zq11 HO_7.out)) (by decide) hg); have n1_ := za.mk (zi.grown (Zq5 HI0.out) hg (zi.own_ne HI0.out HO_7.out (by decide))); have n2_ := za.mk (zct (Zq3 HB.out (zi.ge HI0.out)) HL.out hb); have n3_ := za.mk (zq.trans (Zq6 HK.out) (zq.zdb hg g) (Kd.R_base2 HO_7.out)); have n4_ := za.mk (ho); clear HO_8; clear HI0; clear HB; clear HK; clear HO_7; have HO_8 := n0_; have HI0 := n1_; have HB := n2_; have HK := n3_; have HO227 := n4_; clear n0_ n1_ n2_ n3_ n4_; clear ho hb hg hat; have p228 : 0 ≤ (x11_2 : Int) := of_decide_eq_true Zas; have q228 : x11_2 < (l1.length : Int) := of_decide_eq_true Zas; obtain ⟨ad228, e228, hx228_0, hx228_1, hx228_2⟩ := zds (Kd.C_foot_now HR1.out HK.out) x11_2 p228 q228; obtain rfl : ad219 = ad228 := (by injection e228); replace p228 := eq_true p228; replace q228 := eq_true q228; have p37 : 0 ≤ (x11_2 : Int) := of_decide_eq_true Zas; have q37 : (x11_2 : Int) < ((x8_2.length : Int) : Int) := of_decide_eq_true Zas; obtain ⟨go37, co37, eo37, gb37, gl37, cl37, HG37⟩ := Kd.R_form HO_8.out (by omega); (first | cases eo37 | (injection eo37 with ea_ en_ ec_; (first | subst ea_ | (injection ea_ with ea_; subst ea_)); subst ec_; clear en_)); have GB37 := za.mk gb37; have GG37 := za.mk HG37; clear gb37 gl37 HG37; obtain ⟨hx37_0, hf37_0⟩ := Kd.zdi 0 HO_8.out (x11_2 : Int) p37 q37; replace p37 := eq_true p37; replace q37 := eq_true q37; obtain ⟨hy41_, hz41_⟩ := Kd.zdi 0 HO_8.out (x11_2 : Int) (of_decide_eq_true Zas) (of_decide_eq_true Zas); have HP41 := Kd.zde HO_8.out (x11_2 : Int) (wrap64 (x10_1 + ((zl l1 x11_2).f2)))) | ((with_reducible refine zcg (t := 3) (p := 88) rfl ?_); refine zb8 (t := 3) (p := 88) (v := ?vo_w42) (w1 := (w40.setCell ⟨go37, (x11_2 : Int).toNat, none⟩ (.int .i64 (wrap64 (x10_1 + ((zl l1 x11_2).f2)))))) ?hg ?ho ?hn ?hr ?_; (case ho => rfl); (case hg => rfl); (case hn => rfl); (case hr => first | (go_simp; done) | (go_simp; rfl)); intro w42 hw; have hg : w40.grownBy w42 (some go37) := (by rw [hw]; exact HP41.2); have hp_ : Kd.R (Kd.int .i64) 3 w42 w.heap.size (fun _ => True) (.slice (some ⟨go37, 0, none⟩) x8_2.length co37) y229 := (by rw [hw, Ny229.out]; exact HP41.1); clear HP41; have n0_ := za.mk (hp_); have n1_ := za.mk (zi.grown (Zq5 HI0.out) hg (zi.own_ne HI0.out HO_8.out (by decide))); have n2_ := za.mk (Kd.R_over' (v := (.slice (some ⟨go37, 0, none⟩) x8_2.length co37)) (Zq11 HO227.out) (Kd.R_typed HO_8.out) (by decide) hg); have n3_ := za.mk ((by rw [hw]; exact zbw (HB.out) (Nat.le_trans HL.out GB37.out) : Below w0.heap.size w0 w42)); have n4_ := za.mk (zq.trans (Zq6 HK.out) (zq.zdb hg g) (Kd.R_base2 HO_8.out)); clear HO_8; clear HI0; clear HO227; clear HB; clear HK; have HO_8 := n0_; have HI0 := n1_; have HO227 := n2_; have HB := n3_; have HK := n4_; clear n0_ n1_ n2_ n3_ n4_; clear hg hw hp_))
                 go_roundg kj13
                 case measure => have := HK1.out; have := HK2.out; have := HJ13.out; omega
                 case rel => exact ⟨(y225), (y229), (wrap64 (x11_2 + 1)), (t223), Zrs, H', ⟨by have := HK1.out; have := HK2.out; have := HJ13.out; omega⟩, ⟨Zq11 HO227.out⟩, ⟨Zq11 HO_8.out⟩, ⟨Zq5 HI0.out⟩, ⟨Zq6 HK.out⟩, ⟨Zq3 HB.out (zi.ge HI0.out)⟩⟩
                ·rw [if_neg c36] at H
                 exact absurd H (by simp)
               ·rw [if_neg c35] at H
                exact absurd H (by simp)
              ·rw [if_neg c33] at H
               have c33b0 : (t220 == 0) = false := beq_eq_false_iff_ne.mpr c33
               have c33b1 : (t220 != 0) = true := bne_iff_ne.mpr c33
               by_cases c43 : x7_2.length < 4398046511104
               ·rw [if_pos c43] at H
                have LMc43 := za.mk c43
                clear c43
                obtain ⟨y231, hy231⟩ : ∃ y_ : List (S34), y_ = (x7_2 ++ [(⟨x11_2, x10_1, wrap64 (x10_1 + ((zl l1 x11_2).f1)), (zl l1 x11_2).f0⟩ : S34)]) := ⟨_, rfl⟩
                replace H : (if x11_2 < (x8_2.length : Int) then (zt.l1 kj13 l1 a2 y231 (x8_2.set (x11_2 : Int).toNat (wrap64 (x10_1 + ((zl l1 x11_2).f2)))) t214 x10_1 (wrap64 (x11_2 + 1)) s0_0 t221) else (none)) = some (r1, r2) := by first | (rw [hy231]; with_reducible exact H) | (have H2_ := (Option.bind_some _ _).symm.trans H; rw [hy231]; with_reducible exact H2_) | (have H2_ := (Option.bind_some _ _).symm.trans H; with_reducible exact H2_) | with_reducible exact H | (rw [hy231]; exact H) | exact H
                have Ny231 := za.mk hy231
                clear hy231
                by_cases c44 : x11_2 < (x8_2.length : Int)
                ·rw [if_pos c44] at H
                 have c44b0 : decide (x11_2 < (x8_2.length : Int)) = true := decide_eq_true c44
                 clear c44
                 obtain ⟨y235, hy235⟩ : ∃ y_ : List Int, y_ = (x8_2.set (x11_2 : Int).toNat (wrap64 (x10_1 + ((zl l1 x11_2).f2)))) := ⟨_, rfl⟩
                 replace H : (zt.l1 kj13 l1 a2 y231 y235 t214 x10_1 (wrap64 (x11_2 + 1)) s0_0 t221) = some (r1, r2) := by first | (rw [hy235]; with_reducible exact H) | (have H2_ := (Option.bind_some _ _).symm.trans H; rw [hy235]; with_reducible exact H2_) | (have H2_ := (Option.bind_some _ _).symm.trans H; with_reducible exact H2_) | with_reducible exact H | (rw [hy235]; exact H) | exact H
                 have Ny235 := za.mk hy235
                 clear hy235
                 have H' := za.mk H
                 clear H
                 have p219 : 0 ≤ (x11_2 : Int) := of_decide_eq_true Zas
                 have q219 : x11_2 < (l1.length : Int) := of_decide_eq_true Zas
                 obtain ⟨ad219, e219, hx219_0, hx219_1, hx219_2⟩ := zds (Kd.C_foot_now HR1.out HK.out) x11_2 p219 q219
                 cases e219
                 replace p219 := eq_true p219
                 replace q219 := eq_true q219
                 go_wp2_with (first | ((with_reducible refine zba (f := 68) rfl ?_); refine zbx (some 59) rfl rfl Try.func68 (by kernel_rfl) rfl #[.pointer (some ⟨g, 0, none⟩), .int .i64 3] rfl Zmt ?_; (with_reducible refine (zb.calls kj13 g s0_0 x1001_13 3 t220 t221 w0 _ ?side1 ?side2 A32.out).mono ?_); (case side1 => exact Zq5 HI0.out); (case side2 => exact Zq3 HB.out (zi.ge HI0.out)); rintro e w46 ⟨rfl, hi, hb, hk⟩; refine ⟨_, rfl, ?_⟩; have n0_ := za.mk (Kd.zbb (Kd.zbp (zi.apart (show zi w0 _ g s0_0 x1001_13 from Zq5 HI0.out) (Zq11 HO_7.out) (by decide)) hk (fun _ h => h.2)) (fun _ h => h.1)); have n1_ := za.mk (Kd.zbb (Kd.zbp (zi.apart (show zi w0 _ g s0_0 x1001_13 from Zq5 HI0.out) (Zq11 HO_8.out) (by decide)) hk (fun _ h => h.2)) (fun _ h => h.1)); have n2_ := za.mk (zq.trans (Zq6 HK.out) hk (.inl rfl)); have n3_ := za.mk (hb); have n4_ := za.mk (hi); clear HO_7; clear HO_8; clear HK; clear HB; clear HI0; have HO_7 := n0_; have HO_8 := n1_; have HK := n2_; have HB := n3_; have HI0 := n4_; clear n0_ n1_ n2_ n3_ n4_; (try clear hb); (try clear hb2); (try clear hk); (try clear hi); have p230 : 0 ≤ (x11_2 : Int) := of_decide_eq_true Zas; have q230 : x11_2 < (l1.length : Int) := of_decide_eq_true Zas; obtain ⟨ad230, e230, hx230_0, hx230_1, hx230_2⟩ := zds (Kd.C_foot_now HR1.out HK.out) x11_2 p230 q230; obtain rfl : ad219 = ad230 := (by injection e230); replace p230 := eq_true p230; replace q230 := eq_true q230) | ((with_reducible refine zcd (b := .append) (xs := #[.tmp 65, .tmp 77]) rfl ?_); (try (refine zcn (by rfl) ?_; dsimp only)); at_builtin; refine Kd.zdc k34 w.heap.size rfl (.tmp 65) (.tmp 77) 24 34 (.agg #[(.int .i64 0), (.int .i64 0), (.int .i64 0), (.int .i64 0)]) 32 rfl Try.underlying24 info34 rfl (by decide) (by omega) u7 x7_2 (⟨x11_2, x10_1, wrap64 (x10_1 + ((zl l1 x11_2).f1)), (zl l1 x11_2).f0⟩ : S34) [.int .i64 x11_2, .int .i64 x10_1, .int .i64 (wrap64 (x10_1 + ((zl l1 x11_2).f1))), .int .i64 ((zl l1 x11_2).f0)] (fun _ => True) (fun _ => False) rfl rfl ?aP (fun _ hk => hk.elim) ?aF ?aO (Below.refl _ _) ?aS ?aL ?_; (case aP => exact k34_mkM _ _ _ (⟨x11_2, x10_1, wrap64 (x10_1 + ((zl l1 x11_2).f1)), (zl l1 x11_2).f0⟩ : S34)); (case aF => exact (fun _ _ => trivial)); (case aO => exact (Zq11 HO_7.out)); (case aS => exact (zb5 (w := w) (g := g) (row := none) (Zq6 HK.out))); (case aL => have := LMc43.out; omega); intro v232 w47 ho hb hg hat; rw [← Ny231.out] at ho; have n0_ := za.mk (Kd.R_over' (Zq11 HO_8.out) (Kd.R_typed (Zq11 HO_7.out)) (by decide) hg); have n1_ := za.mk (zi.grown (Zq5 HI0.out) hg (zi.own_ne HI0.out HO_7.out (by decide))); have n2_ := za.mk (zct (Zq3 HB.out (zi.ge HI0.out)) HL.out hb); have n3_ := za.mk (zq.trans (Zq6 HK.out) (zq.zdb hg g) (Kd.R_base2 HO_7.out)); have n4_ := za.mk (ho); clear HO_8; clear HI0; clear HB; clear HK; clear HO_7; have HO_8 := n0_; have HI0 := n1_; have HB := n2_; have HK := n3_; have HO233 := n4_; clear n0_ n1_ n2_ n3_ n4_; clear ho hb hg hat; have p234 : 0 ≤ (x11_2 : Int) := of_decide_eq_true Zas; have q234 : x11_2 < (l1.length : Int) := of_decide_eq_true Zas; obtain ⟨ad234, e234, hx234_0, hx234_1, hx234_2⟩ := zds (Kd.C_foot_now HR1.out HK.out) x11_2 p234 q234; obtain rfl : ad219 = ad234 := (by injection e234); replace p234 := eq_true p234; replace q234 := eq_true q234; have p45 : 0 ≤ (x11_2 : Int) := of_decide_eq_true Zas; have q45 : (x11_2 : Int) < ((x8_2.length : Int) : Int) := of_decide_eq_true Zas; obtain ⟨go45, co45, eo45, gb45, gl45, cl45, HG45⟩ := Kd.R_form HO_8.out (by omega); (first | cases eo45 | (injection eo45 with ea_ en_ ec_; (first | subst ea_ | (injection ea_ with ea_; subst ea_)); subst ec_; clear en_)); have GB45 := za.mk gb45; have GG45 := za.mk HG45; clear gb45 gl45 HG45; obtain ⟨hx45_0, hf45_0⟩ := Kd.zdi 0 HO_8.out (x11_2 : Int) p45 q45; replace p45 := eq_true p45; replace q45 := eq_true q45; obtain ⟨hy48_, hz48_⟩ := Kd.zdi 0 HO_8.out (x11_2 : Int) (of_decide_eq_true Zas) (of_decide_eq_true Zas); have HP48 := Kd.zde HO_8.out (x11_2 : Int) (wrap64 (x10_1 + ((zl l1 x11_2).f2)))) | ((with_reducible refine zcg (t := 3) (p := 88) rfl ?_); refine zb8 (t := 3) (p := 88) (v := ?vo_w49) (w1 := (w47.setCell ⟨go45, (x11_2 : Int).toNat, none⟩ (.int .i64 (wrap64 (x10_1 + ((zl l1 x11_2).f2)))))) ?hg ?ho ?hn ?hr ?_; (case ho => rfl); (case hg => rfl); (case hn => rfl); (case hr => first | (go_simp; done) | (go_simp; rfl)); intro w49 hw; have hg : w47.grownBy w49 (some go45) := (by rw [hw]; exact HP48.2); have hp_ : Kd.R (Kd.int .i64) 3 w49 w.heap.size (fun _ => True) (.slice (some ⟨go45, 0, none⟩) x8_2.length co45) y235 := (by rw [hw, Ny235.out]; exact HP48.1); clear HP48; have n0_ := za.mk (hp_); have n1_ := za.mk (zi.grown (Zq5 HI0.out) hg (zi.own_ne HI0.out HO_8.out (by decide))); have n2_ := za.mk (Kd.R_over' (v := (.slice (some ⟨go45, 0, none⟩) x8_2.length co45)) (Zq11 HO233.out) (Kd.R_typed HO_8.out) (by decide) hg); have n3_ := za.mk ((by rw [hw]; exact zbw (HB.out) (Nat.le_trans HL.out GB45.out) : Below w0.heap.size w0 w49)); have n4_ := za.mk (zq.trans (Zq6 HK.out) (zq.zdb hg g) (Kd.R_base2 HO_8.out)); clear HO_8; clear HI0; clear HO233; clear HB; clear HK; have HO_8 := n0_; have HI0 := n1_; have HO233 := n2_; have HB := n3_; have HK := n4_; clear n0_ n1_ n2_ n3_ n4_; clear hg hw hp_))
                 go_roundg kj13
                 case measure => have := HK1.out; have := HK2.out; have := HJ13.out; omega
                 case rel => exact ⟨(y231), (y235), (wrap64 (x11_2 + 1)), (t221), Zrs, H', ⟨by have := HK1.out; have := HK2.out; have := HJ13.out; omega⟩, ⟨Zq11 HO233.out⟩, ⟨Zq11 HO_8.out⟩, ⟨Zq5 HI0.out⟩, ⟨Zq6 HK.out⟩, ⟨Zq3 HB.out (zi.ge HI0.out)⟩⟩
                ·rw [if_neg c44] at H
                 exact absurd H (by simp)
               ·rw [if_neg c43] at H
                exact absurd H (by simp)
             ·rw [if_neg c31] at H
              exact absurd H (by simp)
            ·rw [if_neg c30] at H
             exact absurd H (by simp)
        ·rw [if_neg c13] at H
         have c13b0 : decide (x11_2 < (l1.length : Int)) = false := decide_eq_false c13
         clear c13
         have H' := za.mk H
         clear H
         go_wp2
         go_roundg k2
         case measure => have := HK1.out; have := HK2.out; omega
         case rel => exact ⟨(x7_2), (x8_2), (wrap64 (x10_1 + 1)), (x1001_2), Zrs, H', ⟨by have := HK1.out; have := HK2.out; omega⟩, ⟨Zq11 HO_7.out⟩, ⟨Zq11 HO_8.out⟩, ⟨Zq5 HI0.out⟩, ⟨Zq6 HK.out⟩, ⟨Zq3 HB.out (zi.ge HI0.out)⟩⟩
     ·rw [if_neg c12] at H
      have c12b0 : decide (x10_1 < 100) = false := decide_eq_false c12
      clear c12
      have HC50 := za.mk H
      clear H
      go_upto_region 16 with (fail)
      go_cut [96] (fun v96 wc => ∃ (kq : Nat) (x96_49 : Bool) (x1001_49 : Int), v96 = .bool x96_49 ∧ za (zt.j3 kq l1 x7_1 x96_49 s0_0 x1001_49 = some (r1, r2)) ∧ za (kq ≤ k1) ∧ za (Kd.R k34 34 wc w.heap.size (fun _ => True) u7 x7_1) ∧ za (zi w0 wc g s0_0 x1001_49) ∧ za (zq w wc g none) ∧ za (Below w0.heap.size w0 wc))
      case first =>
       have H := HC50.out
       clear HC50
       replace H := Option.bind_eq_some_iff.mp H
       obtain ⟨⟨t236, t237⟩, A510, H⟩ := H
       replace H : (if t236 = true then (zt.j3 k1 l1 x7_1 (decide ((x7_1.length : Int) > 0)) s0_0 t237) else (zt.j3 k1 l1 x7_1 false s0_0 t237)) = some (r1, r2) := H
       have A51 := za.mk A510
       clear A510
       by_cases c52 : t236 = true
       ·subst c52
        have H1 : (zt.j3 k1 l1 x7_1 (decide ((x7_1.length : Int) > 0)) s0_0 t237) = some (r1, r2) := by rw [if_pos rfl] at H; exact H
        clear H
        have H := H1
        clear H1
        have H' := za.mk H
        clear H
        go_wp2_with (first | ((with_reducible refine zba (f := 89) rfl ?_); refine zbx (some 91) rfl rfl Try.func89 (by kernel_rfl) rfl #[.pointer (some ⟨g, 0, none⟩), .int .i64 a2] rfl Zmt ?_; (with_reducible refine (zbg.calls k1 g s0_0 x1001_1 a2 true t237 w0 _ ?side1 ?side2 A51.out).mono ?_); (case side1 => exact Zq5 HI0.out); (case side2 => exact Zq3 HB.out (zi.ge HI0.out)); rintro e w53 ⟨rfl, hi, hb, hk⟩; refine ⟨_, rfl, ?_⟩; have n0_ := za.mk (Kd.zbb (Kd.zbp (zi.apart (show zi w0 _ g s0_0 x1001_1 from Zq5 HI0.out) (Zq11 HO_7.out) (by decide)) hk (fun _ h => h.2)) (fun _ h => h.1)); have n1_ := za.mk (Kd.zbb (Kd.zbp (zi.apart (show zi w0 _ g s0_0 x1001_1 from Zq5 HI0.out) (Zq11 HO_8.out) (by decide)) hk (fun _ h => h.2)) (fun _ h => h.1)); have n2_ := za.mk (zq.trans (Zq6 HK.out) hk (.inl rfl)); have n3_ := za.mk (hb); have n4_ := za.mk (hi); clear HO_7; clear HO_8; clear HK; clear HB; clear HI0; have HO_7 := n0_; have HO_8 := n1_; have HK := n2_; have HB := n3_; have HI0 := n4_; clear n0_ n1_ n2_ n3_ n4_; (try clear hb); (try clear hb2); (try clear hk); (try clear hi); obtain ⟨Ao54, co54, eo54⟩ := Kd.zbv HO_7.out; subst eo54))
        go_meet
        case rel => exact ⟨_, (decide ((x7_1.length : Int) > 0)), (t237), Zrs, H', ⟨by have := HK1.out; first | omega | exact Nat.le_refl _⟩, ⟨Zq11 HO_7.out⟩, ⟨Zq5 HI0.out⟩, ⟨Zq6 HK.out⟩, ⟨Zq3 HB.out (zi.ge HI0.out)⟩⟩
       ·replace c52 := Bool.eq_false_iff.mpr c52
        subst c52
        have H1 : (zt.j3 k1 l1 x7_1 false s0_0 t237) = some (r1, r2) := by rw [if_neg (show ¬ (false = true) by decide)] at H; exact H
        clear H
        have H := H1
        clear H1
        have H' := za.mk H
        clear H
        go_wp2_with (first | ((with_reducible refine zba (f := 89) rfl ?_); refine zbx (some 91) rfl rfl Try.func89 (by kernel_rfl) rfl #[.pointer (some ⟨g, 0, none⟩), .int .i64 a2] rfl Zmt ?_; (with_reducible refine (zbg.calls k1 g s0_0 x1001_1 a2 false t237 w0 _ ?side1 ?side2 A51.out).mono ?_); (case side1 => exact Zq5 HI0.out); (case side2 => exact Zq3 HB.out (zi.ge HI0.out)); rintro e w55 ⟨rfl, hi, hb, hk⟩; refine ⟨_, rfl, ?_⟩; have n0_ := za.mk (Kd.zbb (Kd.zbp (zi.apart (show zi w0 _ g s0_0 x1001_1 from Zq5 HI0.out) (Zq11 HO_7.out) (by decide)) hk (fun _ h => h.2)) (fun _ h => h.1)); have n1_ := za.mk (Kd.zbb (Kd.zbp (zi.apart (show zi w0 _ g s0_0 x1001_1 from Zq5 HI0.out) (Zq11 HO_8.out) (by decide)) hk (fun _ h => h.2)) (fun _ h => h.1)); have n2_ := za.mk (zq.trans (Zq6 HK.out) hk (.inl rfl)); have n3_ := za.mk (hb); have n4_ := za.mk (hi); clear HO_7; clear HO_8; clear HK; clear HB; clear HI0; have HO_7 := n0_; have HO_8 := n1_; have HK := n2_; have HB := n3_; have HI0 := n4_; clear n0_ n1_ n2_ n3_ n4_; (try clear hb); (try clear hb2); (try clear hk); (try clear hi)))
        go_meet
        case rel => exact ⟨_, (false), (t237), Zrs, H', ⟨by have := HK1.out; first | omega | exact Nat.le_refl _⟩, ⟨Zq11 HO_7.out⟩, ⟨Zq5 HI0.out⟩, ⟨Zq6 HK.out⟩, ⟨Zq3 HB.out (zi.ge HI0.out)⟩⟩
      case rest =>
       clear HC50
       try clear c1
       try clear c2
       try clear p2
       try clear q2
       try clear hx2
       try clear c3
       try clear p3
       try clear q3
       try clear hx3
       try clear hf3
       try clear c4
       try clear c4b0
       try clear c4b1
       try clear p4
       try clear q4
       try clear hx4
       try clear hf4
       try clear c5
       try clear c5b0
       try clear c5b1
       try clear c6
       try clear p6
       try clear c8
       try clear c12
       try clear c12b0
       try clear c13
       try clear c13b0
       try clear c15
       try clear c15b0
       try clear c16
       try clear c16b0
       try clear c17
       try clear c17b0
       try clear c19
       try clear c19b0
       try clear c19b1
       try clear p21
       try clear q21
       try clear hx21
       try clear c22
       try clear c22b0
       try clear p22
       try clear q22
       try clear hx22
       try clear p23
       try clear q23
       try clear hx23
       try clear c29
       try clear c30
       try clear c30b0
       try clear c31
       try clear c31b0
       try clear c33
       try clear c33b0
       try clear c33b1
       try clear c35
       try clear c36
       try clear c36b0
       try clear p37
       try clear q37
       try clear hx37
       try clear hf37
       try clear c43
       try clear c44
       try clear c44b0
       try clear p45
       try clear q45
       try clear hx45
       try clear hf45
       try clear c47
       try clear c52
       try clear hx216_0
       try clear hx219_0
       try clear hx219_1
       try clear hx219_2
       try clear hx224_0
       try clear hx224_1
       try clear hx224_2
       try clear hx228_0
       try clear hx228_1
       try clear hx228_2
       try clear hx230_0
       try clear hx230_1
       try clear hx230_2
       try clear hx234_0
       try clear hx234_1
       try clear hx234_2
       try clear hx37_0
       try clear hx45_0
       try clear p2
       try clear p21
       try clear p216
       try clear p219
       try clear p224
       try clear p228
       try clear p230
       try clear p234
       try clear p37
       try clear p45
       try clear p6
       try clear q2
       try clear q21
       try clear q216
       try clear q219
       try clear q224
       try clear q228
       try clear q230
       try clear q234
       try clear q37
       try clear q45
       obtain ⟨kq, x96_49, x1001_49, rfl, HA, HJ49, HO_7, HI0, HK, HB⟩ := hcut
       cases kq with
       | zero => exact absurd HA.out (by simp [zt.j3])
       | succ kj49 =>
        have H := HA.out
        clear HA
        simp only [zt.j3] at H
        by_cases c56 : x96_49 = true
        ·subst c56
         have H1 : ((zb.f kj49 s0_0 x1001_49 (x7_1.length : Int)).bind fun bt238 => ((zb.f kj49 s0_0 bt238.2 6).bind fun bt240 => (if bt240.1 = 0 then ((some (([(-1), (l1.length : Int)] : List Int) : List Int)).bind fun y242 => ((zb.f kj49 s0_0 bt240.2 2).bind fun bt245 => (if 0 ≤ bt245.1 then (if bt245.1 < (y242.length : Int) then (if 0 ≤ bt238.1 then (if bt238.1 < (x7_1.length : Int) then (some ((x7_1.set (bt238.1 : Int).toNat (⟨rd y242 bt245.1, (ze x7_1 bt238.1).f1, (ze x7_1 bt238.1).f2, (ze x7_1 bt238.1).f3⟩ : S34)), bt245.2)) else (none)) else (none)) else (none)) else (none)))) else (if bt240.1 = 1 then (if 0 ≤ bt238.1 then (if bt238.1 < (x7_1.length : Int) then ((some (([(-1), 120, wrap64 (((ze x7_1 bt238.1).f1) + 1)] : List Int) : List Int)).bind fun y250 => ((zb.f kj49 s0_0 bt240.2 3).bind fun bt253 => (if 0 ≤ bt253.1 then (if bt253.1 < (y250.length : Int) then (some ((x7_1.set (bt238.1 : Int).toNat (⟨(ze x7_1 bt238.1).f0, rd y250 bt253.1, (ze x7_1 bt238.1).f2, (ze x7_1 bt238.1).f3⟩ : S34)), bt253.2)) else (none)) else (none)))) else (none)) else (none)) else (if bt240.1 = 2 then (if 0 ≤ bt238.1 then (if bt238.1 < (x7_1.length : Int) then (some ((x7_1.set (bt238.1 : Int).toNat (⟨(ze x7_1 bt238.1).f0, (ze x7_1 bt238.1).f1, wrap64 (((ze x7_1 bt238.1).f2) + 1), (ze x7_1 bt238.1).f3⟩ : S34)), bt240.2)) else (none)) else (none)) else (if bt240.1 = 3 then ((some (([0, 9] : List Int) : List Int)).bind fun y259 => ((zb.f kj49 s0_0 bt240.2 2).bind fun bt262 => (if 0 ≤ bt262.1 then (if bt262.1 < (y259.length : Int) then (if 0 ≤ bt238.1 then (if bt238.1 < (x7_1.length : Int) then (some ((x7_1.set (bt238.1 : Int).toNat (⟨(ze x7_1 bt238.1).f0, (ze x7_1 bt238.1).f1, (ze x7_1 bt238.1).f2, rd y259 bt262.1⟩ : S34)), bt262.2)) else (none)) else (none)) else (none)) else (none)))) else (if bt240.1 = 4 then (if 0 ≤ bt238.1 then (if bt238.1 < (x7_1.length : Int) then (if x7_1.length < 4398046511104 then (some ((x7_1 ++ [(⟨(ze x7_1 bt238.1).f0, (ze x7_1 bt238.1).f1, (ze x7_1 bt238.1).f2, (ze x7_1 bt238.1).f3⟩ : S34)]), bt240.2)) else (none)) else (none)) else (none)) else (zt.l2 kj49 x7_1 s0_0 bt240.2)))))))) = some (r1, r2) := by rw [if_pos rfl] at H; exact H
         clear H
         have H := H1
         clear H1
         replace H := Option.bind_eq_some_iff.mp H
         obtain ⟨⟨t238, t239⟩, A570, H⟩ := H
         replace H : ((zb.f kj49 s0_0 t239 6).bind fun bt240 => (if bt240.1 = 0 then ((some (([(-1), (l1.length : Int)] : List Int) : List Int)).bind fun y242 => ((zb.f kj49 s0_0 bt240.2 2).bind fun bt245 => (if 0 ≤ bt245.1 then (if bt245.1 < (y242.length : Int) then (if 0 ≤ t238 then (if t238 < (x7_1.length : Int) then (some ((x7_1.set (t238 : Int).toNat (⟨rd y242 bt245.1, (ze x7_1 t238).f1, (ze x7_1 t238).f2, (ze x7_1 t238).f3⟩ : S34)), bt245.2)) else (none)) else (none)) else (none)) else (none)))) else (if bt240.1 = 1 then (if 0 ≤ t238 then (if t238 < (x7_1.length : Int) then ((some (([(-1), 120, wrap64 (((ze x7_1 t238).f1) + 1)] : List Int) : List Int)).bind fun y250 => ((zb.f kj49 s0_0 bt240.2 3).bind fun bt253 => (if 0 ≤ bt253.1 then (if bt253.1 < (y250.length : Int) then (some ((x7_1.set (t238 : Int).toNat (⟨(ze x7_1 t238).f0, rd y250 bt253.1, (ze x7_1 t238).f2, (ze x7_1 t238).f3⟩ : S34)), bt253.2)) else (none)) else (none)))) else (none)) else (none)) else (if bt240.1 = 2 then (if 0 ≤ t238 then (if t238 < (x7_1.length : Int) then (some ((x7_1.set (t238 : Int).toNat (⟨(ze x7_1 t238).f0, (ze x7_1 t238).f1, wrap64 (((ze x7_1 t238).f2) + 1), (ze x7_1 t238).f3⟩ : S34)), bt240.2)) else (none)) else (none)) else (if bt240.1 = 3 then ((some (([0, 9] : List Int) : List Int)).bind fun y259 => ((zb.f kj49 s0_0 bt240.2 2).bind fun bt262 => (if 0 ≤ bt262.1 then (if bt262.1 < (y259.length : Int) then (if 0 ≤ t238 then (if t238 < (x7_1.length : Int) then (some ((x7_1.set (t238 : Int).toNat (⟨(ze x7_1 t238).f0, (ze x7_1 t238).f1, (ze x7_1 t238).f2, rd y259 bt262.1⟩ : S34)), bt262.2)) else (none)) else (none)) else (none)) else (none)))) else (if bt240.1 = 4 then (if 0 ≤ t238 then (if t238 < (x7_1.length : Int) then (if x7_1.length < 4398046511104 then (some ((x7_1 ++ [(⟨(ze x7_1 t238).f0, (ze x7_1 t238).f1, (ze x7_1 t238).f2, (ze x7_1 t238).f3⟩ : S34)]), bt240.2)) else (none)) else (none)) else (none)) else (zt.l2 kj49 x7_1 s0_0 bt240.2))))))) = some (r1, r2) := H
         have A57 := za.mk A570
         clear A570
         replace H := Option.bind_eq_some_iff.mp H
         obtain ⟨⟨t240, t241⟩, A580, H⟩ := H
         replace H : (if t240 = 0 then ((some (([(-1), (l1.length : Int)] : List Int) : List Int)).bind fun y242 => ((zb.f kj49 s0_0 t241 2).bind fun bt245 => (if 0 ≤ bt245.1 then (if bt245.1 < (y242.length : Int) then (if 0 ≤ t238 then (if t238 < (x7_1.length : Int) then (some ((x7_1.set (t238 : Int).toNat (⟨rd y242 bt245.1, (ze x7_1 t238).f1, (ze x7_1 t238).f2, (ze x7_1 t238).f3⟩ : S34)), bt245.2)) else (none)) else (none)) else (none)) else (none)))) else (if t240 = 1 then (if 0 ≤ t238 then (if t238 < (x7_1.length : Int) then ((some (([(-1), 120, wrap64 (((ze x7_1 t238).f1) + 1)] : List Int) : List Int)).bind fun y250 => ((zb.f kj49 s0_0 t241 3).bind fun bt253 => (if 0 ≤ bt253.1 then (if bt253.1 < (y250.length : Int) then (some ((x7_1.set (t238 : Int).toNat (⟨(ze x7_1 t238).f0, rd y250 bt253.1, (ze x7_1 t238).f2, (ze x7_1 t238).f3⟩ : S34)), bt253.2)) else (none)) else (none)))) else (none)) else (none)) else (if t240 = 2 then (if 0 ≤ t238 then (if t238 < (x7_1.length : Int) then (some ((x7_1.set (t238 : Int).toNat (⟨(ze x7_1 t238).f0, (ze x7_1 t238).f1, wrap64 (((ze x7_1 t238).f2) + 1), (ze x7_1 t238).f3⟩ : S34)), t241)) else (none)) else (none)) else (if t240 = 3 then ((some (([0, 9] : List Int) : List Int)).bind fun y259 => ((zb.f kj49 s0_0 t241 2).bind fun bt262 => (if 0 ≤ bt262.1 then (if bt262.1 < (y259.length : Int) then (if 0 ≤ t238 then (if t238 < (x7_1.length : Int) then (some ((x7_1.set (t238 : Int).toNat (⟨(ze x7_1 t238).f0, (ze x7_1 t238).f1, (ze x7_1 t238).f2, rd y259 bt262.1⟩ : S34)), bt262.2)) else (none)) else (none)) else (none)) else (none)))) else (if t240 = 4 then (if 0 ≤ t238 then (if t238 < (x7_1.length : Int) then (if x7_1.length < 4398046511104 then (some ((x7_1 ++ [(⟨(ze x7_1 t238).f0, (ze x7_1 t238).f1, (ze x7_1 t238).f2, (ze x7_1 t238).f3⟩ : S34)]), t241)) else (none)) else (none)) else (none)) else (zt.l2 kj49 x7_1 s0_0 t241)))))) = some (r1, r2) := H
         have A58 := za.mk A580
         clear A580
         by_cases c59 : t240 = 0
         ·rw [if_pos c59] at H
          have c59b0 : (t240 == 0) = true := beq_iff_eq.mpr c59
          have c59b1 : (t240 != 0) = false := bne_eq_false_iff_eq.mpr c59
          clear c59
          obtain ⟨y242, hy242⟩ : ∃ y_ : List Int, y_ = (([(-1), (l1.length : Int)] : List Int)) := ⟨_, rfl⟩
          replace H : ((zb.f kj49 s0_0 t241 2).bind fun bt245 => (if 0 ≤ bt245.1 then (if bt245.1 < (y242.length : Int) then (if 0 ≤ t238 then (if t238 < (x7_1.length : Int) then (some ((x7_1.set (t238 : Int).toNat (⟨rd y242 bt245.1, (ze x7_1 t238).f1, (ze x7_1 t238).f2, (ze x7_1 t238).f3⟩ : S34)), bt245.2)) else (none)) else (none)) else (none)) else (none))) = some (r1, r2) := by first | (rw [hy242]; with_reducible exact H) | (have H2_ := (Option.bind_some _ _).symm.trans H; rw [hy242]; with_reducible exact H2_) | (have H2_ := (Option.bind_some _ _).symm.trans H; with_reducible exact H2_) | with_reducible exact H | (rw [hy242]; exact H) | exact H
          have Ny242 := za.mk hy242
          clear hy242
          replace H := Option.bind_eq_some_iff.mp H
          obtain ⟨⟨t245, t246⟩, A600, H⟩ := H
          replace H : (if 0 ≤ t245 then (if t245 < (y242.length : Int) then (if 0 ≤ t238 then (if t238 < (x7_1.length : Int) then (some ((x7_1.set (t238 : Int).toNat (⟨rd y242 t245, (ze x7_1 t238).f1, (ze x7_1 t238).f2, (ze x7_1 t238).f3⟩ : S34)), t246)) else (none)) else (none)) else (none)) else (none)) = some (r1, r2) := H
          have A60 := za.mk A600
          clear A600
          by_cases c61 : 0 ≤ t245
          ·rw [if_pos c61] at H
           have c61b0 : decide (0 ≤ t245) = true := decide_eq_true c61
           clear c61
           by_cases c62 : t245 < (y242.length : Int)
           ·rw [if_pos c62] at H
            have c62b0 : decide (t245 < (y242.length : Int)) = true := decide_eq_true c62
            clear c62
            by_cases c63 : 0 ≤ t238
            ·rw [if_pos c63] at H
             have c63b0 : decide (0 ≤ t238) = true := decide_eq_true c63
             clear c63
             by_cases c64 : t238 < (x7_1.length : Int)
             ·rw [if_pos c64] at H
              have c64b0 : decide (t238 < (x7_1.length : Int)) = true := decide_eq_true c64
              clear c64
              obtain ⟨y248, hy248⟩ : ∃ y_ : List (S34), y_ = (x7_1.set (t238 : Int).toNat (⟨rd y242 t245, (ze x7_1 t238).f1, (ze x7_1 t238).f2, (ze x7_1 t238).f3⟩ : S34)) := ⟨_, rfl⟩
              replace H : (some (y248, t246)) = some (r1, r2) := by first | (rw [hy248]; with_reducible exact H) | (have H2_ := (Option.bind_some _ _).symm.trans H; rw [hy248]; with_reducible exact H2_) | (have H2_ := (Option.bind_some _ _).symm.trans H; with_reducible exact H2_) | with_reducible exact H | (rw [hy248]; exact H) | exact H
              have Ny248 := za.mk hy248
              clear hy248
              simp only [Option.some.injEq, Prod.mk.injEq] at H
              obtain ⟨rfl, rfl⟩ := H
              obtain ⟨Ao66, co66, eo66⟩ := Kd.zbv HO_7.out
              subst eo66
              go_wp2_with (first | ((with_reducible refine zba (f := 68) rfl ?_); refine zbx (some 100) rfl rfl Try.func68 (by kernel_rfl) rfl #[.pointer (some ⟨g, 0, none⟩), .int .i64 (x7_1.length : Int)] rfl Zmt ?_; (with_reducible refine (zb.calls kj49 g s0_0 x1001_49 (x7_1.length : Int) t238 t239 w0 _ ?side1 ?side2 A57.out).mono ?_); (case side1 => exact Zq5 HI0.out); (case side2 => exact Zq3 HB.out (zi.ge HI0.out)); rintro e w67 ⟨rfl, hi, hb, hk⟩; refine ⟨_, rfl, ?_⟩; have n0_ := za.mk (Kd.zbb (Kd.zbp (zi.apart (show zi w0 _ g s0_0 x1001_49 from Zq5 HI0.out) (Zq11 HO_7.out) (by decide)) hk (fun _ h => h.2)) (fun _ h => h.1)); have n1_ := za.mk (zq.trans (Zq6 HK.out) hk (.inl rfl)); have n2_ := za.mk (hb); have n3_ := za.mk (hi); clear HO_7; clear HK; clear HB; clear HI0; have HO_7 := n0_; have HK := n1_; have HB := n2_; have HI0 := n3_; clear n0_ n1_ n2_ n3_; (try clear hb); (try clear hb2); (try clear hk); (try clear hi)) | ((with_reducible refine zba (f := 68) rfl ?_); refine zbx (some 102) rfl rfl Try.func68 (by kernel_rfl) rfl #[.pointer (some ⟨g, 0, none⟩), .int .i64 6] rfl Zmt ?_; (with_reducible refine (zb.calls kj49 g s0_0 t239 6 t240 t241 w0 _ ?side1 ?side2 A58.out).mono ?_); (case side1 => exact Zq5 HI0.out); (case side2 => exact Zq3 HB.out (zi.ge HI0.out)); rintro e w68 ⟨rfl, hi, hb, hk⟩; refine ⟨_, rfl, ?_⟩; have n0_ := za.mk (Kd.zbb (Kd.zbp (zi.apart (show zi w0 _ g s0_0 t239 from Zq5 HI0.out) (Zq11 HO_7.out) (by decide)) hk (fun _ h => h.2)) (fun _ h => h.1)); have n1_ := za.mk (zq.trans (Zq6 HK.out) hk (.inl rfl)); have n2_ := za.mk (hb); have n3_ := za.mk (hi); clear HO_7; clear HK; clear HB; clear HI0; have HO_7 := n0_; have HK := n1_; have HB := n2_; have HI0 := n3_; clear n0_ n1_ n2_ n3_; (try clear hb); (try clear hb2); (try clear hk); (try clear hi)) | ((with_reducible refine zbj (N := 116) rfl ?_); (try (refine zcn (by rfl) ?_; dsimp only)); refine Kd.R_lit (Kd.int .i64) _ 3 ?hg (N := 116) ?hd (xs := ([(-1), (l1.length : Int)] : List Int)) (inner := [.int .i64 (-1), .int .i64 (l1.length : Int)]) (ok := fun _ => True) (okp := fun _ => True) ?hr ?hp (fun _ hk => hk) trivial (Below.refl _ _) (Nat.le_refl _) (by simp) ?_; (case hd => rfl); (case hg => rfl); (case hr => first | (go_simp; done) | (go_simp; rfl)); (case hp => exact (Reps.one (show Kd.M (Kd.int .i64) _ _ _ (-1) [.int .i64 (-1)] from rfl) (Reps.one (show Kd.M (Kd.int .i64) _ _ _ (l1.length : Int) [.int .i64 (l1.length : Int)] from rfl) (Reps.none _ _)))); intro v243 w69 ho70 hb hg_ hnew_; clear hg_ hnew_; (first | rw [← Ny242.out] at ho70 | (simp only [Int.reduceToNat] at ho70; rw [← Ny242.out] at ho70)); have n0_ := za.mk (Kd.zcx (Zq11 HO_7.out) hb); have n1_ := za.mk (Kd.zca ho70 (zb5 (w := w) (g := g) (row := none) (Zq6 HK.out))); have n2_ := za.mk (zi.below (Zq5 HI0.out) hb); have n3_ := za.mk (zq.trans (Zq6 HK.out) (zq.of_below hb g none) (.inl rfl)); have n4_ := za.mk (zo (Zq3 HB.out (zi.ge HI0.out)) hb); clear HO_7; clear HI0; clear HK; clear HB; have HO_7 := n0_; have HO244 := n1_; have HI0 := n2_; have HK := n3_; have HB := n4_; clear n0_ n1_ n2_ n3_ n4_; clear hb ho70) | ((with_reducible refine zba (f := 68) rfl ?_); refine zbx (some 118) rfl rfl Try.func68 (by kernel_rfl) rfl #[.pointer (some ⟨g, 0, none⟩), .int .i64 2] rfl Zmt ?_; (with_reducible refine (zb.calls kj49 g s0_0 t241 2 t245 t246 w0 _ ?side1 ?side2 A60.out).mono ?_); (case side1 => exact Zq5 HI0.out); (case side2 => exact Zq3 HB.out (zi.ge HI0.out)); rintro e w71 ⟨rfl, hi, hb, hk⟩; refine ⟨_, rfl, ?_⟩; have n0_ := za.mk (Kd.zbb (Kd.zbp (zi.apart (show zi w0 _ g s0_0 t241 from Zq5 HI0.out) (Zq11 HO_7.out) (by decide)) hk (fun _ h => h.2)) (fun _ h => h.1)); have n1_ := za.mk (Kd.zbb (Kd.zbp (zi.apart (show zi w0 _ g s0_0 t241 from Zq5 HI0.out) (Zq11 HO244.out) (by decide)) hk (fun _ h => h.2)) (fun _ h => h.1)); have n2_ := za.mk (zq.trans (Zq6 HK.out) hk (.inl rfl)); have n3_ := za.mk (hb); have n4_ := za.mk (hi); clear HO_7; clear HO244; clear HK; clear HB; clear HI0; have HO_7 := n0_; have HO244 := n1_; have HK := n2_; have HB := n3_; have HI0 := n4_; clear n0_ n1_ n2_ n3_ n4_; (try clear hb); (try clear hb2); (try clear hk); (try clear hi); obtain ⟨Ao72, co72, eo72⟩ := Kd.zbv HO244.out; subst eo72; have p247 : 0 ≤ (t245 : Int) := of_decide_eq_true Zas; have q247 : t245 < (y242.length : Int) := of_decide_eq_true Zas; obtain ⟨ad247, e247, hx247_0⟩ := Kd.zcf (Kd.zbh HO244.out).2.2 t245 p247 q247; cases e247; replace p247 := eq_true p247; replace q247 := eq_true q247; have p65 : 0 ≤ (t238 : Int) := of_decide_eq_true Zas; have q65 : (t238 : Int) < ((x7_1.length : Int) : Int) := of_decide_eq_true Zas; obtain ⟨go65, co65, eo65, gb65, gl65, cl65, HG65⟩ := Kd.R_form HO_7.out (by omega); (first | cases eo65 | (injection eo65 with ea_ en_ ec_; (first | subst ea_ | (injection ea_ with ea_; subst ea_)); subst ec_; clear en_)); have GB65 := za.mk gb65; have GG65 := za.mk HG65; clear gb65 gl65 HG65; obtain ⟨ce65, hcl65, hM65, hcc65, hfr65⟩ := Kd.R_elem HO_7.out z34 (t238 : Int) p65 q65; obtain rfl := k34_openM hM65; have hx65_0 : w71.cell? ⟨go65, (t238 : Int).toNat * 4, none⟩ = some (.int .i64 ((ze x7_1 t238).f0)) := hcc65 0 _ rfl; have hx65_1 : w71.cell? ⟨go65, (t238 : Int).toNat * 4 + 1, none⟩ = some (.int .i64 ((ze x7_1 t238).f1)) := hcc65 1 _ rfl; have hx65_2 : w71.cell? ⟨go65, (t238 : Int).toNat * 4 + 2, none⟩ = some (.int .i64 ((ze x7_1 t238).f2)) := hcc65 2 _ rfl; have hx65_3 : w71.cell? ⟨go65, (t238 : Int).toNat * 4 + 3, none⟩ = some (.int .i64 ((ze x7_1 t238).f3)) := hcc65 3 _ rfl; have hf65_0 : w71.frozen? ⟨go65, (t238 : Int).toNat * 4, none⟩ = false := hfr65 0; have hf65_1 : w71.frozen? ⟨go65, (t238 : Int).toNat * 4 + 1, none⟩ = false := hfr65 1; have hf65_2 : w71.frozen? ⟨go65, (t238 : Int).toNat * 4 + 2, none⟩ = false := hfr65 2; have hf65_3 : w71.frozen? ⟨go65, (t238 : Int).toNat * 4 + 3, none⟩ = false := hfr65 3; (try clear hcl65); (try clear hcc65); (try clear hfr65); (try clear hM65); replace p65 := eq_true p65; replace q65 := eq_true q65; have HX73 := za.mk (show Kd.R k34 34 w71 w.heap.size (fun _ => True) (.slice (some ⟨go65, 0, none⟩) x7_1.length co66) x7_1 from (Zq11 HO_7.out)); obtain ⟨ce73, hcl73, hM73, hcc73, hfr73⟩ := Kd.R_elem HX73.out z34 (t238 : Int) (of_decide_eq_true Zas) (by have h_ : (t238 : Int) < ((x7_1.length : Int) : Int) := of_decide_eq_true Zas; first | exact h_ | (have e_ := (Kd.zbh HO_7.out).1; omega) | simpa using h_); obtain rfl := k34_openM hM73; have HP73 := Kd.R_seg HX73.out (t238 : Int) (of_decide_eq_true Zas) (by have h_ : (t238 : Int) < ((x7_1.length : Int) : Int) := of_decide_eq_true Zas; first | exact h_ | (have e_ := (Kd.zbh HO_7.out).1; omega) | simpa using h_) (seg := [.int .i64 (rd y242 t245)]) (j := 0) hcl73 hcc73 (show 1 ≤ 4 from by decide) (x' := (⟨rd y242 t245, (ze x7_1 t238).f1, (ze x7_1 t238).f2, (ze x7_1 t238).f3⟩ : S34)) (k34_mkM _ _ _ (⟨rd y242 t245, (ze x7_1 t238).f1, (ze x7_1 t238).f2, (ze x7_1 t238).f3⟩ : S34) ) (fun _ hk => hk); have hx73_0 := hcc73 0 _ rfl; (try simp only [show (k34).sz = 4 from rfl, Nat.mul_one, Nat.add_zero] at hx73_0); have hf73_0 := hfr73 0; (try simp only [show (k34).sz = 4 from rfl, Nat.mul_one, Nat.add_zero] at hf73_0); (try clear hcl73); (try clear hcc73); (try clear hfr73); (try clear hM73)) | ((with_reducible refine zcg (t := 3) (p := 122) rfl ?_); refine zb8 (t := 3) (p := 122) (v := ?vo_w74) (w1 := (w71.setCell ⟨go65, (t238 : Int).toNat * 4, none⟩ (.int .i64 (rd y242 t245)))) ?hg ?ho ?hn ?hr ?_; (case ho => rfl); (case hg => rfl); (case hn => rfl); (case hr => first | (go_simp; done) | (go_simp; rfl)); intro w74 hw; have hg : w71.grownBy w74 (some go65) := (by rw [hw]; exact HP73.2); have hp_ : Kd.R k34 34 w74 w.heap.size (fun _ => True) (.slice (some ⟨go65, 0, none⟩) x7_1.length co66) y248 := (by rw [hw, Ny248.out]; exact HP73.1); clear HP73; have n0_ := za.mk (hp_); have n1_ := za.mk (zi.grown (Zq5 HI0.out) hg (zi.own_ne HI0.out HO_7.out (by decide))); have n2_ := za.mk (Kd.R_over' (v := (.slice (some ⟨go65, 0, none⟩) x7_1.length co66)) (Zq11 HO244.out) (Kd.R_typed HO_7.out) (by decide) hg); have n3_ := za.mk ((by rw [hw]; exact zbw (HB.out) (Nat.le_trans HL.out GB65.out) : Below w0.heap.size w0 w74)); have n4_ := za.mk (zq.trans (Zq6 HK.out) (zq.zdb hg g) (Kd.R_base2 HO_7.out)); clear HO_7; clear HI0; clear HO244; clear HB; clear HK; have HO_7 := n0_; have HI0 := n1_; have HO244 := n2_; have HB := n3_; have HK := n4_; clear n0_ n1_ n2_ n3_ n4_; clear hg hw hp_))
              go_ret
              exact ⟨_, by first | rfl | (simp [zw, zx] <;> rfl) | (simp [*, zw, zx] <;> rfl), Zq11 HO_7.out, Zq5 HI0.out, Zq3 HB.out (zi.ge HI0.out), Zq6 HK.out⟩
             ·rw [if_neg c64] at H
              exact absurd H (by simp)
            ·rw [if_neg c63] at H
             exact absurd H (by simp)
           ·rw [if_neg c62] at H
            exact absurd H (by simp)
          ·rw [if_neg c61] at H
           exact absurd H (by simp)
         ·rw [if_neg c59] at H
          have c59b0 : (t240 == 0) = false := beq_eq_false_iff_ne.mpr c59
          have c59b1 : (t240 != 0) = true := bne_iff_ne.mpr c59
          by_cases c75 : t240 = 1
          ·rw [if_pos c75] at H
           have c75b0 : (t240 == 1) = true := beq_iff_eq.mpr c75
           have c75b1 : (t240 != 1) = false := bne_eq_false_iff_eq.mpr c75
           clear c75
           by_cases c76 : 0 ≤ t238
           ·rw [if_pos c76] at H
            have c76b0 : decide (0 ≤ t238) = true := decide_eq_true c76
            clear c76
            by_cases c77 : t238 < (x7_1.length : Int)
            ·rw [if_pos c77] at H
             have c77b0 : decide (t238 < (x7_1.length : Int)) = true := decide_eq_true c77
             clear c77
             obtain ⟨y250, hy250⟩ : ∃ y_ : List Int, y_ = (([(-1), 120, wrap64 (((ze x7_1 t238).f1) + 1)] : List Int)) := ⟨_, rfl⟩
             replace H : ((zb.f kj49 s0_0 t241 3).bind fun bt253 => (if 0 ≤ bt253.1 then (if bt253.1 < (y250.length : Int) then (some ((x7_1.set (t238 : Int).toNat (⟨(ze x7_1 t238).f0, rd y250 bt253.1, (ze x7_1 t238).f2, (ze x7_1 t238).f3⟩ : S34)), bt253.2)) else (none)) else (none))) = some (r1, r2) := by first | (rw [hy250]; with_reducible exact H) | (have H2_ := (Option.bind_some _ _).symm.trans H; rw [hy250]; with_reducible exact H2_) | (have H2_ := (Option.bind_some _ _).symm.trans H; with_reducible exact H2_) | with_reducible exact H | (rw [hy250]; exact H) | exact H
             have Ny250 := za.mk hy250
             clear hy250
             replace H := Option.bind_eq_some_iff.mp H
             obtain ⟨⟨t253, t254⟩, A780, H⟩ := H
             replace H : (if 0 ≤ t253 then (if t253 < (y250.length : Int) then (some ((x7_1.set (t238 : Int).toNat (⟨(ze x7_1 t238).f0, rd y250 t253, (ze x7_1 t238).f2, (ze x7_1 t238).f3⟩ : S34)), t254)) else (none)) else (none)) = some (r1, r2) := H
             have A78 := za.mk A780
             clear A780
             by_cases c79 : 0 ≤ t253
             ·rw [if_pos c79] at H
              have c79b0 : decide (0 ≤ t253) = true := decide_eq_true c79
              clear c79
              by_cases c80 : t253 < (y250.length : Int)
              ·rw [if_pos c80] at H
               have c80b0 : decide (t253 < (y250.length : Int)) = true := decide_eq_true c80
               clear c80
               obtain ⟨y256, hy256⟩ : ∃ y_ : List (S34), y_ = (x7_1.set (t238 : Int).toNat (⟨(ze x7_1 t238).f0, rd y250 t253, (ze x7_1 t238).f2, (ze x7_1 t238).f3⟩ : S34)) := ⟨_, rfl⟩
               replace H : (some (y256, t254)) = some (r1, r2) := by first | (rw [hy256]; with_reducible exact H) | (have H2_ := (Option.bind_some _ _).symm.trans H; rw [hy256]; with_reducible exact H2_) | (have H2_ := (Option.bind_some _ _).symm.trans H; with_reducible exact H2_) | with_reducible exact H | (rw [hy256]; exact H) | exact H
               have Ny256 := za.mk hy256
               clear hy256
               simp only [Option.some.injEq, Prod.mk.injEq] at H
               obtain ⟨rfl, rfl⟩ := H
               obtain ⟨Ao82, co82, eo82⟩ := Kd.zbv HO_7.out
               subst eo82
               try go_wp2_with (first | ((with_reducible refine zba (f := 68) rfl ?_); refine zbx (some 100) rfl rfl Try.func68 (by kernel_rfl) rfl #[.pointer (some ⟨g, 0, none⟩), .int .i64 (x7_1.length : Int)] rfl Zmt ?_; (with_reducible refine (zb.calls kj49 g s0_0 x1001_49 (x7_1.length : Int) t238 t239 w0 _ ?side1 ?side2 A57.out).mono ?_); (case side1 => exact Zq5 HI0.out); (case side2 => exact Zq3 HB.out (zi.ge HI0.out)); rintro e w83 ⟨rfl, hi, hb, hk⟩; refine ⟨_, rfl, ?_⟩; have n0_ := za.mk (Kd.zbb (Kd.zbp (zi.apart (show zi w0 _ g s0_0 x1001_49 from Zq5 HI0.out) (Zq11 HO_7.out) (by decide)) hk (fun _ h => h.2)) (fun _ h => h.1)); have n1_ := za.mk (zq.trans (Zq6 HK.out) hk (.inl rfl)); have n2_ := za.mk (hb); have n3_ := za.mk (hi); clear HO_7; clear HK; clear HB; clear HI0; have HO_7 := n0_; have HK := n1_; have HB := n2_; have HI0 := n3_; clear n0_ n1_ n2_ n3_; (try clear hb); (try clear hb2); (try clear hk); (try clear hi)) | ((with_reducible refine zba (f := 68) rfl ?_); refine zbx (some 102) rfl rfl Try.func68 (by kernel_rfl) rfl #[.pointer (some ⟨g, 0, none⟩), .int .i64 6] rfl Zmt ?_; (with_reducible refine (zb.calls kj49 g s0_0 t239 6 t240 t241 w0 _ ?side1 ?side2 A58.out).mono ?_); (case side1 => exact Zq5 HI0.out); (case side2 => exact Zq3 HB.out (zi.ge HI0.out)); rintro e w84 ⟨rfl, hi, hb, hk⟩; refine ⟨_, rfl, ?_⟩; have n0_ := za.mk (Kd.zbb (Kd.zbp (zi.apart (show zi w0 _ g s0_0 t239 from Zq5 HI0.out) (Zq11 HO_7.out) (by decide)) hk (fun _ h => h.2)) (fun _ h => h.1)); have n1_ := za.mk (zq.trans (Zq6 HK.out) hk (.inl rfl)); have n2_ := za.mk (hb); have n3_ := za.mk (hi); clear HO_7; clear HK; clear HB; clear HI0; have HO_7 := n0_; have HK := n1_; have HB := n2_; have HI0 := n3_; clear n0_ n1_ n2_ n3_; (try clear hb); (try clear hb2); (try clear hk); (try clear hi)))
               have pi255 : (0 ≤ (t253 : Int)) = True := eq_true (of_decide_eq_true Zas)
               have qi255 : (t253 < (y250.length : Int)) = True := eq_true (of_decide_eq_true Zas)
               have n0_ := za.mk (Kd.zbl HO_7.out)
               have n1_ := za.mk (zi.drew HI0.out)
               have n2_ := za.mk (keep_drew HK.out)
               have n3_ := za.mk (zb0 HB.out)
               clear HO_7
               clear HI0
               clear HK
               clear HB
               have HO_7 := n0_
               have HI0 := n1_
               have HK := n2_
               have HB := n3_
               clear n0_ n1_ n2_ n3_
               have p249 : 0 ≤ (t238 : Int) := of_decide_eq_true Zas
               have q249 : t238 < (x7_1.length : Int) := of_decide_eq_true Zas
               obtain ⟨ad249, e249, hx249_0, hx249_1, hx249_2, hx249_3⟩ := zda (Kd.zbh HO_7.out).2.2 t238 p249 q249
               cases e249
               replace p249 := eq_true p249
               replace q249 := eq_true q249
               refine start_ (n := 16) (S := fun w' => w'.cell? (ad249.add ((t238).toNat * 4)) = some (.int .i64 ((ze x7_1 t238).f0)) ∧ w'.cell? ⟨(ad249.add ((t238).toNat * 4)).block, (ad249.add ((t238).toNat * 4)).off + 1, none⟩ = some (.int .i64 ((ze x7_1 t238).f1)) ∧ w'.cell? ⟨(ad249.add ((t238).toNat * 4)).block, (ad249.add ((t238).toNat * 4)).off + 2, none⟩ = some (.int .i64 ((ze x7_1 t238).f2)) ∧ w'.cell? ⟨(ad249.add ((t238).toNat * 4)).block, (ad249.add ((t238).toNat * 4)).off + 3, none⟩ = some (.int .i64 ((ze x7_1 t238).f3))) (ds := [15]) #[false, false, false, false, false, false, false, false, false, false, false, false, false, false, false, false] (by kernel_rfl) rfl rfl ⟨hx249_0, hx249_1, hx249_2, hx249_3⟩ (fun hHeld => ?_); refine with_tabW zt.tab24 zt.bits24 (fun HT_ HW_ => ?_)
               generalize w84.drew = w85 at HO_7 HI0 HK HB hx249_0 hx249_1 hx249_2 hx249_3 hHeld ⊢
               refine zc1 (i := 0) (N := some 125) (v := ?_) (a' := ?_) #[true, false, false, false, false, false, false, false, false, false, false, false, false, false, false, false] rfl rfl (zck HT_.out (by kernel_rfl)) (fun _ _ _ h => h) (Or.inl ⟨by rfl, ?_⟩) ?_ ?_
               rotate_left
               ·intro w'
                go_simp
                with_reducible rfl
               rotate_left
               ·simp only [Act.put, List.setIfInBounds_toArray, List.set_cons_zero, List.set_cons_succ, zb3, zb4]
                rfl
               refine zc1 (i := 1) (N := some 126) (v := ?_) (a' := ?_) #[true, true, false, false, false, false, false, false, false, false, false, false, false, false, false, false] rfl rfl (zck HT_.out (by kernel_rfl)) (fun _ _ _ h => h) (Or.inl ⟨by rfl, ?_⟩) ?_ ?_
               rotate_left
               ·intro w'
                go_simp
                with_reducible rfl
               rotate_left
               ·simp only [Act.put, List.setIfInBounds_toArray, List.set_cons_zero, List.set_cons_succ, zb3, zb4]
                rfl
               refine zc1 (i := 2) (N := some 127) (v := ?_) (a' := ?_) #[true, true, true, false, false, false, false, false, false, false, false, false, false, false, false, false] rfl rfl (zck HT_.out (by kernel_rfl)) (fun _ _ _ h => h) (Or.inl ⟨by rfl, ?_⟩) ?_ ?_
               rotate_left
               ·intro w'
                go_simp
                with_reducible rfl
               rotate_left
               ·simp only [Act.put, List.setIfInBounds_toArray, List.set_cons_zero, List.set_cons_succ, zb3, zb4]
                rfl
               refine zc1 (i := 3) (N := some 128) (v := ?_) (a' := ?_) #[true, true, true, true, false, false, false, false, false, false, false, false, false, false, false, false] rfl rfl (zck HT_.out (by kernel_rfl)) (fun _ _ _ h => h) (Or.inl ⟨by rfl, ?_⟩) ?_ ?_
               rotate_left
               ·intro w'
                go_simp
                with_reducible rfl
               rotate_left
               ·simp only [Act.put, List.setIfInBounds_toArray, List.set_cons_zero, List.set_cons_succ, zb3, zb4]
                rfl
               refine zc1 (i := 4) (N := some 129) (v := ?_) (a' := ?_) #[true, true, true, true, true, false, false, false, false, false, false, false, false, false, false, false] rfl rfl (zck HT_.out (by kernel_rfl)) (fun _ _ _ h => h) (Or.inl ⟨by rfl, ?_⟩) ?_ ?_
               rotate_left
               ·intro w'
                go_simp
                with_reducible rfl
               rotate_left
               ·simp only [Act.put, List.setIfInBounds_toArray, List.set_cons_zero, List.set_cons_succ, zb3, zb4]
                rfl
               refine zc1 (i := 5) (N := some 130) (v := ?_) (a' := ?_) #[true, true, true, true, true, true, false, false, false, false, false, false, false, false, false, false] rfl rfl (zck HT_.out (by kernel_rfl)) (fun _ _ _ h => h) (Or.inl ⟨by rfl, ?_⟩) ?_ ?_
               rotate_left
               ·intro w'
                go_simp
                with_reducible rfl
               rotate_left
               ·simp only [Act.put, List.setIfInBounds_toArray, List.set_cons_zero, List.set_cons_succ, zb3, zb4]
                rfl
               refine zc1 (i := 9) (N := some 134) (v := ?_) (a' := ?_) #[true, true, true, true, true, true, false, false, false, true, false, false, false, false, false, false] rfl rfl (zck HT_.out (by kernel_rfl)) (fun _ _ _ h => h) (Or.inl ⟨by rfl, ?_⟩) ?_ ?_
               rotate_left
               ·intro w'
                go_simp
                with_reducible rfl
               rotate_left
               ·simp only [Act.put, List.setIfInBounds_toArray, List.set_cons_zero, List.set_cons_succ, zb3, zb4]
                rfl
               refine take_ (i := 6) (N := some 131) (v := ?_) (a' := ?_) #[true, true, true, true, true, true, true, false, false, true, false, false, false, false, false, false] rfl rfl (take_ofW HT_.out HW_.out (by kernel_rfl)) (fun _ _ _ h => h) (Or.inl ⟨by rfl, ?_⟩) hHeld ?_ ?_
               rotate_left
               ·rintro w' ⟨s0, s1, s2, s3⟩
                go_simp
                with_reducible rfl
               rotate_left
               ·simp only [Act.put, List.setIfInBounds_toArray, List.set_cons_zero, List.set_cons_succ, zb3, zb4]
                rfl
               refine zc1 (i := 7) (N := some 132) (v := ?_) (a' := ?_) #[true, true, true, true, true, true, true, true, false, true, false, false, false, false, false, false] rfl rfl (zck HT_.out (by kernel_rfl)) (fun _ _ _ h => h) (Or.inl ⟨by rfl, ?_⟩) ?_ ?_
               rotate_left
               ·intro w'
                go_simp
                with_reducible rfl
               rotate_left
               ·simp only [Act.put, List.setIfInBounds_toArray, List.set_cons_zero, List.set_cons_succ, zb3, zb4]
                rfl
               refine join_ (σ := Value × Addr) 5 #[true, true, true, true, true, true, true, true, true, true, true, false, false, false, false, false] (fun s_ => [(133, s_.1), (135, .int .i64 t253)]) (fun s_ w' => (w'.cell? (ad249.add ((t238).toNat * 4)) = some (.int .i64 ((ze x7_1 t238).f0)) ∧ w'.cell? ⟨(ad249.add ((t238).toNat * 4)).block, (ad249.add ((t238).toNat * 4)).off + 1, none⟩ = some (.int .i64 ((ze x7_1 t238).f1)) ∧ w'.cell? ⟨(ad249.add ((t238).toNat * 4)).block, (ad249.add ((t238).toNat * 4)).off + 2, none⟩ = some (.int .i64 ((ze x7_1 t238).f2)) ∧ w'.cell? ⟨(ad249.add ((t238).toNat * 4)).block, (ad249.add ((t238).toNat * 4)).off + 3, none⟩ = some (.int .i64 ((ze x7_1 t238).f3))) ∧ (Kd.R (Kd.int .i64) 3 w' w.heap.size (fun _ => True) s_.1 y250) ∧ (Kd.R k34 34 w' w.heap.size (fun _ => True) (.slice (some ad249) x7_1.length co82) x7_1) ∧ (∃ c_, (s_.1 : Value) = .slice (some s_.2) y250.length c_) ∧ (zi w0 w' g s0_0 t254) ∧ (zq w w' g none) ∧ (Below w0.heap.size w0 w')) ?_ ?_
               rotate_left
               ·intro hCont
                refine two_ (i := 8) (j := 10) (Ni := some 133) (Nj := some 135) #[true, true, true, true, true, true, true, true, true, true, false, false, false, false, false, false] #[true, true, true, true, true, true, true, true, false, true, true, false, false, false, false, false] rfl rfl rfl rfl (two_of HT_.out (by kernel_rfl)) (by decide) (by decide) (fun K hK => ?_) (fun K hK => ?_)
                ·skip
                 refine Kd.zdg (Kd.int .i64) _ 3 ?hg (N := 133) ?hd (xs := ([(-1), 120, wrap64 (((ze x7_1 t238).f1) + 1)] : List Int)) (inner := [.int .i64 (-1), .int .i64 120, .int .i64 (wrap64 (((ze x7_1 t238).f1) + 1))]) (ok := fun _ => True) (okp := fun _ => True) ?hr ?hp (fun _ hk => hk) trivial (Below.refl _ _) (Nat.le_refl _) (by simp) ?_; (case hd => rfl); (case hg => rfl); (case hr => first | (go_simp; done) | (go_simp; rfl)); (case hp => exact (Reps.one (show Kd.M (Kd.int .i64) _ _ _ (-1) [.int .i64 (-1)] from rfl) (Reps.one (show Kd.M (Kd.int .i64) _ _ _ 120 [.int .i64 120] from rfl) (Reps.one (show Kd.M (Kd.int .i64) _ _ _ (wrap64 (((ze x7_1 t238).f1) + 1)) [.int .i64 (wrap64 (((ze x7_1 t238).f1) + 1))] from rfl) (Reps.none _ _)))))
                 intro v251 w86 ho87 hb hg_ hnew_
                 have HS0_ := (hb.cell (World.block_lt_of_cell? _ _ (hHeld.1))).trans (hHeld.1)
                 have HS1_ := (hb.cell (World.block_lt_of_cell? _ _ (hHeld.2.1))).trans (hHeld.2.1)
                 have HS2_ := (hb.cell (World.block_lt_of_cell? _ _ (hHeld.2.2.1))).trans (hHeld.2.2.1)
                 have HS3_ := (hb.cell (World.block_lt_of_cell? _ _ (hHeld.2.2.2))).trans (hHeld.2.2.2)
                 clear hg_ hnew_
                 (first | rw [← Ny250.out] at ho87 | (simp only [Int.reduceToNat] at ho87; rw [← Ny250.out] at ho87))
                 have n0_ := za.mk (Kd.zcx (Zq11 HO_7.out) hb)
                 have n1_ := za.mk (Kd.zca ho87 (zb5 (w := w) (g := g) (row := none) (Zq6 HK.out)))
                 have n2_ := za.mk (zi.below (Zq5 HI0.out) hb)
                 have n3_ := za.mk (zq.trans (Zq6 HK.out) (zq.of_below hb g none) (.inl rfl))
                 have n4_ := za.mk (zo (Zq3 HB.out (zi.ge HI0.out)) hb)
                 clear HO_7
                 clear HI0
                 clear HK
                 clear HB
                 have HO_7 := n0_
                 have HO252 := n1_
                 have HI0 := n2_
                 have HK := n3_
                 have HB := n4_
                 clear n0_ n1_ n2_ n3_ n4_
                 clear hb ho87
                 obtain ⟨Ao88, co88, eo88⟩ := Kd.zbv HO252.out
                 subst eo88
                 obtain ⟨ado88, fo88, _⟩ := Kd.zcf (Kd.zbh HO252.out).2.2 0 (by decide) (by rw [Ny250.out]; simp)
                 cases fo88
                 refine hK.out _ _ ⟨HS0_, HS1_, HS2_, HS3_⟩ (fun hHeld => ?_)
                 clear hK K
                 refine zc5 (a' := ?_) ?_ ?_
                 rotate_left
                 ·show Act.put _ (some 133) _ = _
                  simp only [Act.put, List.setIfInBounds_toArray, List.set_cons_zero, List.set_cons_succ, zb3, zb4]
                  rfl
                 refine one_ (i := 10) (N := some 135) #[true, true, true, true, true, true, true, true, true, true, true, false, false, false, false, false] rfl rfl (zdr HT_.out (by kernel_rfl)) (by decide) (fun K hK => ?_)
                 refine goes_ Try.func68 (by kernel_rfl) rfl #[.pointer (some ⟨g, 0, none⟩), .int .i64 3] (by rfl) rfl rfl Zmt ?_
                 with_reducible refine (zb.calls kj49 g s0_0 t241 3 t253 t254 w0 _ ?side1 ?side2 A78.out).mono ?_
                 (case side1 => exact Zq5 HI0.out)
                 (case side2 => exact Zq3 HB.out (zi.ge HI0.out))
                 rintro e w89 ⟨rfl, hi, hb, hk⟩
                 have HS0_ := keep_cell hk (hHeld.1) (by first | (rw [add_block]; exact Kd.zch (zi.own_ne HI0.out HO_7.out (by decide))) | (show (Addr.add _ _).block ≠ _; rw [add_block]; exact Kd.zch (zi.own_ne HI0.out HO_7.out (by decide))) | exact Kd.zch (zi.own_ne HI0.out HO_7.out (by decide)))
                 have HS1_ := keep_cell hk (hHeld.2.1) (by first | (rw [add_block]; exact Kd.zch (zi.own_ne HI0.out HO_7.out (by decide))) | (show (Addr.add _ _).block ≠ _; rw [add_block]; exact Kd.zch (zi.own_ne HI0.out HO_7.out (by decide))) | exact Kd.zch (zi.own_ne HI0.out HO_7.out (by decide)))
                 have HS2_ := keep_cell hk (hHeld.2.2.1) (by first | (rw [add_block]; exact Kd.zch (zi.own_ne HI0.out HO_7.out (by decide))) | (show (Addr.add _ _).block ≠ _; rw [add_block]; exact Kd.zch (zi.own_ne HI0.out HO_7.out (by decide))) | exact Kd.zch (zi.own_ne HI0.out HO_7.out (by decide)))
                 have HS3_ := keep_cell hk (hHeld.2.2.2) (by first | (rw [add_block]; exact Kd.zch (zi.own_ne HI0.out HO_7.out (by decide))) | (show (Addr.add _ _).block ≠ _; rw [add_block]; exact Kd.zch (zi.own_ne HI0.out HO_7.out (by decide))) | exact Kd.zch (zi.own_ne HI0.out HO_7.out (by decide)))
                 refine ⟨_, rfl, ?_⟩
                 have n0_ := za.mk (Kd.zbb (Kd.zbp (zi.apart (show zi w0 _ g s0_0 t241 from Zq5 HI0.out) (Zq11 HO_7.out) (by decide)) hk (fun _ h => h.2)) (fun _ h => h.1))
                 have n1_ := za.mk (Kd.zbb (Kd.zbp (zi.apart (show zi w0 _ g s0_0 t241 from Zq5 HI0.out) (Zq11 HO252.out) (by decide)) hk (fun _ h => h.2)) (fun _ h => h.1))
                 have n2_ := za.mk (zq.trans (Zq6 HK.out) hk (.inl rfl))
                 have n3_ := za.mk (hb)
                 have n4_ := za.mk (hi)
                 clear HO_7
                 clear HO252
                 clear HK
                 clear HB
                 clear HI0
                 have HO_7 := n0_
                 have HO252 := n1_
                 have HK := n2_
                 have HB := n3_
                 have HI0 := n4_
                 clear n0_ n1_ n2_ n3_ n4_
                 (try clear hb)
                 (try clear hb2)
                 (try clear hk)
                 (try clear hi)
                 refine hK.out _ _ ⟨HS0_, HS1_, HS2_, HS3_⟩ (fun hHeld => ?_)
                 clear hK K
                 refine zc5 (a' := ?_) ?_ ?_
                 rotate_left
                 ·show Act.put _ (some 135) _ = _
                  simp only [Act.put, List.setIfInBounds_toArray, List.set_cons_zero, List.set_cons_succ, zb3, zb4]
                  rfl
                 exact zc5 (by simp only [putAll, Act.put, List.setIfInBounds_toArray, List.set_cons_zero, List.set_cons_succ]) (hCont (.slice (some ado88) y250.length co88, ado88) _ ⟨hHeld, (Zq11 HO252.out), (Zq11 HO_7.out), ⟨_, rfl⟩, (Zq5 HI0.out), (Zq6 HK.out), (Zq3 HB.out (zi.ge HI0.out))⟩)
                ·skip
                 refine goes_ Try.func68 (by kernel_rfl) rfl #[.pointer (some ⟨g, 0, none⟩), .int .i64 3] (by rfl) rfl rfl Zmt ?_
                 with_reducible refine (zb.calls kj49 g s0_0 t241 3 t253 t254 w0 _ ?side1 ?side2 A78.out).mono ?_
                 (case side1 => exact Zq5 HI0.out)
                 (case side2 => exact Zq3 HB.out (zi.ge HI0.out))
                 rintro e w86 ⟨rfl, hi, hb, hk⟩
                 have HS0_ := keep_cell hk (hHeld.1) (by first | (rw [add_block]; exact Kd.zch (zi.own_ne HI0.out HO_7.out (by decide))) | (show (Addr.add _ _).block ≠ _; rw [add_block]; exact Kd.zch (zi.own_ne HI0.out HO_7.out (by decide))) | exact Kd.zch (zi.own_ne HI0.out HO_7.out (by decide)))
                 have HS1_ := keep_cell hk (hHeld.2.1) (by first | (rw [add_block]; exact Kd.zch (zi.own_ne HI0.out HO_7.out (by decide))) | (show (Addr.add _ _).block ≠ _; rw [add_block]; exact Kd.zch (zi.own_ne HI0.out HO_7.out (by decide))) | exact Kd.zch (zi.own_ne HI0.out HO_7.out (by decide)))
                 have HS2_ := keep_cell hk (hHeld.2.2.1) (by first | (rw [add_block]; exact Kd.zch (zi.own_ne HI0.out HO_7.out (by decide))) | (show (Addr.add _ _).block ≠ _; rw [add_block]; exact Kd.zch (zi.own_ne HI0.out HO_7.out (by decide))) | exact Kd.zch (zi.own_ne HI0.out HO_7.out (by decide)))
                 have HS3_ := keep_cell hk (hHeld.2.2.2) (by first | (rw [add_block]; exact Kd.zch (zi.own_ne HI0.out HO_7.out (by decide))) | (show (Addr.add _ _).block ≠ _; rw [add_block]; exact Kd.zch (zi.own_ne HI0.out HO_7.out (by decide))) | exact Kd.zch (zi.own_ne HI0.out HO_7.out (by decide)))
                 refine ⟨_, rfl, ?_⟩
                 have n0_ := za.mk (Kd.zbb (Kd.zbp (zi.apart (show zi w0 _ g s0_0 t241 from Zq5 HI0.out) (Zq11 HO_7.out) (by decide)) hk (fun _ h => h.2)) (fun _ h => h.1))
                 have n1_ := za.mk (zq.trans (Zq6 HK.out) hk (.inl rfl))
                 have n2_ := za.mk (hb)
                 have n3_ := za.mk (hi)
                 clear HO_7
                 clear HK
                 clear HB
                 clear HI0
                 have HO_7 := n0_
                 have HK := n1_
                 have HB := n2_
                 have HI0 := n3_
                 clear n0_ n1_ n2_ n3_
                 (try clear hb)
                 (try clear hb2)
                 (try clear hk)
                 (try clear hi)
                 refine hK.out _ _ ⟨HS0_, HS1_, HS2_, HS3_⟩ (fun hHeld => ?_)
                 clear hK K
                 refine zc5 (a' := ?_) ?_ ?_
                 rotate_left
                 ·show Act.put _ (some 135) _ = _
                  simp only [Act.put, List.setIfInBounds_toArray, List.set_cons_zero, List.set_cons_succ, zb3, zb4]
                  rfl
                 refine one_ (i := 8) (N := some 133) #[true, true, true, true, true, true, true, true, true, true, true, false, false, false, false, false] rfl rfl (zdr HT_.out (by kernel_rfl)) (by decide) (fun K hK => ?_)
                 refine Kd.zdg (Kd.int .i64) _ 3 ?hg (N := 133) ?hd (xs := ([(-1), 120, wrap64 (((ze x7_1 t238).f1) + 1)] : List Int)) (inner := [.int .i64 (-1), .int .i64 120, .int .i64 (wrap64 (((ze x7_1 t238).f1) + 1))]) (ok := fun _ => True) (okp := fun _ => True) ?hr ?hp (fun _ hk => hk) trivial (Below.refl _ _) (Nat.le_refl _) (by simp) ?_; (case hd => rfl); (case hg => rfl); (case hr => first | (go_simp; done) | (go_simp; rfl)); (case hp => exact (Reps.one (show Kd.M (Kd.int .i64) _ _ _ (-1) [.int .i64 (-1)] from rfl) (Reps.one (show Kd.M (Kd.int .i64) _ _ _ 120 [.int .i64 120] from rfl) (Reps.one (show Kd.M (Kd.int .i64) _ _ _ (wrap64 (((ze x7_1 t238).f1) + 1)) [.int .i64 (wrap64 (((ze x7_1 t238).f1) + 1))] from rfl) (Reps.none _ _)))))
                 intro v251 w87 ho88 hb hg_ hnew_
                 have HS0_ := (hb.cell (World.block_lt_of_cell? _ _ (hHeld.1))).trans (hHeld.1)
                 have HS1_ := (hb.cell (World.block_lt_of_cell? _ _ (hHeld.2.1))).trans (hHeld.2.1)
                 have HS2_ := (hb.cell (World.block_lt_of_cell? _ _ (hHeld.2.2.1))).trans (hHeld.2.2.1)
                 have HS3_ := (hb.cell (World.block_lt_of_cell? _ _ (hHeld.2.2.2))).trans (hHeld.2.2.2)
                 clear hg_ hnew_
                 (first | rw [← Ny250.out] at ho88 | (simp only [Int.reduceToNat] at ho88; rw [← Ny250.out] at ho88))
                 have n0_ := za.mk (Kd.zcx (Zq11 HO_7.out) hb)
                 have n1_ := za.mk (Kd.zca ho88 (zb5 (w := w) (g := g) (row := none) (Zq6 HK.out)))
                 have n2_ := za.mk (zi.below (Zq5 HI0.out) hb)
                 have n3_ := za.mk (zq.trans (Zq6 HK.out) (zq.of_below hb g none) (.inl rfl))
                 have n4_ := za.mk (zo (Zq3 HB.out (zi.ge HI0.out)) hb)
                 clear HO_7
                 clear HI0
                 clear HK
                 clear HB
                 have HO_7 := n0_
                 have HO252 := n1_
                 have HI0 := n2_
                 have HK := n3_
                 have HB := n4_
                 clear n0_ n1_ n2_ n3_ n4_
                 clear hb ho88
                 obtain ⟨Ao89, co89, eo89⟩ := Kd.zbv HO252.out
                 subst eo89
                 obtain ⟨ado89, fo89, _⟩ := Kd.zcf (Kd.zbh HO252.out).2.2 0 (by decide) (by rw [Ny250.out]; simp)
                 cases fo89
                 refine hK.out _ _ ⟨HS0_, HS1_, HS2_, HS3_⟩ (fun hHeld => ?_)
                 clear hK K
                 refine zc5 (a' := ?_) ?_ ?_
                 rotate_left
                 ·show Act.put _ (some 133) _ = _
                  simp only [Act.put, List.setIfInBounds_toArray, List.set_cons_zero, List.set_cons_succ, zb3, zb4]
                  rfl
                 exact zc5 (by simp only [putAll, Act.put, List.setIfInBounds_toArray, List.set_cons_zero, List.set_cons_succ]) (hCont (.slice (some ado89) y250.length co89, ado89) _ ⟨hHeld, (Zq11 HO252.out), (Zq11 HO_7.out), ⟨_, rfl⟩, (Zq5 HI0.out), (Zq6 HK.out), (Zq3 HB.out (zi.ge HI0.out))⟩)
               rintro ⟨v251, adz_v251⟩ w90 ⟨hS_, h0_, h1_, h2_, h3_, h4_, h5_⟩
               have n0_ : za (Kd.R (Kd.int .i64) 3 w90 w.heap.size (fun _ => True) v251 y250) := ⟨h0_⟩
               have n1_ : za (Kd.R k34 34 w90 w.heap.size (fun _ => True) (.slice (some ad249) x7_1.length co82) x7_1) := ⟨h1_⟩
               have n2_ : za (∃ c_, (v251 : Value) = .slice (some adz_v251) y250.length c_) := ⟨h2_⟩
               have n3_ : za (zi w0 w90 g s0_0 t254) := ⟨h3_⟩
               have n4_ : za (zq w w90 g none) := ⟨h4_⟩
               have n5_ : za (Below w0.heap.size w0 w90) := ⟨h5_⟩
               clear HO_7
               clear HI0
               clear HK
               clear HB
               clear h0_ h1_ h2_ h3_ h4_ h5_
               have HO252 := n0_
               have HO_7 := n1_
               have HA_HO252 := n2_
               have HI0 := n3_
               have HK := n4_
               have HB := n5_
               clear n0_ n1_ n2_ n3_ n4_ n5_
               have hHeld : w90.cell? (ad249.add ((t238).toNat * 4)) = some (.int .i64 ((ze x7_1 t238).f0)) ∧ w90.cell? ⟨(ad249.add ((t238).toNat * 4)).block, (ad249.add ((t238).toNat * 4)).off + 1, none⟩ = some (.int .i64 ((ze x7_1 t238).f1)) ∧ w90.cell? ⟨(ad249.add ((t238).toNat * 4)).block, (ad249.add ((t238).toNat * 4)).off + 2, none⟩ = some (.int .i64 ((ze x7_1 t238).f2)) ∧ w90.cell? ⟨(ad249.add ((t238).toNat * 4)).block, (ad249.add ((t238).toNat * 4)).off + 3, none⟩ = some (.int .i64 ((ze x7_1 t238).f3)) := hS_
               obtain ⟨co91, eo91⟩ := HA_HO252.out
               clear HA_HO252
               subst eo91
               have p81 : 0 ≤ (t238 : Int) := of_decide_eq_true Zas
               have q81 : (t238 : Int) < ((x7_1.length : Int) : Int) := of_decide_eq_true Zas
               obtain ⟨go81, co81, eo81, gb81, gl81, cl81, HG81⟩ := Kd.R_form HO_7.out (by omega)
               (first | cases eo81 | (injection eo81 with ea_ en_ ec_; (first | subst ea_ | (injection ea_ with ea_; subst ea_)); subst ec_; clear en_))
               have GB81 := za.mk gb81
               have GG81 := za.mk HG81
               clear gb81 gl81 HG81
               (first | simp only [add_plain] at hx249_0 | skip)
               (first | simp only [add_plain] at hx249_1 | skip)
               (first | simp only [add_plain] at hx249_2 | skip)
               (first | simp only [add_plain] at hx249_3 | skip)
               obtain ⟨ce81, hcl81, hM81, hcc81, hfr81⟩ := Kd.R_elem HO_7.out z34 (t238 : Int) p81 q81
               obtain rfl := k34_openM hM81
               have hx81_0 : World.cell? _ ⟨go81, (t238 : Int).toNat * 4, none⟩ = some (.int .i64 ((ze x7_1 t238).f0)) := hcc81 0 _ rfl
               have hx81_1 : World.cell? _ ⟨go81, (t238 : Int).toNat * 4 + 1, none⟩ = some (.int .i64 ((ze x7_1 t238).f1)) := hcc81 1 _ rfl
               have hx81_2 : World.cell? _ ⟨go81, (t238 : Int).toNat * 4 + 2, none⟩ = some (.int .i64 ((ze x7_1 t238).f2)) := hcc81 2 _ rfl
               have hx81_3 : World.cell? _ ⟨go81, (t238 : Int).toNat * 4 + 3, none⟩ = some (.int .i64 ((ze x7_1 t238).f3)) := hcc81 3 _ rfl
               have hf81_0 : World.frozen? _ ⟨go81, (t238 : Int).toNat * 4, none⟩ = false := hfr81 0
               have hf81_1 : World.frozen? _ ⟨go81, (t238 : Int).toNat * 4 + 1, none⟩ = false := hfr81 1
               have hf81_2 : World.frozen? _ ⟨go81, (t238 : Int).toNat * 4 + 2, none⟩ = false := hfr81 2
               have hf81_3 : World.frozen? _ ⟨go81, (t238 : Int).toNat * 4 + 3, none⟩ = false := hfr81 3
               clear hcl81 hcc81 hfr81 hM81
               replace p81 := eq_true p81
               replace q81 := eq_true q81
               have HN0_go81 := za.mk (show g ≠ go81 from by have h_ := zi.own_ne HI0.out HO_7.out (by decide); intro e_; exact h_ (by rw [e_]; rfl))
               obtain ⟨ce92, hcl92, hM92, hcc92, hfr92⟩ := Kd.R_elem HO_7.out z34 (t238 : Int) (of_decide_eq_true Zas) (by have h_ : (t238 : Int) < ((x7_1.length : Int) : Int) := of_decide_eq_true Zas; first | exact h_ | (have e_ := (Kd.zbh HO_7.out).1; omega) | simpa using h_)
               obtain rfl := k34_openM hM92
               have HP92 := (Kd.R_seg HO_7.out (t238 : Int) (of_decide_eq_true Zas) (by have h_ : (t238 : Int) < ((x7_1.length : Int) : Int) := of_decide_eq_true Zas; first | exact h_ | (have e_ := (Kd.zbh HO_7.out).1; omega) | simpa using h_) (seg := [.int .i64 (rd y250 t253)]) (j := 1) hcl92 hcc92 (show 2 ≤ 4 from by decide) (x' := (⟨(ze x7_1 t238).f0, rd y250 t253, (ze x7_1 t238).f2, (ze x7_1 t238).f3⟩ : S34)) (k34_mkM _ _ _ (⟨(ze x7_1 t238).f0, rd y250 t253, (ze x7_1 t238).f2, (ze x7_1 t238).f3⟩ : S34) ) (fun _ hk => hk)).1
               rw [← Ny256.out] at HP92
               have HQ92 := za.mk HP92
               clear hcl92 hcc92 hfr92 hM92 HP92
               refine zc5 (a' := ?_) ?_ ?_
               rotate_left
               ·simp only [putAll, Act.put, List.setIfInBounds_toArray, List.set_cons_zero, List.set_cons_succ]
                rfl
               refine zc1 (i := 11) (N := some 136) (v := ?_) (a' := ?_) #[true, true, true, true, true, true, true, true, true, true, true, true, false, false, false, false] rfl rfl (zck HT_.out (by kernel_rfl)) (fun _ _ _ h => h) (Or.inl ⟨by rfl, ?_⟩) ?_ ?_
               rotate_left
               ·intro w'
                go_simp
                with_reducible rfl
               rotate_left
               ·simp only [Act.put, List.setIfInBounds_toArray, List.set_cons_zero, List.set_cons_succ, zb3, zb4]
                rfl
               refine one_ (i := 12) (N := some 137) #[true, true, true, true, true, true, true, true, true, true, true, true, true, false, false, false] rfl rfl (zdr HT_.out (by kernel_rfl)) (by decide) (fun K hK => ?_)
               (have p255 : 0 ≤ (t253 : Int) := of_decide_eq_true Zas; have q255 : t253 < (y250.length : Int) := of_decide_eq_true Zas; obtain ⟨ad255, e255, hx255_0⟩ := Kd.zcf (Kd.zbh HO252.out).2.2 t253 p255 q255; obtain rfl : adz_v251 = ad255 := (by injection e255))
               refine value_ (w1 := ?_) (v := ?_) (by rfl) rfl ?_ ?_
               rotate_left 2
               ·go_simp
                constructor
                ·rfl
                ·rfl
               clear hx255_0
               refine hK.out _ _ ⟨hHeld.1, hHeld.2.1, hHeld.2.2.1, hHeld.2.2.2⟩ (fun hHeld => ?_)
               clear hK K
               refine zc5 (a' := ?_) ?_ ?_
               rotate_left
               ·show Act.put _ (some 137) _ = _
                simp only [Act.put, List.setIfInBounds_toArray, List.set_cons_zero, List.set_cons_succ, zb3, zb4]
                rfl
               refine zc1 (i := 13) (N := some 138) (v := ?_) (a' := ?_) #[true, true, true, true, true, true, true, true, true, true, true, true, true, true, false, false] rfl rfl (zck HT_.out (by kernel_rfl)) (fun _ _ _ h => h) (Or.inl ⟨by rfl, ?_⟩) ?_ ?_
               rotate_left
               ·intro w'
                go_simp
                with_reducible rfl
               rotate_left
               ·simp only [Act.put, List.setIfInBounds_toArray, List.set_cons_zero, List.set_cons_succ, zb3, zb4]
                rfl
               refine zc1 (i := 14) (N := some 139) (v := ?_) (a' := ?_) #[true, true, true, true, true, true, true, true, true, true, true, true, true, true, true, false] rfl rfl (zck HT_.out (by kernel_rfl)) (fun _ _ _ h => h) (Or.inl ⟨by rfl, ?_⟩) ?_ ?_
               rotate_left
               ·intro w'
                go_simp
                with_reducible rfl
               rotate_left
               ·simp only [Act.put, List.setIfInBounds_toArray, List.set_cons_zero, List.set_cons_succ, zb3, zb4]
                rfl
               refine last_ (i := 15) (N := none) #[true, true, true, true, true, true, true, true, true, true, true, true, true, true, true, true] rfl rfl (zdr HT_.out (by kernel_rfl)) (by decide) (fun K hK => ?_)
               refine skip_ (w1 := ?_) (by rfl) rfl ?_ ?_
               rotate_left
               ·go_simp
                rfl
               refine hK.out _ _ ?_
               clear hK K
               refine done_ (done_of HT_.out (by kernel_rfl)) ?_
               try go_wp2
               go_ret
               exact ⟨_, by first | rfl | (simp [zw, zx] <;> rfl) | (simp [*, zw, zx] <;> rfl), Zq11 HQ92.out, Zq8 HI0.out HN0_go81.out, Zq9 HB.out (Nat.le_trans HL.out GB81.out) (zi.ge HI0.out), Zq10 HK.out GB81.out⟩
              ·rw [if_neg c80] at H
               exact absurd H (by simp)
             ·rw [if_neg c79] at H
              exact absurd H (by simp)
            ·rw [if_neg c77] at H
             exact absurd H (by simp)
           ·rw [if_neg c76] at H
            exact absurd H (by simp)
          ·rw [if_neg c75] at H
           have c75b0 : (t240 == 1) = false := beq_eq_false_iff_ne.mpr c75
           have c75b1 : (t240 != 1) = true := bne_iff_ne.mpr c75
           by_cases c93 : t240 = 2
           ·rw [if_pos c93] at H
            have c93b0 : (t240 == 2) = true := beq_iff_eq.mpr c93
            have c93b1 : (t240 != 2) = false := bne_eq_false_iff_eq.mpr c93
            clear c93
            by_cases c94 : 0 ≤ t238
            ·rw [if_pos c94] at H
             have c94b0 : decide (0 ≤ t238) = true := decide_eq_true c94
             clear c94
             by_cases c95 : t238 < (x7_1.length : Int)
             ·rw [if_pos c95] at H
              have c95b0 : decide (t238 < (x7_1.length : Int)) = true := decide_eq_true c95
              clear c95
              obtain ⟨y258, hy258⟩ : ∃ y_ : List (S34), y_ = (x7_1.set (t238 : Int).toNat (⟨(ze x7_1 t238).f0, (ze x7_1 t238).f1, wrap64 (((ze x7_1 t238).f2) + 1), (ze x7_1 t238).f3⟩ : S34)) := ⟨_, rfl⟩
              replace H : (some (y258, t241)) = some (r1, r2) := by first | (rw [hy258]; with_reducible exact H) | (have H2_ := (Option.bind_some _ _).symm.trans H; rw [hy258]; with_reducible exact H2_) | (have H2_ := (Option.bind_some _ _).symm.trans H; with_reducible exact H2_) | with_reducible exact H | (rw [hy258]; exact H) | exact H
              have Ny258 := za.mk hy258
              clear hy258
              simp only [Option.some.injEq, Prod.mk.injEq] at H
              obtain ⟨rfl, rfl⟩ := H
              obtain ⟨Ao97, co97, eo97⟩ := Kd.zbv HO_7.out
              subst eo97
              go_wp2_with (first | ((with_reducible refine zba (f := 68) rfl ?_); refine zbx (some 100) rfl rfl Try.func68 (by kernel_rfl) rfl #[.pointer (some ⟨g, 0, none⟩), .int .i64 (x7_1.length : Int)] rfl Zmt ?_; (with_reducible refine (zb.calls kj49 g s0_0 x1001_49 (x7_1.length : Int) t238 t239 w0 _ ?side1 ?side2 A57.out).mono ?_); (case side1 => exact Zq5 HI0.out); (case side2 => exact Zq3 HB.out (zi.ge HI0.out)); rintro e w98 ⟨rfl, hi, hb, hk⟩; refine ⟨_, rfl, ?_⟩; have n0_ := za.mk (Kd.zbb (Kd.zbp (zi.apart (show zi w0 _ g s0_0 x1001_49 from Zq5 HI0.out) (Zq11 HO_7.out) (by decide)) hk (fun _ h => h.2)) (fun _ h => h.1)); have n1_ := za.mk (zq.trans (Zq6 HK.out) hk (.inl rfl)); have n2_ := za.mk (hb); have n3_ := za.mk (hi); clear HO_7; clear HK; clear HB; clear HI0; have HO_7 := n0_; have HK := n1_; have HB := n2_; have HI0 := n3_; clear n0_ n1_ n2_ n3_; (try clear hb); (try clear hb2); (try clear hk); (try clear hi)) | ((with_reducible refine zba (f := 68) rfl ?_); refine zbx (some 102) rfl rfl Try.func68 (by kernel_rfl) rfl #[.pointer (some ⟨g, 0, none⟩), .int .i64 6] rfl Zmt ?_; (with_reducible refine (zb.calls kj49 g s0_0 t239 6 t240 t241 w0 _ ?side1 ?side2 A58.out).mono ?_); (case side1 => exact Zq5 HI0.out); (case side2 => exact Zq3 HB.out (zi.ge HI0.out)); rintro e w99 ⟨rfl, hi, hb, hk⟩; refine ⟨_, rfl, ?_⟩; have n0_ := za.mk (Kd.zbb (Kd.zbp (zi.apart (show zi w0 _ g s0_0 t239 from Zq5 HI0.out) (Zq11 HO_7.out) (by decide)) hk (fun _ h => h.2)) (fun _ h => h.1)); have n1_ := za.mk (zq.trans (Zq6 HK.out) hk (.inl rfl)); have n2_ := za.mk (hb); have n3_ := za.mk (hi); clear HO_7; clear HK; clear HB; clear HI0; have HO_7 := n0_; have HK := n1_; have HB := n2_; have HI0 := n3_; clear n0_ n1_ n2_ n3_; (try clear hb); (try clear hb2); (try clear hk); (try clear hi); have p257 : 0 ≤ (t238 : Int) := of_decide_eq_true Zas; have q257 : t238 < (x7_1.length : Int) := of_decide_eq_true Zas; obtain ⟨ad257, e257, hx257_0, hx257_1, hx257_2, hx257_3⟩ := zda (Kd.zbh HO_7.out).2.2 t238 p257 q257; cases e257; replace p257 := eq_true p257; replace q257 := eq_true q257; have p96 : 0 ≤ (t238 : Int) := of_decide_eq_true Zas; have q96 : (t238 : Int) < ((x7_1.length : Int) : Int) := of_decide_eq_true Zas; obtain ⟨go96, co96, eo96, gb96, gl96, cl96, HG96⟩ := Kd.R_form HO_7.out (by omega); (first | cases eo96 | (injection eo96 with ea_ en_ ec_; (first | subst ea_ | (injection ea_ with ea_; subst ea_)); subst ec_; clear en_)); have GB96 := za.mk gb96; have GG96 := za.mk HG96; clear gb96 gl96 HG96; (first | simp only [add_plain] at hx257_0 | skip); (first | simp only [add_plain] at hx257_1 | skip); (first | simp only [add_plain] at hx257_2 | skip); (first | simp only [add_plain] at hx257_3 | skip); obtain ⟨ce96, hcl96, hM96, hcc96, hfr96⟩ := Kd.R_elem HO_7.out z34 (t238 : Int) p96 q96; obtain rfl := k34_openM hM96; have hx96_0 : w99.cell? ⟨go96, (t238 : Int).toNat * 4, none⟩ = some (.int .i64 ((ze x7_1 t238).f0)) := hcc96 0 _ rfl; have hx96_1 : w99.cell? ⟨go96, (t238 : Int).toNat * 4 + 1, none⟩ = some (.int .i64 ((ze x7_1 t238).f1)) := hcc96 1 _ rfl; have hx96_2 : w99.cell? ⟨go96, (t238 : Int).toNat * 4 + 2, none⟩ = some (.int .i64 ((ze x7_1 t238).f2)) := hcc96 2 _ rfl; have hx96_3 : w99.cell? ⟨go96, (t238 : Int).toNat * 4 + 3, none⟩ = some (.int .i64 ((ze x7_1 t238).f3)) := hcc96 3 _ rfl; have hf96_0 : w99.frozen? ⟨go96, (t238 : Int).toNat * 4, none⟩ = false := hfr96 0; have hf96_1 : w99.frozen? ⟨go96, (t238 : Int).toNat * 4 + 1, none⟩ = false := hfr96 1; have hf96_2 : w99.frozen? ⟨go96, (t238 : Int).toNat * 4 + 2, none⟩ = false := hfr96 2; have hf96_3 : w99.frozen? ⟨go96, (t238 : Int).toNat * 4 + 3, none⟩ = false := hfr96 3; (try clear hcl96); (try clear hcc96); (try clear hfr96); (try clear hM96); replace p96 := eq_true p96; replace q96 := eq_true q96; have HX100 := za.mk (show Kd.R k34 34 w99 w.heap.size (fun _ => True) (.slice (some ⟨go96, 0, none⟩) x7_1.length co97) x7_1 from (Zq11 HO_7.out)); obtain ⟨ce100, hcl100, hM100, hcc100, hfr100⟩ := Kd.R_elem HX100.out z34 (t238 : Int) (of_decide_eq_true Zas) (by have h_ : (t238 : Int) < ((x7_1.length : Int) : Int) := of_decide_eq_true Zas; first | exact h_ | (have e_ := (Kd.zbh HO_7.out).1; omega) | simpa using h_); obtain rfl := k34_openM hM100; have HP100 := Kd.R_seg HX100.out (t238 : Int) (of_decide_eq_true Zas) (by have h_ : (t238 : Int) < ((x7_1.length : Int) : Int) := of_decide_eq_true Zas; first | exact h_ | (have e_ := (Kd.zbh HO_7.out).1; omega) | simpa using h_) (seg := [.int .i64 (wrap64 (((ze x7_1 t238).f2) + 1))]) (j := 2) hcl100 hcc100 (show 3 ≤ 4 from by decide) (x' := (⟨(ze x7_1 t238).f0, (ze x7_1 t238).f1, wrap64 (((ze x7_1 t238).f2) + 1), (ze x7_1 t238).f3⟩ : S34)) (k34_mkM _ _ _ (⟨(ze x7_1 t238).f0, (ze x7_1 t238).f1, wrap64 (((ze x7_1 t238).f2) + 1), (ze x7_1 t238).f3⟩ : S34) ) (fun _ hk => hk); have hx100_2 := hcc100 2 _ rfl; (try simp only [show (k34).sz = 4 from rfl, Nat.mul_one, Nat.add_zero] at hx100_2); have hf100_2 := hfr100 2; (try simp only [show (k34).sz = 4 from rfl, Nat.mul_one, Nat.add_zero] at hf100_2); (try clear hcl100); (try clear hcc100); (try clear hfr100); (try clear hM100)) | ((with_reducible refine zcg (t := 3) (p := 151) rfl ?_); refine zb8 (t := 3) (p := 151) (v := ?vo_w101) (w1 := (w99.setCell ⟨go96, (t238 : Int).toNat * 4 + 2, none⟩ (.int .i64 (wrap64 (((ze x7_1 t238).f2) + 1))))) ?hg ?ho ?hn ?hr ?_; (case ho => rfl); (case hg => rfl); (case hn => rfl); (case hr => first | (go_simp; done) | (go_simp; rfl)); intro w101 hw; have hg : w99.grownBy w101 (some go96) := (by rw [hw]; exact HP100.2); have hp_ : Kd.R k34 34 w101 w.heap.size (fun _ => True) (.slice (some ⟨go96, 0, none⟩) x7_1.length co97) y258 := (by rw [hw, Ny258.out]; exact HP100.1); clear HP100; have n0_ := za.mk (hp_); have n1_ := za.mk (zi.grown (Zq5 HI0.out) hg (zi.own_ne HI0.out HO_7.out (by decide))); have n2_ := za.mk ((by rw [hw]; exact zbw (HB.out) (Nat.le_trans HL.out GB96.out) : Below w0.heap.size w0 w101)); have n3_ := za.mk (zq.trans (Zq6 HK.out) (zq.zdb hg g) (Kd.R_base2 HO_7.out)); clear HO_7; clear HI0; clear HB; clear HK; have HO_7 := n0_; have HI0 := n1_; have HB := n2_; have HK := n3_; clear n0_ n1_ n2_ n3_; clear hg hw hp_))
              go_ret
              exact ⟨_, by first | rfl | (simp [zw, zx] <;> rfl) | (simp [*, zw, zx] <;> rfl), Zq11 HO_7.out, Zq5 HI0.out, Zq3 HB.out (zi.ge HI0.out), Zq6 HK.out⟩
             ·rw [if_neg c95] at H
              exact absurd H (by simp)
            ·rw [if_neg c94] at H
             exact absurd H (by simp)
           ·rw [if_neg c93] at H
            have c93b0 : (t240 == 2) = false := beq_eq_false_iff_ne.mpr c93
            have c93b1 : (t240 != 2) = true := bne_iff_ne.mpr c93
            by_cases c102 : t240 = 3
            ·rw [if_pos c102] at H
             have c102b0 : (t240 == 3) = true := beq_iff_eq.mpr c102
             have c102b1 : (t240 != 3) = false := bne_eq_false_iff_eq.mpr c102
             clear c102
             obtain ⟨y259, hy259⟩ : ∃ y_ : List Int, y_ = (([0, 9] : List Int)) := ⟨_, rfl⟩
             replace H : ((zb.f kj49 s0_0 t241 2).bind fun bt262 => (if 0 ≤ bt262.1 then (if bt262.1 < (y259.length : Int) then (if 0 ≤ t238 then (if t238 < (x7_1.length : Int) then (some ((x7_1.set (t238 : Int).toNat (⟨(ze x7_1 t238).f0, (ze x7_1 t238).f1, (ze x7_1 t238).f2, rd y259 bt262.1⟩ : S34)), bt262.2)) else (none)) else (none)) else (none)) else (none))) = some (r1, r2) := by first | (rw [hy259]; with_reducible exact H) | (have H2_ := (Option.bind_some _ _).symm.trans H; rw [hy259]; with_reducible exact H2_) | (have H2_ := (Option.bind_some _ _).symm.trans H; with_reducible exact H2_) | with_reducible exact H | (rw [hy259]; exact H) | exact H
             have Ny259 := za.mk hy259
             clear hy259
             replace H := Option.bind_eq_some_iff.mp H
             obtain ⟨⟨t262, t263⟩, A1030, H⟩ := H
             replace H : (if 0 ≤ t262 then (if t262 < (y259.length : Int) then (if 0 ≤ t238 then (if t238 < (x7_1.length : Int) then (some ((x7_1.set (t238 : Int).toNat (⟨(ze x7_1 t238).f0, (ze x7_1 t238).f1, (ze x7_1 t238).f2, rd y259 t262⟩ : S34)), t263)) else (none)) else (none)) else (none)) else (none)) = some (r1, r2) := H
             have A103 := za.mk A1030
             clear A1030
             by_cases c104 : 0 ≤ t262
             ·rw [if_pos c104] at H
              have c104b0 : decide (0 ≤ t262) = true := decide_eq_true c104
              clear c104
              by_cases c105 : t262 < (y259.length : Int)
              ·rw [if_pos c105] at H
               have c105b0 : decide (t262 < (y259.length : Int)) = true := decide_eq_true c105
               clear c105
               by_cases c106 : 0 ≤ t238
               ·rw [if_pos c106] at H
                have c106b0 : decide (0 ≤ t238) = true := decide_eq_true c106
                clear c106
                by_cases c107 : t238 < (x7_1.length : Int)
                ·rw [if_pos c107] at H
                 have c107b0 : decide (t238 < (x7_1.length : Int)) = true := decide_eq_true c107
                 clear c107
                 obtain ⟨y265, hy265⟩ : ∃ y_ : List (S34), y_ = (x7_1.set (t238 : Int).toNat (⟨(ze x7_1 t238).f0, (ze x7_1 t238).f1, (ze x7_1 t238).f2, rd y259 t262⟩ : S34)) := ⟨_, rfl⟩
                 replace H : (some (y265, t263)) = some (r1, r2) := by first | (rw [hy265]; with_reducible exact H) | (have H2_ := (Option.bind_some _ _).symm.trans H; rw [hy265]; with_reducible exact H2_) | (have H2_ := (Option.bind_some _ _).symm.trans H; with_reducible exact H2_) | with_reducible exact H | (rw [hy265]; exact H) | exact H
                 have Ny265 := za.mk hy265
                 clear hy265
                 simp only [Option.some.injEq, Prod.mk.injEq] at H
                 obtain ⟨rfl, rfl⟩ := H
                 obtain ⟨Ao109, co109, eo109⟩ := Kd.zbv HO_7.out
                 subst eo109
                 go_wp2_with (first | ((with_reducible refine zba (f := 68) rfl ?_); refine zbx (some 100) rfl rfl Try.func68 (by kernel_rfl) rfl #[.pointer (some ⟨g, 0, none⟩), .int .i64 (x7_1.length : Int)] rfl Zmt ?_; (with_reducible refine (zb.calls kj49 g s0_0 x1001_49 (x7_1.length : Int) t238 t239 w0 _ ?side1 ?side2 A57.out).mono ?_); (case side1 => exact Zq5 HI0.out); (case side2 => exact Zq3 HB.out (zi.ge HI0.out)); rintro e w110 ⟨rfl, hi, hb, hk⟩; refine ⟨_, rfl, ?_⟩; have n0_ := za.mk (Kd.zbb (Kd.zbp (zi.apart (show zi w0 _ g s0_0 x1001_49 from Zq5 HI0.out) (Zq11 HO_7.out) (by decide)) hk (fun _ h => h.2)) (fun _ h => h.1)); have n1_ := za.mk (zq.trans (Zq6 HK.out) hk (.inl rfl)); have n2_ := za.mk (hb); have n3_ := za.mk (hi); clear HO_7; clear HK; clear HB; clear HI0; have HO_7 := n0_; have HK := n1_; have HB := n2_; have HI0 := n3_; clear n0_ n1_ n2_ n3_; (try clear hb); (try clear hb2); (try clear hk); (try clear hi)) | ((with_reducible refine zba (f := 68) rfl ?_); refine zbx (some 102) rfl rfl Try.func68 (by kernel_rfl) rfl #[.pointer (some ⟨g, 0, none⟩), .int .i64 6] rfl Zmt ?_; (with_reducible refine (zb.calls kj49 g s0_0 t239 6 t240 t241 w0 _ ?side1 ?side2 A58.out).mono ?_); (case side1 => exact Zq5 HI0.out); (case side2 => exact Zq3 HB.out (zi.ge HI0.out)); rintro e w111 ⟨rfl, hi, hb, hk⟩; refine ⟨_, rfl, ?_⟩; have n0_ := za.mk (Kd.zbb (Kd.zbp (zi.apart (show zi w0 _ g s0_0 t239 from Zq5 HI0.out) (Zq11 HO_7.out) (by decide)) hk (fun _ h => h.2)) (fun _ h => h.1)); have n1_ := za.mk (zq.trans (Zq6 HK.out) hk (.inl rfl)); have n2_ := za.mk (hb); have n3_ := za.mk (hi); clear HO_7; clear HK; clear HB; clear HI0; have HO_7 := n0_; have HK := n1_; have HB := n2_; have HI0 := n3_; clear n0_ n1_ n2_ n3_; (try clear hb); (try clear hb2); (try clear hk); (try clear hi)) | ((with_reducible refine zbj (N := 156) rfl ?_); (try (refine zcn (by rfl) ?_; dsimp only)); refine Kd.R_lit (Kd.int .i64) _ 3 ?hg (N := 156) ?hd (xs := ([0, 9] : List Int)) (inner := [.int .i64 0, .int .i64 9]) (ok := fun _ => True) (okp := fun _ => True) ?hr ?hp (fun _ hk => hk) trivial (Below.refl _ _) (Nat.le_refl _) (by simp) ?_; (case hd => rfl); (case hg => rfl); (case hr => first | (go_simp; done) | (go_simp; rfl)); (case hp => exact (Reps.one (show Kd.M (Kd.int .i64) _ _ _ 0 [.int .i64 0] from rfl) (Reps.one (show Kd.M (Kd.int .i64) _ _ _ 9 [.int .i64 9] from rfl) (Reps.none _ _)))); intro v260 w112 ho113 hb hg_ hnew_; clear hg_ hnew_; (first | rw [← Ny259.out] at ho113 | (simp only [Int.reduceToNat] at ho113; rw [← Ny259.out] at ho113)); have n0_ := za.mk (Kd.zcx (Zq11 HO_7.out) hb); have n1_ := za.mk (Kd.zca ho113 (zb5 (w := w) (g := g) (row := none) (Zq6 HK.out))); have n2_ := za.mk (zi.below (Zq5 HI0.out) hb); have n3_ := za.mk (zq.trans (Zq6 HK.out) (zq.of_below hb g none) (.inl rfl)); have n4_ := za.mk (zo (Zq3 HB.out (zi.ge HI0.out)) hb); clear HO_7; clear HI0; clear HK; clear HB; have HO_7 := n0_; have HO261 := n1_; have HI0 := n2_; have HK := n3_; have HB := n4_; clear n0_ n1_ n2_ n3_ n4_; clear hb ho113) | ((with_reducible refine zba (f := 68) rfl ?_); refine zbx (some 158) rfl rfl Try.func68 (by kernel_rfl) rfl #[.pointer (some ⟨g, 0, none⟩), .int .i64 2] rfl Zmt ?_; (with_reducible refine (zb.calls kj49 g s0_0 t241 2 t262 t263 w0 _ ?side1 ?side2 A103.out).mono ?_); (case side1 => exact Zq5 HI0.out); (case side2 => exact Zq3 HB.out (zi.ge HI0.out)); rintro e w114 ⟨rfl, hi, hb, hk⟩; refine ⟨_, rfl, ?_⟩; have n0_ := za.mk (Kd.zbb (Kd.zbp (zi.apart (show zi w0 _ g s0_0 t241 from Zq5 HI0.out) (Zq11 HO_7.out) (by decide)) hk (fun _ h => h.2)) (fun _ h => h.1)); have n1_ := za.mk (Kd.zbb (Kd.zbp (zi.apart (show zi w0 _ g s0_0 t241 from Zq5 HI0.out) (Zq11 HO261.out) (by decide)) hk (fun _ h => h.2)) (fun _ h => h.1)); have n2_ := za.mk (zq.trans (Zq6 HK.out) hk (.inl rfl)); have n3_ := za.mk (hb); have n4_ := za.mk (hi); clear HO_7; clear HO261; clear HK; clear HB; clear HI0; have HO_7 := n0_; have HO261 := n1_; have HK := n2_; have HB := n3_; have HI0 := n4_; clear n0_ n1_ n2_ n3_ n4_; (try clear hb); (try clear hb2); (try clear hk); (try clear hi); obtain ⟨Ao115, co115, eo115⟩ := Kd.zbv HO261.out; subst eo115; have p264 : 0 ≤ (t262 : Int) := of_decide_eq_true Zas; have q264 : t262 < (y259.length : Int) := of_decide_eq_true Zas; obtain ⟨ad264, e264, hx264_0⟩ := Kd.zcf (Kd.zbh HO261.out).2.2 t262 p264 q264; cases e264; replace p264 := eq_true p264; replace q264 := eq_true q264; have p108 : 0 ≤ (t238 : Int) := of_decide_eq_true Zas; have q108 : (t238 : Int) < ((x7_1.length : Int) : Int) := of_decide_eq_true Zas; obtain ⟨go108, co108, eo108, gb108, gl108, cl108, HG108⟩ := Kd.R_form HO_7.out (by omega); (first | cases eo108 | (injection eo108 with ea_ en_ ec_; (first | subst ea_ | (injection ea_ with ea_; subst ea_)); subst ec_; clear en_)); have GB108 := za.mk gb108; have GG108 := za.mk HG108; clear gb108 gl108 HG108; obtain ⟨ce108, hcl108, hM108, hcc108, hfr108⟩ := Kd.R_elem HO_7.out z34 (t238 : Int) p108 q108; obtain rfl := k34_openM hM108; have hx108_0 : w114.cell? ⟨go108, (t238 : Int).toNat * 4, none⟩ = some (.int .i64 ((ze x7_1 t238).f0)) := hcc108 0 _ rfl; have hx108_1 : w114.cell? ⟨go108, (t238 : Int).toNat * 4 + 1, none⟩ = some (.int .i64 ((ze x7_1 t238).f1)) := hcc108 1 _ rfl; have hx108_2 : w114.cell? ⟨go108, (t238 : Int).toNat * 4 + 2, none⟩ = some (.int .i64 ((ze x7_1 t238).f2)) := hcc108 2 _ rfl; have hx108_3 : w114.cell? ⟨go108, (t238 : Int).toNat * 4 + 3, none⟩ = some (.int .i64 ((ze x7_1 t238).f3)) := hcc108 3 _ rfl; have hf108_0 : w114.frozen? ⟨go108, (t238 : Int).toNat * 4, none⟩ = false := hfr108 0; have hf108_1 : w114.frozen? ⟨go108, (t238 : Int).toNat * 4 + 1, none⟩ = false := hfr108 1; have hf108_2 : w114.frozen? ⟨go108, (t238 : Int).toNat * 4 + 2, none⟩ = false := hfr108 2; have hf108_3 : w114.frozen? ⟨go108, (t238 : Int).toNat * 4 + 3, none⟩ = false := hfr108 3; (try clear hcl108); (try clear hcc108); (try clear hfr108); (try clear hM108); replace p108 := eq_true p108; replace q108 := eq_true q108; have HX116 := za.mk (show Kd.R k34 34 w114 w.heap.size (fun _ => True) (.slice (some ⟨go108, 0, none⟩) x7_1.length co109) x7_1 from (Zq11 HO_7.out)); obtain ⟨ce116, hcl116, hM116, hcc116, hfr116⟩ := Kd.R_elem HX116.out z34 (t238 : Int) (of_decide_eq_true Zas) (by have h_ : (t238 : Int) < ((x7_1.length : Int) : Int) := of_decide_eq_true Zas; first | exact h_ | (have e_ := (Kd.zbh HO_7.out).1; omega) | simpa using h_); obtain rfl := k34_openM hM116; have HP116 := Kd.R_seg HX116.out (t238 : Int) (of_decide_eq_true Zas) (by have h_ : (t238 : Int) < ((x7_1.length : Int) : Int) := of_decide_eq_true Zas; first | exact h_ | (have e_ := (Kd.zbh HO_7.out).1; omega) | simpa using h_) (seg := [.int .i64 (rd y259 t262)]) (j := 3) hcl116 hcc116 (show 4 ≤ 4 from by decide) (x' := (⟨(ze x7_1 t238).f0, (ze x7_1 t238).f1, (ze x7_1 t238).f2, rd y259 t262⟩ : S34)) (k34_mkM _ _ _ (⟨(ze x7_1 t238).f0, (ze x7_1 t238).f1, (ze x7_1 t238).f2, rd y259 t262⟩ : S34) ) (fun _ hk => hk); have hx116_3 := hcc116 3 _ rfl; (try simp only [show (k34).sz = 4 from rfl, Nat.mul_one, Nat.add_zero] at hx116_3); have hf116_3 := hfr116 3; (try simp only [show (k34).sz = 4 from rfl, Nat.mul_one, Nat.add_zero] at hf116_3); (try clear hcl116); (try clear hcc116); (try clear hfr116); (try clear hM116)) | ((with_reducible refine zcg (t := 3) (p := 162) rfl ?_); refine zb8 (t := 3) (p := 162) (v := ?vo_w117) (w1 := (w114.setCell ⟨go108, (t238 : Int).toNat * 4 + 3, none⟩ (.int .i64 (rd y259 t262)))) ?hg ?ho ?hn ?hr ?_; (case ho => rfl); (case hg => rfl); (case hn => rfl); (case hr => first | (go_simp; done) | (go_simp; rfl)); intro w117 hw; have hg : w114.grownBy w117 (some go108) := (by rw [hw]; exact HP116.2); have hp_ : Kd.R k34 34 w117 w.heap.size (fun _ => True) (.slice (some ⟨go108, 0, none⟩) x7_1.length co109) y265 := (by rw [hw, Ny265.out]; exact HP116.1); clear HP116; have n0_ := za.mk (hp_); have n1_ := za.mk (zi.grown (Zq5 HI0.out) hg (zi.own_ne HI0.out HO_7.out (by decide))); have n2_ := za.mk (Kd.R_over' (v := (.slice (some ⟨go108, 0, none⟩) x7_1.length co109)) (Zq11 HO261.out) (Kd.R_typed HO_7.out) (by decide) hg); have n3_ := za.mk ((by rw [hw]; exact zbw (HB.out) (Nat.le_trans HL.out GB108.out) : Below w0.heap.size w0 w117)); have n4_ := za.mk (zq.trans (Zq6 HK.out) (zq.zdb hg g) (Kd.R_base2 HO_7.out)); clear HO_7; clear HI0; clear HO261; clear HB; clear HK; have HO_7 := n0_; have HI0 := n1_; have HO261 := n2_; have HB := n3_; have HK := n4_; clear n0_ n1_ n2_ n3_ n4_; clear hg hw hp_))
                 go_ret
                 exact ⟨_, by first | rfl | (simp [zw, zx] <;> rfl) | (simp [*, zw, zx] <;> rfl), Zq11 HO_7.out, Zq5 HI0.out, Zq3 HB.out (zi.ge HI0.out), Zq6 HK.out⟩
                ·rw [if_neg c107] at H
                 exact absurd H (by simp)
               ·rw [if_neg c106] at H
                exact absurd H (by simp)
              ·rw [if_neg c105] at H
               exact absurd H (by simp)
             ·rw [if_neg c104] at H
              exact absurd H (by simp)
            ·rw [if_neg c102] at H
             have c102b0 : (t240 == 3) = false := beq_eq_false_iff_ne.mpr c102
             have c102b1 : (t240 != 3) = true := bne_iff_ne.mpr c102
             by_cases c118 : t240 = 4
             ·rw [if_pos c118] at H
              have c118b0 : (t240 == 4) = true := beq_iff_eq.mpr c118
              have c118b1 : (t240 != 4) = false := bne_eq_false_iff_eq.mpr c118
              clear c118
              by_cases c119 : 0 ≤ t238
              ·rw [if_pos c119] at H
               have c119b0 : decide (0 ≤ t238) = true := decide_eq_true c119
               clear c119
               by_cases c120 : t238 < (x7_1.length : Int)
               ·rw [if_pos c120] at H
                have c120b0 : decide (t238 < (x7_1.length : Int)) = true := decide_eq_true c120
                clear c120
                by_cases c121 : x7_1.length < 4398046511104
                ·rw [if_pos c121] at H
                 have LMc121 := za.mk c121
                 clear c121
                 obtain ⟨y267, hy267⟩ : ∃ y_ : List (S34), y_ = (x7_1 ++ [(⟨(ze x7_1 t238).f0, (ze x7_1 t238).f1, (ze x7_1 t238).f2, (ze x7_1 t238).f3⟩ : S34)]) := ⟨_, rfl⟩
                 replace H : (some (y267, t241)) = some (r1, r2) := by first | (rw [hy267]; with_reducible exact H) | (have H2_ := (Option.bind_some _ _).symm.trans H; rw [hy267]; with_reducible exact H2_) | (have H2_ := (Option.bind_some _ _).symm.trans H; with_reducible exact H2_) | with_reducible exact H | (rw [hy267]; exact H) | exact H
                 have Ny267 := za.mk hy267
                 clear hy267
                 simp only [Option.some.injEq, Prod.mk.injEq] at H
                 obtain ⟨rfl, rfl⟩ := H
                 obtain ⟨Ao122, co122, eo122⟩ := Kd.zbv HO_7.out
                 subst eo122
                 go_wp2_with (first | ((with_reducible refine zba (f := 68) rfl ?_); refine zbx (some 100) rfl rfl Try.func68 (by kernel_rfl) rfl #[.pointer (some ⟨g, 0, none⟩), .int .i64 (x7_1.length : Int)] rfl Zmt ?_; (with_reducible refine (zb.calls kj49 g s0_0 x1001_49 (x7_1.length : Int) t238 t239 w0 _ ?side1 ?side2 A57.out).mono ?_); (case side1 => exact Zq5 HI0.out); (case side2 => exact Zq3 HB.out (zi.ge HI0.out)); rintro e w123 ⟨rfl, hi, hb, hk⟩; refine ⟨_, rfl, ?_⟩; have n0_ := za.mk (Kd.zbb (Kd.zbp (zi.apart (show zi w0 _ g s0_0 x1001_49 from Zq5 HI0.out) (Zq11 HO_7.out) (by decide)) hk (fun _ h => h.2)) (fun _ h => h.1)); have n1_ := za.mk (zq.trans (Zq6 HK.out) hk (.inl rfl)); have n2_ := za.mk (hb); have n3_ := za.mk (hi); clear HO_7; clear HK; clear HB; clear HI0; have HO_7 := n0_; have HK := n1_; have HB := n2_; have HI0 := n3_; clear n0_ n1_ n2_ n3_; (try clear hb); (try clear hb2); (try clear hk); (try clear hi)) | ((with_reducible refine zba (f := 68) rfl ?_); refine zbx (some 102) rfl rfl Try.func68 (by kernel_rfl) rfl #[.pointer (some ⟨g, 0, none⟩), .int .i64 6] rfl Zmt ?_; (with_reducible refine (zb.calls kj49 g s0_0 t239 6 t240 t241 w0 _ ?side1 ?side2 A58.out).mono ?_); (case side1 => exact Zq5 HI0.out); (case side2 => exact Zq3 HB.out (zi.ge HI0.out)); rintro e w124 ⟨rfl, hi, hb, hk⟩; refine ⟨_, rfl, ?_⟩; have n0_ := za.mk (Kd.zbb (Kd.zbp (zi.apart (show zi w0 _ g s0_0 t239 from Zq5 HI0.out) (Zq11 HO_7.out) (by decide)) hk (fun _ h => h.2)) (fun _ h => h.1)); have n1_ := za.mk (zq.trans (Zq6 HK.out) hk (.inl rfl)); have n2_ := za.mk (hb); have n3_ := za.mk (hi); clear HO_7; clear HK; clear HB; clear HI0; have HO_7 := n0_; have HK := n1_; have HB := n2_; have HI0 := n3_; clear n0_ n1_ n2_ n3_; (try clear hb); (try clear hb2); (try clear hk); (try clear hi); have p266 : 0 ≤ (t238 : Int) := of_decide_eq_true Zas; have q266 : t238 < (x7_1.length : Int) := of_decide_eq_true Zas; obtain ⟨ad266, e266, hx266_0, hx266_1, hx266_2, hx266_3⟩ := zda (Kd.zbh HO_7.out).2.2 t238 p266 q266; cases e266; replace p266 := eq_true p266; replace q266 := eq_true q266) | ((with_reducible refine zcd (b := .append) (xs := #[.tmp 165, .tmp 170]) rfl ?_); (try (refine zcn (by rfl) ?_; dsimp only)); at_builtin; refine Kd.zdc k34 w.heap.size rfl (.tmp 165) (.tmp 170) 24 34 (.agg #[(.int .i64 0), (.int .i64 0), (.int .i64 0), (.int .i64 0)]) 32 rfl Try.underlying24 info34 rfl (by decide) (by omega) (.slice (some ad266) x7_1.length co122) x7_1 (⟨(ze x7_1 t238).f0, (ze x7_1 t238).f1, (ze x7_1 t238).f2, (ze x7_1 t238).f3⟩ : S34) [.int .i64 ((ze x7_1 t238).f0), .int .i64 ((ze x7_1 t238).f1), .int .i64 ((ze x7_1 t238).f2), .int .i64 ((ze x7_1 t238).f3)] (fun _ => True) (fun _ => False) rfl rfl ?aP (fun _ hk => hk.elim) ?aF ?aO (Below.refl _ _) ?aS ?aL ?_; (case aP => exact k34_mkM _ _ _ (⟨(ze x7_1 t238).f0, (ze x7_1 t238).f1, (ze x7_1 t238).f2, (ze x7_1 t238).f3⟩ : S34)); (case aF => exact (fun _ _ => trivial)); (case aO => exact (Zq11 HO_7.out)); (case aS => exact (zb5 (w := w) (g := g) (row := none) (Zq6 HK.out))); (case aL => have := LMc121.out; omega); intro v268 w125 ho hb hg hat; rw [← Ny267.out] at ho; have n0_ := za.mk (zi.grown (Zq5 HI0.out) hg (zi.own_ne HI0.out HO_7.out (by decide))); have n1_ := za.mk (zct (Zq3 HB.out (zi.ge HI0.out)) HL.out hb); have n2_ := za.mk (zq.trans (Zq6 HK.out) (zq.zdb hg g) (Kd.R_base2 HO_7.out)); have n3_ := za.mk (ho); clear HI0; clear HB; clear HK; clear HO_7; have HI0 := n0_; have HB := n1_; have HK := n2_; have HO269 := n3_; clear n0_ n1_ n2_ n3_; clear ho hb hg hat))
                 go_ret
                 exact ⟨_, by first | rfl | (simp [zw, zx] <;> rfl) | (simp [*, zw, zx] <;> rfl), Zq11 HO269.out, Zq5 HI0.out, Zq3 HB.out (zi.ge HI0.out), Zq6 HK.out⟩
                ·rw [if_neg c121] at H
                 exact absurd H (by simp)
               ·rw [if_neg c120] at H
                exact absurd H (by simp)
              ·rw [if_neg c119] at H
               exact absurd H (by simp)
             ·rw [if_neg c118] at H
              have c118b0 : (t240 == 4) = false := beq_eq_false_iff_ne.mpr c118
              have c118b1 : (t240 != 4) = true := bne_iff_ne.mpr c118
              have H' := za.mk H
              clear H
              obtain ⟨Ao126, co126, eo126⟩ := Kd.zbv HO_7.out
              subst eo126
              go_wp2_with (first | ((with_reducible refine zba (f := 68) rfl ?_); refine zbx (some 100) rfl rfl Try.func68 (by kernel_rfl) rfl #[.pointer (some ⟨g, 0, none⟩), .int .i64 (x7_1.length : Int)] rfl Zmt ?_; (with_reducible refine (zb.calls kj49 g s0_0 x1001_49 (x7_1.length : Int) t238 t239 w0 _ ?side1 ?side2 A57.out).mono ?_); (case side1 => exact Zq5 HI0.out); (case side2 => exact Zq3 HB.out (zi.ge HI0.out)); rintro e w127 ⟨rfl, hi, hb, hk⟩; refine ⟨_, rfl, ?_⟩; have n0_ := za.mk (Kd.zbb (Kd.zbp (zi.apart (show zi w0 _ g s0_0 x1001_49 from Zq5 HI0.out) (Zq11 HO_7.out) (by decide)) hk (fun _ h => h.2)) (fun _ h => h.1)); have n1_ := za.mk (zq.trans (Zq6 HK.out) hk (.inl rfl)); have n2_ := za.mk (hb); have n3_ := za.mk (hi); clear HO_7; clear HK; clear HB; clear HI0; have HO_7 := n0_; have HK := n1_; have HB := n2_; have HI0 := n3_; clear n0_ n1_ n2_ n3_; (try clear hb); (try clear hb2); (try clear hk); (try clear hi)) | ((with_reducible refine zba (f := 68) rfl ?_); refine zbx (some 102) rfl rfl Try.func68 (by kernel_rfl) rfl #[.pointer (some ⟨g, 0, none⟩), .int .i64 6] rfl Zmt ?_; (with_reducible refine (zb.calls kj49 g s0_0 t239 6 t240 t241 w0 _ ?side1 ?side2 A58.out).mono ?_); (case side1 => exact Zq5 HI0.out); (case side2 => exact Zq3 HB.out (zi.ge HI0.out)); rintro e w128 ⟨rfl, hi, hb, hk⟩; refine ⟨_, rfl, ?_⟩; have n0_ := za.mk (Kd.zbb (Kd.zbp (zi.apart (show zi w0 _ g s0_0 t239 from Zq5 HI0.out) (Zq11 HO_7.out) (by decide)) hk (fun _ h => h.2)) (fun _ h => h.1)); have n1_ := za.mk (zq.trans (Zq6 HK.out) hk (.inl rfl)); have n2_ := za.mk (hb); have n3_ := za.mk (hi); clear HO_7; clear HK; clear HB; clear HI0; have HO_7 := n0_; have HK := n1_; have HB := n2_; have HI0 := n3_; clear n0_ n1_ n2_ n3_; (try clear hb); (try clear hb2); (try clear hk); (try clear hi)))
              go_loopg [7] kj49 (fun kq v7 w' => ∃ (x7_3 : List (S34)), za (zt.l2 kq x7_3 s0_0 t241 = some (r1, r2)) ∧ za (kq ≤ kj49) ∧ za (Kd.R k34 34 w' w.heap.size (fun _ => True) v7 x7_3) ∧ za (zi w0 w' g s0_0 t241) ∧ za (zq w w' g none) ∧ za (Below w0.heap.size w0 w'))
              case atStart => exact ⟨(x7_1), H', ⟨Nat.le_refl _⟩, ⟨Zq11 HO_7.out⟩, ⟨Zq5 HI0.out⟩, ⟨Zq6 HK.out⟩, ⟨Zq3 HB.out (zi.ge HI0.out)⟩⟩
              case round =>
               clear H'
               try clear c1
               try clear p1
               try clear q1
               try clear hx1
               try clear p2
               try clear q2
               try clear hx2
               try clear qi2
               try clear c5
               try clear c6
               try clear p6
               try clear q6
               try clear hx6
               try clear hf6
               try clear c7
               try clear hx7
               try clear hf7
               try clear c8
               try clear p8
               try clear q8
               try clear hx8
               try clear hf8
               try clear c9
               try clear p9
               try clear q9
               try clear hx9
               try clear hf9
               try clear c10
               try clear p10
               try clear q10
               try clear hx10
               try clear hf10
               try clear c11
               try clear hx11
               try clear hf11
               try clear c12
               try clear p24
               try clear q24
               try clear hx24
               try clear p25
               try clear q25
               try clear hx25
               try clear qi25
               try clear p26
               try clear q26
               try clear hx26
               try clear c59
               try clear c59b0
               try clear c59b1
               try clear c61
               try clear c61b0
               try clear c62
               try clear c62b0
               try clear c63
               try clear c63b0
               try clear c64
               try clear c64b0
               try clear p64
               try clear c65
               try clear p65
               try clear q65
               try clear hx65
               try clear hf65
               try clear c68
               try clear c73
               try clear hx73
               try clear hf73
               try clear c75
               try clear c75b0
               try clear c75b1
               try clear c76
               try clear c76b0
               try clear c77
               try clear c77b0
               try clear c79
               try clear c79b0
               try clear c80
               try clear c80b0
               try clear c81
               try clear p81
               try clear q81
               try clear hx81
               try clear hf81
               try clear c92
               try clear c93
               try clear c93b0
               try clear c93b1
               try clear c94
               try clear c94b0
               try clear c95
               try clear c95b0
               try clear c96
               try clear p96
               try clear q96
               try clear hx96
               try clear hf96
               try clear c100
               try clear hx100
               try clear hf100
               try clear c102
               try clear c102b0
               try clear c102b1
               try clear c104
               try clear c104b0
               try clear c105
               try clear c105b0
               try clear c106
               try clear c106b0
               try clear c107
               try clear c107b0
               try clear c108
               try clear p108
               try clear q108
               try clear hx108
               try clear hf108
               try clear c116
               try clear hx116
               try clear hf116
               try clear c118
               try clear c118b0
               try clear c118b1
               try clear c119
               try clear c119b0
               try clear c120
               try clear c120b0
               try clear c121
               try clear hx100_2
               try clear hx108_0
               try clear hx108_1
               try clear hx108_2
               try clear hx108_3
               try clear hx116_3
               try clear hx247_0
               try clear hx249_0
               try clear hx249_1
               try clear hx249_2
               try clear hx249_3
               try clear hx255_0
               try clear hx257_0
               try clear hx257_1
               try clear hx257_2
               try clear hx257_3
               try clear hx264_0
               try clear hx266_0
               try clear hx266_1
               try clear hx266_2
               try clear hx266_3
               try clear hx65_0
               try clear hx65_1
               try clear hx65_2
               try clear hx65_3
               try clear hx73_0
               try clear hx81_0
               try clear hx81_1
               try clear hx81_2
               try clear hx81_3
               try clear hx96_0
               try clear hx96_1
               try clear hx96_2
               try clear hx96_3
               try clear p108
               try clear p247
               try clear p249
               try clear p255
               try clear p257
               try clear p264
               try clear p266
               try clear p65
               try clear p81
               try clear p96
               try clear q108
               try clear q247
               try clear q249
               try clear q255
               try clear q257
               try clear q264
               try clear q266
               try clear q65
               try clear q81
               try clear q96
               obtain ⟨x7_3, HA, HK3, HO_7, HI0, HK, HB⟩ := hrel
               cases gk with
               | zero => exact absurd HA.out (by simp [zt.l2])
               | succ k3 =>
                have H := HA.out
                clear HA
                simp only [zt.l2] at H
                by_cases c129 : (x7_3.length : Int) ≤ 60
                ·rw [if_pos c129] at H
                 have c129b0 : decide ((x7_3.length : Int) ≤ 60) = true := decide_eq_true c129
                 have c129b1 : decide (x7_3.length ≤ 60) = true := decide_eq_true (by omega)
                 clear c129
                 by_cases c130 : x7_3.length < 4398046511104
                 ·rw [if_pos c130] at H
                  have LMc130 := za.mk c130
                  clear c130
                  obtain ⟨y270, hy270⟩ : ∃ y_ : List (S34), y_ = (x7_3 ++ [(⟨0, 119, 120, 1⟩ : S34)]) := ⟨_, rfl⟩
                  replace H : (zt.l2 k3 y270 s0_0 t241) = some (r1, r2) := by first | (rw [hy270]; with_reducible exact H) | (have H2_ := (Option.bind_some _ _).symm.trans H; rw [hy270]; with_reducible exact H2_) | (have H2_ := (Option.bind_some _ _).symm.trans H; with_reducible exact H2_) | with_reducible exact H | (rw [hy270]; exact H) | exact H
                  have Ny270 := za.mk hy270
                  clear hy270
                  have H' := za.mk H
                  clear H
                  obtain ⟨Ao131, co131, eo131⟩ := Kd.zbv HO_7.out
                  subst eo131
                  go_wp2_with (first | ((with_reducible refine zcd (b := .append) (xs := #[.tmp 106, .tmp 108]) rfl ?_); (try (refine zcn (by rfl) ?_; dsimp only)); at_builtin; refine Kd.zdc k34 w.heap.size rfl (.tmp 106) (.tmp 108) 24 34 (.agg #[(.int .i64 0), (.int .i64 0), (.int .i64 0), (.int .i64 0)]) 32 rfl Try.underlying24 info34 rfl (by decide) (by omega) (.slice Ao131 x7_3.length co131) x7_3 (⟨0, 119, 120, 1⟩ : S34) [.int .i64 0, .int .i64 119, .int .i64 120, .int .i64 1] (fun _ => True) (fun _ => False) rfl rfl ?aP (fun _ hk => hk.elim) ?aF ?aO (Below.refl _ _) ?aS ?aL ?_; (case aP => exact k34_mkM _ _ _ (⟨0, 119, 120, 1⟩ : S34)); (case aF => exact (fun _ _ => trivial)); (case aO => exact (Zq11 HO_7.out)); (case aS => exact (zb5 (w := w) (g := g) (row := none) (Zq6 HK.out))); (case aL => have := LMc130.out; omega); intro v271 w132 ho hb hg hat; rw [← Ny270.out] at ho; have n0_ := za.mk (zi.grown (Zq5 HI0.out) hg (zi.own_ne HI0.out HO_7.out (by decide))); have n1_ := za.mk (zct (Zq3 HB.out (zi.ge HI0.out)) HL.out hb); have n2_ := za.mk (zq.trans (Zq6 HK.out) (zq.zdb hg g) (Kd.R_base2 HO_7.out)); have n3_ := za.mk (ho); clear HI0; clear HB; clear HK; clear HO_7; have HI0 := n0_; have HB := n1_; have HK := n2_; have HO272 := n3_; clear n0_ n1_ n2_ n3_; clear ho hb hg hat))
                  go_roundg k3
                  case measure => have := HK1.out; have := HJ49.out; have := HK3.out; omega
                  case rel => exact ⟨(y270), H', ⟨by have := HK1.out; have := HJ49.out; have := HK3.out; omega⟩, ⟨Zq11 HO272.out⟩, ⟨Zq5 HI0.out⟩, ⟨Zq6 HK.out⟩, ⟨Zq3 HB.out (zi.ge HI0.out)⟩⟩
                 ·rw [if_neg c130] at H
                  exact absurd H (by simp)
                ·rw [if_neg c129] at H
                 have c129b0 : decide ((x7_3.length : Int) ≤ 60) = false := decide_eq_false c129
                 have c129b1 : decide (x7_3.length ≤ 60) = false := decide_eq_false (by omega)
                 clear c129
                 simp only [Option.some.injEq, Prod.mk.injEq] at H
                 obtain ⟨rfl, rfl⟩ := H
                 obtain ⟨Ao133, co133, eo133⟩ := Kd.zbv HO_7.out
                 subst eo133
                 go_wp2
                 go_ret
                 exact ⟨_, by first | rfl | (simp [zw, zx] <;> rfl) | (simp [*, zw, zx] <;> rfl), Zq11 HO_7.out, Zq5 HI0.out, Zq3 HB.out (zi.ge HI0.out), Zq6 HK.out⟩
        ·replace c56 := Bool.eq_false_iff.mpr c56
         subst c56
         have H1 : (some (x7_1, x1001_49)) = some (r1, r2) := by rw [if_neg (show ¬ (false = true) by decide)] at H; exact H
         clear H
         have H := H1
         clear H1
         simp only [Option.some.injEq, Prod.mk.injEq] at H
         obtain ⟨rfl, rfl⟩ := H
         go_wp2
         go_ret
         exact ⟨_, by first | rfl | (simp [zw, zx] <;> rfl) | (simp [*, zw, zx] <;> rfl), Zq11 HO_7.out, Zq5 HI0.out, Zq3 HB.out (zi.ge HI0.out), Zq6 HK.out⟩
  ·rw [if_neg c5] at H
   exact absurd H (by simp)
 ·rw [if_neg c4] at H
  exact absurd H (by simp)
theorem Zq15 {X0 P : Prop} (x0 : X0) (h : X0 → P := by intro x0; repeat (first | exact x0 | (with_reducible refine Kd.C_alloc ?_ _) | (with_reducible refine Kd.C_drewN ?_ _) | (with_reducible refine Kd.C_drew ?_))) : P := h x0
def zb7.f (k : Nat) (l0 : List Int) : Option ((List (S88)) × (List (S34))) := (zc6.f l0).bind fun bt273 => ((zbi.f k bt273.1 bt273.2 20).bind fun bt276 => ((zbk.f k bt276.1).bind fun t280 => (if t280 = true then ((zt.f k bt273.1 bt276.2 bt276.1 16).bind fun bt281 => (some (bt276.1, bt281.1))) else (some (bt276.1, (([] : List (S34))))))))
set_option maxHeartbeats 8000000 in
set_option maxRecDepth 100000 in
theorem zb7.calls (k : Nat) (A0 : Option Addr) (c0 : Nat) (l0 : List Int) (r1 : List (S88)) (r2 : List (S34)) (w : World) (hr0 : Kd.C (Kd.int .u8) w A0 l0.length l0) (hc0 : l0.length ≤ c0) (h : zb7.f k l0 = some (r1, r2)) :
  Calls Try.prog 11 #[.slice A0 l0.length c0] w fun e w' => ∃ v0_ v1_ : Value, e = .returned (.tuple #[v0_, v1_]) ∧ Kd.R k88 88 w' w.heap.size (fun _ => True) v0_ r1 ∧ Kd.R k34 34 w' w.heap.size (fun _ => True) v1_ r2 ∧ Below w.heap.size w w' := by
 have HR0 := za.mk hr0
 have HC0 := za.mk hc0
 clear hr0 hc0
 have HB := za.mk (Below.refl w.heap.size w)
 have H : ((zc6.f l0).bind fun bt273 => ((zbi.f k bt273.1 bt273.2 20).bind fun bt276 => ((zbk.f k bt276.1).bind fun t280 => (if t280 = true then ((zt.f k bt273.1 bt276.2 bt276.1 16).bind fun bt281 => (some (bt276.1, bt281.1))) else (some (bt276.1, (([] : List (S34))))))))) = some (r1, r2) := h
 clear h
 replace H := Option.bind_eq_some_iff.mp H
 obtain ⟨⟨t273, t274⟩, A20, H⟩ := H
 replace H : ((zbi.f k t273 t274 20).bind fun bt276 => ((zbk.f k bt276.1).bind fun t280 => (if t280 = true then ((zt.f k t273 bt276.2 bt276.1 16).bind fun bt281 => (some (bt276.1, bt281.1))) else (some (bt276.1, (([] : List (S34)))))))) = some (r1, r2) := H
 have A2 := za.mk A20
 clear A20
 replace H := Option.bind_eq_some_iff.mp H
 obtain ⟨⟨t276, t279⟩, A30, H⟩ := H
 replace H : ((zbk.f k t276).bind fun t280 => (if t280 = true then ((zt.f k t273 t279 t276 16).bind fun bt281 => (some (t276, bt281.1))) else (some (t276, (([] : List (S34))))))) = some (r1, r2) := H
 have A3 := za.mk A30
 clear A30
 replace H := Option.bind_eq_some_iff.mp H
 obtain ⟨t280, A40, H⟩ := H
 replace H : (if t280 = true then ((zt.f k t273 t279 t276 16).bind fun bt281 => (some (t276, bt281.1))) else (some (t276, (([] : List (S34)))))) = some (r1, r2) := H
 have A4 := za.mk A40
 clear A40
 by_cases c5 : t280 = true
 ·subst c5
  have H1 : ((zt.f k t273 t279 t276 16).bind fun bt281 => (some (t276, bt281.1))) = some (r1, r2) := by rw [if_pos rfl] at H; exact H
  clear H
  have H := H1
  clear H1
  replace H := Option.bind_eq_some_iff.mp H
  obtain ⟨⟨t281, t284⟩, A60, H⟩ := H
  replace H : (some (t276, t281)) = some (r1, r2) := H
  have A6 := za.mk A60
  clear A60
  simp only [Option.some.injEq, Prod.mk.injEq] at H
  obtain ⟨rfl, rfl⟩ := H
  go_enter Try.func11, Try.ntmps11
  go_wp2_with (first | ((with_reducible refine zba (f := 44) rfl ?_); refine zbx (some 7) rfl rfl Try.func44 (by kernel_rfl) rfl #[.slice A0 l0.length c0] rfl Zmt ?_; (with_reducible refine (zc6.calls _ _ l0 t273 t274 w _ ?side1 ?side2 ?side3 A2.out).mono ?_); (case side1 => exact Zq1 HB.out); (case side2 => exact HR0.out); (case side3 => exact HC0.out); rintro e w7 ⟨g275, rfl, hi, hb, hb2⟩; refine ⟨_, rfl, ?_⟩; have n0_ := za.mk (hb); have n1_ := za.mk (hi); clear HB; have HB := n0_; have HI275 := n1_; clear n0_ n1_; (try clear hb); (try clear hb2); (try clear hk); (try clear hi)) | ((with_reducible refine zba (f := 45) rfl ?_); refine zbx (some 9) rfl rfl Try.func45 (by kernel_rfl) rfl #[.pointer (some ⟨g275, 0, none⟩), .int .i64 20] rfl Zmt ?_; (with_reducible refine (zbi.calls k g275 t273 t274 20 t276 t279 w _ ?side1 ?side2 A3.out).mono ?_); (case side1 => exact Zq5 HI275.out); (case side2 => exact Zq3 HB.out (zi.ge HI275.out)); rintro e w8 ⟨v277, rfl, ho0, hi, hb, hk⟩; refine ⟨_, rfl, ?_⟩; have n0_ := za.mk (Kd.zca ho0 (zu (Zq3 HB.out (zi.ge HI275.out)))); have n1_ := za.mk (hb); have n2_ := za.mk (hi); clear HB; clear HI275; have HO278 := n0_; have HB := n1_; have HI275 := n2_; clear n0_ n1_ n2_; (try clear hb); (try clear hb2); (try clear hk); (try clear hi); (try clear ho0); obtain ⟨Ao9, co9, eo9⟩ := Kd.zbv HO278.out; subst eo9) | ((with_reducible refine zba (f := 46) rfl ?_); refine zbx (some 11) rfl rfl Try.func46 (by kernel_rfl) rfl #[.slice Ao9 t276.length co9] rfl Zmt ?_; (with_reducible refine (zbk.calls k _ _ t276 true _ ?side1 ?side2 A4.out).mono ?_); (case side1 => exact Zq15 ((Kd.zbh HO278.out).2.2)); (case side2 => exact (Kd.zbh HO278.out).2.1); rintro e w10 ⟨rfl, hb⟩; refine ⟨_, rfl, ?_⟩; have n0_ := za.mk (Kd.zcx (Zq11 HO278.out) hb); have n1_ := za.mk (zi.below (Zq5 HI275.out) hb); have n2_ := za.mk (zo (Zq3 HB.out (zi.ge HI275.out)) hb); clear HO278; clear HI275; clear HB; have HO278 := n0_; have HI275 := n1_; have HB := n2_; clear n0_ n1_ n2_; (try clear hb); (try clear hb2); (try clear hk); (try clear hi)) | ((with_reducible refine zba (f := 47) rfl ?_); refine zbx (some 18) rfl rfl Try.func47 (by kernel_rfl) rfl #[.pointer (some ⟨g275, 0, none⟩), .slice Ao9 t276.length co9, .int .i64 16] rfl Zmt ?_; (with_reducible refine (zt.calls k g275 t273 t279 _ _ t276 16 t281 t284 w _ ?side1 ?side2 ?side3 ?side4 A6.out).mono ?_); (case side1 => exact Zq5 HI275.out); (case side2 => exact Zq3 HB.out (zi.ge HI275.out)); (case side3 => exact Kd.C_foot_own (zi.apart (show zi w _ g275 t273 t279 from Zq5 HI275.out) (Zq11 HO278.out) (by decide)) (fun _ h_ => h_.2)); (case side4 => exact (Kd.zbh HO278.out).2.1); rintro e w11 ⟨v282, rfl, ho0, hi, hb, hk⟩; refine ⟨_, rfl, ?_⟩; have n0_ := za.mk (Kd.zbb (Kd.zbp (zi.apart (show zi w _ g275 t273 t279 from Zq5 HI275.out) (Zq11 HO278.out) (by decide)) hk (fun _ h => h.2)) (fun _ h => h.1)); have n1_ := za.mk (Kd.zca ho0 (zu (Zq3 HB.out (zi.ge HI275.out)))); have n2_ := za.mk (hb); have n3_ := za.mk (hi); clear HO278; clear HB; clear HI275; have HO278 := n0_; have HO283 := n1_; have HB := n2_; have HI275 := n3_; clear n0_ n1_ n2_ n3_; (try clear hb); (try clear hb2); (try clear hk); (try clear hi); (try clear ho0)))
  go_ret2
  exact ⟨_, _, by first | rfl | (simp [zw, zx] <;> rfl) | (simp [*, zw, zx] <;> rfl), Zq11 HO278.out, Zq11 HO283.out, Zq3 HB.out (zi.ge HI275.out)⟩
 ·replace c5 := Bool.eq_false_iff.mpr c5
  subst c5
  have H1 : (some (t276, (([] : List (S34))))) = some (r1, r2) := by rw [if_neg (show ¬ (false = true) by decide)] at H; exact H
  clear H
  have H := H1
  clear H1
  obtain ⟨y285, hy285⟩ : ∃ y_ : List (S34), y_ = (([] : List (S34))) := ⟨_, rfl⟩
  replace H : (some (t276, y285)) = some (r1, r2) := by first | (rw [hy285]; with_reducible exact H) | (have H2_ := (Option.bind_some _ _).symm.trans H; rw [hy285]; with_reducible exact H2_) | (have H2_ := (Option.bind_some _ _).symm.trans H; with_reducible exact H2_) | with_reducible exact H | (rw [hy285]; exact H) | exact H
  have Ny285 := za.mk hy285
  clear hy285
  simp only [Option.some.injEq, Prod.mk.injEq] at H
  obtain ⟨rfl, rfl⟩ := H
  go_enter Try.func11, Try.ntmps11
  go_wp2_with (first | ((with_reducible refine zba (f := 44) rfl ?_); refine zbx (some 7) rfl rfl Try.func44 (by kernel_rfl) rfl #[.slice A0 l0.length c0] rfl Zmt ?_; (with_reducible refine (zc6.calls _ _ l0 t273 t274 w _ ?side1 ?side2 ?side3 A2.out).mono ?_); (case side1 => exact Zq1 HB.out); (case side2 => exact HR0.out); (case side3 => exact HC0.out); rintro e w12 ⟨g275, rfl, hi, hb, hb2⟩; refine ⟨_, rfl, ?_⟩; have n0_ := za.mk (hb); have n1_ := za.mk (hi); clear HB; have HB := n0_; have HI275 := n1_; clear n0_ n1_; (try clear hb); (try clear hb2); (try clear hk); (try clear hi)) | ((with_reducible refine zba (f := 45) rfl ?_); refine zbx (some 9) rfl rfl Try.func45 (by kernel_rfl) rfl #[.pointer (some ⟨g275, 0, none⟩), .int .i64 20] rfl Zmt ?_; (with_reducible refine (zbi.calls k g275 t273 t274 20 t276 t279 w _ ?side1 ?side2 A3.out).mono ?_); (case side1 => exact Zq5 HI275.out); (case side2 => exact Zq3 HB.out (zi.ge HI275.out)); rintro e w13 ⟨v277, rfl, ho0, hi, hb, hk⟩; refine ⟨_, rfl, ?_⟩; have n0_ := za.mk (Kd.zca ho0 (zu (Zq3 HB.out (zi.ge HI275.out)))); have n1_ := za.mk (hb); have n2_ := za.mk (hi); clear HB; clear HI275; have HO278 := n0_; have HB := n1_; have HI275 := n2_; clear n0_ n1_ n2_; (try clear hb); (try clear hb2); (try clear hk); (try clear hi); (try clear ho0); obtain ⟨Ao14, co14, eo14⟩ := Kd.zbv HO278.out; subst eo14) | ((with_reducible refine zba (f := 46) rfl ?_); refine zbx (some 11) rfl rfl Try.func46 (by kernel_rfl) rfl #[.slice Ao14 t276.length co14] rfl Zmt ?_; (with_reducible refine (zbk.calls k _ _ t276 false _ ?side1 ?side2 A4.out).mono ?_); (case side1 => exact Zq15 ((Kd.zbh HO278.out).2.2)); (case side2 => exact (Kd.zbh HO278.out).2.1); rintro e w15 ⟨rfl, hb⟩; refine ⟨_, rfl, ?_⟩; have n0_ := za.mk (Kd.zcx (Zq11 HO278.out) hb); have n1_ := za.mk (zi.below (Zq5 HI275.out) hb); have n2_ := za.mk (zo (Zq3 HB.out (zi.ge HI275.out)) hb); clear HO278; clear HI275; clear HB; have HO278 := n0_; have HI275 := n1_; have HB := n2_; clear n0_ n1_ n2_; (try clear hb); (try clear hb2); (try clear hk); (try clear hi)) | ((with_reducible refine zbj (N := 14) rfl ?_); refine Kd.R_lit k34 _ 34 ?hg (N := 14) ?hd (xs := ([] : List (S34))) (inner := []) (ok := fun _ => True) (okp := fun _ => True) ?hr ?hp (fun _ hk => hk) trivial (Below.refl _ _) (Nat.le_refl _) (by simp) ?_; (case hd => rfl); (case hg => rfl); (case hr => first | (go_simp; done) | (go_simp; rfl)); (case hp => exact (Reps.none _ _)); intro v286 w16 ho17 hb hg_ hnew_; clear hg_ hnew_; (first | rw [← Ny285.out] at ho17 | (simp only [Int.reduceToNat] at ho17; rw [← Ny285.out] at ho17)); have n0_ := za.mk (Kd.zcx (Zq11 HO278.out) hb); have n1_ := za.mk (Kd.zca ho17 (zu (Zq3 HB.out (zi.ge HI275.out)))); have n2_ := za.mk (zi.below (Zq5 HI275.out) hb); have n3_ := za.mk (zo (Zq3 HB.out (zi.ge HI275.out)) hb); clear HO278; clear HI275; clear HB; have HO278 := n0_; have HO287 := n1_; have HI275 := n2_; have HB := n3_; clear n0_ n1_ n2_ n3_; clear hb ho17))
  go_ret2
  exact ⟨_, _, by first | rfl | (simp [zw, zx] <;> rfl) | (simp [*, zw, zx] <;> rfl), Zq11 HO278.out, Zq11 HO287.out, Zq3 HB.out (zi.ge HI275.out)⟩
abbrev JobT := S34
structure Mach (W : World) (g : Nat) (A : Option Addr) (c : Nat) (js : List JobT) (D : Option Addr) (cd : Nat) (dn : List Int) (now : Int) : Prop where
  jobs : W.cell? ⟨g, 0, none⟩ = some (.slice A js.length c)
  done : W.cell? ⟨g, 1, none⟩ = some (.slice D dn.length cd)
  time : W.cell? ⟨g, 2, none⟩ = some (.int .i64 now)
  row : Kd.C k34 W A js.length js
  drow : Kd.C (Kd.int .i64) W D dn.length dn
  len : dn.length = js.length
theorem Mach.below {W W' : World} {g : Nat} {A : Option Addr} {c : Nat} {js : List JobT} {D : Option Addr} {cd : Nat} {dn : List Int} {now : Int} (h : Mach W g A c js D cd dn now) (hb : Below W.heap.size W W') : Mach W' g A c js D cd dn now :=
  ⟨(hb.cell (World.block_lt_of_cell? _ _ h.jobs)).trans h.jobs, (hb.cell (World.block_lt_of_cell? _ _ h.done)).trans h.done, (hb.cell (World.block_lt_of_cell? _ _ h.time)).trans h.time, Kd.zbq h.row hb, Kd.zbq h.drow hb, h.len⟩
def jrd (js : List JobT) (i : Nat) : JobT := ze js (i : Int)
def rdyD (js : List JobT) (dn : List Int) (now : Int) (i : Nat) : Bool := decide ((jrd js i).f1 ≤ now) && decide (rd dn (i : Int) < (jrd js i).f3)
set_option maxHeartbeats 4000000 in
set_option maxRecDepth 100000 in
theorem ready_calls (g : Nat) (A : Option Addr) (c : Nat) (js : List JobT) (D : Option Addr) (cd : Nat) (dn : List Int) (now : Int) (i : Nat) (hi : i < js.length) (w : World) (h : Mach w g A c js D cd dn now) :
    Calls Try.prog 100 #[.pointer (some ⟨g, 0, none⟩), .int .i64 i] w fun e w' => e = .returned (.bool (rdyD js dn now i)) ∧ Below w.heap.size w w' := by
  obtain ⟨h0, h1, h2, hr, hd, hl⟩ := h
  have hi0 : (0 : Int) ≤ (i : Int) := by omega
  have hi1 : (i : Int) < (js.length : Int) := by omega
  have hi2 : (i : Int) < (dn.length : Int) := by omega
  obtain ⟨ad, ea, hx0, hx1, hx2, hx3⟩ := zda hr (i : Int) hi0 hi1
  obtain ⟨ad2, ea2, hy⟩ := Kd.zcf hd (i : Int) hi0 hi2
  cases ea
  cases ea2
  unfold rdyD jrd
  rw [Int.toNat_natCast] at hx1 hx3 hy
  clear hr hd hx0 hx2
  generalize (ze js (i : Int)).f1 = x at hx1 ⊢
  generalize (ze js (i : Int)).f3 = y at hx3 ⊢
  generalize rd dn (i : Int) = z at hy ⊢
  by_cases hc : x ≤ now
  · have hc1 : decide (x ≤ now) = true := decide_eq_true hc
    go_enter Try.func100, Try.ntmps100
    go_wp2_with fail
    go_big_region
    all_goals go_wp2
    go_ret
    refine ⟨?_, zb0 (Below.refl _ _)⟩
    simp [hc]
  · have hc1 : decide (x ≤ now) = false := decide_eq_false hc
    have hc2 : ¬ x ≤ now := hc
    go_enter Try.func100, Try.ntmps100
    go_wp2_with fail
    go_big_region
    all_goals go_wp2
    go_ret
    refine ⟨?_, zb0 (Below.refl _ _)⟩
    rw [hc1]; rfl
set_option maxHeartbeats 4000000 in
set_option maxRecDepth 100000 in
theorem deadline_calls (g : Nat) (A : Option Addr) (c : Nat) (js : List JobT) (D : Option Addr) (cd : Nat) (dn : List Int) (now : Int) (i : Nat) (hi : i < js.length) (w : World) (h : Mach w g A c js D cd dn now) :
    Calls Try.prog 52 #[.pointer (some ⟨g, 0, none⟩), .int .i64 i] w fun e w' => e = .returned (.int .i64 (jrd js i).f2) ∧ Below w.heap.size w w' := by
  obtain ⟨h0, h1, h2, hr, hd, hl⟩ := h
  have hi0 : (0 : Int) ≤ (i : Int) := by omega
  have hi1 : (i : Int) < (js.length : Int) := by omega
  obtain ⟨ad, ea, hx0, hx1, hx2, hx3⟩ := zda hr (i : Int) hi0 hi1
  cases ea
  unfold jrd
  rw [Int.toNat_natCast] at hx2
  clear hr hd hx0 hx1 hx3 h1 h2
  generalize (ze js (i : Int)).f2 = x at hx2 ⊢
  go_enter Try.func52, Try.ntmps52
  go_wp2
  go_ret
  exact ⟨rfl, Below.refl _ _⟩
set_option maxHeartbeats 4000000 in
set_option maxRecDepth 100000 in
theorem any_calls (g : Nat) (i : Nat) (w : World) :
    Calls Try.prog 101 #[.pointer (some ⟨g, 0, none⟩), .int .i64 i] w fun e w' => e = .returned (.bool true) ∧ Below w.heap.size w w' := by
  go_enter Try.func101, Try.ntmps101
  go_wp2
  go_ret
  exact ⟨rfl, Below.refl _ _⟩
def bestD (ok : Nat → Bool) (key : Nat → Int) : Nat → Int
  | 0 => -1
  | n + 1 => if ok n = true ∧ (bestD ok key n < 0 ∨ key n < key (bestD ok key n).toNat) then (n : Int) else bestD ok key n
theorem bestD_rng (ok : Nat → Bool) (key : Nat → Int) : ∀ n, bestD ok key n = -1 ∨ ∃ b : Nat, b < n ∧ bestD ok key n = (b : Int)
  | 0 => Or.inl rfl
  | n + 1 => by
    rw [bestD]
    split
    · exact Or.inr ⟨n, by omega, rfl⟩
    · rcases bestD_rng ok key n with h | ⟨b, hb, h⟩
      · exact Or.inl h
      · exact Or.inr ⟨b, by omega, h⟩
set_option maxHeartbeats 8000000 in
set_option maxRecDepth 100000 in
theorem best_calls (key : Nat → Int) (may : Nat → Bool) (kn mn : Nat) (kb kl mb ml : Array Value) (ek : ∀ args w, (callFunc kn args).run Try.prog w = .ok (.enter kn args) w) (em : ∀ args w, (callFunc mn args).run Try.prog w = .ok (.enter mn args) w) (hne : kn ≠ mn)
    (g : Nat) (A : Option Addr) (c : Nat) (js : List JobT) (D : Option Addr) (cd : Nat) (dn : List Int) (now : Int) (w : World) (h : Mach w g A c js D cd dn now)
    (hk : ∀ (W : World) (i : Nat), Below w.heap.size w W → i < js.length → Calls Try.prog kn (kb ++ #[.int .i64 i] ++ kl) W fun e w' => e = .returned (.int .i64 (key i)) ∧ Below W.heap.size W w')
    (hm : ∀ (W : World) (i : Nat), Below w.heap.size w W → i < js.length → Calls Try.prog mn (mb ++ #[.int .i64 i] ++ ml) W fun e w' => e = .returned (.bool (may i)) ∧ Below W.heap.size W w') :
    Calls Try.prog 51 #[.pointer (some ⟨g, 0, none⟩), .func (.func kn) kb kl, .func (.func mn) mb ml] w fun e w' => e = .returned (.int .i64 (bestD (fun i => rdyD js dn now i && may i) key js.length)) ∧ Below w.heap.size w w' := by
  have HM := za.mk h
  have HKY := za.mk hk
  have HMY := za.mk hm
  have hj := h.jobs
  have hjl : js.length ≤ 9223372036854775807 := h.row.2.1
  clear h hk hm
  go_enter Try.func51, Try.ntmps51
  go_wp2
  go_loopg [7, 14] js.length (fun gg v7 v14 wr => ∃ i : Nat, v14 = .int .i64 i ∧ i ≤ js.length ∧ js.length - i ≤ gg ∧ v7 = .int .i64 (bestD (fun i => rdyD js dn now i && may i) key i) ∧ za (Below w.heap.size w wr))
  case atStart => exact ⟨0, by go_num, by omega, by omega, rfl, ⟨Below.refl _ _⟩⟩
  case round =>
    obtain ⟨i, rfl, hil, hgg, rfl, BW⟩ := hrel
    by_cases hlt : i < js.length
    · have hltz : (i : Int) < (js.length : Int) := by omega
      obtain ⟨b, hb⟩ : ∃ b, bestD (fun i => rdyD js dn now i && may i) key i = b := ⟨_, rfl⟩
      have hrng := bestD_rng (fun i => rdyD js dn now i && may i) key i
      have hnext : ∀ v : Bool, (rdyD js dn now i && may i) = v → bestD (fun i => rdyD js dn now i && may i) key (i + 1) = if v = true ∧ (b < 0 ∨ key i < key b.toNat) then (i : Int) else b := fun v hv => by
        rw [bestD, hb]
        simp only [hv]
      rw [hb] at hrng ⊢
      have HN := za.mk hnext
      clear hnext hb
      cases hr : rdyD js dn now i with
      | false =>
        have hv := HN.out false (by rw [hr]; rfl)
        rw [if_neg (by simp)] at hv
        have HV := za.mk hv
        clear hv hrng
        go_wp2_with (go_at_call 100; refine (ready_calls g A c js D cd dn now i hlt _ (HM.out.below BW.out)).mono ?_; rw [hr]; rintro e w1 ⟨rfl, hb1⟩; have BW1 := za.mk (zo BW.out hb1); clear hb1)
        go_roundg (js.length - (i + 1))
        case measure => omega
        case rel => exact ⟨i + 1, by go_num, by omega, by omega, by rw [HV.out], BW1⟩
      | true =>
        cases hmm : may i with
        | false =>
          have hv := HN.out false (by rw [hr, hmm]; rfl)
          rw [if_neg (by simp)] at hv
          have HV := za.mk hv
          clear hv hrng
          go_wp2_with (first | (go_at_call 100; refine (ready_calls g A c js D cd dn now i hlt _ (HM.out.below BW.out)).mono ?_; rw [hr]; rintro e w1 ⟨rfl, hb1⟩; have BW1 := za.mk (zo BW.out hb1); clear hb1) | (go_at_fn mn; refine (HMY.out _ i BW1.out hlt).mono ?_; rw [hmm]; rintro e w2 ⟨rfl, hb2⟩; have BW2 := za.mk (zo BW1.out hb2); clear hb2))
          go_roundg (js.length - (i + 1))
          case measure => omega
          case rel => exact ⟨i + 1, by go_num, by omega, by omega, by rw [HV.out], BW2⟩
        | true =>
          have hv := HN.out true (by rw [hr, hmm]; rfl)
          rcases hrng with rfl | ⟨bn, hbn, rfl⟩
          · rw [if_pos ⟨rfl, Or.inl (by omega)⟩] at hv
            have HV := za.mk hv
            clear hv
            go_wp2_with (first | (go_at_call 100; refine (ready_calls g A c js D cd dn now i hlt _ (HM.out.below BW.out)).mono ?_; rw [hr]; rintro e w1 ⟨rfl, hb1⟩; have BW1 := za.mk (zo BW.out hb1); clear hb1) | (go_at_fn mn; refine (HMY.out _ i BW1.out hlt).mono ?_; rw [hmm]; rintro e w2 ⟨rfl, hb2⟩; have BW2 := za.mk (zo BW1.out hb2); clear hb2))
            go_roundg (js.length - (i + 1))
            case measure => omega
            case rel => exact ⟨i + 1, by go_num, by omega, by omega, by rw [HV.out], BW2⟩
          · have hbl : bn < js.length := by omega
            have hb0 : ¬ (bn : Int) < 0 := by omega
            obtain ⟨ki, hki⟩ : ∃ ki, key i = ki := ⟨_, rfl⟩
            obtain ⟨kq, hkb⟩ : ∃ kq, key bn = kq := ⟨_, rfl⟩
            rw [Int.toNat_natCast, hki, hkb] at hv
            have tok1 : True := trivial
            by_cases hlk : ki < kq
            · rw [if_pos ⟨rfl, Or.inr hlk⟩] at hv
              have HV := za.mk hv
              clear hv
              go_wp2_with (first | (go_at_call 100; refine (ready_calls g A c js D cd dn now i hlt _ (HM.out.below BW.out)).mono ?_; rw [hr]; rintro e w1 ⟨rfl, hb1⟩; have BW1 := za.mk (zo BW.out hb1); clear hb1) | (go_at_fn mn; refine (HMY.out _ i BW1.out hlt).mono ?_; rw [hmm]; rintro e w2 ⟨rfl, hb2⟩; have BW2 := za.mk (zo BW1.out hb2); clear hb2) | (go_at_fn kn; have _t := tok1; refine (HKY.out _ i BW2.out hlt).mono ?_; rw [hki]; rintro e w3 ⟨rfl, hb3⟩; have BW3 := za.mk (zo BW2.out hb3); clear hb3 tok1) | (go_at_fn kn; refine (HKY.out _ bn BW3.out hbl).mono ?_; rw [hkb]; rintro e w4 ⟨rfl, hb4⟩; have BW4 := za.mk (zo BW3.out hb4); clear hb4))
              go_roundg (js.length - (i + 1))
              case measure => omega
              case rel => exact ⟨i + 1, by go_num, by omega, by omega, by rw [HV.out], BW4⟩
            · rw [if_neg (fun h => h.2.elim hb0 hlk)] at hv
              have HV := za.mk hv
              clear hv
              go_wp2_with (first | (go_at_call 100; refine (ready_calls g A c js D cd dn now i hlt _ (HM.out.below BW.out)).mono ?_; rw [hr]; rintro e w1 ⟨rfl, hb1⟩; have BW1 := za.mk (zo BW.out hb1); clear hb1) | (go_at_fn mn; refine (HMY.out _ i BW1.out hlt).mono ?_; rw [hmm]; rintro e w2 ⟨rfl, hb2⟩; have BW2 := za.mk (zo BW1.out hb2); clear hb2) | (go_at_fn kn; have _t := tok1; refine (HKY.out _ i BW2.out hlt).mono ?_; rw [hki]; rintro e w3 ⟨rfl, hb3⟩; have BW3 := za.mk (zo BW2.out hb3); clear hb3 tok1) | (go_at_fn kn; refine (HKY.out _ bn BW3.out hbl).mono ?_; rw [hkb]; rintro e w4 ⟨rfl, hb4⟩; have BW4 := za.mk (zo BW3.out hb4); clear hb4))
              go_roundg (js.length - (i + 1))
              case measure => omega
              case rel => exact ⟨i + 1, by go_num, by omega, by omega, by rw [HV.out], BW4⟩
    · have hltz : ¬ (i : Int) < (js.length : Int) := by omega
      go_wp2
      go_ret
      exact ⟨by rw [show i = js.length by omega]; rfl, BW.out⟩
def edfD (js : List JobT) (dn : List Int) (now : Int) : Int := bestD (fun i => rdyD js dn now i) (fun i => (jrd js i).f2) js.length
def startD (js : List JobT) (dn : List Int) (now : Int) : Int := bestD (fun i => rdyD js dn now i && decide (rd dn (i : Int) > 0)) (fun i => (jrd js i).f2) js.length
def npD (js : List JobT) (dn : List Int) (now : Int) : Int := if startD js dn now ≥ 0 then startD js dn now else edfD js dn now
set_option maxHeartbeats 4000000 in
set_option maxRecDepth 100000 in
theorem edf_calls (g : Nat) (A : Option Addr) (c : Nat) (js : List JobT) (D : Option Addr) (cd : Nat) (dn : List Int) (now : Int) (w : World) (h : Mach w g A c js D cd dn now) :
    Calls Try.prog 54 #[.pointer (some ⟨g, 0, none⟩)] w fun e w' => e = .returned (.int .i64 (edfD js dn now)) ∧ Below w.heap.size w w' := by
  have HC := za.mk (fun W (hW : W = w) => best_calls (fun i => (jrd js i).f2) (fun _ => true) 52 101 #[.pointer (some ⟨g, 0, none⟩)] #[] #[.pointer (some ⟨g, 0, none⟩)] #[]
    (enters_of Try.func52 (by kernel_rfl) rfl) (enters_of Try.func101 (by kernel_rfl) rfl) (by decide)
    g A c js D cd dn now W (by subst hW; exact h) (fun W' i hb hi => deadline_calls g A c js D cd dn now i hi W' ((show Mach W g A c js D cd dn now by subst hW; exact h).below hb)) (fun W' i _ _ => any_calls g i W'))
  clear h
  go_enter Try.func54, Try.ntmps54
  go_wp2_with (go_at_call 51; refine (HC.out _ rfl).mono ?_; rintro e w1 ⟨rfl, hb⟩; have HB := za.mk hb; clear hb)
  go_ret
  exact ⟨rfl, HB.out⟩
set_option maxHeartbeats 4000000 in
set_option maxRecDepth 100000 in
theorem started_calls (g : Nat) (A : Option Addr) (c : Nat) (js : List JobT) (D : Option Addr) (cd : Nat) (dn : List Int) (now : Int) (i : Nat) (hi : i < js.length) (B : Addr) (w : World) (hB : w.cell? B = some (.pointer (some ⟨g, 0, none⟩))) (h : Mach w g A c js D cd dn now) :
    Calls Try.prog 53 #[.int .i64 i, .pointer (some B)] w fun e w' => e = .returned (.bool (decide (rd dn (i : Int) > 0))) ∧ Below w.heap.size w w' := by
  obtain ⟨h0, h1, h2, hr, hd, hl⟩ := h
  have hi0 : (0 : Int) ≤ (i : Int) := by omega
  have hi2 : (i : Int) < (dn.length : Int) := by omega
  obtain ⟨ad2, ea2, hy⟩ := Kd.zcf hd (i : Int) hi0 hi2
  cases ea2
  rw [Int.toNat_natCast] at hy
  clear hr hd h0 h2
  generalize rd dn (i : Int) = z at hy ⊢
  go_enter Try.func53, Try.ntmps53
  go_wp2
  go_ret
  exact ⟨rfl, Below.refl _ _⟩
set_option maxHeartbeats 4000000 in
set_option maxRecDepth 100000 in
theorem np_calls (g : Nat) (A : Option Addr) (c : Nat) (js : List JobT) (D : Option Addr) (cd : Nat) (dn : List Int) (now : Int) (w : World) (h : Mach w g A c js D cd dn now) :
    Calls Try.prog 50 #[.pointer (some ⟨g, 0, none⟩)] w fun e w' => e = .returned (.int .i64 (npD js dn now)) ∧ Below w.heap.size w w' := by
  have HM := za.mk h
  have HC := za.mk (fun (W : World) (B : Addr) (hB : W.cell? B = some (.pointer (some ⟨g, 0, none⟩))) (h : Mach W g A c js D cd dn now) => best_calls (fun i => (jrd js i).f2) (fun i => decide (rd dn (i : Int) > 0)) 52 53 #[.pointer (some ⟨g, 0, none⟩)] #[] #[] #[.pointer (some B)]
    (enters_of Try.func52 (by kernel_rfl) rfl) (enters_of Try.func53 (by kernel_rfl) rfl) (by decide)
    g A c js D cd dn now W h (fun W' i hb hi => deadline_calls g A c js D cd dn now i hi W' (h.below hb)) (fun W' i hb hi => started_calls g A c js D cd dn now i hi B W' ((hb.cell (World.block_lt_of_cell? _ _ hB)).trans hB) (h.below hb)))
  clear h
  by_cases hs : startD js dn now ≥ 0
  · have e : npD js dn now = startD js dn now := if_pos hs
    rw [e]
    clear e
    go_enter Try.func50, Try.ntmps50
    go_wp2_with (go_at_call 51; refine (HC.out _ ⟨w.heap.size, 0, none⟩ (by simp) (HM.out.below (zbd (Below.refl _ _) _))).mono ?_; rintro e w1 ⟨he, hb⟩; rw [show bestD (fun i => rdyD js dn now i && decide (rd dn (i : Int) > 0)) (fun i => (jrd js i).f2) js.length = startD js dn now from rfl] at he; subst he; have HB := za.mk hb; clear hb)
    go_ret
    exact ⟨rfl, zct (zbd (Below.refl _ _) _) (by simp) HB.out⟩
  · have e : npD js dn now = edfD js dn now := if_neg hs
    rw [e]
    clear e
    go_enter Try.func50, Try.ntmps50
    go_wp2_with (first
      | (go_at_call 51; refine (HC.out _ ⟨w.heap.size, 0, none⟩ (by simp) (HM.out.below (zbd (Below.refl _ _) _))).mono ?_; rintro e w1 ⟨he, hb⟩; rw [show bestD (fun i => rdyD js dn now i && decide (rd dn (i : Int) > 0)) (fun i => (jrd js i).f2) js.length = startD js dn now from rfl] at he; subst he; have hcell : w1.cell? ⟨w.heap.size, 0, none⟩ = some (.pointer (some ⟨g, 0, none⟩)) := (hb.cell (p := ⟨w.heap.size, 0, none⟩) (by simp)).trans (by simp); have HB := za.mk (zct (zbd (Below.refl _ _) _) (by simp) hb : Below w.heap.size w w1); clear hb)
      | (go_at_call 54; refine (edf_calls g A c js D cd dn now _ (HM.out.below HB.out)).mono ?_; rintro e w2 ⟨rfl, hb⟩; have HB2 := za.mk (zo HB.out hb); clear hb))
    go_ret
    exact ⟨rfl, HB2.out⟩
def bits_Mul64.f (a0 : Int) (a1 : Int) : Option (Int × Int) := some (IntKind.u64.wrap ((IntKind.u64.wrap ((IntKind.u64.wrap ((a0 / 4294967296) * (a1 / 4294967296))) + ((IntKind.u64.wrap ((IntKind.u64.wrap ((a0 / 4294967296) * (Go.bits .and .u64 a1 4294967295))) + ((IntKind.u64.wrap ((Go.bits .and .u64 a0 4294967295) * (Go.bits .and .u64 a1 4294967295))) / 4294967296))) / 4294967296))) + ((IntKind.u64.wrap ((Go.bits .and .u64 (IntKind.u64.wrap ((IntKind.u64.wrap ((a0 / 4294967296) * (Go.bits .and .u64 a1 4294967295))) + ((IntKind.u64.wrap ((Go.bits .and .u64 a0 4294967295) * (Go.bits .and .u64 a1 4294967295))) / 4294967296))) 4294967295) + (IntKind.u64.wrap ((Go.bits .and .u64 a0 4294967295) * (a1 / 4294967296))))) / 4294967296)), IntKind.u64.wrap (a0 * a1))
set_option maxHeartbeats 8000000 in
set_option maxRecDepth 100000 in
theorem bits_Mul64.calls (a0 : Int) (a1 : Int) (r1 : Int) (r2 : Int) (w : World) (h : bits_Mul64.f a0 a1 = some (r1, r2)) :
  Calls Try.prog 118 #[.int .u64 a0, .int .u64 a1] w fun e w' => e = .returned (.tuple #[.int .u64 r1, .int .u64 r2]) ∧ zby w w' := by
 have H : (some (IntKind.u64.wrap ((IntKind.u64.wrap ((IntKind.u64.wrap ((a0 / 4294967296) * (a1 / 4294967296))) + ((IntKind.u64.wrap ((IntKind.u64.wrap ((a0 / 4294967296) * (Go.bits .and .u64 a1 4294967295))) + ((IntKind.u64.wrap ((Go.bits .and .u64 a0 4294967295) * (Go.bits .and .u64 a1 4294967295))) / 4294967296))) / 4294967296))) + ((IntKind.u64.wrap ((Go.bits .and .u64 (IntKind.u64.wrap ((IntKind.u64.wrap ((a0 / 4294967296) * (Go.bits .and .u64 a1 4294967295))) + ((IntKind.u64.wrap ((Go.bits .and .u64 a0 4294967295) * (Go.bits .and .u64 a1 4294967295))) / 4294967296))) 4294967295) + (IntKind.u64.wrap ((Go.bits .and .u64 a0 4294967295) * (a1 / 4294967296))))) / 4294967296)), IntKind.u64.wrap (a0 * a1))) = some (r1, r2) := h
 clear h
 simp only [Option.some.injEq, Prod.mk.injEq] at H
 obtain ⟨rfl, rfl⟩ := H
 go_enter Try.func118, Try.ntmps118
 go_wp2
 go_ret2
 exact ⟨by first | rfl | (simp; done) | (simp [*]; done), by repeat (first | exact zby.refl _ | apply zby.step)⟩
def bits_Mul.f (a0 : Int) (a1 : Int) : Option (Int × Int) := (bits_Mul64.f a0 a1).bind fun bt300 => (some (bt300.1, bt300.2))
set_option maxHeartbeats 8000000 in
set_option maxRecDepth 100000 in
theorem bits_Mul.calls (a0 : Int) (a1 : Int) (r1 : Int) (r2 : Int) (w : World) (h : bits_Mul.f a0 a1 = some (r1, r2)) :
  Calls Try.prog 116 #[.int .u64 a0, .int .u64 a1] w fun e w' => e = .returned (.tuple #[.int .u64 r1, .int .u64 r2]) ∧ zby w w' := by
 have H : ((bits_Mul64.f a0 a1).bind fun bt300 => (some (bt300.1, bt300.2))) = some (r1, r2) := h
 clear h
 replace H := Option.bind_eq_some_iff.mp H
 obtain ⟨⟨t300, t301⟩, A30, H⟩ := H
 replace H : (some (t300, t301)) = some (r1, r2) := H
 have A3 := za.mk A30
 clear A30
 simp only [Option.some.injEq, Prod.mk.injEq] at H
 obtain ⟨rfl, rfl⟩ := H
 go_enter Try.func116, Try.ntmps116
 go_wp2_with (first | ((with_reducible refine zba (f := 118) rfl ?_); refine zbx (some 25) rfl rfl Try.func118 (by kernel_rfl) rfl #[.int .u64 a0, .int .u64 a1] rfl Zmt ?_; (with_reducible refine (bits_Mul64.calls a0 a1 t300 t301 _ A3.out).mono ?_); rintro e w' ⟨rfl, ⟨nd, rfl⟩⟩; refine ⟨_, rfl, ?_⟩))
 go_ret2
 exact ⟨by first | rfl | (simp; done) | (simp [*]; done), by repeat (first | exact zby.refl _ | apply zby.step)⟩
theorem and_lo (x : Int) (h0 : 0 ≤ x) (h1 : x < 4294967296) : Go.bits .and .u64 x 4294967295 = x := by
  obtain ⟨a, rfl⟩ := Int.eq_ofNat_of_zero_le h0
  have ha : a < 4294967296 := by omega
  have hb : (4294967295 : Int) = ((4294967295 : Nat) : Int) := rfl
  simp only [Go.bits]
  rw [show IntKind.u64.bits = 64 from rfl, hb, BitVec.toNat_and, BitVec.ofInt_natCast, BitVec.ofInt_natCast, BitVec.toNat_ofNat, BitVec.toNat_ofNat, Nat.mod_eq_of_lt (show a < 2 ^ 64 by omega), Nat.mod_eq_of_lt (show 4294967295 < 2 ^ 64 by omega)]
  rw [show (4294967295 : Nat) = 2 ^ 32 - 1 by decide, Nat.and_two_pow_sub_one_eq_mod, Nat.mod_eq_of_lt (by omega)]
  rw [IntKind.wrap_u64]
  omega
theorem mul_one_f (n : Int) (h0 : 0 ≤ n) (h1 : n ≤ 1000000) : bits_Mul.f 1 n = some (0, n) := by
  have hd : n / 4294967296 = 0 := Int.ediv_eq_zero_of_lt h0 (by omega)
  have w0 : ∀ x : Int, 0 ≤ x → x ≤ 1000000 → IntKind.u64.wrap x = x := fun x h h' => by rw [IntKind.wrap_u64]; omega
  unfold bits_Mul.f bits_Mul64.f
  rw [and_lo 1 (by omega) (by omega), and_lo n h0 (by omega), hd]
  simp only [Int.one_mul, show (1 : Int) / 4294967296 = 0 by decide, Int.zero_mul, w0 0 (by omega) (by omega), w0 n h0 h1, hd, Int.add_zero, Int.mul_zero, and_lo 0 (by omega) (by omega), show (0 : Int) / 4294967296 = 0 by decide, Option.bind_some]
def rowAt (n m : Nat) : List Int := List.replicate m (-1) ++ List.replicate (n - m) 0
theorem rowAt_set (n m : Nat) (h : m < n) : (rowAt n m).set m (-1) = rowAt n (m + 1) := by
  unfold rowAt
  rw [List.set_append_right _ _ (by simp), List.length_replicate, Nat.sub_self, show n - m = (n - (m + 1)) + 1 by omega, List.replicate_succ, List.set_cons_zero, List.replicate_succ', List.append_assoc, List.singleton_append]
theorem rowAt_rd (n m i : Nat) (h : i < m) (hm : m ≤ n) : rdOf 0 (rowAt n m) (i : Int) = -1 := by
  unfold rdOf rowAt
  rw [List.getD_eq_getElem?_getD, Int.toNat_natCast, List.getElem?_append_left (by simpa using h), List.getElem?_replicate, if_pos h]
  rfl
theorem R_rowAt {e base : Nat} {ok : Nat → Prop} {g n cap : Nat} : ∀ (q m : Nat) (W : World), m + q ≤ n → Kd.R (Kd.int .i64) e W base ok (.slice (some ⟨g, 0, none⟩) n cap) (rowAt n m) → Kd.R (Kd.int .i64) e (W.setCells g m (List.replicate q (.int .i64 (-1)))) base ok (.slice (some ⟨g, 0, none⟩) n cap) (rowAt n (m + q))
  | 0, m, W, _, h => h
  | q + 1, m, W, hq, h => by
    rw [List.replicate_succ, World.setCells]
    have h1 := (Kd.zde h (m : Int) (-1)).1
    rw [Int.toNat_natCast, rowAt_set n m (by omega)] at h1
    have := R_rowAt q (m + 1) _ (by omega) h1
    rwa [show m + 1 + q = m + (q + 1) by omega] at this
theorem below_setCells {base : Nat} {w : World} {g : Nat} (hg : base ≤ g) : ∀ (vs : List Value) (o : Nat) (W : World), Below base w W → Below base w (W.setCells g o vs)
  | [], _, _, h => h
  | v :: vs, o, W, h => below_setCells hg vs (o + 1) _ (h.setCell hg _)
theorem self_copy {base : Nat} {ok : Nat → Prop} {g n cap m : Nat} {W : World} (hm : 1 ≤ m) (hmn : m ≤ n) (h : Kd.R (Kd.int .i64) 3 W base ok (.slice (some ⟨g, 0, none⟩) n cap) (rowAt n m)) (ty dc sc : Nat) :
    (Builtin.copy_ #[27, 27] ty #[.slice (some ⟨g, m, none⟩) (n - m) dc, .slice (some ⟨g, 0, none⟩) m sc]).run Try.prog W = .ok (goInt ((List.replicate (min m (n - m)) (Value.int .i64 (-1))).length)) (W.setCells g m (List.replicate (min m (n - m)) (.int .i64 (-1)))) := by
  have hc := fun (i : Nat) (hi : i < n) => Kd.zdi 0 h (i : Int) (by omega) (by omega)
  refine run_copy_cells W 27 27 ty 3 g m (n - m) dc ⟨g, 0, none⟩ m sc _ Try.underlying27 (by kernel_rfl) (by rw [List.length_replicate]) (fun j v hj => ?_) (fun j hj => ?_) (fun j hj => ?_) (fun v hv => ?_)
  · rw [List.getElem?_replicate] at hj
    split at hj
    · rename_i hlt
      have := (hc j (by omega)).1
      rw [rowAt_rd n m j (by omega) hmn, Int.toNat_natCast] at this
      injection hj with hj
      rw [← hj, ← this]
      simp only [Addr.add]
      split
      · rename_i h0; subst h0; rfl
      · simp
    · cases hj
  · rw [List.length_replicate] at hj
    have := (hc (m + j) (by omega)).1
    rw [Int.toNat_natCast] at this
    rw [this]; rfl
  · rw [List.length_replicate] at hj
    have := (hc (m + j) (by omega)).2
    rwa [Int.toNat_natCast] at this
  · rw [List.eq_of_mem_replicate hv]; rfl
theorem wp_copy_run1 {P : Program} (w : World) {o : Oper} {a : Act} {K : Act → World → Prop} {Q : Exit → Act → World → Prop} (d s : Operand) (t t' : TypeId)
    (ho : o.op = .call { callee := .builtin .copy, args := #[d, s], argTypes := #[t, t'] }) (v u : Value) (hd : a.eval d = v) (hs : a.eval s = u) {v' : Value} {w' : World}
    (hr : (Builtin.copy_ #[t, t'] o.type #[v, u]).run P w = .ok v' w') (h : K (a.put o.dst v') w') : o.wp P a w K Q := by
  unfold Oper.wp execOp
  simp only [ho, resolve, invoke, builtin, Sem.run_bind, Sem.run_pure, Result.andThen_ok, List.map_toArray, List.map_cons, List.map_nil, hd, hs, hr]
  exact h
theorem step_copy_run1 {P : Program} {ops : Array Oper} {o : Oper} {a : Act} {w : World} {K : Act → World → Prop} {Q : Exit → Act → World → Prop} {E : Prop}
    (hg : o.guard = none) (d x : Operand) (dT sT : TypeId) (hop : o.op = Op.call { callee := Callee.builtin Builtin.copy, args := #[d, x], argTypes := #[dT, sT] })
    (v u : Value) (hd : a.eval d = v) (hx : a.eval x = u) {v' : Value} {w' : World} (hr : (Builtin.copy_ #[dT, sT] o.type #[v, u]).run P w = .ok v' w') (hK : K (a.put o.dst v') w') :
    if Region.wanted o (yielded ops a.tmps) = true then Oper.wp P o a w K Q else E := by
  have hw : Region.wanted o (yielded ops a.tmps) = true := by simp [Region.wanted, hg]
  rw [if_pos hw]
  exact wp_copy_run1 w d x dT sT hop v u hd hx hr hK
set_option maxHeartbeats 4000000 in
set_option maxRecDepth 100000 in
theorem repeat_calls (n : Nat) (hn : n ≤ 1000000) (hpos : 0 < n) (A : Option Addr) (c : Nat) (w : World) (hr : Kd.C (Kd.int .i64) w A 1 [-1]) :
    Calls Try.prog 114 #[.slice A 1 c, .int .i64 n] w fun e w' => ∃ v0_ : Value, e = .returned v0_ ∧ Kd.R (Kd.int .i64) 3 w' w.heap.size (fun _ => True) v0_ (List.replicate n (-1)) ∧ Below w.heap.size w w' := by
  have HR := za.mk hr
  clear hr
  have hM := za.mk (mul_one_f (n : Int) (by omega) (by omega))
  have hn0 : ¬ (n : Int) < 0 := by omega
  have hn1 : IntKind.u64.wrap (n : Int) = (n : Int) := by rw [IntKind.wrap_u64]; omega
  have hn2 : IntKind.i64.wrap (n : Int) = (n : Int) := by rw [IntKind.wrap_i64]; omega
  have hn3 : ¬ (n : Int) > 9223372036854775807 := by omega
  have hn4 : decide ((n : Int) > 9223372036854775807) = false := decide_eq_false (by omega)
  go_enter Try.func114, Try.ntmps114
  go_wp2_with (first
    | (go_at_call 116; refine (bits_Mul.calls 1 (n : Int) 0 (n : Int) _ hM.out).mono ?_; rintro e w' ⟨rfl, ⟨nq, rfl⟩⟩)
    | ((with_reducible refine zbj (N := 30) rfl ?_); refine Kd.R_make (Kd.int .i64) _ 3 rfl (N := 30) rfl 27 _ _ rfl (n : Int) rfl rfl Try.underlying27 (.int .i64 0) 8 info3 rfl (by decide) (by omega) 0 (ok := fun _ => True) (okp := fun _ => True) rfl (fun _ hk => hk) trivial (by omega) (by omega) (Below.refl _ _) (Nat.le_refl _) ?_; intro v w4 ho5 hb hg_ hnew_; rw [Int.toNat_natCast] at ho5; obtain ⟨gb, cap, ev, hgb, _, _, _⟩ := Kd.R_form ho5 (by rw [List.length_replicate]; exact hpos); subst ev; rw [List.length_replicate] at ho5; have HO := za.mk ho5; have HB := za.mk hb; have GB := za.mk hgb; clear hg_ hnew_ ho5 hb hgb)
    | ((with_reducible refine zbj (N := 33) rfl ?_); refine Kd.R_copy (0 : Int) (w.drewN nq).heap.size rfl _ _ 27 27 3 rfl Try.underlying27 (by kernel_rfl) _ _ [-1] A 1 c (fun _ => True) rfl rfl HO.out (Kd.zbq HR.out ((zbc (Below.refl _ _) nq).trans HB.out)) HB.out HB.out.size ?_; intro w5 ho6 hb6 hg6; rw [show [(-1 : Int)].take (min 1 (List.replicate n (0 : Int)).length) ++ (List.replicate n (0 : Int)).drop (min 1 (List.replicate n (0 : Int)).length) = rowAt n 1 by rw [List.length_replicate, Nat.min_eq_left hpos]; simp [rowAt]] at ho6; have HO6 : za (Kd.R (Kd.int .i64) 3 w5 (w.drewN nq).heap.size (fun _ => True) (.slice (some ⟨gb, 0, none⟩) n cap) (rowAt n 1)) := ⟨ho6⟩; have HB6 := za.mk hb6; clear ho6 hb6 hg6))
  go_loopg [8] n (fun gg v8 wr => ∃ m : Nat, v8 = .int .i64 m ∧ 1 ≤ m ∧ m ≤ n ∧ n - m ≤ gg ∧ za (Kd.R (Kd.int .i64) 3 wr (w.drewN nq).heap.size (fun _ => True) (.slice (some ⟨gb, 0, none⟩) n cap) (rowAt n m)) ∧ za (Below (w.drewN nq).heap.size (w.drewN nq) wr))
  case atStart => exact ⟨1, by rw [Nat.min_eq_left hpos], by omega, by omega, by omega, HO6, HB6⟩
  case round =>
    obtain ⟨m, rfl, hm1, hmn, hgg, R7, B7⟩ := hrel
    by_cases hlt : m < n
    · have hltz : (m : Int) < (n : Int) := by omega
      have hmz : (m : Int) ≤ (n : Int) := by omega
      have hm0 : (0 : Int) ≤ (m : Int) := by omega
      have hcap : n ≤ cap := (Kd.zbh R7.out).2.1
      have hmc : m ≤ cap := by omega
      have hcm : ¬ cap = m := by omega
      go_wp2_with fail
      go_region_law (refine step_copy_run1 rfl _ _ 27 27 rfl (.slice (some ⟨gb, m, none⟩) (n - m) (cap - m)) (.slice (some ⟨gb, 0, none⟩) m cap) (by simp [Act.eval, Act.put]) (by simp [Act.eval, Act.put]) (self_copy hm1 hmn (Kd.zbl R7.out) _ _ _) ?_)
      all_goals go_wp2
      go_roundg (n - (m + min m (n - m)))
      case measure => omega
      case rel =>
        refine ⟨m + min m (n - m), ?_, by omega, by omega, Nat.le_refl _, ⟨R_rowAt _ _ _ (by omega) (Kd.zbl R7.out)⟩, ⟨below_setCells GB.out _ _ _ (zb0 B7.out)⟩⟩
        first | rfl | (congr 1; unfold wrap64; omega) | (congr 1; rw [IntKind.wrap_i64]; omega)
    · have hltz : ¬ (m : Int) < (n : Int) := by omega
      go_wp2
      go_ret
      refine ⟨_, rfl, ?_, ?_⟩
      · have := R7.out
        rw [show m = n by omega] at this
        unfold rowAt at this
        rw [Nat.sub_self, List.replicate_zero, List.append_nil] at this
        exact Kd.zca this (Nat.le_refl _)
      · exact zcb (zbc (Below.refl _ _) nq) (Nat.le_refl _) B7.out
set_option maxHeartbeats 4000000 in
set_option maxRecDepth 100000 in
theorem repeat_none (A : Option Addr) (c : Nat) (w : World) (hr : Kd.C (Kd.int .i64) w A 1 [-1]) :
    Calls Try.prog 114 #[.slice A 1 c, .int .i64 0] w fun e w' => ∃ v0_ : Value, e = .returned v0_ ∧ Kd.R (Kd.int .i64) 3 w' w.heap.size (fun _ => True) v0_ [] ∧ Below w.heap.size w w' := by
  have HR := za.mk hr
  clear hr
  have hM := za.mk (mul_one_f 0 (by omega) (by omega))
  go_enter Try.func114, Try.ntmps114
  go_wp2_with (first
    | (go_at_call 116; refine (bits_Mul.calls 1 0 0 0 _ hM.out).mono ?_; rintro e w' ⟨rfl, ⟨nq, rfl⟩⟩)
    | ((with_reducible refine zbj (N := 30) rfl ?_); refine Kd.R_make (Kd.int .i64) _ 3 rfl (N := 30) rfl 27 _ _ rfl 0 rfl rfl Try.underlying27 (.int .i64 0) 8 info3 rfl (by decide) (by omega) 0 (ok := fun _ => True) (okp := fun _ => True) rfl (fun _ hk => hk) trivial (by omega) (by omega) (Below.refl _ _) (Nat.le_refl _) ?_; intro v w4 ho5 hb hg_ hnew_; have HO := za.mk ho5; have HB := za.mk hb; clear hg_ hnew_ ho5 hb; obtain ⟨A2, c2, ev⟩ := Kd.zbv HO.out; subst ev)
    | ((with_reducible refine zbj (N := 33) rfl ?_); refine Kd.R_copy (0 : Int) (w.drewN nq).heap.size rfl _ _ 27 27 3 rfl Try.underlying27 (by kernel_rfl) _ _ [-1] A 1 c (fun _ => True) rfl rfl HO.out (Kd.zbq HR.out ((zbc (Below.refl _ _) nq).trans HB.out)) HB.out HB.out.size ?_; intro w5 ho6 hb6 hg6; have HO6 : za (Kd.R (Kd.int .i64) 3 w5 (w.drewN nq).heap.size (fun _ => True) (.slice A2 0 c2) []) := ⟨ho6⟩; have HB6 := za.mk hb6; clear ho6 hb6 hg6))
  go_loopg [8] 0 (fun gg v8 wr => v8 = .int .i64 0 ∧ za (Kd.R (Kd.int .i64) 3 wr (w.drewN nq).heap.size (fun _ => True) (.slice A2 0 c2) []) ∧ za (Below (w.drewN nq).heap.size (w.drewN nq) wr))
  case atStart => exact ⟨rfl, HO6, HB6⟩
  case round =>
    obtain ⟨rfl, R7, B7⟩ := hrel
    go_wp2
    go_ret
    exact ⟨_, rfl, Kd.zca R7.out (Nat.le_refl _), zcb (zbc (Below.refl _ _) nq) (Nat.le_refl _) B7.out⟩
theorem repeat_any (n : Nat) (hn : n ≤ 1000000) (A : Option Addr) (c : Nat) (w : World) (hr : Kd.C (Kd.int .i64) w A 1 [-1]) :
    Calls Try.prog 114 #[.slice A 1 c, .int .i64 n] w fun e w' => ∃ v0_ : Value, e = .returned v0_ ∧ Kd.R (Kd.int .i64) 3 w' w.heap.size (fun _ => True) v0_ (List.replicate n (-1)) ∧ Below w.heap.size w w' := by
  rcases Nat.eq_zero_or_pos n with rfl | h
  · exact repeat_none A c w hr
  · exact repeat_calls n hn h A c w hr
def impl_none.f (a0 : Int) : Option (List Int) := if 0 ≤ a0 ∧ a0 ≤ 1000000 then (some (List.replicate a0.toNat (-1))) else (none)
set_option maxHeartbeats 4000000 in
set_option maxRecDepth 100000 in
theorem impl_none.calls (a0 : Int) (r : List Int) (w : World) (h : impl_none.f a0 = some r) :
    Calls Try.prog 99 #[.int .i64 a0] w fun e w' => ∃ v0_ : Value, e = .returned (v0_) ∧ Kd.R (Kd.int .i64) 3 w' w.heap.size (fun _ => True) v0_ r ∧ Below w.heap.size w w' := by
  unfold impl_none.f at h
  by_cases hc : 0 ≤ a0 ∧ a0 ≤ 1000000
  · rw [if_pos hc] at h
    obtain rfl := Option.some.inj h
    clear h
    obtain ⟨n, rfl⟩ := Int.eq_ofNat_of_zero_le hc.1
    rw [Int.toNat_natCast]
    have hn : n ≤ 1000000 := by omega
    clear hc
    go_enter Try.func99, Try.ntmps99
    go_wp2_with (go_at_call 114; refine (repeat_any n hn _ _ _ ?_).mono ?_)
    · refine ⟨rfl, by omega, fun _ => ⟨_, rfl, fun j p hj => ?_⟩⟩
      match j, hj with
      | 0, hj =>
        injection hj with hj
        subst hj
        refine ⟨[.int .i64 (-1)], rfl, rfl, fun i u hi => ?_⟩
        match i, hi with
        | 0, hi =>
          injection hi with hi
          subst hi
          show (w.alloc _).cell? (Addr.add _ 0) = _
          rw [Addr.add_zero']
          simp
        | i + 1, hi => simp at hi
      | j + 1, hj => simp at hj
    · rintro e w' ⟨v0_, rfl, hR, hB⟩
      have HR := za.mk hR
      have HB := za.mk hB
      clear hR hB
      go_wp2
      go_ret
      exact ⟨_, rfl, Kd.zca HR.out (by simp), zct (zbd (Below.refl _ _) _) (by simp) HB.out⟩
  · rw [if_neg hc] at h
    cases h
def stepD (js : List JobT) (now : Int) (p : List Int × List Int) (i : Int) : List Int × List Int :=
  if i < 0 then p else (p.1.set i.toNat (wrap64 (rd p.1 i + 1)), if wrap64 (rd p.1 i + 1) = (jrd js i.toNat).f3 then p.2.set i.toNat (now + 1) else p.2)
def simT (pk : List Int → Int → Int) (js : List JobT) : Nat → List Int × List Int
  | 0 => (List.replicate js.length 0, List.replicate js.length (-1))
  | t + 1 => stepD js (t : Int) (simT pk js t) (pk (simT pk js t).1 (t : Int))
def runT (pk : List Int → Int → Int) (js : List JobT) (t : Nat) : Int := pk (simT pk js t).1 (t : Int)
def runRow (pk : List Int → Int → Int) (js : List JobT) (t : Nat) : List Int := (List.range t).map (runT pk js) ++ List.replicate (120 - t) (-1)
def simR (pk : List Int → Int → Int) (js : List JobT) : List Int × List Int := ((List.range 120).map (runT pk js), (simT pk js 120).2)
theorem stepD_len (js : List JobT) (now : Int) (p : List Int × List Int) (i : Int) : (stepD js now p i).1.length = p.1.length ∧ (stepD js now p i).2.length = p.2.length := by
  unfold stepD
  split
  · exact ⟨rfl, rfl⟩
  · refine ⟨by simp, ?_⟩
    simp only
    split <;> simp
theorem simT_len (pk : List Int → Int → Int) (js : List JobT) : ∀ t, (simT pk js t).1.length = js.length ∧ (simT pk js t).2.length = js.length
  | 0 => by simp [simT]
  | t + 1 => by
    have h1 := stepD_len js (t : Int) (simT pk js t) (pk (simT pk js t).1 (t : Int))
    have h2 := simT_len pk js t
    rw [simT]; omega
theorem runRow_len (pk : List Int → Int → Int) (js : List JobT) (t : Nat) (h : t ≤ 120) : (runRow pk js t).length = 120 := by simp [runRow]; omega
theorem runRow_set (pk : List Int → Int → Int) (js : List JobT) (t : Nat) (h : t < 120) : (runRow pk js t).set t (runT pk js t) = runRow pk js (t + 1) := by
  unfold runRow
  rw [List.set_append_right _ _ (by simp), List.length_map, List.length_range, Nat.sub_self, show 120 - t = (120 - (t + 1)) + 1 by omega, List.replicate_succ, List.set_cons_zero, List.range_succ, List.map_append, List.append_assoc]
  rfl
theorem simT_idle {pk : List Int → Int → Int} {js : List JobT} {t : Nat} (h : pk (simT pk js t).1 (t : Int) = -1) : simT pk js (t + 1) = simT pk js t := by
  rw [simT, h]
  rfl
theorem simT_runs {pk : List Int → Int → Int} {js : List JobT} {t b : Nat} {x y : Int} (h : pk (simT pk js t).1 (t : Int) = (b : Int)) (hx : rd (simT pk js t).1 (b : Int) = x) (hy : (jrd js b).f3 = y) :
    simT pk js (t + 1) = ((simT pk js t).1.set b (wrap64 (x + 1)), if wrap64 (x + 1) = y then (simT pk js t).2.set b ((t : Int) + 1) else (simT pk js t).2) := by
  rw [simT, h]
  unfold stepD
  rw [if_neg (by omega), hx, Int.toNat_natCast, hy]
structure SimW (w : World) (n : Nat) (A : Option Addr) (c g go : Nat) (D R F : Option Addr) (cd cr cf : Nat) (dn rn fn : List Int) (now : Int) (W : World) : Prop where
  jobs : W.cell? ⟨g, 0, none⟩ = some (.slice A n c)
  done : W.cell? ⟨g, 1, none⟩ = some (.slice D n cd)
  time : W.cell? ⟨g, 2, none⟩ = some (.int .i64 now)
  ftime : W.frozen? ⟨g, 2, none⟩ = false
  o0 : W.cell? ⟨go, 0, none⟩ = some (.slice R 120 cr)
  o1 : W.cell? ⟨go, 1, none⟩ = some (.slice F n cf)
  dR : Kd.R (Kd.int .i64) 3 W w.heap.size (fun k => some k = (Value.slice D n cd).ownBlock) (.slice D n cd) dn
  rR : Kd.R (Kd.int .i64) 3 W w.heap.size (fun k => some k = (Value.slice R 120 cr).ownBlock) (.slice R 120 cr) rn
  fR : Kd.R (Kd.int .i64) 3 W w.heap.size (fun k => some k = (Value.slice F n cf).ownBlock) (.slice F n cf) fn
  bel : Below w.heap.size w W
structure SimNe (w : World) (n g go : Nat) (D R F : Option Addr) (cd cr cf : Nat) : Prop where
  gn : w.heap.size ≤ g
  gon : w.heap.size ≤ go
  ggo : g ≠ go
  gD : ∀ k, (Value.slice D n cd).ownBlock = some k → k ≠ g ∧ k ≠ go
  gR : ∀ k, (Value.slice R 120 cr).ownBlock = some k → k ≠ g ∧ k ≠ go
  gF : ∀ k, (Value.slice F n cf).ownBlock = some k → k ≠ g ∧ k ≠ go
  DR : ∀ k, (Value.slice D n cd).ownBlock = some k → some k ≠ (Value.slice R 120 cr).ownBlock
  DF : ∀ k, (Value.slice D n cd).ownBlock = some k → some k ≠ (Value.slice F n cf).ownBlock
  RF : ∀ k, (Value.slice R 120 cr).ownBlock = some k → some k ≠ (Value.slice F n cf).ownBlock
section
variable {w W W1 : World} {n : Nat} {A : Option Addr} {c g go : Nat} {D R F : Option Addr} {cd cr cf : Nat} {dn rn fn : List Int} {now : Int}
theorem SimW.below (h : SimW w n A c g go D R F cd cr cf dn rn fn now W) (hb : Below W.heap.size W W1) : SimW w n A c g go D R F cd cr cf dn rn fn now W1 :=
  ⟨(hb.cell (World.block_lt_of_cell? _ _ h.jobs)).trans h.jobs, (hb.cell (World.block_lt_of_cell? _ _ h.done)).trans h.done, (hb.cell (World.block_lt_of_cell? _ _ h.time)).trans h.time,
   (hb.frozen (World.block_lt_of_cell? _ _ h.time)).trans h.ftime, (hb.cell (World.block_lt_of_cell? _ _ h.o0)).trans h.o0, (hb.cell (World.block_lt_of_cell? _ _ h.o1)).trans h.o1,
   Kd.zcx h.dR hb, Kd.zcx h.rR hb, Kd.zcx h.fR hb, zo h.bel hb⟩
theorem SimW.mach (h : SimW w n A c g go D R F cd cr cf dn rn fn now W) {js : List JobT} (hn : js.length = n) (hr : Kd.C k34 w A js.length js) (hl : dn.length = js.length) : Mach W g A c js D cd dn now := by
  subst hn
  refine ⟨h.jobs, by rw [hl]; exact h.done, h.time, Kd.zbq hr h.bel, (Kd.zbh h.dR).2.2, hl⟩
theorem SimW.setTime (h : SimW w n A c g go D R F cd cr cf dn rn fn now W) (ne : SimNe w n g go D R F cd cr cf) (x : Int) : SimW w n A c g go D R F cd cr cf dn rn fn x (W.setCell ⟨g, 2, none⟩ (.int .i64 x)) := by
  refine ⟨?_, ?_, World.cell?_setCell_same _ _ _ h.time, ?_, ?_, ?_, Kd.zcs h.dR (fun k hk => (ne.gD k hk.symm).1) _, Kd.zcs h.rR (fun k hk => (ne.gR k hk.symm).1) _, Kd.zcs h.fR (fun k hk => (ne.gF k hk.symm).1) _, h.bel.setCell ne.gn _⟩
  · rw [World.cell?_setCell_other _ _ _ _ (by simp)]; exact h.jobs
  · rw [World.cell?_setCell_other _ _ _ _ (by simp)]; exact h.done
  · rw [World.frozen?_setCell]; exact h.ftime
  · rw [World.cell?_setCell_far _ _ _ _ ne.ggo]; exact h.o0
  · rw [World.cell?_setCell_far _ _ _ _ ne.ggo]; exact h.o1
theorem SimW.setRun {gr : Nat} (h : SimW w n A c g go D (some ⟨gr, 0, none⟩) F cd cr cf dn rn fn now W) (ne : SimNe w n g go D (some ⟨gr, 0, none⟩) F cd cr cf) (ho : (Value.slice (some ⟨gr, 0, none⟩) 120 cr).ownBlock = some gr) (i : Nat) (x : Int) :
    SimW w n A c g go D (some ⟨gr, 0, none⟩) F cd cr cf dn (rn.set i x) fn now (W.setCell ⟨gr, i, none⟩ (.int .i64 x)) := by
  have hg := ne.gR gr ho
  have h1 := (Kd.zde h.rR (i : Int) x).1
  rw [Int.toNat_natCast] at h1
  refine ⟨?_, ?_, ?_, ?_, ?_, ?_, Kd.zcs h.dR (fun k hk e => ne.DR k hk.symm (by rw [ho]; exact congrArg some e)) _, h1, Kd.zcs h.fR (fun k hk e => ne.RF gr ho (by rw [← hk]; exact congrArg some e.symm)) _, h.bel.setCell (Kd.zc0 h.rR _ ho) _⟩
  · rw [World.cell?_setCell_far _ _ _ _ hg.1]; exact h.jobs
  · rw [World.cell?_setCell_far _ _ _ _ hg.1]; exact h.done
  · rw [World.cell?_setCell_far _ _ _ _ hg.1]; exact h.time
  · rw [World.frozen?_setCell]; exact h.ftime
  · rw [World.cell?_setCell_far _ _ _ _ hg.2]; exact h.o0
  · rw [World.cell?_setCell_far _ _ _ _ hg.2]; exact h.o1
theorem SimW.setFin {gr : Nat} (h : SimW w n A c g go D R (some ⟨gr, 0, none⟩) cd cr cf dn rn fn now W) (ne : SimNe w n g go D R (some ⟨gr, 0, none⟩) cd cr cf) (ho : (Value.slice (some ⟨gr, 0, none⟩) n cf).ownBlock = some gr) (i : Nat) (x : Int) :
    SimW w n A c g go D R (some ⟨gr, 0, none⟩) cd cr cf dn rn (fn.set i x) now (W.setCell ⟨gr, i, none⟩ (.int .i64 x)) := by
  have hg := ne.gF gr ho
  have h1 := (Kd.zde h.fR (i : Int) x).1
  rw [Int.toNat_natCast] at h1
  refine ⟨?_, ?_, ?_, ?_, ?_, ?_, Kd.zcs h.dR (fun k hk e => ne.DF k hk.symm (by rw [ho]; exact congrArg some e)) _, Kd.zcs h.rR (fun k hk e => ne.RF k hk.symm (by rw [ho]; exact congrArg some e)) _, h1, h.bel.setCell (Kd.zc0 h.fR _ ho) _⟩
  · rw [World.cell?_setCell_far _ _ _ _ hg.1]; exact h.jobs
  · rw [World.cell?_setCell_far _ _ _ _ hg.1]; exact h.done
  · rw [World.cell?_setCell_far _ _ _ _ hg.1]; exact h.time
  · rw [World.frozen?_setCell]; exact h.ftime
  · rw [World.cell?_setCell_far _ _ _ _ hg.2]; exact h.o0
  · rw [World.cell?_setCell_far _ _ _ _ hg.2]; exact h.o1
theorem SimW.setDone {gr : Nat} (h : SimW w n A c g go (some ⟨gr, 0, none⟩) R F cd cr cf dn rn fn now W) (ne : SimNe w n g go (some ⟨gr, 0, none⟩) R F cd cr cf) (ho : (Value.slice (some ⟨gr, 0, none⟩) n cd).ownBlock = some gr) (i : Nat) (x : Int) :
    SimW w n A c g go (some ⟨gr, 0, none⟩) R F cd cr cf (dn.set i x) rn fn now (W.setCell ⟨gr, i, none⟩ (.int .i64 x)) := by
  have hg := ne.gD gr ho
  have h1 := (Kd.zde h.dR (i : Int) x).1
  rw [Int.toNat_natCast] at h1
  refine ⟨?_, ?_, ?_, ?_, ?_, ?_, h1, Kd.zcs h.rR (fun k hk e => ne.DR gr ho (by rw [← hk]; exact congrArg some e.symm)) _, Kd.zcs h.fR (fun k hk e => ne.DF gr ho (by rw [← hk]; exact congrArg some e.symm)) _, h.bel.setCell (Kd.zc0 h.dR _ ho) _⟩
  · rw [World.cell?_setCell_far _ _ _ _ hg.1]; exact h.jobs
  · rw [World.cell?_setCell_far _ _ _ _ hg.1]; exact h.done
  · rw [World.cell?_setCell_far _ _ _ _ hg.1]; exact h.time
  · rw [World.frozen?_setCell]; exact h.ftime
  · rw [World.cell?_setCell_far _ _ _ _ hg.2]; exact h.o0
  · rw [World.cell?_setCell_far _ _ _ _ hg.2]; exact h.o1
end
set_option maxHeartbeats 4000000 in
set_option maxRecDepth 100000 in
theorem newMachine_calls (A : Option Addr) (c : Nat) (n : Nat) (hn : n ≤ 1000000) (w : World) :
    Calls Try.prog 98 #[.slice A n c] w fun e w' => ∃ (g : Nat) (D : Option Addr) (cd : Nat), e = .returned (.pointer (some ⟨g, 0, none⟩)) ∧ w.heap.size ≤ g ∧ g < w'.heap.size ∧
      w'.cell? ⟨g, 0, none⟩ = some (.slice A n c) ∧ w'.cell? ⟨g, 1, none⟩ = some (.slice D n cd) ∧ w'.cell? ⟨g, 2, none⟩ = some (.int .i64 0) ∧ w'.frozen? ⟨g, 2, none⟩ = false ∧
      Kd.R (Kd.int .i64) 3 w' w.heap.size (fun k => k ≠ g) (.slice D n cd) (List.replicate n 0) ∧ Below w.heap.size w w' := by
  have hn2 : IntKind.i64.wrap (n : Int) = (n : Int) := by rw [IntKind.wrap_i64]; omega
  go_enter Try.func98, Try.ntmps98
  go_wp2_with (first
    | ((with_reducible refine zbj (N := 6) rfl ?_); refine Kd.R_make (Kd.int .i64) _ 3 rfl (N := 6) rfl 27 _ _ rfl (n : Int) rfl rfl Try.underlying27 (.int .i64 0) 8 info3 rfl (by decide) (by omega) 0 (ok := fun _ => True) (okp := fun _ => True) rfl (fun _ hk => hk) trivial (by omega) (by omega) (Below.refl _ _) (Nat.le_refl _) ?_; intro v w4 ho5 hb hg_ hnew_; have HO := za.mk ho5; have HB := za.mk hb; clear hg_ hnew_ ho5 hb; obtain ⟨A2, c2, ev⟩ := Kd.zbv HO.out; subst ev))
  go_ret
  have hO := HO.out
  rw [List.length_replicate, Int.toNat_natCast] at hO
  refine ⟨_, A2, c2, rfl, HB.out.size, by simp, by simp, ?_, by simp, by simp, Kd.zbb (Kd.zbf (Kd.R_bound hO) _) (fun k hk => by have := hk.2.2.1; omega), zbd HB.out _⟩
  simp [Int.toNat_natCast]
theorem none_sl (n : Nat) (hn : n ≤ 1000000) (x : Int) (hx : x = (n : Int)) (w : World) :
    Calls Try.prog 99 #[.int .i64 x] w fun e w' => ∃ (A : Option Addr) (c : Nat), e = .returned (.slice A n c) ∧ Kd.R (Kd.int .i64) 3 w' w.heap.size (fun _ => True) (.slice A n c) (List.replicate n (-1)) ∧ Below w.heap.size w w' := by
  subst hx
  refine (impl_none.calls (n : Int) (List.replicate n (-1)) w (by unfold impl_none.f; rw [if_pos (by omega)]; rfl)).mono ?_
  rintro e w' ⟨v, rfl, hr, hb⟩
  obtain ⟨A, c, ev⟩ := Kd.zbv hr
  subst ev
  rw [List.length_replicate] at hr ⊢
  exact ⟨A, c, rfl, hr, hb⟩
set_option maxHeartbeats 16000000 in
set_option maxRecDepth 100000 in
theorem simulate_calls (pk : List Int → Int → Int) (pn : Nat) (pb pl : Array Value) (ep : ∀ args w, (callFunc pn args).run Try.prog w = .ok (.enter pn args) w)
    (A : Option Addr) (c : Nat) (js : List JobT) (w : World) (hr : Kd.C k34 w A js.length js) (hlen : js.length ≤ 1000)
    (hrng : ∀ dn now, pk dn now = -1 ∨ ∃ b : Nat, b < js.length ∧ pk dn now = (b : Int))
    (hp : ∀ (W : World) (g : Nat) (D : Option Addr) (cd : Nat) (dn : List Int) (t : Nat), t < 120 → Below w.heap.size w W → Mach W g A c js D cd dn (t : Int) → Calls Try.prog pn (pb ++ #[.pointer (some ⟨g, 0, none⟩)] ++ pl) W fun e w' => e = .returned (.int .i64 (pk dn (t : Int))) ∧ Below W.heap.size W w') :
    Calls Try.prog 49 #[.slice A js.length c, .func (.func pn) pb pl] w fun e w' => ∃ v0_ v1_ : Value, e = .returned (.agg #[v0_, v1_]) ∧ Kd.R (Kd.int .i64) 3 w' w.heap.size (fun k_ => some k_ ≠ (v1_ : Value).ownBlock) v0_ (simR pk js).1 ∧ Kd.R (Kd.int .i64) 3 w' w.heap.size (fun k_ => some k_ ≠ (v0_ : Value).ownBlock) v1_ (simR pk js).2 ∧ Below w.heap.size w w' := by
  have HR := za.mk hr
  have HP := za.mk hp
  have HG := za.mk hrng
  clear hr hp hrng
  have tok1 : True := trivial
  go_enter Try.func49, Try.ntmps49
  go_wp2_with (first
    | (go_at_call 98; refine (newMachine_calls A c js.length (by omega) _).mono ?_; rintro e w1 ⟨g, D, cd, rfl, hg0, hg1, hj, hd, ht, hf, hdr, hb⟩; have N1 := za.mk (And.intro hg0 (And.intro hg1 (And.intro hj (And.intro hd (And.intro ht (And.intro hf (And.intro hdr hb))))))); clear hg0 hg1 hj hd ht hf hdr hb)
    | (go_at_call 99; have _t := tok1; refine (none_sl 120 (by omega) _ rfl _).mono ?_; rintro e w2 ⟨R, cr, rfl, hr2, hb2⟩; have N2 := za.mk (And.intro hr2 hb2); clear hr2 hb2 tok1)
    | (go_at_call 99; refine (none_sl js.length (by omega) _ rfl _).mono ?_; rintro e w3 ⟨F, cf, rfl, hr3, hb3⟩; have N3 := za.mk (And.intro hr3 hb3); clear hr3 hb3))
  have hne : SimNe (w.alloc (.cells #[.slice none 0 0, .slice none 0 0] 29)) js.length g w3.heap.size D R F cd cr cf ∧ SimW (w.alloc (.cells #[.slice none 0 0, .slice none 0 0] 29)) js.length A c g w3.heap.size D R F cd cr cf (simT pk js 0).1 (runRow pk js 0) (simT pk js 0).2 ((0 : Nat) : Int) (w3.alloc (.cells #[.slice R 120 cr, .slice F js.length cf] 29)) := by
    obtain ⟨hg0, hg1, hj, hd, ht, hf, hdr, hb⟩ := N1.out
    obtain ⟨hr2, hb2⟩ := N2.out
    obtain ⟨hr3, hb3⟩ := N3.out
    have s1 := hb.size
    have s2 := hb2.size
    have s3 := hb3.size
    have h14 : Below w1.heap.size w1 (w3.alloc (.cells #[.slice R 120 cr, .slice F js.length cf] 29)) := zbd (zo hb2 hb3) _
    have h24 : Below w2.heap.size w2 (w3.alloc (.cells #[.slice R 120 cr, .slice F js.length cf] 29)) := zbd hb3 _
    have h34 : Below w3.heap.size w3 (w3.alloc (.cells #[.slice R 120 cr, .slice F js.length cf] 29)) := zbd (Below.refl _ _) _
    have dlt := Kd.R_lt hdr
    have rlt := Kd.R_lt hr2
    have rge := Kd.zc0 hr2
    have flt := Kd.R_lt hr3
    have fge := Kd.zc0 hr3
    have dg := hdr.1
    refine ⟨⟨hg0, by omega, by omega, fun k hk => ⟨dg k hk, by have := dlt k hk; omega⟩, fun k hk => ?_, fun k hk => ?_, fun k hk e => ?_, fun k hk e => ?_, fun k hk e => ?_⟩, ?_⟩
    · have := rlt k hk; have := rge k hk; omega
    · have := flt k hk; have := fge k hk; omega
    · have := dlt k hk; have := rge k e.symm; omega
    · have := dlt k hk; have := fge k e.symm; omega
    · have := rlt k hk; have := fge k e.symm; omega
    · refine ⟨(h14.cell (World.block_lt_of_cell? _ _ hj)).trans hj, (h14.cell (World.block_lt_of_cell? _ _ hd)).trans hd, (h14.cell (World.block_lt_of_cell? _ _ ht)).trans ht, (h14.frozen (World.block_lt_of_cell? _ _ ht)).trans hf, by simp, by simp, Kd.zcx (Kd.R_tight rfl hdr) h14, ?_, Kd.zcx (Kd.R_tight rfl (Kd.zca hr3 (by omega))) h34, zo hb h14⟩
      have h := Kd.zcx (Kd.R_tight rfl (Kd.zca hr2 (by omega : (w.alloc (.cells #[.slice none 0 0, .slice none 0 0] 29)).heap.size ≤ w1.heap.size))) h24
      simpa [runRow] using h
  have NE := za.mk hne.1
  have S0 := za.mk hne.2
  have HB0 : za (Below w.heap.size w (w.alloc (.cells #[.slice none 0 0, .slice none 0 0] 29))) := ⟨zbd (Below.refl _ _) _⟩
  clear hne N1 N2 N3
  generalize w3.heap.size = go at NE S0 ⊢
  go_loopg [7] 120 (fun gg _ wr => ∃ t : Nat, t ≤ 120 ∧ 120 - t ≤ gg ∧ za (SimW (w.alloc (.cells #[.slice none 0 0, .slice none 0 0] 29)) js.length A c g go D R F cd cr cf (simT pk js t).1 (runRow pk js t) (simT pk js t).2 (t : Int) wr))
  case atStart => exact ⟨0, by omega, by omega, S0⟩
  case round =>
    obtain ⟨t, ht, hgg, SI⟩ := hrel
    have tm := SI.out.time
    by_cases hlt : t < 120
    · have hltz : (t : Int) < 120 := by omega
      have hcall := HP.out wr g D cd (simT pk js t).1 t hlt (zcb HB0.out HB0.out.size SI.out.bel) (SI.out.mach rfl (Kd.C_alloc HR.out _) (simT_len pk js t).1)
      have hrl := runRow_len pk js t ht
      obtain ⟨gr, cr', er, _, _, _, _⟩ := Kd.R_form SI.out.rR (by omega)
      injection er with er1 er2 er3
      subst er1
      clear er2 er3
      rcases HG.out (simT pk js t).1 (t : Int) with hi | ⟨b, hb, hi⟩
      · rw [hi] at hcall
        have HI := za.mk hi
        clear hi hrl
        go_wp2_with (go_at_fn pn; refine hcall.mono ?_; rintro e w5 ⟨rfl, hb5⟩; have S5 := za.mk (SI.out.below hb5); have tm5 := S5.out.time; have o05 := S5.out.o0; obtain ⟨cx, fx⟩ := Kd.zdi 0 S5.out.rR (t : Int) (by omega) hltz; rw [Int.toNat_natCast] at cx fx; clear hb5)
        go_big_region
        have S6 := za.mk ((S5.out.setRun NE.out rfl t (-1)).below (zb0 (Below.refl _ _)))
        have tm6 := S6.out.time
        have ft6 := S6.out.ftime
        clear tm5 o05 cx fx hcall S5
        generalize (w5.setCell ⟨gr, t, none⟩ (Value.int .i64 (-1))).drew = w6 at S6 tm6 ft6 ⊢
        go_wp2
        go_roundg (120 - (t + 1))
        case measure => omega
        case rel =>
          refine ⟨t + 1, by omega, by omega, ⟨?_⟩⟩
          have h := S6.out.setTime NE.out ((t : Int) + 1)
          rw [show (-1 : Int) = runT pk js t from HI.out.symm, runRow_set pk js t hlt] at h
          rw [simT_idle HI.out]
          exact h
      · rw [hi] at hcall
        have HI := za.mk hi
        have hl := simT_len pk js t
        obtain ⟨gd, cd', er, _, _, _, _⟩ := Kd.R_form SI.out.dR (by omega)
        injection er with er1 er2 er3
        subst er1
        clear er2 er3
        obtain ⟨gf, cf', er, _, _, _, _⟩ := Kd.R_form SI.out.fR (by omega)
        injection er with er1 er2 er3
        subst er1
        clear er2 er3
        have hbz : (b : Int) < (js.length : Int) := by omega
        obtain ⟨ad, ea, hx0, hx1, hx2, hx3⟩ := zda HR.out (b : Int) (by omega) hbz
        cases ea
        rw [Int.toNat_natCast] at hx3
        obtain ⟨y, hy⟩ : ∃ y, (jrd js b).f3 = y := ⟨_, rfl⟩
        obtain ⟨x, hx⟩ : ∃ x, rd (simT pk js t).1 (b : Int) = x := ⟨_, rfl⟩
        have hx3' := hx3
        rw [show (ze js (b : Int)).f3 = y from hy] at hx3'
        have HX3 := za.mk hx3'
        have STEP := za.mk (simT_runs hi hx hy)
        have HX := za.mk hx
        have LEN := za.mk hl
        clear hi hrl hl hx0 hx1 hx2 hx3 hx3' hy hx
        go_wp2_with (go_at_fn pn; refine hcall.mono ?_; rintro e w5 ⟨rfl, hb5⟩; have S5 := za.mk (SI.out.below hb5); have tm5 := S5.out.time; have o05 := S5.out.o0; obtain ⟨cx, fx⟩ := Kd.zdi 0 S5.out.rR (t : Int) (by omega) hltz; rw [Int.toNat_natCast] at cx fx; clear hb5)
        go_big_region
        have S6 := za.mk ((S5.out.setRun NE.out rfl t (b : Int)).below (zb0 (Below.refl _ _)))
        have dn6 := S6.out.done
        obtain ⟨cd6, fd6⟩ := Kd.zdi 0 S6.out.dR (b : Int) (by omega) hbz
        rw [Int.toNat_natCast, show rdOf 0 (simT pk js t).1 (b : Int) = x from HX.out] at cd6
        rw [Int.toNat_natCast] at fd6
        clear tm5 o05 cx fx hcall S5
        generalize (w5.setCell ⟨gr, t, none⟩ (Value.int .i64 (b : Int))).drew = w6 at S6 dn6 cd6 fd6 ⊢
        go_wp2_with fail
        have S7 := za.mk (S6.out.setDone NE.out rfl b (wrap64 (x + 1)))
        have dn7 := S7.out.done
        have tm7 := S7.out.time
        have ft7 := S7.out.ftime
        have o17 := S7.out.o1
        have cd7 := World.cell?_setCell_same w6 ⟨gd, b, none⟩ (Value.int .i64 (wrap64 (x + 1))) cd6
        obtain ⟨cf7, ff7⟩ := Kd.zdi 0 S7.out.fR (b : Int) (by omega) hbz
        rw [Int.toNat_natCast] at cf7 ff7
        have hx7 := HX3.out
        have hx7 := (HB0.out.cell (World.block_lt_of_cell? _ _ hx7)).trans hx7
        have hx7 := (S7.out.bel.cell (World.block_lt_of_cell? _ _ hx7)).trans hx7
        clear dn6 cd6 fd6 S6
        generalize w6.setCell ⟨gd, b, none⟩ (Value.int .i64 (wrap64 (x + 1))) = w7 at S7 dn7 tm7 ft7 o17 cd7 cf7 ff7 hx7 ⊢
        generalize wrap64 (x + 1) = z at S7 cd7 STEP ⊢
        by_cases hq : z = y
        · subst hq
          rw [if_pos rfl] at STEP
          go_big_region
          go_wp2_with fail
          have S8 := za.mk (S7.out.below (zb0 (Below.refl _ _)))
          have tm8 := S8.out.time
          have o18 := S8.out.o1
          have cf8 : w7.drew.cell? ⟨gf, b, none⟩ = _ := cf7
          have ff8 : w7.drew.frozen? ⟨gf, b, none⟩ = false := ff7
          have hw : IntKind.i64.wrap ((t : Int) + 1) = (t : Int) + 1 := by rw [IntKind.wrap_i64]; omega
          clear dn7 tm7 ft7 o17 cd7 cf7 ff7 hx7 S7
          generalize w7.drew = w8 at S8 tm8 o18 cf8 ff8 ⊢
          go_big_region
          have S9 := za.mk ((S8.out.setFin NE.out rfl b ((t : Int) + 1)).below (zb0 (Below.refl _ _)))
          have tm9 := S9.out.time
          have ft9 := S9.out.ftime
          clear tm8 o18 cf8 ff8 hw S8
          generalize (w8.setCell ⟨gf, b, none⟩ (Value.int .i64 ((t : Int) + 1))).drew = w9 at S9 tm9 ft9 ⊢
          go_wp2
          go_roundg (120 - (t + 1))
          case measure => omega
          case rel =>
            refine ⟨t + 1, by omega, by omega, ⟨?_⟩⟩
            have h := S9.out.setTime NE.out ((t : Int) + 1)
            rw [show (b : Int) = runT pk js t from HI.out.symm, runRow_set pk js t hlt] at h
            rw [STEP.out]
            exact h
        · have hq2 : (z == y) = false := by simpa using hq
          have hq3 : decide (z = y) = false := by simpa using hq
          rw [if_neg hq] at STEP
          have QN := za.mk hq
          clear hq
          go_big_region
          have S8 := za.mk (S7.out.below (zb0 (Below.refl _ _)))
          have tm8 := S8.out.time
          have ft8 := S8.out.ftime
          clear dn7 tm7 ft7 o17 cd7 cf7 ff7 hx7 S7
          generalize w7.drew = w8 at S8 tm8 ft8 ⊢
          go_wp2
          go_roundg (120 - (t + 1))
          case measure => omega
          case rel =>
            refine ⟨t + 1, by omega, by omega, ⟨?_⟩⟩
            have h := S8.out.setTime NE.out ((t : Int) + 1)
            rw [show (b : Int) = runT pk js t from HI.out.symm, runRow_set pk js t hlt] at h
            rw [STEP.out]
            exact h
    · have hltz : ¬ (t : Int) < 120 := by omega
      obtain rfl : t = 120 := by omega
      have o0 := SI.out.o0
      have o1 := SI.out.o1
      have BKr : wr.heap[w.heap.size]? = some (.cells #[.slice none 0 0, .slice none 0 0] 29 (0, 0)) := (SI.out.bel.block w.heap.size (by simp)).trans (blk_new w _)
      have r0 : wr.cell? ⟨w.heap.size, 0, none⟩ = some (.slice none 0 0) := (zg BKr 0).trans rfl
      have r1 : wr.cell? ⟨w.heap.size, 1, none⟩ = some (.slice none 0 0) := (zg BKr 1).trans rfl
      have f0 := zf BKr 0
      have f1 := zf BKr 1
      have BK := za.mk BKr
      clear BKr
      go_wp2
      refine bodyPost_ret (results_cell_row rfl _ _ w.heap.size 29 #[.slice R 120 cr, .slice F js.length cf] (0, 0) _ rfl (by refine zb2 (cs := #[.slice R 120 cr, .slice none 0 0]) ?_ 1 _ rfl; refine zb2 (cs := #[.slice none 0 0, .slice none 0 0]) ?_ 0 _ rfl; exact BK.out) Try.underlying29 rfl (by kernel_rfl)) rfl ?_
      have hsz : w.heap.size < (w.alloc (.cells #[.slice none 0 0, .slice none 0 0] 29)).heap.size := by simp
      have mv : ∀ {v : Value} {l : List Int}, Kd.R (Kd.int .i64) 3 wr (w.alloc (.cells #[.slice none 0 0, .slice none 0 0] 29)).heap.size (fun k => some k = v.ownBlock) v l → ∀ x y, Kd.R (Kd.int .i64) 3 ((wr.setCell ⟨w.heap.size, 0, none⟩ x).setCell ⟨w.heap.size, 1, none⟩ y) w.heap.size (fun k => some k = v.ownBlock) v l := fun h x y =>
        Kd.zca (Kd.zcs (Kd.zcs h (fun k hk e => by have := Kd.zc0 h k hk.symm; simp only at e; omega) x) (fun k hk e => by have := Kd.zc0 h k hk.symm; simp only at e; omega) y) (by omega)
      refine ⟨_, _, rfl, ?_, ?_, ?_⟩
      · have h := mv SI.out.rR (.slice R 120 cr) (.slice F js.length cf)
        have e : runRow pk js 120 = (simR pk js).1 := by simp [runRow, simR]
        rw [e] at h
        exact Kd.zbb h (fun k hk e2 => NE.out.RF k hk.symm e2)
      · exact Kd.zbb (mv SI.out.fR (.slice R 120 cr) (.slice F js.length cf)) (fun k hk e2 => NE.out.RF k e2.symm hk)
      · exact ((zcb HB0.out HB0.out.size SI.out.bel).setCell (Nat.le_refl _) _).setCell (Nat.le_refl _) _
theorem R_cells2 {W : World} {b g : Nat} {ok : Nat → Prop} {v : Value} {l : List Int} (hg : g < b) (h : Kd.R (Kd.int .i64) 3 W b ok v l) (x y : Value) : Kd.R (Kd.int .i64) 3 ((W.setCell ⟨g, 0, none⟩ x).setCell ⟨g, 1, none⟩ y) b (fun k => some k = v.ownBlock ∧ ok k) v l :=
  Kd.zcs (Kd.zcs (Kd.R_tight2 rfl h) (fun k hk e => by have := Kd.zc0 h k hk.1.symm; simp only at e; omega) x) (fun k hk e => by have := Kd.zc0 h k hk.1.symm; simp only at e; omega) y
theorem edfD_rng (js : List JobT) (dn : List Int) (now : Int) : edfD js dn now = -1 ∨ ∃ b : Nat, b < js.length ∧ edfD js dn now = (b : Int) := bestD_rng _ _ _
theorem npD_rng (js : List JobT) (dn : List Int) (now : Int) : npD js dn now = -1 ∨ ∃ b : Nat, b < js.length ∧ npD js dn now = (b : Int) := by
  unfold npD
  split
  · exact bestD_rng _ _ _
  · exact edfD_rng _ _ _
def zcv.f (a0 : Int) (a1 : Int) (a2 : Int) : Option (Bool) := if a0 ≥ a1 then (some (decide (a0 ≤ a2))) else (some false)
set_option maxHeartbeats 8000000 in
set_option maxRecDepth 100000 in
theorem zcv.calls (a0 : Int) (a1 : Int) (a2 : Int) (r : Bool) (w : World) (h : zcv.f a0 a1 a2 = some r) :
  Calls Try.prog 103 #[.int .i64 a0, .int .i64 a1, .int .i64 a2] w fun e w' => e = .returned (.bool r) ∧ zby w w' := by
 have H : (if a0 ≥ a1 then (some (decide (a0 ≤ a2))) else (some false)) = some r := h
 clear h
 by_cases c4 : a0 ≥ a1
 ·rw [if_pos c4] at H
  have c4b0 : decide (a1 ≤ a0) = true := decide_eq_true c4
  clear c4
  obtain rfl := Option.some.inj H
  go_enter Try.func103, Try.ntmps103
  go_wp2
  go_ret
  exact ⟨by first | rfl | (simp; done) | (simp [*]; done), by repeat (first | exact zby.refl _ | apply zby.step)⟩
 ·rw [if_neg c4] at H
  have c4b0 : decide (a1 ≤ a0) = false := decide_eq_false c4
  clear c4
  obtain rfl := Option.some.inj H
  go_enter Try.func103, Try.ntmps103
  go_wp2
  go_ret
  exact ⟨by first | rfl | (simp; done) | (simp [*]; done), by repeat (first | exact zby.refl _ | apply zby.step)⟩
abbrev TaskT := S88
def trd (l : List TaskT) (i : Int) : TaskT := zl l i
def inRng (l : List TaskT) (j : JobT) : Bool := decide (0 ≤ j.f0 ∧ j.f0 ≤ (l.length : Int) - 1)
def relOk (j : JobT) : Bool := decide (0 ≤ j.f1 ∧ j.f1 ≤ 119)
def exOk (l : List TaskT) (j : JobT) : Bool := decide (1 ≤ j.f3 ∧ j.f3 ≤ (trd l j.f0).f0)
def bhd (p j : JobT) : Bool := decide (p.f1 > j.f1) || (decide (p.f1 = j.f1) && decide (p.f0 ≥ j.f0))
def ordOk (l : List TaskT) (js : List JobT) (i : Nat) : Bool := inRng l (jrd js i) && relOk (jrd js i) && exOk l (jrd js i) && (decide (i = 0) || !(bhd (jrd js (i - 1)) (jrd js i)))
def allB (p : Nat → Bool) : Nat → Bool
  | 0 => true
  | n + 1 => allB p n && p n
theorem allB_false {p : Nat → Bool} {i : Nat} (h : p i = false) : ∀ n, i < n → allB p n = false
  | 0, hn => by omega
  | n + 1, hn => by
    rw [allB]
    by_cases e : i = n
    · subst e; rw [h]; simp
    · rw [allB_false h n (by omega)]; rfl
theorem allB_true {p : Nat → Bool} : ∀ {n : Nat}, allB p n = true → ∀ i, i < n → p i = true
  | 0, _, i, hi => by omega
  | n + 1, h, i, hi => by
    rw [allB, Bool.and_eq_true] at h
    by_cases e : i = n
    · subst e; exact h.2
    · exact allB_true h.1 i (by omega)
def ordB (l : List TaskT) (js : List JobT) : Bool := allB (ordOk l js) js.length && decide ((js.length : Int) ≤ 60)
set_option maxHeartbeats 4000000 in
set_option maxRecDepth 100000 in
theorem jl1_calls (A0 : Option Addr) (c0 : Nat) (l0 : List TaskT) (B : Addr) (a : Int) (h0 : 0 ≤ a) (h1 : a < (l0.length : Int)) (w : World) (hB : w.cell? B = some (.slice A0 l0.length c0)) (hr0 : Kd.C k88 w A0 l0.length l0) :
    Calls Try.prog 92 #[.int .i64 a, .pointer (some B)] w fun e w' => e = .returned (.int .i64 (trd l0 a).f0) ∧ zby w w' := by
  obtain ⟨ad, ea, hx0, hx1, hx2⟩ := zds hr0 a h0 h1
  cases ea
  unfold trd
  clear hr0 hx1 hx2
  generalize (zl l0 a).f0 = x at hx0 ⊢
  go_enter Try.func92, Try.ntmps92
  go_wp2
  go_ret
  exact ⟨rfl, zby.refl _⟩
set_option maxHeartbeats 4000000 in
set_option maxRecDepth 100000 in
theorem jl2_calls (A0 : Option Addr) (c0 : Nat) (l0 : List TaskT) (B : Addr) (a : Int) (h0 : 0 ≤ a) (h1 : a < (l0.length : Int)) (w : World) (hB : w.cell? B = some (.slice A0 l0.length c0)) (hr0 : Kd.C k88 w A0 l0.length l0) :
    Calls Try.prog 95 #[.int .i64 a, .pointer (some B)] w fun e w' => e = .returned (.int .i64 (trd l0 a).f2) ∧ zby w w' := by
  obtain ⟨ad, ea, hx0, hx1, hx2⟩ := zds hr0 a h0 h1
  cases ea
  unfold trd
  clear hr0 hx0 hx1
  generalize (zl l0 a).f2 = x at hx2 ⊢
  go_enter Try.func95, Try.ntmps95
  go_wp2
  go_ret
  exact ⟨rfl, zby.refl _⟩
def lateB (l : List TaskT) (j : JobT) : Bool := j.f2 != wrap64 (j.f1 + (trd l j.f0).f1)
set_option maxHeartbeats 4000000 in
set_option maxRecDepth 100000 in
theorem jl3_calls (A0 : Option Addr) (c0 : Nat) (l0 : List TaskT) (B : Addr) (j : JobT) (h0 : 0 ≤ j.f0) (h1 : j.f0 < (l0.length : Int)) (w : World) (hB : w.cell? B = some (.slice A0 l0.length c0)) (hr0 : Kd.C k88 w A0 l0.length l0) :
    Calls Try.prog 97 #[.agg #[.int .i64 j.f0, .int .i64 j.f1, .int .i64 j.f2, .int .i64 j.f3], .pointer (some B)] w fun e w' => e = .returned (.bool (lateB l0 j)) ∧ Below w.heap.size w w' := by
  have hBl := World.block_lt_of_cell? _ _ hB
  have hB2 : ∀ o, (w.alloc o).cell? B = some (.slice A0 l0.length c0) := fun o => (World.cell?_alloc_lt _ _ _ hBl).trans hB
  obtain ⟨ad, ea, hx0, hx1, hx2⟩ := zds hr0 j.f0 h0 h1
  cases ea
  have hxl := World.block_lt_of_cell? _ _ hx1
  have hx3 := fun (o : Obj) => (show (w.alloc o).cell? _ = w.cell? _ from World.cell?_alloc_lt _ _ _ hxl).trans hx1
  unfold lateB trd
  clear hr0 hx0 hx1 hx2 hBl hxl hB
  generalize (zl l0 j.f0).f1 = x at hx3 ⊢
  have hc2 := hB2 (.cells #[.int .i64 j.f0, .int .i64 j.f1, .int .i64 j.f2, .int .i64 j.f3] 34)
  have hx4 := hx3 (.cells #[.int .i64 j.f0, .int .i64 j.f1, .int .i64 j.f2, .int .i64 j.f3] 34)
  clear hB2 hx3
  go_enter Try.func97, Try.ntmps97
  go_wp2_with fail
  go_big_region
  all_goals go_wp2
  go_ret
  exact ⟨rfl, zb0 (zbd (Below.refl _ _) _)⟩
theorem in_is (a b c : Int) (v : Bool) (h : decide (b ≤ a ∧ a ≤ c) = v) : zcv.f a b c = some v := by
  unfold zcv.f
  subst h
  by_cases h1 : a ≥ b
  · rw [if_pos h1]; simp [show b ≤ a from h1]
  · rw [if_neg h1]; simp [show ¬ b ≤ a from h1]
set_option maxHeartbeats 16000000 in
set_option maxRecDepth 100000 in
theorem ordered_calls (mn : Nat) (ml : Array Value) (em : ∀ args w, (callFunc mn args).run Try.prog w = .ok (.enter mn args) w) (l0 : List TaskT) (A : Option Addr) (c : Nat) (js : List JobT) (hjl : js.length ≤ 1000000000) (hll : l0.length ≤ 1000000000) (w : World) (hm : ∀ (W : World) (a : Int), Below w.heap.size w W → 0 ≤ a → a < (l0.length : Int) → Calls Try.prog mn (#[.int .i64 a] ++ ml) W fun e w' => e = .returned (.int .i64 (trd l0 a).f0) ∧ ∃ q, w' = W.drewN q) (hr : Kd.C k34 w A js.length js) :
    Calls Try.prog 91 #[.slice A js.length c, .int .i64 (l0.length : Int), .func (.func mn) #[] ml] w fun e w' => e = .returned (.bool (ordB l0 js)) ∧ Below w.heap.size w w' := by
  have HMM := za.mk hm
  have HR := za.mk hr
  clear hm hr
  go_enter Try.func91, Try.ntmps91
  go_wp2
  go_loopg [11] js.length (fun gg v11 wr => ∃ i : Nat, v11 = .int .i64 i ∧ i ≤ js.length ∧ js.length - i ≤ gg ∧ za (Below w.heap.size w wr) ∧ za (allB (ordOk l0 js) i = true))
  case atStart => exact ⟨0, by go_num, by omega, by omega, ⟨Below.refl _ _⟩, ⟨rfl⟩⟩
  case round =>
    obtain ⟨i, rfl, hil, hgg, BW, OK⟩ := hrel
    by_cases hlt : i < js.length
    · have hltz : (i : Int) < (js.length : Int) := by omega
      obtain ⟨ad, ea, hx0, hx1, hx2, hx3⟩ := zda HR.out (i : Int) (by omega) hltz
      cases ea
      have hy0 := (BW.out.cell (World.block_lt_of_cell? w _ hx0)).trans hx0
      have hy1 := (BW.out.cell (World.block_lt_of_cell? w _ hx1)).trans hx1
      have hy2 := (BW.out.cell (World.block_lt_of_cell? w _ hx2)).trans hx2
      have hy3 := (BW.out.cell (World.block_lt_of_cell? w _ hx3)).trans hx3
      clear hx0 hx1 hx2 hx3
      rw [Int.toNat_natCast] at hy0 hy1 hy2 hy3
      obtain ⟨j, hj⟩ : ∃ j : JobT, j = jrd js i := ⟨_, rfl⟩
      rw [show ze js (i : Int) = j from hj.symm] at hy0 hy1 hy2 hy3
      have HJ := za.mk hj
      clear hj
      have hw : IntKind.i64.wrap ((l0.length : Int) - 1) = (l0.length : Int) - 1 := by rw [IntKind.wrap_i64]; omega
      have HW := za.mk hw
      clear hw
      have no : ordOk l0 js i = false → ordB l0 js = false := fun h => by unfold ordB; rw [allB_false h _ hlt]; rfl
      have NO := za.mk no
      clear no
      cases q1 : inRng l0 j with
      | false =>
        have H1 := za.mk (in_is j.f0 0 ((l0.length : Int) - 1) false q1)
        have F := za.mk (NO.out (by unfold ordOk; rw [← HJ.out, q1]; rfl))
        clear q1
        go_wp2_with fail
        have hw := HW.out
        go_quiet ((first | (go_at_call 103; (with_reducible refine (zcv.calls _ _ _ _ _ H1.out).mono ?_); rintro e w' ⟨rfl, ⟨nd, rfl⟩⟩; (try first | exact ⟨rfl, _, World.drewN_drewN _ _ _⟩ | exact ⟨rfl, _, Eq.trans (World.drewN_drewN _ _ _) (congrArg (World.drewN _) (Nat.add_assoc _ _ _))⟩ | exact ⟨rfl, _, rfl⟩))))
        clear hw
        go_wp2
        go_ret
        exact ⟨by rw [F.out]; rfl, by first | exact zbc (zbd BW.out _) _ | exact zb0 (zbd BW.out _) | exact zbd BW.out _⟩
      | true =>
        have H1 := za.mk (in_is j.f0 0 ((l0.length : Int) - 1) true q1)
        have Q1 := za.mk q1
        clear q1
        cases q2 : relOk j with
        | false =>
          have H2 := za.mk (in_is j.f1 0 119 false q2)
          have F := za.mk (NO.out (by unfold ordOk; rw [← HJ.out, q2, Bool.and_false]; rfl))
          clear q2
          go_wp2_with fail
          have hw := HW.out
          go_quiet ((first | (go_at_call 103; (with_reducible refine (zcv.calls _ _ _ _ _ H1.out).mono ?_); rintro e w' ⟨rfl, ⟨nd, rfl⟩⟩; (try first | exact ⟨rfl, _, World.drewN_drewN _ _ _⟩ | exact ⟨rfl, _, Eq.trans (World.drewN_drewN _ _ _) (congrArg (World.drewN _) (Nat.add_assoc _ _ _))⟩ | exact ⟨rfl, _, rfl⟩)) | (go_at_call 103; (with_reducible refine (zcv.calls _ _ _ _ _ H2.out).mono ?_); rintro e w' ⟨rfl, ⟨nd, rfl⟩⟩; (try first | exact ⟨rfl, _, World.drewN_drewN _ _ _⟩ | exact ⟨rfl, _, Eq.trans (World.drewN_drewN _ _ _) (congrArg (World.drewN _) (Nat.add_assoc _ _ _))⟩ | exact ⟨rfl, _, rfl⟩))))
          clear hw
          go_wp2
          go_ret
          exact ⟨by rw [F.out]; rfl, by first | exact zbc (zbd BW.out _) _ | exact zb0 (zbd BW.out _) | exact zbd BW.out _⟩
        | true =>
          have H2 := za.mk (in_is j.f1 0 119 true q2)
          have Q2 := za.mk q2
          clear q2
          have hr1 := of_decide_eq_true Q1.out
          have HM := za.mk (fun (W : World) (hb : Below w.heap.size w W) => HMM.out W j.f0 hb (by omega) (by omega))
          clear hr1
          obtain ⟨z, hz⟩ : ∃ z, (trd l0 j.f0).f0 = z := ⟨_, rfl⟩
          rw [hz] at HM
          have HZ := za.mk hz
          clear hz
          cases q3 : exOk l0 j with
          | false =>
            have H3 := za.mk (in_is j.f3 1 z false (by have := q3; unfold exOk at this; rw [HZ.out] at this; exact this))
            have F := za.mk (NO.out (by unfold ordOk; rw [← HJ.out, q3, Bool.and_false]; rfl))
            clear q3
            go_wp2_with fail
            have hw := HW.out
            go_quiet ((first | (go_at_call 103; (with_reducible refine (zcv.calls _ _ _ _ _ H1.out).mono ?_); rintro e w' ⟨rfl, ⟨nd, rfl⟩⟩; (try first | exact ⟨rfl, _, World.drewN_drewN _ _ _⟩ | exact ⟨rfl, _, Eq.trans (World.drewN_drewN _ _ _) (congrArg (World.drewN _) (Nat.add_assoc _ _ _))⟩ | exact ⟨rfl, _, rfl⟩)) | (go_at_call 103; (with_reducible refine (zcv.calls _ _ _ _ _ H2.out).mono ?_); rintro e w' ⟨rfl, ⟨nd, rfl⟩⟩; (try first | exact ⟨rfl, _, World.drewN_drewN _ _ _⟩ | exact ⟨rfl, _, Eq.trans (World.drewN_drewN _ _ _) (congrArg (World.drewN _) (Nat.add_assoc _ _ _))⟩ | exact ⟨rfl, _, rfl⟩)) | (go_at_call 103; (with_reducible refine (zcv.calls _ _ _ _ _ H3.out).mono ?_); rintro e w' ⟨rfl, ⟨nd, rfl⟩⟩; (try first | exact ⟨rfl, _, World.drewN_drewN _ _ _⟩ | exact ⟨rfl, _, Eq.trans (World.drewN_drewN _ _ _) (congrArg (World.drewN _) (Nat.add_assoc _ _ _))⟩ | exact ⟨rfl, _, rfl⟩)) | (go_at_fn mn; refine Calls.quiet_of (HM.out _ (by first | exact zbc (zbd BW.out _) _ | exact zbd BW.out _)))))
            clear hw
            go_wp2
            go_ret
            exact ⟨by rw [F.out]; rfl, by first | exact zbc (zbd BW.out _) _ | exact zb0 (zbd BW.out _) | exact zbd BW.out _⟩
          | true =>
            have H3 := za.mk (in_is j.f3 1 z true (by have := q3; unfold exOk at this; rw [HZ.out] at this; exact this))
            have Q3 := za.mk q3
            clear q3
            go_wp2_with fail
            have hw := HW.out
            go_quiet ((first | (go_at_call 103; (with_reducible refine (zcv.calls _ _ _ _ _ H1.out).mono ?_); rintro e w' ⟨rfl, ⟨nd, rfl⟩⟩; (try first | exact ⟨rfl, _, World.drewN_drewN _ _ _⟩ | exact ⟨rfl, _, Eq.trans (World.drewN_drewN _ _ _) (congrArg (World.drewN _) (Nat.add_assoc _ _ _))⟩ | exact ⟨rfl, _, rfl⟩)) | (go_at_call 103; (with_reducible refine (zcv.calls _ _ _ _ _ H2.out).mono ?_); rintro e w' ⟨rfl, ⟨nd, rfl⟩⟩; (try first | exact ⟨rfl, _, World.drewN_drewN _ _ _⟩ | exact ⟨rfl, _, Eq.trans (World.drewN_drewN _ _ _) (congrArg (World.drewN _) (Nat.add_assoc _ _ _))⟩ | exact ⟨rfl, _, rfl⟩)) | (go_at_call 103; (with_reducible refine (zcv.calls _ _ _ _ _ H3.out).mono ?_); rintro e w' ⟨rfl, ⟨nd, rfl⟩⟩; (try first | exact ⟨rfl, _, World.drewN_drewN _ _ _⟩ | exact ⟨rfl, _, Eq.trans (World.drewN_drewN _ _ _) (congrArg (World.drewN _) (Nat.add_assoc _ _ _))⟩ | exact ⟨rfl, _, rfl⟩)) | (go_at_fn mn; refine Calls.quiet_of (HM.out _ (by first | exact zbc (zbd BW.out _) _ | exact zbd BW.out _)))))
            clear hw
            go_wp2_with fail
            have B6 := za.mk (zbc (zbd BW.out (.cells #[.int .i64 j.f0, .int .i64 j.f1, .int .i64 j.f2, .int .i64 j.f3] 34)) nq)
            have cj0 : ((wr.alloc (.cells #[.int .i64 j.f0, .int .i64 j.f1, .int .i64 j.f2, .int .i64 j.f3] 34)).drewN nq).cell? ⟨wr.heap.size, 0, none⟩ = some (.int .i64 j.f0) := by simp
            have cj1 : ((wr.alloc (.cells #[.int .i64 j.f0, .int .i64 j.f1, .int .i64 j.f2, .int .i64 j.f3] 34)).drewN nq).cell? ⟨wr.heap.size, 1, none⟩ = some (.int .i64 j.f1) := by simp
            clear hy0 hy1 hy2 hy3
            generalize ((wr.alloc (.cells #[.int .i64 j.f0, .int .i64 j.f1, .int .i64 j.f2, .int .i64 j.f3] 34)).drewN nq) = w6 at B6 cj0 cj1 ⊢
            rcases Nat.eq_zero_or_pos i with h0 | h0
            · subst h0
              have ONE := za.mk (show ordOk l0 js 0 = true by unfold ordOk; rw [← HJ.out, Q1.out, Q2.out, Q3.out]; rfl)
              go_quiet (fail)
              go_wp2
              go_roundg (js.length - (0 + 1))
              case measure => omega
              case rel => exact ⟨0 + 1, by go_num, by omega, by omega, ⟨zbc B6.out _⟩, ⟨by rw [allB, OK.out, ONE.out]; rfl⟩⟩
            · obtain ⟨k, hk⟩ : ∃ k : Nat, k = i - 1 := ⟨_, rfl⟩
              have hkl : (k : Int) < (js.length : Int) := by omega
              have hk0 : (0 : Int) ≤ (k : Int) := by omega
              have hi0 : (0 : Int) < (i : Int) := by omega
              obtain ⟨ad2, ea2, hp0, hp1, hp2, hp3⟩ := zda HR.out (k : Int) (by omega) hkl
              cases ea2
              have hp0 := (B6.out.cell (World.block_lt_of_cell? w _ hp0)).trans hp0
              have hp1 := (B6.out.cell (World.block_lt_of_cell? w _ hp1)).trans hp1
              clear hp2 hp3
              rw [Int.toNat_natCast] at hp0 hp1
              obtain ⟨p, hp⟩ : ∃ p : JobT, p = jrd js k := ⟨_, rfl⟩
              rw [show ze js (k : Int) = p from hp.symm] at hp0 hp1
              have HPK : za (p = jrd js (i - 1)) := ⟨by rw [hp, hk]⟩
              have hw2 : IntKind.i64.wrap ((i : Int) - 1) = (k : Int) := by rw [IntKind.wrap_i64]; omega
              have HW2 := za.mk hw2
              have Hi0 := za.mk (show decide (i = 0) = false from decide_eq_false (by omega))
              clear hp hw2 hk
              have two : ∀ b, bhd p j = b → ordOk l0 js i = !b := fun b hb => by unfold ordOk; rw [← HJ.out, ← HPK.out, Q1.out, Q2.out, Q3.out, Hi0.out, hb]; simp
              have TWO := za.mk two
              clear two
              by_cases ha : p.f1 > j.f1
              · have F := za.mk (NO.out (TWO.out true (by unfold bhd; rw [decide_eq_true ha]; rfl)))
                have ha1 : decide (p.f1 > j.f1) = true := decide_eq_true ha
                have hw2 := HW2.out
                go_quiet (fail)
                clear hw2
                go_wp2
                go_ret
                exact ⟨by rw [F.out]; rfl, zbc B6.out _⟩
              · have ha1 : decide (p.f1 > j.f1) = false := decide_eq_false ha
                by_cases hb : p.f1 = j.f1
                · by_cases hc : p.f0 ≥ j.f0
                  · have F := za.mk (NO.out (TWO.out true (by unfold bhd; rw [decide_eq_true hb, decide_eq_true hc, Bool.and_self, Bool.or_true])))
                    have hb1 : (p.f1 == j.f1) = true := by simpa using hb
                    have hb2 : decide (p.f1 = j.f1) = true := decide_eq_true hb
                    have hc1 : decide (p.f0 ≥ j.f0) = true := decide_eq_true hc
                    clear hb
                    have hw2 := HW2.out
                    go_quiet (fail)
                    clear hw2
                    go_wp2
                    go_ret
                    exact ⟨by rw [F.out]; rfl, zbc B6.out _⟩
                  · have ONE := za.mk (TWO.out false (by unfold bhd; rw [decide_eq_false ha, decide_eq_false hc, Bool.and_false]; rfl))
                    have hb1 : (p.f1 == j.f1) = true := by simpa using hb
                    have hb2 : decide (p.f1 = j.f1) = true := decide_eq_true hb
                    have hc1 : decide (p.f0 ≥ j.f0) = false := decide_eq_false hc
                    clear hb
                    have hw2 := HW2.out
                    go_quiet (fail)
                    clear hw2
                    go_wp2
                    go_roundg (js.length - (i + 1))
                    case measure => omega
                    case rel => exact ⟨i + 1, by go_num, by omega, by omega, ⟨zbc B6.out _⟩, ⟨by rw [allB, OK.out, ONE.out]; rfl⟩⟩
                · have ONE := za.mk (TWO.out false (by unfold bhd; rw [decide_eq_false ha, decide_eq_false hb]; rfl))
                  have hb1 : (p.f1 == j.f1) = false := by simpa using hb
                  have hb2 : decide (p.f1 = j.f1) = false := decide_eq_false hb
                  have hw2 := HW2.out
                  go_quiet (fail)
                  clear hw2
                  go_wp2
                  go_roundg (js.length - (i + 1))
                  case measure => omega
                  case rel => exact ⟨i + 1, by go_num, by omega, by omega, ⟨zbc B6.out _⟩, ⟨by rw [allB, OK.out, ONE.out]; rfl⟩⟩
    · have hltz : ¬ (i : Int) < (js.length : Int) := by omega
      go_wp2
      go_ret
      exact ⟨by rw [show i = js.length by omega] at OK; unfold ordB; rw [OK.out]; rfl, BW.out⟩
theorem spc_law : Go.Maps.Keyed Try.prog 3 := Go.Maps.int_keyed Try.underlying3
theorem spc_zero (w : World) : (zeroValue 3).run Try.prog w = .ok (.int .i64 0) w := by kernel_rfl
def lastOf (js : List JobT) : Nat → Int → Option Int
  | 0, _ => none
  | i + 1, k => if (jrd js i).f0 = k then some (jrd js i).f1 else lastOf js i k
def spcOk (l : List TaskT) (js : List JobT) (i : Nat) : Bool :=
  match lastOf js i (jrd js i).f0 with
  | none => true
  | some b => !(decide (wrap64 ((jrd js i).f1 - b) < (trd l (jrd js i).f0).f2))
def spcB (l : List TaskT) (js : List JobT) : Bool := allB (spcOk l js) js.length
def Ds (js : List JobT) : Nat → DataW Unit
  | 0 => .map []
  | i + 1 => (Ds js i).put (.int .i64 (jrd js i).f0) (.lit (.int .i64 (jrd js i).f1))
theorem map_below {w w1 : World} {P : Program} {k : TypeId} {R : Value → Option (DataW Unit × List MemPlace)} {b n : Nat} {D : DataW Unit} (h : w.ownsMap P k R b n D) (hb : Below w.heap.size w w1) : w1.ownsMap P k R b n D := by
  obtain ⟨es, clock, h1, h2⟩ := h
  exact ⟨es, clock, (hb.block b (Array.getElem?_eq_some_iff.1 h1).1).trans h1, h2⟩
theorem Ds_map (js : List JobT) : ∀ i, Go.Maps.IsMap (Ds js i)
  | 0 => Go.Maps.isMap_empty
  | i + 1 => (Ds_map js i).put _ _
theorem Ds_has (js : List JobT) (k : Int) : ∀ i, Go.Maps.has (Ds js i) (.int .i64 k) = (lastOf js i k).isSome
  | 0 => rfl
  | i + 1 => by
    rw [Ds, lastOf]
    by_cases h : (jrd js i).f0 = k
    · rw [if_pos h, h, Go.Maps.has_put_same (Ds_map js i) (show Go.WideAt.IsKeyLit (.int .i64 k) from trivial)]; rfl
    · rw [if_neg h, Go.Maps.has_put_other (fun e => h (by injection e with _ e; exact e.symm)), Ds_has js k i]
theorem Ds_at (js : List JobT) (k b : Int) (z : DataW Unit) : ∀ i, lastOf js i k = some b → (Ds js i).atKey (.int .i64 k) z = .lit (.int .i64 b)
  | 0, h => by simp [lastOf] at h
  | i + 1, h => by
    rw [lastOf] at h
    rw [Ds]
    by_cases e : (jrd js i).f0 = k
    · rw [if_pos e] at h
      rw [e, Go.Maps.atKey_put_same (Ds_map js i) (show Go.WideAt.IsKeyLit (.int .i64 k) from trivial), Option.some.inj h]
    · rw [if_neg e] at h
      rw [Go.Maps.atKey_put_other (fun e2 => e (by injection e2 with _ e2; exact e2.symm)), Ds_at js k b z i h]
set_option maxHeartbeats 16000000 in
set_option maxRecDepth 100000 in
theorem spaced_calls (tn mn : Nat) (ml : Array Value) (et : ∀ args w, (callFunc tn args).run Try.prog w = .ok (.enter tn args) w) (em : ∀ args w, (callFunc mn args).run Try.prog w = .ok (.enter mn args) w) (hne : tn ≠ mn) (l0 : List TaskT) (A : Option Addr) (c : Nat) (js : List JobT) (hjl : js.length ≤ 1000000000)
    (hid : ∀ i, i < js.length → 0 ≤ (jrd js i).f0 ∧ (jrd js i).f0 < (l0.length : Int)) (hrel : ∀ i, i < js.length → 0 ≤ (jrd js i).f1 ∧ (jrd js i).f1 ≤ 119) (hll : l0.length ≤ 1000000000) (w : World)
    (ht : ∀ (W : World) (j : JobT), Below w.heap.size w W → Calls Try.prog tn #[.agg #[.int .i64 j.f0, .int .i64 j.f1, .int .i64 j.f2, .int .i64 j.f3]] W fun e w' => e = .returned (.int .i64 j.f1) ∧ Below W.heap.size W w')
    (hm : ∀ (W : World) (a : Int), Below w.heap.size w W → 0 ≤ a → a < (l0.length : Int) → Calls Try.prog mn (#[.int .i64 a] ++ ml) W fun e w' => e = .returned (.int .i64 (trd l0 a).f2) ∧ ∃ q, w' = W.drewN q) (hr : Kd.C k34 w A js.length js) :
    Calls Try.prog 93 #[.slice A js.length c, .func (.func tn) #[] #[], .func (.func mn) #[] ml] w fun e w' => e = .returned (.bool (spcB l0 js)) ∧ Below w.heap.size w w' := by
  have HT := za.mk ht
  have HMM := za.mk hm
  have HR := za.mk hr
  have HID := za.mk hid
  have HRL := za.mk hrel
  have hmm := @run_makeMap Try.prog
  clear ht hm hr hid hrel
  go_enter Try.func93, Try.ntmps93
  go_wp2
  go_loopg [16] js.length (fun gg v16 wr => ∃ i : Nat, v16 = .int .i64 i ∧ i ≤ js.length ∧ js.length - i ≤ gg ∧ za (Below w.heap.size w wr) ∧ za (wr.ownsMap Try.prog 3 (plainElem Try.prog 3) w.heap.size i (Ds js i)) ∧ za (allB (spcOk l0 js) i = true))
  case atStart => exact ⟨0, by go_num, by omega, by omega, ⟨(Below.refl _ _).alloc (Nat.le_refl _) _⟩, ⟨World.ownsMap_made _ _ _ _⟩, ⟨rfl⟩⟩
  case round =>
    obtain ⟨i, rfl, hil, hgg, BW, OM, OK⟩ := hrel
    by_cases hlt : i < js.length
    · have hltz : (i : Int) < (js.length : Int) := by omega
      obtain ⟨ad, ea, hx0, hx1, hx2, hx3⟩ := zda HR.out (i : Int) (by omega) hltz
      cases ea
      have hy0 := (BW.out.cell (World.block_lt_of_cell? w _ hx0)).trans hx0
      have hy1 := (BW.out.cell (World.block_lt_of_cell? w _ hx1)).trans hx1
      have hy2 := (BW.out.cell (World.block_lt_of_cell? w _ hx2)).trans hx2
      have hy3 := (BW.out.cell (World.block_lt_of_cell? w _ hx3)).trans hx3
      clear hx0 hx1 hx2 hx3
      rw [Int.toNat_natCast] at hy0 hy1 hy2 hy3
      have hb0 := HID.out i hlt
      have hb1 := HRL.out i hlt
      obtain ⟨j, hj⟩ : ∃ j : JobT, j = jrd js i := ⟨_, rfl⟩
      rw [show ze js (i : Int) = j from hj.symm] at hy0 hy1 hy2 hy3
      rw [← hj] at hb0 hb1
      have HJ := za.mk hj
      clear hj
      have WF := za.mk (show (Lit.int .i64 j.f0).wf = true from WalkArith.wf_i64 (by omega))
      have WF1 := za.mk (show (Lit.int .i64 j.f1).wf = true from WalkArith.wf_i64 (by omega))
      have KEY := za.mk (Go.Maps.keyOf_int_mk Try.underlying3 WF.out)
      obtain ⟨z, hz⟩ : ∃ z, (trd l0 j.f0).f2 = z := ⟨_, rfl⟩
      have HM := za.mk (fun (W : World) (hb : Below w.heap.size w W) => HMM.out W j.f0 hb hb0.1 hb0.2)
      rw [hz] at HM
      have HZ := za.mk hz
      clear hz hb0 hb1
      have no : spcOk l0 js i = false → spcB l0 js = false := fun h => by unfold spcB; exact allB_false h _ hlt
      have NO := za.mk no
      clear no
      cases hl : lastOf js i j.f0 with
      | none =>
        have HH := za.mk (show Go.Maps.has (Ds js i) (.int .i64 j.f0) = false by rw [Ds_has, hl]; rfl)
        have ONE := za.mk (show spcOk l0 js i = true by unfold spcOk; rw [← HJ.out, hl])
        clear hl
        go_wp2_with (first | (go_at_fn tn; refine (HT.out _ j (zbd BW.out _)).mono ?_; rintro e w2 ⟨rfl, hb2⟩; have B2 := za.mk (zo (zbd BW.out _) hb2); have O2 := za.mk (map_below (OM.out.alloc _) hb2); have j0 : w2.cell? ⟨wr.heap.size, 0, none⟩ = some (.int .i64 j.f0) := (hb2.cell (p := ⟨wr.heap.size, 0, none⟩) (by simp)).trans (by simp); clear hb2) | (at_lookup; refine wpList_lookup_own_ok_int _ rfl _ _ 122 rfl 3 3 .i64 spc_law Try.underlying122 Try.underlying3 (spc_zero _) w.heap.size i _ rfl O2.out _ _ rfl KEY.out ?_; intro c hat hwc; rw [HH.out]; clear hat hwc) | (at_mapUpdate; refine wpList_mapUpdate_own _ rfl _ _ _ 122 rfl 3 3 spc_law Try.underlying122 _ w.heap.size i _ rfl O2.out (by unfold maxLen; omega) _ _ _ rfl rfl KEY.out _ [] (plainElem_int Try.underlying3 WF1.out) ?_; intro w4 hown4 hgrow4))
        · have B4 := za.mk ((B2.out).grown hgrow4 (B2.out).size (fun k hk => by cases hk; exact Nat.le_refl _))
          have O4 := za.mk hown4
          clear hown4 hgrow4
          go_wp2
          go_roundg (js.length - (i + 1))
          case measure => omega
          case rel => exact ⟨i + 1, by go_num, by omega, by omega, B4, ⟨by rw [Ds, ← HJ.out]; exact O4.out⟩, ⟨by rw [allB, OK.out, ONE.out]; rfl⟩⟩
      | some b =>
        have HH := za.mk (show Go.Maps.has (Ds js i) (.int .i64 j.f0) = true by rw [Ds_has, hl]; rfl)
        have HA := za.mk (Ds_at js j.f0 b (.lit (.int .i64 0)) i hl)
        by_cases hc : wrap64 (j.f1 - b) < z
        · have F := za.mk (NO.out (by unfold spcOk; rw [← HJ.out, hl]; show (!(decide (wrap64 (j.f1 - b) < (trd l0 j.f0).f2))) = false; rw [HZ.out, decide_eq_true hc]; rfl))
          have hc1 : decide (wrap64 (j.f1 - b) < z) = true := decide_eq_true hc
          clear hl
          go_wp2_with (first | (go_at_fn tn; refine (HT.out _ j (zbd BW.out _)).mono ?_; rintro e w2 ⟨rfl, hb2⟩; have B2 := za.mk (zo (zbd BW.out _) hb2); have O2 := za.mk (map_below (OM.out.alloc _) hb2); have j0 : w2.cell? ⟨wr.heap.size, 0, none⟩ = some (.int .i64 j.f0) := (hb2.cell (p := ⟨wr.heap.size, 0, none⟩) (by simp)).trans (by simp); clear hb2) | (at_lookup; refine wpList_lookup_own_ok_int _ rfl _ _ 122 rfl 3 3 .i64 spc_law Try.underlying122 Try.underlying3 (spc_zero _) w.heap.size i _ rfl O2.out _ _ rfl KEY.out ?_; intro c hat hwc; rw [HH.out]; (obtain rfl : c = b := by (have e := HA.out.symm.trans hat; injection e with e; injection e with _ e; exact e.symm)); clear hat hwc) | (go_at_fn mn; refine (HM.out _ B2.out).mono ?_; rintro e w3 ⟨rfl, ⟨q, rfl⟩⟩))
          go_ret
          exact ⟨by rw [F.out]; rfl, zbc B2.out _⟩
        · have ONE := za.mk (show spcOk l0 js i = true by unfold spcOk; rw [← HJ.out, hl]; show (!(decide (wrap64 (j.f1 - b) < (trd l0 j.f0).f2))) = true; rw [HZ.out, decide_eq_false hc]; rfl)
          have hc1 : decide (wrap64 (j.f1 - b) < z) = false := decide_eq_false hc
          clear hl
          go_wp2_with (first | (go_at_fn tn; refine (HT.out _ j (zbd BW.out _)).mono ?_; rintro e w2 ⟨rfl, hb2⟩; have B2 := za.mk (zo (zbd BW.out _) hb2); have O2 := za.mk (map_below (OM.out.alloc _) hb2); have j0 : w2.cell? ⟨wr.heap.size, 0, none⟩ = some (.int .i64 j.f0) := (hb2.cell (p := ⟨wr.heap.size, 0, none⟩) (by simp)).trans (by simp); clear hb2) | (at_lookup; refine wpList_lookup_own_ok_int _ rfl _ _ 122 rfl 3 3 .i64 spc_law Try.underlying122 Try.underlying3 (spc_zero _) w.heap.size i _ rfl O2.out _ _ rfl KEY.out ?_; intro c hat hwc; rw [HH.out]; (obtain rfl : c = b := by (have e := HA.out.symm.trans hat; injection e with e; injection e with _ e; exact e.symm)); clear hat hwc) | (go_at_fn mn; refine (HM.out _ B2.out).mono ?_; rintro e w3 ⟨rfl, ⟨q, rfl⟩⟩) | (at_mapUpdate; refine wpList_mapUpdate_own _ rfl _ _ _ 122 rfl 3 3 spc_law Try.underlying122 _ w.heap.size i _ rfl (map_below O2.out (zbc (Below.refl _ _) _)) (by unfold maxLen; omega) _ _ _ rfl rfl KEY.out _ [] (plainElem_int Try.underlying3 WF1.out) ?_; intro w4 hown4 hgrow4))
          have B4 := za.mk ((zbc B2.out _).grown hgrow4 (zbc B2.out _).size (fun k hk => by cases hk; exact Nat.le_refl _))
          have O4 := za.mk hown4
          clear hown4 hgrow4
          go_wp2
          go_roundg (js.length - (i + 1))
          case measure => omega
          case rel => exact ⟨i + 1, by go_num, by omega, by omega, B4, ⟨by rw [Ds, ← HJ.out]; exact O4.out⟩, ⟨by rw [allB, OK.out, ONE.out]; rfl⟩⟩
    · have hltz : ¬ (i : Int) < (js.length : Int) := by omega
      go_wp2
      go_ret
      exact ⟨by rw [show i = js.length by omega] at OK; unfold spcB; rw [OK.out]; rfl, BW.out⟩
def idxOf {α : Type} (p : α → Bool) (l : List α) : Int := match l.findIdx? p with
  | some i => (i : Int)
  | none => -1
theorem idxOf_hit {α : Type} (p : α → Bool) (l : List α) (k : Nat) (hk : k < l.length) (hp : p l[k] = true) (hn : ∀ j (h : j < k), p (l[j]'(by omega)) = false) : idxOf p l = (k : Int) := by
  have : l.findIdx? p = some k := by
    rw [List.findIdx?_eq_some_iff_getElem]
    exact ⟨hk, hp, fun j hj => by simp [hn j hj]⟩
  unfold idxOf
  rw [this]
theorem idxOf_miss {α : Type} (p : α → Bool) (l : List α) (hn : ∀ j (h : j < l.length), p l[j] = false) : idxOf p l = -1 := by
  have : l.findIdx? p = none := by
    rw [List.findIdx?_eq_none_iff]
    intro x hx
    obtain ⟨j, hj, rfl⟩ := List.getElem_of_mem hx
    exact hn j hj
  unfold idxOf
  rw [this]
theorem idxOf_any {α : Type} (p : α → Bool) (l : List α) : decide (0 ≤ idxOf p l) = l.any p := by
  unfold idxOf
  cases h : l.findIdx? p with
  | none =>
    rw [List.findIdx?_eq_none_iff] at h
    have : l.any p = false := by
      rw [List.any_eq_false]
      intro x hx
      simp [h x hx]
    rw [this]
    rfl
  | some i =>
    rw [List.findIdx?_eq_some_iff_getElem] at h
    obtain ⟨hi, hp, _⟩ := h
    have : l.any p = true := List.any_eq_true.2 ⟨_, List.getElem_mem hi, hp⟩
    rw [this]
    exact decide_eq_true (show (0 : Int) ≤ (i : Int) by omega)
set_option maxHeartbeats 2000000 in
set_option maxRecDepth 100000 in
theorem idxJob_calls (p : S34 → Bool) (g : Nat) (lb : Array Value) (eg : ∀ args w, (callFunc g args).run Try.prog w = .ok (.enter g args) w) (A : Option Addr) (c : Nat) (l : List S34) (w : World)
    (hp : ∀ (W : World) (x : S34), x ∈ l → Below w.heap.size w W → Calls Try.prog g (#[.agg #[.int .i64 x.f0, .int .i64 x.f1, .int .i64 x.f2, .int .i64 x.f3]] ++ lb) W fun e w' => e = .returned (.bool (p x)) ∧ Below W.heap.size W w')
    (hr : Kd.C k34 w A l.length l) :
    Calls Try.prog 113 #[.slice A l.length c, .func (.func g) #[] lb] w fun e w' => e = .returned (.int .i64 (idxOf p l)) ∧ Below w.heap.size w w' := by
  have hbig := za.mk (Kd.C_max hr)
  have HR := za.mk hr
  have HP := za.mk hp
  clear hr hp
  go_enter Try.func113, Try.ntmps113
  go_wp2
  go_loopg [5, 8] l.length (fun gg _ s8 wr => ∃ kk : Nat, kk ≤ l.length ∧ l.length - kk ≤ gg ∧ s8 = .int .i64 kk ∧ za (Below w.heap.size w wr) ∧ za (∀ j (h : j < kk) (h2 : j < l.length), p l[j] = false))
  case atStart => exact ⟨0, Nat.zero_le _, by omega, rfl, ⟨Below.refl _ w⟩, ⟨fun j hj => absurd hj (Nat.not_lt_zero _)⟩⟩
  case round =>
    obtain ⟨kk, hkk, hg, rfl, BW, N⟩ := hrel
    by_cases hlt : kk < l.length
    · have hltz : (kk : Int) < (l.length : Int) := by omega
      have hb1 := hbig.out
      obtain ⟨ad, ea, hx0, hx1, hx2, hx3⟩ := zda HR.out (kk : Int) (by omega) hltz
      cases ea
      have hy0 := (BW.out.cell (World.block_lt_of_cell? w _ hx0)).trans hx0
      have hy1 := (BW.out.cell (World.block_lt_of_cell? w _ hx1)).trans hx1
      have hy2 := (BW.out.cell (World.block_lt_of_cell? w _ hx2)).trans hx2
      have hy3 := (BW.out.cell (World.block_lt_of_cell? w _ hx3)).trans hx3
      have er : ze l (kk : Int) = l[kk] := by rw [ze, List.getD_eq_getElem?_getD, Int.toNat_natCast, List.getElem?_eq_getElem hlt]; rfl
      rw [er, Int.toNat_natCast] at hy0 hy1 hy2 hy3
      have hcall := HP.out wr l[kk] (List.getElem_mem hlt) BW.out
      generalize hy : l[kk] = y at hy0 hy1 hy2 hy3 hcall
      have Y := za.mk hy
      clear hy hx0 hx1 hx2 hx3 er
      cases hq : p y with
      | true =>
        rw [hq] at hcall
        go_wp2_with (go_at_fn g; refine hcall.mono ?_; rintro e w' ⟨rfl, hb'⟩)
        go_ret
        refine ⟨?_, Below.trans BW.out (hb'.mono BW.out.size)⟩
        rw [idxOf_hit p l kk hlt (by rw [Y.out]; exact hq) (fun j hj => N.out j hj (by omega))]
        rfl
      | false =>
        rw [hq] at hcall
        go_wp2_with (go_at_fn g; refine hcall.mono ?_; rintro e w' ⟨rfl, hb'⟩)
        go_roundg (l.length - (kk + 1))
        case measure => omega
        case rel =>
          refine ⟨kk + 1, by omega, by omega, by go_num, ⟨Below.trans BW.out (hb'.mono BW.out.size)⟩, ⟨fun j hj hj2 => ?_⟩⟩
          by_cases e : j = kk
          · subst e
            rw [Y.out]; exact hq
          · exact N.out j (by omega) hj2
    · have hltz : ¬ (kk : Int) < (l.length : Int) := by omega
      go_wp2
      go_ret
      refine ⟨?_, BW.out⟩
      rw [idxOf_miss p l (fun j hj => N.out j (by omega) hj)]
      rfl
set_option maxHeartbeats 2000000 in
set_option maxRecDepth 100000 in
theorem anyJob_calls (p : S34 → Bool) (g : Nat) (lb : Array Value) (eg : ∀ args w, (callFunc g args).run Try.prog w = .ok (.enter g args) w) (A : Option Addr) (c : Nat) (l : List S34) (w : World)
    (hp : ∀ (W : World) (x : S34), x ∈ l → Below w.heap.size w W → Calls Try.prog g (#[.agg #[.int .i64 x.f0, .int .i64 x.f1, .int .i64 x.f2, .int .i64 x.f3]] ++ lb) W fun e w' => e = .returned (.bool (p x)) ∧ Below W.heap.size W w')
    (hr : Kd.C k34 w A l.length l) :
    Calls Try.prog 96 #[.slice A l.length c, .func (.func g) #[] lb] w fun e w' => e = .returned (.bool (l.any p)) ∧ Below w.heap.size w w' := by
  have Y := za.mk (idxOf_any p l)
  have h := za.mk (fun W (hW : W = w) => idxJob_calls p g lb eg A c l W (by subst hW; exact hp) (by subst hW; exact hr))
  clear hp hr eg
  go_enter Try.func96, Try.ntmps96
  go_wp2_with (go_at_call 113; refine (h.out _ rfl).mono ?_; rintro e w' ⟨rfl, hb'⟩)
  go_ret
  exact ⟨by rw [← Y.out]; rfl, hb'⟩
set_option maxHeartbeats 2000000 in
set_option maxRecDepth 100000 in
theorem idxTask_calls (p : S88 → Bool) (g : Nat) (lb : Array Value) (eg : ∀ args w, (callFunc g args).run Try.prog w = .ok (.enter g args) w) (A : Option Addr) (c : Nat) (l : List S88) (w : World)
    (hp : ∀ (W : World) (x : S88), Below w.heap.size w W → Calls Try.prog g (#[.agg #[.int .i64 x.f0, .int .i64 x.f1, .int .i64 x.f2]] ++ lb) W fun e w' => e = .returned (.bool (p x)) ∧ Below W.heap.size W w')
    (hr : Kd.C k88 w A l.length l) :
    Calls Try.prog 115 #[.slice A l.length c, .func (.func g) #[] lb] w fun e w' => e = .returned (.int .i64 (idxOf p l)) ∧ Below w.heap.size w w' := by
  have hbig := za.mk (Kd.C_max hr)
  have HR := za.mk hr
  have HP := za.mk hp
  clear hr hp
  go_enter Try.func115, Try.ntmps115
  go_wp2
  go_loopg [5, 8] l.length (fun gg _ s8 wr => ∃ kk : Nat, kk ≤ l.length ∧ l.length - kk ≤ gg ∧ s8 = .int .i64 kk ∧ za (Below w.heap.size w wr) ∧ za (∀ j (h : j < kk) (h2 : j < l.length), p l[j] = false))
  case atStart => exact ⟨0, Nat.zero_le _, by omega, rfl, ⟨Below.refl _ w⟩, ⟨fun j hj => absurd hj (Nat.not_lt_zero _)⟩⟩
  case round =>
    obtain ⟨kk, hkk, hg, rfl, BW, N⟩ := hrel
    by_cases hlt : kk < l.length
    · have hltz : (kk : Int) < (l.length : Int) := by omega
      have hb1 := hbig.out
      obtain ⟨ad, ea, hx0, hx1, hx2⟩ := zds HR.out (kk : Int) (by omega) hltz
      cases ea
      have hy0 := (BW.out.cell (World.block_lt_of_cell? w _ hx0)).trans hx0
      have hy1 := (BW.out.cell (World.block_lt_of_cell? w _ hx1)).trans hx1
      have hy2 := (BW.out.cell (World.block_lt_of_cell? w _ hx2)).trans hx2
      have er : zl l (kk : Int) = l[kk] := by rw [zl, List.getD_eq_getElem?_getD, Int.toNat_natCast, List.getElem?_eq_getElem hlt]; rfl
      rw [er, Int.toNat_natCast] at hy0 hy1 hy2
      have hcall := HP.out wr l[kk] BW.out
      generalize hy : l[kk] = y at hy0 hy1 hy2 hcall
      have Y := za.mk hy
      clear hy hx0 hx1 hx2 er
      cases hq : p y with
      | true =>
        rw [hq] at hcall
        go_wp2_with (go_at_fn g; refine hcall.mono ?_; rintro e w' ⟨rfl, hb'⟩)
        go_ret
        refine ⟨?_, Below.trans BW.out (hb'.mono BW.out.size)⟩
        rw [idxOf_hit p l kk hlt (by rw [Y.out]; exact hq) (fun j hj => N.out j hj (by omega))]
        rfl
      | false =>
        rw [hq] at hcall
        go_wp2_with (go_at_fn g; refine hcall.mono ?_; rintro e w' ⟨rfl, hb'⟩)
        go_roundg (l.length - (kk + 1))
        case measure => omega
        case rel =>
          refine ⟨kk + 1, by omega, by omega, by go_num, ⟨Below.trans BW.out (hb'.mono BW.out.size)⟩, ⟨fun j hj hj2 => ?_⟩⟩
          by_cases e : j = kk
          · subst e
            rw [Y.out]; exact hq
          · exact N.out j (by omega) hj2
    · have hltz : ¬ (kk : Int) < (l.length : Int) := by omega
      go_wp2
      go_ret
      refine ⟨?_, BW.out⟩
      rw [idxOf_miss p l (fun j hj => N.out j (by omega) hj)]
      rfl
set_option maxHeartbeats 2000000 in
set_option maxRecDepth 100000 in
theorem anyTask_calls (p : S88 → Bool) (g : Nat) (lb : Array Value) (eg : ∀ args w, (callFunc g args).run Try.prog w = .ok (.enter g args) w) (A : Option Addr) (c : Nat) (l : List S88) (w : World)
    (hp : ∀ (W : World) (x : S88), Below w.heap.size w W → Calls Try.prog g (#[.agg #[.int .i64 x.f0, .int .i64 x.f1, .int .i64 x.f2]] ++ lb) W fun e w' => e = .returned (.bool (p x)) ∧ Below W.heap.size W w')
    (hr : Kd.C k88 w A l.length l) :
    Calls Try.prog 104 #[.slice A l.length c, .func (.func g) #[] lb] w fun e w' => e = .returned (.bool (l.any p)) ∧ Below w.heap.size w w' := by
  have Y := za.mk (idxOf_any p l)
  have h := za.mk (fun W (hW : W = w) => idxTask_calls p g lb eg A c l W (by subst hW; exact hp) (by subst hW; exact hr))
  clear hp hr eg
  go_enter Try.func104, Try.ntmps104
  go_wp2_with (go_at_call 115; refine (h.out _ rfl).mono ?_; rintro e w' ⟨rfl, hb'⟩)
  go_ret
  exact ⟨by rw [← Y.out]; rfl, hb'⟩
def zcl.f (a0_0 : Int) (a0_1 : Int) (a0_2 : Int) : Option (Bool) := (zcv.f a0_0 1 8).bind fun t289 => (if t289 = true then ((zcv.f a0_1 a0_0 a0_2).bind fun t290 => (if t290 = true then (some (decide (a0_2 ≤ 12))) else (some false))) else (some false))
set_option maxHeartbeats 8000000 in
set_option maxRecDepth 100000 in
theorem zcl.calls (a0_0 : Int) (a0_1 : Int) (a0_2 : Int) (r : Bool) (w : World) (h : zcl.f a0_0 a0_1 a0_2 = some r) :
  Calls Try.prog 59 #[.agg #[.int .i64 a0_0, .int .i64 a0_1, .int .i64 a0_2]] w fun e w' => e = .returned (.bool r) ∧ Below w.heap.size w w' := by
 have hu88 := Try.underlying88
 have HB := za.mk (Below.refl w.heap.size w)
 have H : ((zcv.f a0_0 1 8).bind fun t289 => (if t289 = true then ((zcv.f a0_1 a0_0 a0_2).bind fun t290 => (if t290 = true then (some (decide (a0_2 ≤ 12))) else (some false))) else (some false))) = some r := h
 clear h
 replace H := Option.bind_eq_some_iff.mp H
 obtain ⟨t289, A20, H⟩ := H
 replace H : (if t289 = true then ((zcv.f a0_1 a0_0 a0_2).bind fun t290 => (if t290 = true then (some (decide (a0_2 ≤ 12))) else (some false))) else (some false)) = some r := H
 have A2 := za.mk A20
 clear A20
 by_cases c3 : t289 = true
 ·subst c3
  have H1 : ((zcv.f a0_1 a0_0 a0_2).bind fun t290 => (if t290 = true then (some (decide (a0_2 ≤ 12))) else (some false))) = some r := by rw [if_pos rfl] at H; exact H
  clear H
  have H := H1
  clear H1
  replace H := Option.bind_eq_some_iff.mp H
  obtain ⟨t290, A40, H⟩ := H
  replace H : (if t290 = true then (some (decide (a0_2 ≤ 12))) else (some false)) = some r := H
  have A4 := za.mk A40
  clear A40
  by_cases c5 : t290 = true
  ·subst c5
   have H1 : (some (decide (a0_2 ≤ 12))) = some r := by rw [if_pos rfl] at H; exact H
   clear H
   have H := H1
   clear H1
   obtain rfl := Option.some.inj H
   go_enter Try.func59, Try.ntmps59
   go_wp2_with (first | ((with_reducible refine zbj (N := 1) rfl ?_); refine zbr ?hg (N := 1) ?hd (cs := #[.int .i64 a0_0, .int .i64 a0_1, .int .i64 a0_2]) (t := 88) ?hr ?_; (case hd => rfl); (case hg => rfl); (case hr => first | (go_simp; done) | (go_simp; rfl)); intro gb288 hg w6 hbox hb; have n0_ := za.mk (zo (Zq1 HB.out) hb); have n1_ := za.mk (hbox); have n2_ := za.mk ((by rw [hg]; exact (zu (Zq1 HB.out)) : w.heap.size ≤ gb288)); have n3_ := za.mk ((by rw [hg]; exact (zu (Zq1 HB.out)) : w.heap.size ≤ gb288)); clear HB; have HB := n0_; have BK288 := n1_; have GW288 := n2_; have GE288 := n3_; clear n0_ n1_ n2_ n3_; clear hb hbox hg; have hcz7_0 : w6.cell? ⟨gb288, 0, none⟩ = some (.int .i64 a0_0) := (zg BK288.out 0).trans rfl; have hcz7_1 : w6.cell? ⟨gb288, 1, none⟩ = some (.int .i64 a0_1) := (zg BK288.out 1).trans rfl; have hcz7_2 : w6.cell? ⟨gb288, 2, none⟩ = some (.int .i64 a0_2) := (zg BK288.out 2).trans rfl; have hfz7_0 := zf BK288.out 0; have hfz7_1 := zf BK288.out 1; have hfz7_2 := zf BK288.out 2) | ((with_reducible refine zba (f := 103) rfl ?_); refine zbx (some 5) rfl rfl Try.func103 (by kernel_rfl) rfl #[.int .i64 a0_0, .int .i64 1, .int .i64 8] rfl Zmt ?_; (with_reducible refine (zcv.calls a0_0 1 8 true _ A2.out).mono ?_); rintro e w' ⟨rfl, ⟨nd, rfl⟩⟩; refine ⟨_, rfl, ?_⟩) | (go_at_call 103; (with_reducible refine (zcv.calls a0_1 a0_0 a0_2 true _ A4.out).mono ?_); rintro e w' ⟨rfl, ⟨nd, rfl⟩⟩))
   go_ret
   exact ⟨by first | rfl | (simp [zw, zx] <;> rfl) | (simp [*, zw, zx] <;> rfl), Zq3 HB.out GE288.out⟩
  ·replace c5 := Bool.eq_false_iff.mpr c5
   subst c5
   have H1 : (some false) = some r := by rw [if_neg (show ¬ (false = true) by decide)] at H; exact H
   clear H
   have H := H1
   clear H1
   obtain rfl := Option.some.inj H
   go_enter Try.func59, Try.ntmps59
   go_wp2_with (first | ((with_reducible refine zbj (N := 1) rfl ?_); refine zbr ?hg (N := 1) ?hd (cs := #[.int .i64 a0_0, .int .i64 a0_1, .int .i64 a0_2]) (t := 88) ?hr ?_; (case hd => rfl); (case hg => rfl); (case hr => first | (go_simp; done) | (go_simp; rfl)); intro gb288 hg w8 hbox hb; have n0_ := za.mk (zo (Zq1 HB.out) hb); have n1_ := za.mk (hbox); have n2_ := za.mk ((by rw [hg]; exact (zu (Zq1 HB.out)) : w.heap.size ≤ gb288)); have n3_ := za.mk ((by rw [hg]; exact (zu (Zq1 HB.out)) : w.heap.size ≤ gb288)); clear HB; have HB := n0_; have BK288 := n1_; have GW288 := n2_; have GE288 := n3_; clear n0_ n1_ n2_ n3_; clear hb hbox hg; have hcz9_0 : w8.cell? ⟨gb288, 0, none⟩ = some (.int .i64 a0_0) := (zg BK288.out 0).trans rfl; have hcz9_1 : w8.cell? ⟨gb288, 1, none⟩ = some (.int .i64 a0_1) := (zg BK288.out 1).trans rfl; have hcz9_2 : w8.cell? ⟨gb288, 2, none⟩ = some (.int .i64 a0_2) := (zg BK288.out 2).trans rfl; have hfz9_0 := zf BK288.out 0; have hfz9_1 := zf BK288.out 1; have hfz9_2 := zf BK288.out 2) | ((with_reducible refine zba (f := 103) rfl ?_); refine zbx (some 5) rfl rfl Try.func103 (by kernel_rfl) rfl #[.int .i64 a0_0, .int .i64 1, .int .i64 8] rfl Zmt ?_; (with_reducible refine (zcv.calls a0_0 1 8 true _ A2.out).mono ?_); rintro e w' ⟨rfl, ⟨nd, rfl⟩⟩; refine ⟨_, rfl, ?_⟩) | (go_at_call 103; (with_reducible refine (zcv.calls a0_1 a0_0 a0_2 false _ A4.out).mono ?_); rintro e w' ⟨rfl, ⟨nd, rfl⟩⟩))
   go_ret
   exact ⟨by first | rfl | (simp [zw, zx] <;> rfl) | (simp [*, zw, zx] <;> rfl), Zq3 HB.out GE288.out⟩
 ·replace c3 := Bool.eq_false_iff.mpr c3
  subst c3
  have H1 : (some false) = some r := by rw [if_neg (show ¬ (false = true) by decide)] at H; exact H
  clear H
  have H := H1
  clear H1
  obtain rfl := Option.some.inj H
  go_enter Try.func59, Try.ntmps59
  go_wp2_with (first | ((with_reducible refine zbj (N := 1) rfl ?_); refine zbr ?hg (N := 1) ?hd (cs := #[.int .i64 a0_0, .int .i64 a0_1, .int .i64 a0_2]) (t := 88) ?hr ?_; (case hd => rfl); (case hg => rfl); (case hr => first | (go_simp; done) | (go_simp; rfl)); intro gb288 hg w10 hbox hb; have n0_ := za.mk (zo (Zq1 HB.out) hb); have n1_ := za.mk (hbox); have n2_ := za.mk ((by rw [hg]; exact (zu (Zq1 HB.out)) : w.heap.size ≤ gb288)); have n3_ := za.mk ((by rw [hg]; exact (zu (Zq1 HB.out)) : w.heap.size ≤ gb288)); clear HB; have HB := n0_; have BK288 := n1_; have GW288 := n2_; have GE288 := n3_; clear n0_ n1_ n2_ n3_; clear hb hbox hg; have hcz11_0 : w10.cell? ⟨gb288, 0, none⟩ = some (.int .i64 a0_0) := (zg BK288.out 0).trans rfl; have hcz11_1 : w10.cell? ⟨gb288, 1, none⟩ = some (.int .i64 a0_1) := (zg BK288.out 1).trans rfl; have hcz11_2 : w10.cell? ⟨gb288, 2, none⟩ = some (.int .i64 a0_2) := (zg BK288.out 2).trans rfl; have hfz11_0 := zf BK288.out 0; have hfz11_1 := zf BK288.out 1; have hfz11_2 := zf BK288.out 2) | ((with_reducible refine zba (f := 103) rfl ?_); refine zbx (some 5) rfl rfl Try.func103 (by kernel_rfl) rfl #[.int .i64 a0_0, .int .i64 1, .int .i64 8] rfl Zmt ?_; (with_reducible refine (zcv.calls a0_0 1 8 false _ A2.out).mono ?_); rintro e w' ⟨rfl, ⟨nd, rfl⟩⟩; refine ⟨_, rfl, ?_⟩))
  go_ret
  exact ⟨by first | rfl | (simp [zw, zx] <;> rfl) | (simp [*, zw, zx] <;> rfl), Zq3 HB.out GE288.out⟩
def zdl.f (a0_0 : Int) (a0_1 : Int) (a0_2 : Int) : Option (Bool) := (zcl.f a0_0 a0_1 a0_2).bind fun t292 => (some (!t292))
set_option maxHeartbeats 8000000 in
set_option maxRecDepth 100000 in
theorem zdl.calls (a0_0 : Int) (a0_1 : Int) (a0_2 : Int) (r : Bool) (w : World) (h : zdl.f a0_0 a0_1 a0_2 = some r) :
  Calls Try.prog 109 #[.agg #[.int .i64 a0_0, .int .i64 a0_1, .int .i64 a0_2]] w fun e w' => e = .returned (.bool r) ∧ Below w.heap.size w w' := by
 have hu88 := Try.underlying88
 have HB := za.mk (Below.refl w.heap.size w)
 have H : ((zcl.f a0_0 a0_1 a0_2).bind fun t292 => (some (!t292))) = some r := h
 clear h
 replace H := Option.bind_eq_some_iff.mp H
 obtain ⟨t292, A20, H⟩ := H
 replace H : (some (!t292)) = some r := H
 have A2 := za.mk A20
 clear A20
 obtain rfl := Option.some.inj H
 go_enter Try.func109, Try.ntmps109
 go_wp2_with (first | ((with_reducible refine zbj (N := 1) rfl ?_); refine zbr ?hg (N := 1) ?hd (cs := #[.int .i64 a0_0, .int .i64 a0_1, .int .i64 a0_2]) (t := 88) ?hr ?_; (case hd => rfl); (case hg => rfl); (case hr => first | (go_simp; done) | (go_simp; rfl)); intro gb291 hg w3 hbox hb; have n0_ := za.mk (zo (Zq1 HB.out) hb); have n1_ := za.mk (hbox); have n2_ := za.mk ((by rw [hg]; exact (zu (Zq1 HB.out)) : w.heap.size ≤ gb291)); have n3_ := za.mk ((by rw [hg]; exact (zu (Zq1 HB.out)) : w.heap.size ≤ gb291)); clear HB; have HB := n0_; have BK291 := n1_; have GW291 := n2_; have GE291 := n3_; clear n0_ n1_ n2_ n3_; clear hb hbox hg; have hcz4_0 : w3.cell? ⟨gb291, 0, none⟩ = some (.int .i64 a0_0) := (zg BK291.out 0).trans rfl; have hcz4_1 : w3.cell? ⟨gb291, 1, none⟩ = some (.int .i64 a0_1) := (zg BK291.out 1).trans rfl; have hcz4_2 : w3.cell? ⟨gb291, 2, none⟩ = some (.int .i64 a0_2) := (zg BK291.out 2).trans rfl; have hfz4_0 := zf BK291.out 0; have hfz4_1 := zf BK291.out 1; have hfz4_2 := zf BK291.out 2) | ((with_reducible refine zba (f := 59) rfl ?_); refine zbx (some 4) rfl rfl Try.func59 (by kernel_rfl) rfl #[.agg #[.int .i64 a0_0, .int .i64 a0_1, .int .i64 a0_2]] rfl Zmt ?_; (with_reducible refine (zcl.calls a0_0 a0_1 a0_2 t292 _ A2.out).mono ?_); rintro e w5 ⟨rfl, hb⟩; refine ⟨_, rfl, ?_⟩; have n0_ := za.mk (zbn (g := gb291) (o := .cells #[.int .i64 a0_0, .int .i64 a0_1, .int .i64 a0_2] 88 (0, 0)) (Zq2 BK291.out) hb); have n1_ := za.mk (zo (Zq3 HB.out GE291.out) hb); clear BK291; clear HB; have BK291 := n0_; have HB := n1_; clear n0_ n1_; (try clear hb); (try clear hb2); (try clear hk); (try clear hi)))
 go_ret
 exact ⟨by first | rfl | (simp [zw, zx] <;> rfl) | (simp [*, zw, zx] <;> rfl), Zq3 HB.out GE291.out⟩
def taskOk (x : S88) : Bool := decide (1 ≤ x.f0 ∧ x.f0 ≤ 8 ∧ x.f0 ≤ x.f1 ∧ x.f1 ≤ x.f2 ∧ x.f2 ≤ 12)
def zc2.bad (x : S88) : Bool := !(taskOk x)
theorem zc2.is (x : S88) : zdl.f x.f0 x.f1 x.f2 = some (zc2.bad x) := by
  unfold zdl.f zcl.f zcv.f zc2.bad taskOk
  by_cases h1 : x.f0 ≥ 1 <;> by_cases h2 : x.f0 ≤ 8 <;> by_cases h3 : x.f1 ≥ x.f0 <;> by_cases h4 : x.f1 ≤ x.f2 <;> by_cases h5 : x.f2 ≤ 12 <;> simp [h1, h2, h3, h4, h5]
  all_goals first | omega | (intros; omega) | skip
def zc2.f (l0 : List S88) : Option Bool := some (l0.any zc2.bad)
theorem zc2.calls (A0 : Option Addr) (c0 : Nat) (l0 : List S88) (r : Bool) (w : World) (hr0 : Kd.C k88 w A0 l0.length l0) (hc0 : l0.length ≤ c0) (h : zc2.f l0 = some r) :
    Calls Try.prog 104 #[.slice A0 l0.length c0, .func (.func 109) #[] #[]] w fun e w' => e = .returned (.bool r) ∧ Below w.heap.size w w' := by
  obtain rfl := Option.some.inj h
  exact anyTask_calls zc2.bad 109 #[] (enters_of Try.func109 (by kernel_rfl) rfl) A0 c0 l0 w (fun W' x _ => (zdl.calls x.f0 x.f1 x.f2 _ W' (zc2.is x)).mono fun e w' hh => ⟨hh.1, hh.2⟩) hr0
def zce.f (l0 : List (S88)) : Option (Bool) := if (l0.length : Int) ≤ 5 then ((zc2.f l0).bind fun t293 => (some (!t293))) else (some false)
set_option maxHeartbeats 8000000 in
set_option maxRecDepth 100000 in
theorem zce.calls (A0 : Option Addr) (c0 : Nat) (l0 : List (S88)) (r : Bool) (w : World) (hr0 : Kd.C k88 w A0 l0.length l0) (hc0 : l0.length ≤ c0) (h : zce.f l0 = some r) :
  Calls Try.prog 76 #[.slice A0 l0.length c0] w fun e w' => e = .returned (.bool r) ∧ Below w.heap.size w w' := by
 have HR0 := za.mk hr0
 have HC0 := za.mk hc0
 clear hr0 hc0
 have HB := za.mk (Below.refl w.heap.size w)
 have H : (if (l0.length : Int) ≤ 5 then ((zc2.f l0).bind fun t293 => (some (!t293))) else (some false)) = some r := h
 clear h
 by_cases c2 : (l0.length : Int) ≤ 5
 ·rw [if_pos c2] at H
  have c2b0 : decide ((l0.length : Int) ≤ 5) = true := decide_eq_true c2
  have c2b1 : decide (l0.length ≤ 5) = true := decide_eq_true (by omega)
  clear c2
  replace H := Option.bind_eq_some_iff.mp H
  obtain ⟨t293, A30, H⟩ := H
  replace H : (some (!t293)) = some r := H
  have A3 := za.mk A30
  clear A30
  obtain rfl := Option.some.inj H
  go_enter Try.func76, Try.ntmps76
  go_wp2_with (first | (go_at_call 104; (with_reducible refine (zc2.calls _ _ l0  t293 _ ?side1 ?side2 A3.out).mono ?_); (case side1 => exact Zq15 HR0.out); (case side2 => exact HC0.out); rintro e w4 ⟨rfl, hb⟩; have n0_ := za.mk (zo (Zq1 HB.out) hb); clear HB; have HB := n0_; clear n0_; (try clear hb); (try clear hb2); (try clear hk); (try clear hi)))
  go_ret
  exact ⟨by first | rfl | (simp [zw, zx] <;> rfl) | (simp [*, zw, zx] <;> rfl), Zq1 HB.out⟩
 ·rw [if_neg c2] at H
  have c2b0 : decide ((l0.length : Int) ≤ 5) = false := decide_eq_false c2
  have c2b1 : decide (l0.length ≤ 5) = false := decide_eq_false (by omega)
  clear c2
  obtain rfl := Option.some.inj H
  go_enter Try.func76, Try.ntmps76
  go_wp2
  go_ret
  exact ⟨by first | rfl | (simp [zw, zx] <;> rfl) | (simp [*, zw, zx] <;> rfl), Zq1 HB.out⟩
end Go.Proofs.Ytkdfjomhichkoaa.P
