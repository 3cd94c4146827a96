/- The law FnSupplySafe for every input, part 4 of its proof: what the program's functions answer, and the plain law. No condition. -/
import Derived.Test.YtkdfjomhichkoaaMFnSupplySafe1
import Derived.Test.YtkdfjomhichkoaaMFnSupplySafe2
import Derived.Test.YtkdfjomhichkoaaMFnSupplySafe3
import Derived.Maps.OwnSet
import Derived.Maps.OwnOps
import Derived.Carry
set_option maxRecDepth 100000
namespace Go.Proofs.Ytkdfjomhichkoaa.P
open Go.RowKit Go.Proofs.YtkdfjomhichkoaaW.PrintWords Go.Proofs.YtkdfjomhichkoaaW.PrintLast Go.Proofs.YtkdfjomhichkoaaW.PrintMore
attribute [local go_sem] zfi zfj zgf zgg ze2 ze3 zfk zfl
set_option linter.unusedVariables false
set_option linter.unusedSimpArgs false
mutual
def zbd.l0 : Nat → List (S88) → Int → List Int → Int → Option ((List (S88)) × (List (S34)) × Int × Int × List Bool)
 | 0, _, _, _, _ => none
 | k + 1, x7, x8, x662000, x662001 => if x8 > 0 then ((zb.f k x662000 x662001 2).bind fun bt667 => ((zb.f k x662000 bt667.2 5).bind fun bt669 => (if x7.length < 5864062014805 then (zbd.l0 k (x7 ++ [(⟨wrap64 (1 + bt667.1), wrap64 (8 + bt669.1), 12⟩ : S88)]) (wrap64 (x8 - 1)) x662000 bt669.2) else (none)))) else ((zb.f k x662000 x662001 3).bind fun bt674 => (if bt674.1 = 0 then ((zb1.f k x662000 bt674.2 16).bind fun bt676 => (zbd.j1 k bt676.1 x662000 bt676.2)) else (zbd.j1 k x7 x662000 bt674.2)))
def zbd.j1 : Nat → List (S88) → List Int → Int → Option ((List (S88)) × (List (S34)) × Int × Int × List Bool)
 | 0, _, _, _ => none
 | k + 1, x7, x662000, x662001 => (zdn.f k x662000 x662001 20).bind fun bt680 => ((zn.f k x662000 bt680.2.2 bt680.1 bt680.2.1 16).bind fun bt684 => ((zb0.f k x7).bind fun t688 => (if t688 = true then ((zbb.f k x662000 bt684.2 x7 16).bind fun bt689 => (some (x7, bt689.1, bt680.1, bt680.2.1, bt684.1))) else (some (x7, (([] : List (S34))), bt680.1, bt680.2.1, bt684.1)))))
end
def zbd.f (k : Nat) (l0 : List Int) : Option ((List (S88)) × (List (S34)) × Int × Int × List Bool) := (zdw.f l0).bind fun bt659 => ((zb.f k bt659.1 bt659.2 3).bind fun bt665 => (zbd.l0 k (([] : List (S88))) bt665.1 bt659.1 bt665.2))
def zbd.T12 : Bool × List (List Nat × List Nat) := (true, [([], []), ([], []), ([], []), ([], []), ([0, 0], [0]), ([1, 4, 0, 1, 4], [1]), ([2, 5, 0, 1, 2, 4, 5], [2]), ([3, 6, 0, 1, 2, 3, 4, 5, 6], [3])])
def zbd.B12 : List Nat := [0, 0, 0, 0, 1, 19, 55, 127]
theorem zbd.tab12 : rtab .any (opsOf Try.f30 12) = zbd.T12 := by kernel_rfl
theorem zbd.bits12 : zea zbd.T12.2 zbd.B12 = true := by kernel_rfl
def zbd.T13 : Bool × List (List Nat × List Nat) := (true, [([], []), ([], []), ([], []), ([1, 2], [1, 2]), ([], []), ([], []), ([0, 3, 0], [0]), ([3, 6, 0, 1, 2, 3, 6], [3]), ([4, 7, 0, 1, 2, 3, 4, 6, 7], [4]), ([5, 8, 0, 1, 2, 3, 4, 5, 6, 7, 8], [5])])
def zbd.B13 : List Nat := [0, 0, 0, 6, 0, 0, 15, 79, 223, 511]
theorem zbd.tab13 : rtab .any (opsOf Try.f30 13) = zbd.T13 := by kernel_rfl
theorem zbd.bits13 : zea zbd.T13.2 zbd.B13 = true := by kernel_rfl
set_option maxHeartbeats 8000000 in
theorem zbd.calls (k : Nat) (A0 : Option Addr) (c0 : Nat) (l0 : List Int) (r1 : List (S88)) (r2 : List (S34)) (r3 : Int) (r4 : Int) (r5 : List Bool) (w : World) (hr0 : Kd.C (Kd.int .u8) w A0 l0.length l0) (hc0 : l0.length ≤ c0) (h : zbd.f k l0 = some (r1, r2, r3, r4, r5)) :
  Calls Try.prog 30 #[.slice A0 l0.length c0] w fun e w' => ∃ v0_ v1_ v4_ : Value, e = .returned (.tuple #[v0_, v1_, .agg #[.int .i64 r3, .int .i64 r4], v4_]) ∧ Kd.R k88 88 w' w.heap.size (fun _ => True) v0_ r1 ∧ Kd.R k34 34 w' w.heap.size (fun _ => True) v1_ r2 ∧ Kd.R Kd.bool 4 w' w.heap.size (fun _ => True) v4_ r5 ∧ Below w.heap.size w w' := by
 have hu51 := Try.underlying51
 have hu88 := Try.underlying88
 have HR0 := za.mk hr0
 have HC0 := za.mk hc0
 clear hr0 hc0
 have HB := za.mk (Below.refl w.heap.size w)
 have H : ((zdw.f l0).bind fun bt659 => ((zb.f k bt659.1 bt659.2 3).bind fun bt665 => (zbd.l0 k (([] : List (S88))) bt665.1 bt659.1 bt665.2))) = some (r1, r2, r3, r4, r5) := h
 clear h
 replace H := Option.bind_eq_some_iff.mp H
 obtain ⟨⟨t659, t660⟩, A20, H⟩ := H
 replace H : ((zb.f k t659 t660 3).bind fun bt665 => (zbd.l0 k (([] : List (S88))) bt665.1 t659 bt665.2)) = some (r1, r2, r3, r4, r5) := H
 have A2 := za.mk A20
 clear A20
 obtain ⟨y662, hy662⟩ : ∃ y_ : List (S88), y_ = (([] : List (S88))) := ⟨_, rfl⟩
 replace H : ((zb.f k t659 t660 3).bind fun bt665 => (zbd.l0 k y662 bt665.1 t659 bt665.2)) = some (r1, r2, r3, r4, r5) := by first | (rw [hy662]; with_reducible exact H) | (have H2_ := (Option.bind_some _ _).symm.trans H; rw [hy662]; with_reducible exact H2_) | (have H2_ := (Option.bind_some _ _).symm.trans H; with_reducible exact H2_) | with_reducible exact H | (rw [hy662]; exact H) | exact H
 have Ny662 := za.mk hy662
 clear hy662
 replace H := Option.bind_eq_some_iff.mp H
 obtain ⟨⟨t665, t666⟩, A30, H⟩ := H
 replace H : (zbd.l0 k y662 t665 t659 t666) = some (r1, r2, r3, r4, r5) := H
 have A3 := za.mk A30
 clear A30
 have H' := za.mk H
 clear H
 go_enter Try.func30, Try.ntmps30
 go_wp2_with (first | ((with_reducible refine zbp (N := 4) rfl ?_); refine zbt ?hg (N := 4) ?hd (cs := #[.int .i64 0, .int .i64 0]) (t := 51) ?hr ?_; (case hd => rfl); (case hg => rfl); (case hr => first | (go_simp; done) | (go_simp; rfl)); intro gb658 hg w4 hbox hb; have n0_ := za.mk (zm (Zq3 HB) hb); have n1_ := za.mk (hbox); have n2_ := za.mk ((by rw [hg]; exact (zy (Zq3 HB)) : w.heap.size ≤ gb658)); have n3_ := za.mk ((by rw [hg]; exact (zy (Zq3 HB)) : w.heap.size ≤ gb658)); clear HB; have HB := n0_; have BK658 := n1_; have GW658 := n2_; have GE658 := n3_; clear n0_ n1_ n2_ n3_; clear hb hbox hg) | ((with_reducible refine zbc (f := 44) rfl ?_); refine zby (some 12) rfl rfl Try.func44 (by kernel_rfl) rfl #[.slice A0 l0.length c0] rfl Zmt ?_; (with_reducible refine (zdw.calls _ _ l0 t659 t660 w _ ?side1 ?side2 ?side3 A2.out).mono ?_); (case side1 => exact Zq5 HB GE658); (case side2 => exact HR0.out); (case side3 => exact HC0.out); rintro e w5 ⟨g661, rfl, hi, hb, hb2⟩; refine ⟨_, rfl, ?_⟩; have n0_ := za.mk (zbg (g := gb658) (o := .cells #[.int .i64 0, .int .i64 0] 51 (0, 0)) (Zq4 BK658) hb2); have n1_ := za.mk (hb); have n2_ := za.mk (hi); have n3_ := za.mk (zh.ne_blk hi (zbg (g := gb658) (o := .cells #[.int .i64 0, .int .i64 0] 51 (0, 0)) (Zq4 BK658) hb2) (by decide)); have n4_ := za.mk (Ne.symm (zh.ne_blk hi (zbg (g := gb658) (o := .cells #[.int .i64 0, .int .i64 0] 51 (0, 0)) (Zq4 BK658) hb2) (by decide))); clear BK658; clear HB; have BK658 := n0_; have HB := n1_; have HI661 := n2_; have NB661_658 := n3_; have NB658_661 := n4_; clear n0_ n1_ n2_ n3_ n4_; (try clear hb); (try clear hb2); (try clear hk); (try clear hi)) | ((with_reducible refine zbp (N := 13) rfl ?_); refine Kd.zf9 k88 _ 88 ?hg (N := 13) ?hd (xs := ([] : List (S88))) (inner := []) (ok := fun _ => True) (okp := fun _ => True) ?hr ?hp (fun _ hk => hk) trivial (Below.refl _ _) (Nat.le_refl _) (by simp) ?_; (case hd => rfl); (case hg => rfl); (case hr => first | (go_simp; done) | (go_simp; rfl)); (case hp => exact (Reps.none _ _)); intro v663 w6 ho7 hb hg_ hnew_; clear hg_ hnew_; (first | rw [← Ny662.out] at ho7 | (simp only [Int.reduceToNat] at ho7; rw [← Ny662.out] at ho7)); have n0_ := za.mk (Kd.zcf ho7 (zy (Zq12 HB (zh.ge HI661.out) GE658))); have n1_ := za.mk (zbg (g := gb658) (o := .cells #[.int .i64 0, .int .i64 0] 51 (0, 0)) (Zq4 BK658) hb); have n2_ := za.mk (zh.below (Zq11 HI661 NB661_658) hb); have n3_ := za.mk (zm (Zq12 HB (zh.ge HI661.out) GE658) hb); clear BK658; clear HI661; clear HB; have HO664 := n0_; have BK658 := n1_; have HI661 := n2_; have HB := n3_; clear n0_ n1_ n2_ n3_; clear hb ho7) | ((with_reducible refine zbc (f := 68) rfl ?_); refine zby (some 15) rfl rfl Try.func68 (by kernel_rfl) rfl #[.pointer (some ⟨g661, 0, none⟩), .int .i64 3] rfl Zmt ?_; (with_reducible refine (zb.calls k g661 t659 t660 3 t665 t666 w _ ?side1 ?side2 A3.out).mono ?_); (case side1 => exact Zq11 HI661 NB661_658); (case side2 => exact Zq12 HB (zh.ge HI661.out) GE658); rintro e w8 ⟨rfl, hi, hb, hk⟩; refine ⟨_, rfl, ?_⟩; have n0_ := za.mk (zi.blk hk (g' := gb658) (o := .cells #[.int .i64 0, .int .i64 0] 51 (0, 0)) (Zq4 BK658) NB658_661.out (by simp)); have n1_ := za.mk (Kd.zbf (Kd.zbq (zh.apart (show zh w _ g661 t659 t660 from Zq11 HI661 NB661_658) (Zq14 HO664) (by decide)) hk (fun _ h => h.2)) (fun _ h => h.1)); have n2_ := za.mk (hb); have n3_ := za.mk (hi); clear BK658; clear HO664; clear HB; clear HI661; have BK658 := n0_; have HO664 := n1_; have HB := n2_; have HI661 := n3_; clear n0_ n1_ n2_ n3_; (try clear hb); (try clear hb2); (try clear hk); (try clear hi)))
 go_loopg [7, 8] k (fun kq v7 v8 w' => ∃ (x7_1 : List (S88)) (x8_1 : Int) (x662001_1 : Int), v8 = .int .i64 x8_1 ∧ za (zbd.l0 kq x7_1 x8_1 t659 x662001_1 = some (r1, r2, r3, r4, r5)) ∧ za (kq ≤ k) ∧ za (Kd.R k88 88 w' w.heap.size (fun _ => True) v7 x7_1) ∧ za (w'.heap[gb658]? = some (.cells #[.int .i64 0, .int .i64 0] 51 (0, 0))) ∧ za (zh w w' g661 t659 x662001_1) ∧ za (Below w.heap.size w w'))
 case atStart => exact ⟨(y662), (t665), (t666), Zrs, H', ⟨Nat.le_refl _⟩, ⟨Zq14 HO664⟩, ⟨Zq4 BK658⟩, ⟨Zq11 HI661 NB661_658⟩, ⟨Zq12 HB (zh.ge HI661.out) GE658⟩⟩
 case round =>
  clear H'
  (try clear p2);(try clear c3);(try clear c4);(try clear c6)
  obtain ⟨x7_1, x8_1, x662001_1, rfl, HA, HK1, HO_7, BK658, HI661, HB⟩ := hrel
  cases gk with
  | zero => exact absurd HA.out (by simp [zbd.l0])
  | succ k1 =>
   have H := HA.out;clear HA;simp only [zbd.l0] at H;by_cases c9 : x8_1 > 0
   ·rw [if_pos c9] at H
    have c9b0 : decide (0 < x8_1) = true := decide_eq_true c9;clear c9;replace H := Option.bind_eq_some_iff.mp H;obtain ⟨⟨t667, t668⟩, A100, H⟩ := H;replace H : ((zb.f k1 t659 t668 5).bind fun bt669 => (if x7_1.length < 5864062014805 then (zbd.l0 k1 (x7_1 ++ [(⟨wrap64 (1 + t667), wrap64 (8 + bt669.1), 12⟩ : S88)]) (wrap64 (x8_1 - 1)) t659 bt669.2) else (none))) = some (r1, r2, r3, r4, r5) := H;have A10 := za.mk A100;clear A100;replace H := Option.bind_eq_some_iff.mp H;obtain ⟨⟨t669, t670⟩, A110, H⟩ := H;replace H : (if x7_1.length < 5864062014805 then (zbd.l0 k1 (x7_1 ++ [(⟨wrap64 (1 + t667), wrap64 (8 + t669), 12⟩ : S88)]) (wrap64 (x8_1 - 1)) t659 t670) else (none)) = some (r1, r2, r3, r4, r5) := H;have A11 := za.mk A110;clear A110;by_cases c12 : x7_1.length < 5864062014805
    ·rw [if_pos c12] at H
     have LMc12 := za.mk c12;clear c12;obtain ⟨y671, hy671⟩ : ∃ y_ : List (S88), y_ = (x7_1 ++ [(⟨wrap64 (1 + t667), wrap64 (8 + t669), 12⟩ : S88)]) := ⟨_, rfl⟩;replace H : (zbd.l0 k1 y671 (wrap64 (x8_1 - 1)) t659 t670) = some (r1, r2, r3, r4, r5) := by first | (rw [hy671]; with_reducible exact H) | (have H2_ := (Option.bind_some _ _).symm.trans H; rw [hy671]; with_reducible exact H2_) | (have H2_ := (Option.bind_some _ _).symm.trans H; with_reducible exact H2_) | with_reducible exact H | (rw [hy671]; exact H) | exact H
     have Ny671 := za.mk hy671;clear hy671;have H' := za.mk H;clear H;go_wp2_with (first | ((with_reducible refine zbc (f := 68) rfl ?_); refine zby (some 22) rfl rfl Try.func68 (by kernel_rfl) rfl #[.pointer (some ⟨g661, 0, none⟩), .int .i64 2] rfl Zmt ?_; (with_reducible refine (zb.calls k1 g661 t659 x662001_1 2 t667 t668 w _ ?side1 ?side2 A10.out).mono ?_); (case side1 => exact Zq11 HI661 NB661_658); (case side2 => exact Zq12 HB (zh.ge HI661.out) GE658); rintro e w13 ⟨rfl, hi, hb, hk⟩; refine ⟨_, rfl, ?_⟩; have n0_ := za.mk (Kd.zbf (Kd.zbq (zh.apart (show zh w _ g661 t659 x662001_1 from Zq11 HI661 NB661_658) (Zq14 HO_7) (by decide)) hk (fun _ h => h.2)) (fun _ h => h.1)); have n1_ := za.mk (zi.blk hk (g' := gb658) (o := .cells #[.int .i64 0, .int .i64 0] 51 (0, 0)) (Zq4 BK658) NB658_661.out (by simp)); have n2_ := za.mk (hb); have n3_ := za.mk (hi); clear HO_7; clear BK658; clear HB; clear HI661; have HO_7 := n0_; have BK658 := n1_; have HB := n2_; have HI661 := n3_; clear n0_ n1_ n2_ n3_; (try clear hb); (try clear hb2); (try clear hk); (try clear hi)) | ((with_reducible refine zbc (f := 68) rfl ?_); refine zby (some 25) rfl rfl Try.func68 (by kernel_rfl) rfl #[.pointer (some ⟨g661, 0, none⟩), .int .i64 5] rfl Zmt ?_; (with_reducible refine (zb.calls k1 g661 t659 t668 5 t669 t670 w _ ?side1 ?side2 A11.out).mono ?_); (case side1 => exact Zq11 HI661 NB661_658); (case side2 => exact Zq12 HB (zh.ge HI661.out) GE658); rintro e w14 ⟨rfl, hi, hb, hk⟩; refine ⟨_, rfl, ?_⟩; have n0_ := za.mk (Kd.zbf (Kd.zbq (zh.apart (show zh w _ g661 t659 t668 from Zq11 HI661 NB661_658) (Zq14 HO_7) (by decide)) hk (fun _ h => h.2)) (fun _ h => h.1)); have n1_ := za.mk (zi.blk hk (g' := gb658) (o := .cells #[.int .i64 0, .int .i64 0] 51 (0, 0)) (Zq4 BK658) NB658_661.out (by simp)); have n2_ := za.mk (hb); have n3_ := za.mk (hi); clear HO_7; clear BK658; clear HB; clear HI661; have HO_7 := n0_; have BK658 := n1_; have HB := n2_; have HI661 := n3_; clear n0_ n1_ n2_ n3_; (try clear hb); (try clear hb2); (try clear hk); (try clear hi)) | ((with_reducible refine zcl (b := .append) (xs := #[.tmp 20, .tmp 28]) rfl ?_); at_builtin; refine Kd.zdj k88 (w0 := w) w.heap.size rfl (.tmp 20) (.tmp 28) 23 88 (.agg #[(.int .i64 0), (.int .i64 0), (.int .i64 0)]) 24 rfl Try.underlying23 zi2 rfl (by decide) (by omega) u7 x7_1 (⟨wrap64 (1 + t667), wrap64 (8 + t669), 12⟩ : S88) [.int .i64 (wrap64 (1 + t667)), .int .i64 (wrap64 (8 + t669)), .int .i64 12] (fun _ => True) (fun _ => False) rfl rfl ?aP (fun _ hk => hk.elim) ?aF ?aO ?aB ?aS ?aL ?_; (case aP => exact zg9 _ _ _ (⟨wrap64 (1 + t667), wrap64 (8 + t669), 12⟩ : S88)); (case aB => exact (Zq12 HB (zh.ge HI661.out) GE658)); (case aF => exact (fun _ _ => trivial)); (case aO => exact (Zq14 HO_7)); (case aS => exact (zy (Zq12 HB (zh.ge HI661.out) GE658))); (case aL => have := LMc12.out; omega); intro v672 w15 ho hb hg hat; rw [← Ny671.out] at ho; have n0_ := za.mk (zbw (g := gb658) (o := .cells #[.int .i64 0, .int .i64 0] 51 (0, 0)) (Zq4 BK658) hg (Kd.R_ne HO_7.out BK658.out (by decide))); have n1_ := za.mk (zh.grown (Zq11 HI661 NB661_658) hg (zh.own_ne HI661.out HO_7.out (by decide))); have n2_ := za.mk (hb); have n3_ := za.mk (ho); clear BK658; clear HI661; clear HB; clear HO_7; have BK658 := n0_; have HI661 := n1_; have HB := n2_; have HO673 := n3_; clear n0_ n1_ n2_ n3_; clear ho hb hg hat));go_roundg k1
     case measure => have := HK1.out; omega
     case rel => exact ⟨(y671), (wrap64 (x8_1 - 1)), (t670), Zrs, H', ⟨by have := HK1.out; omega⟩, ⟨Zq14 HO673⟩, ⟨Zq4 BK658⟩, ⟨Zq11 HI661 NB661_658⟩, ⟨Zq12 HB (zh.ge HI661.out) GE658⟩⟩
    ·rw [if_neg c12] at H
     exact absurd H (by simp)
   ·rw [if_neg c9] at H
    have c9b0 : decide (0 < x8_1) = false := decide_eq_false c9;clear c9;replace H := Option.bind_eq_some_iff.mp H;obtain ⟨⟨t674, t675⟩, A160, H⟩ := H;replace H : (if t674 = 0 then ((zb1.f k1 t659 t675 16).bind fun bt676 => (zbd.j1 k1 bt676.1 t659 bt676.2)) else (zbd.j1 k1 x7_1 t659 t675)) = some (r1, r2, r3, r4, r5) := H;have A16 := za.mk A160;clear A160;have HC17 := za.mk H;clear H
    go_upto_if 32 with (first | ((with_reducible refine zbc (f := 68) rfl ?_); refine zby (some 31) rfl rfl Try.func68 (by kernel_rfl) rfl #[.pointer (some ⟨g661, 0, none⟩), .int .i64 3] rfl Zmt ?_; (with_reducible refine (zb.calls k1 g661 t659 x662001_1 3 t674 t675 w _ ?side1 ?side2 A16.out).mono ?_); (case side1 => exact Zq11 HI661 NB661_658); (case side2 => exact Zq12 HB (zh.ge HI661.out) GE658); rintro e w18 ⟨rfl, hi, hb, hk⟩; refine ⟨_, rfl, ?_⟩; have n0_ := za.mk (Kd.zbf (Kd.zbq (zh.apart (show zh w _ g661 t659 x662001_1 from Zq11 HI661 NB661_658) (Zq14 HO_7) (by decide)) hk (fun _ h => h.2)) (fun _ h => h.1)); have n1_ := za.mk (zi.blk hk (g' := gb658) (o := .cells #[.int .i64 0, .int .i64 0] 51 (0, 0)) (Zq4 BK658) NB658_661.out (by simp)); have n2_ := za.mk (hb); have n3_ := za.mk (hi); clear HO_7; clear BK658; clear HB; clear HI661; have HO_7 := n0_; have BK658 := n1_; have HB := n2_; have HI661 := n3_; clear n0_ n1_ n2_ n3_; (try clear hb); (try clear hb2); (try clear hk); (try clear hi)))
    (try simp only [Act.put, Zs1, Zs2, Zs3])
    go_cut [7] (fun v7 wc => ∃ (kq : Nat) (x7_16 : List (S88)) (x662001_16 : Int), za (zbd.j1 kq x7_16 t659 x662001_16 = some (r1, r2, r3, r4, r5)) ∧ za (kq ≤ k1) ∧ za (Kd.R k88 88 wc w.heap.size (fun _ => True) v7 x7_16) ∧ za (wc.heap[gb658]? = some (.cells #[.int .i64 0, .int .i64 0] 51 (0, 0))) ∧ za (zh w wc g661 t659 x662001_16) ∧ za (Below w.heap.size w wc))
    case first =>
     have H := HC17.out;clear HC17;by_cases c19 : t674 = 0
     ·rw [if_pos c19] at H
      have c19b0 : (t674 == 0) = true := beq_iff_eq.mpr c19;have c19b1 : (t674 != 0) = false := bne_eq_false_iff_eq.mpr c19;clear c19;(first | rw [c19b0] | (simp only [zbh, zbj]; rw [c19b0]) | skip);replace H := Option.bind_eq_some_iff.mp H;obtain ⟨⟨t676, t679⟩, A200, H⟩ := H;replace H : (zbd.j1 k1 t676 t659 t679) = some (r1, r2, r3, r4, r5) := H;have A20 := za.mk A200;clear A200;have H' := za.mk H;clear H;go_wp2_with (first | ((with_reducible refine zbc (f := 69) rfl ?_); refine zby (some 34) rfl rfl Try.func69 (by kernel_rfl) rfl #[.pointer (some ⟨g661, 0, none⟩), .int .i64 16] rfl Zmt ?_; (with_reducible refine (zb1.calls k1 g661 t659 t675 16 t676 t679 w _ ?side1 ?side2 A20.out).mono ?_); (case side1 => exact Zq11 HI661 NB661_658); (case side2 => exact Zq12 HB (zh.ge HI661.out) GE658); rintro e w21 ⟨v677, rfl, ho0, hi, hb, hk⟩; refine ⟨_, rfl, ?_⟩; have n0_ := za.mk (Kd.zbf (Kd.R_told (Kd.R_oldK (zh.apart (show zh w _ g661 t659 t675 from Zq11 HI661 NB661_658) (Zq14 HO_7) (by decide)) hk) (Kd.zda ho0)) (fun _ h_ => h_.1)); have n1_ := za.mk (zi.blk hk (g' := gb658) (o := .cells #[.int .i64 0, .int .i64 0] 51 (0, 0)) (Zq4 BK658) NB658_661.out (by simp)); have n2_ := za.mk (Kd.zcf (Kd.zdz ho0 (Kd.R_lt (Zq14 HO_7))) (zy (Zq12 HB (zh.ge HI661.out) GE658))); have n3_ := za.mk (hb); have n4_ := za.mk (hi); clear HO_7; clear BK658; clear HB; clear HI661; have HO_7 := n0_; have BK658 := n1_; have HO678 := n2_; have HB := n3_; have HI661 := n4_; clear n0_ n1_ n2_ n3_ n4_; (try clear hb); (try clear hb2); (try clear hk); (try clear hi); (try clear ho0)));go_meet
      case rel => exact ⟨_, (t676), (t679), H', ⟨by have := HK1.out; first | omega | exact Nat.le_refl _⟩, ⟨by (with_reducible repeat (first | apply Kd.zbo | apply Kd.zbn | apply Kd.zbr)); exact Kd.zbf HO678.out (fun _ hk => trivial)⟩, ⟨Zq4 BK658⟩, ⟨Zq11 HI661 NB661_658⟩, ⟨Zq12 HB (zh.ge HI661.out) GE658⟩⟩
     ·rw [if_neg c19] at H
      have c19b0 : (t674 == 0) = false := beq_eq_false_iff_ne.mpr c19;have c19b1 : (t674 != 0) = true := bne_iff_ne.mpr c19;(first | rw [c19b0] | (simp only [zbh, zbj]; rw [c19b0]) | skip);have H' := za.mk H;clear H;go_wp2;go_meet
      case rel => exact ⟨_, (x7_1), (t675), H', ⟨by have := HK1.out; first | omega | exact Nat.le_refl _⟩, ⟨Zq14 HO_7⟩, ⟨Zq4 BK658⟩, ⟨Zq11 HI661 NB661_658⟩, ⟨Zq12 HB (zh.ge HI661.out) GE658⟩⟩
    case rest =>
     clear HC17
     (try clear c1);(try clear p2);(try clear c3);(try clear c4);(try clear c6);(try clear p6);(try clear c9);(try clear c9b0);(try clear c12);(try clear c19);(try clear c19b0);(try clear c19b1);(try clear p2)
     obtain ⟨kq, x7_16, x662001_16, HA, HJ16, HO_7, BK658, HI661, HB⟩ := hcut
     cases kq with
     | zero => exact absurd HA.out (by simp [zbd.j1])
     | succ kj16 =>
      have H := HA.out;clear HA;simp only [zbd.j1] at H;replace H := Option.bind_eq_some_iff.mp H;obtain ⟨⟨t680, t681, t682⟩, A220, H⟩ := H;replace H : ((zn.f kj16 t659 t682 t680 t681 16).bind fun bt684 => ((zb0.f kj16 x7_16).bind fun t688 => (if t688 = true then ((zbb.f kj16 t659 bt684.2 x7_16 16).bind fun bt689 => (some (x7_16, bt689.1, t680, t681, bt684.1))) else (some (x7_16, (([] : List (S34))), t680, t681, bt684.1))))) = some (r1, r2, r3, r4, r5) := H;have A22 := za.mk A220;clear A220;replace H := Option.bind_eq_some_iff.mp H;obtain ⟨⟨t684, t687⟩, A230, H⟩ := H;replace H : ((zb0.f kj16 x7_16).bind fun t688 => (if t688 = true then ((zbb.f kj16 t659 t687 x7_16 16).bind fun bt689 => (some (x7_16, bt689.1, t680, t681, t684))) else (some (x7_16, (([] : List (S34))), t680, t681, t684)))) = some (r1, r2, r3, r4, r5) := H;have A23 := za.mk A230;clear A230;replace H := Option.bind_eq_some_iff.mp H;obtain ⟨t688, A240, H⟩ := H;replace H : (if t688 = true then ((zbb.f kj16 t659 t687 x7_16 16).bind fun bt689 => (some (x7_16, bt689.1, t680, t681, t684))) else (some (x7_16, (([] : List (S34))), t680, t681, t684))) = some (r1, r2, r3, r4, r5) := H;have A24 := za.mk A240;clear A240;by_cases c25 : t688 = true
      ·subst c25
       have H1 : ((zbb.f kj16 t659 t687 x7_16 16).bind fun bt689 => (some (x7_16, bt689.1, t680, t681, t684))) = some (r1, r2, r3, r4, r5) := by rw [if_pos rfl] at H; exact H
       clear H;have H := H1;clear H1;replace H := Option.bind_eq_some_iff.mp H;obtain ⟨⟨t689, t692⟩, A260, H⟩ := H;replace H : (some (x7_16, t689, t680, t681, t684)) = some (r1, r2, r3, r4, r5) := H;have A26 := za.mk A260;clear A260;simp only [Option.some.injEq, Prod.mk.injEq] at H;obtain ⟨rfl, rfl, rfl, rfl, rfl⟩ := H
       try go_wp2_with (first | ((with_reducible refine zbc (f := 70) rfl ?_); refine zby (some 36) rfl rfl Try.func70 (by kernel_rfl) rfl #[.pointer (some ⟨g661, 0, none⟩), .int .i64 20] rfl Zmt ?_; (with_reducible refine (zdn.calls kj16 g661 t659 x662001_16 20 t680 t681 t682 w _ ?side1 ?side2 A22.out).mono ?_); (case side1 => exact Zq11 HI661 NB661_658); (case side2 => exact Zq12 HB (zh.ge HI661.out) GE658); rintro e w27 ⟨rfl, hi, hb, hk⟩; refine ⟨_, rfl, ?_⟩; have n0_ := za.mk (Kd.zbf (Kd.zbq (zh.apart (show zh w _ g661 t659 x662001_16 from Zq11 HI661 NB661_658) (Zq14 HO_7) (by decide)) hk (fun _ h => h.2)) (fun _ h => h.1)); have n1_ := za.mk (zi.blk hk (g' := gb658) (o := .cells #[.int .i64 0, .int .i64 0] 51 (0, 0)) (Zq4 BK658) NB658_661.out (by simp)); have n2_ := za.mk (hb); have n3_ := za.mk (hi); clear HO_7; clear BK658; clear HB; clear HI661; have HO_7 := n0_; have BK658 := n1_; have HB := n2_; have HI661 := n3_; clear n0_ n1_ n2_ n3_; (try clear hb); (try clear hb2); (try clear hk); (try clear hi)) | ((with_reducible refine zbp (N := 9) rfl ?_); refine zbt ?hg (N := 9) ?hd (cs := #[.int .i64 0, .int .i64 0]) (t := 51) ?hr ?_; (case hd => rfl); (case hg => rfl); (case hr => first | (go_simp; done) | (go_simp; rfl)); intro gb683 hg w28 hbox hb; have n0_ := za.mk (Kd.zcv (Zq14 HO_7) hb); have n1_ := za.mk (zbg (g := gb658) (o := .cells #[.int .i64 0, .int .i64 0] 51 (0, 0)) (Zq4 BK658) hb); have n2_ := za.mk (zh.below (Zq11 HI661 NB661_658) hb); have n3_ := za.mk (zm (Zq12 HB (zh.ge HI661.out) GE658) hb); have n4_ := za.mk (hbox); have n5_ := za.mk ((by rw [hg]; exact (zy (Zq12 HB (zh.ge HI661.out) GE658)) : w.heap.size ≤ gb683)); have n6_ := za.mk ((by rw [hg]; exact (zy (Zq12 HB (zh.ge HI661.out) GE658)) : w.heap.size ≤ gb683)); have n7_ := za.mk ((by rw [hg]; exact Nat.ne_of_lt (zc8 (g := gb658) (o := .cells #[.int .i64 0, .int .i64 0] 51 (0, 0)) (Zq4 BK658)) : gb658 ≠ gb683)); have n8_ := za.mk ((by rw [hg]; exact Nat.ne_of_gt (zc8 (g := gb658) (o := .cells #[.int .i64 0, .int .i64 0] 51 (0, 0)) (Zq4 BK658)) : gb683 ≠ gb658)); have n9_ := za.mk ((by rw [hg]; exact Nat.ne_of_lt (zh.lt (show zh w _ g661 t659 t682 from Zq11 HI661 NB661_658)) : g661 ≠ gb683)); have n10_ := za.mk ((by rw [hg]; exact Nat.ne_of_gt (zh.lt (show zh w _ g661 t659 t682 from Zq11 HI661 NB661_658)) : gb683 ≠ g661)); clear HO_7; clear BK658; clear HI661; clear HB; have HO_7 := n0_; have BK658 := n1_; have HI661 := n2_; have HB := n3_; have BK683 := n4_; have GW683 := n5_; have GE683 := n6_; have NB658_683 := n7_; have NB683_658 := n8_; have NB661_683 := n9_; have NB683_661 := n10_; clear n0_ n1_ n2_ n3_ n4_ n5_ n6_ n7_ n8_ n9_ n10_; clear hb hbox hg; have hnb29 := NB683_658.out; have hnc29 := NB658_683.out; have hnb30 := NB683_661.out; have hnc30 := NB661_683.out; have hcz31_0 : w28.cell? ⟨gb683, 0, none⟩ = some (.int .i64 0) := (ze BK683.out 0).trans rfl; have hcz31_1 : w28.cell? ⟨gb683, 1, none⟩ = some (.int .i64 0) := (ze BK683.out 1).trans rfl; have hfz31_0 := zg BK683.out 0; have hfz31_1 := zg BK683.out 1) | ((with_reducible refine zbc (f := 71) rfl ?_); refine zby (some 39) rfl rfl Try.func71 (by kernel_rfl) rfl #[.pointer (some ⟨g661, 0, none⟩), .agg #[.int .i64 t680, .int .i64 t681], .int .i64 16] rfl Zmt ?_; (with_reducible refine (zn.calls kj16 g661 t659 t682 t680 t681 16 t684 t687 w _ ?side1 ?side2 A23.out).mono ?_); (case side1 => exact Zq15 HI661 NB661_658 NB661_683); (case side2 => exact Zq17 HB (zh.ge HI661.out) GE658 GE683); rintro e w32 ⟨v685, rfl, ho0, hi, hb, hk⟩; refine ⟨_, rfl, ?_⟩; have n0_ := za.mk (Kd.zbf (Kd.zbq (zh.apart (show zh w _ g661 t659 t682 from Zq15 HI661 NB661_658 NB661_683) (by (with_reducible repeat (first | apply Kd.zbo | apply Kd.zbn | apply Kd.zbr)); exact (Kd.zbf (Kd.zcp (p := ⟨gb683, 1, none⟩) (Kd.zcp (p := ⟨gb683, 0, none⟩) (Kd.zck HO_7.out BK683.out (by decide)) (fun _ hk => hk.2) (.int .i64 t680)) (fun _ hk => hk.2) (.int .i64 t681)) (fun _ h_ => h_.1))) (by decide)) hk (fun _ h => h.2)) (fun _ h => h.1)); have n1_ := za.mk (zi.blk hk (g' := gb658) (o := .cells #[.int .i64 0, .int .i64 0] 51 (0, 0)) (by (with_reducible repeat (first | refine zt ?_ _ | refine zx ?_ | refine zq ?_ _)); refine zcj ?_ NB658_683.out _; (with_reducible repeat (first | refine zt ?_ _ | refine zx ?_ | refine zq ?_ _)); refine zcj ?_ NB658_683.out _; (with_reducible repeat (first | refine zt ?_ _ | refine zx ?_ | refine zq ?_ _)); exact BK658.out) NB658_661.out (by simp)); have n2_ := za.mk (zi.blk hk (g' := gb683) (o := .cells #[.int .i64 t680, .int .i64 t681] 51 (0, 0)) (by (with_reducible repeat (first | refine zt ?_ _ | refine zx ?_ | refine zq ?_ _)); refine zb2 (cs := #[.int .i64 t680, .int .i64 0]) ?_ 1 _ rfl; (with_reducible repeat (first | refine zt ?_ _ | refine zx ?_ | refine zq ?_ _)); refine zb2 (cs := #[.int .i64 0, .int .i64 0]) ?_ 0 _ rfl; (with_reducible repeat (first | refine zt ?_ _ | refine zx ?_ | refine zq ?_ _)); exact BK683.out) NB683_661.out (by simp)); have n3_ := za.mk (Kd.zcf ho0 (zy (Zq17 HB (zh.ge HI661.out) GE658 GE683))); have n4_ := za.mk (hb); have n5_ := za.mk (hi); clear HO_7; clear BK658; clear BK683; clear HB; clear HI661; have HO_7 := n0_; have BK658 := n1_; have BK683 := n2_; have HO686 := n3_; have HB := n4_; have HI661 := n5_; clear n0_ n1_ n2_ n3_ n4_ n5_; (try clear hb); (try clear hb2); (try clear hk); (try clear hi); (try clear ho0); obtain ⟨Ao33, co33, eo33⟩ := Kd.zb6 HO_7.out; subst eo33) | ((with_reducible refine zbc (f := 46) rfl ?_); refine zby (some 41) rfl rfl Try.func46 (by kernel_rfl) rfl #[.slice Ao33 x7_16.length co33] rfl Zmt ?_; (with_reducible refine (zb0.calls kj16 _ _ x7_16 true _ ?side1 ?side2 A24.out).mono ?_); (case side1 => exact Zq6 ((Kd.zbu HO_7.out).2.2)); (case side2 => exact (Kd.zbu HO_7.out).2.1); rintro e w34 ⟨rfl, hb⟩; refine ⟨_, rfl, ?_⟩; have n0_ := za.mk (Kd.zcv (Zq14 HO_7) hb); have n1_ := za.mk (Kd.zcv (Zq14 HO686) hb); have n2_ := za.mk (zbg (g := gb658) (o := .cells #[.int .i64 0, .int .i64 0] 51 (0, 0)) (Zq4 BK658) hb); have n3_ := za.mk (zh.below (Zq15 HI661 NB661_658 NB661_683) hb); have n4_ := za.mk (zbg (g := gb683) (o := .cells #[.int .i64 t680, .int .i64 t681] 51 (0, 0)) (Zq4 BK683) hb); have n5_ := za.mk (zm (Zq17 HB (zh.ge HI661.out) GE658 GE683) hb); clear HO_7; clear HO686; clear BK658; clear HI661; clear BK683; clear HB; have HO_7 := n0_; have HO686 := n1_; have BK658 := n2_; have HI661 := n3_; have BK683 := n4_; have HB := n5_; clear n0_ n1_ n2_ n3_ n4_ n5_; (try clear hb); (try clear hb2); (try clear hk); (try clear hi)))
       have n0_ := za.mk (Kd.zbr HO_7.out);have n1_ := za.mk (Kd.zbr HO686.out);have n2_ := za.mk (zx BK658.out);have n3_ := za.mk (zx BK683.out);have n4_ := za.mk (zh.drew HI661.out);have n5_ := za.mk (zbs HB.out);clear HO_7;clear HO686;clear BK658;clear BK683;clear HI661;clear HB;have HO_7 := n0_;have HO686 := n1_;have BK658 := n2_;have BK683 := n3_;have HI661 := n4_;have HB := n5_;clear n0_ n1_ n2_ n3_ n4_ n5_;refine zed (n := 10) (S := fun w' => w'.cell? ⟨gb683, 0, none⟩ = some (.int .i64 t680) ∧ w'.cell? ⟨gb683, 1, none⟩ = some (.int .i64 t681)) (ds := []) #[false, false, false, false, false, false, false, false, false, false] (by kernel_rfl) rfl rfl ⟨(ze BK683.out 0).trans rfl, (ze BK683.out 1).trans rfl⟩ (fun hHeld => ?_); refine zdd zbd.tab13 zbd.bits13 (fun HT_ HW_ => ?_);generalize w34.drew = w35 at HO_7 HO686 BK658 BK683 HI661 HB hHeld ⊢;refine zbv (i := 0) (N := some 47) (v := ?_) (a' := ?_) #[true, false, false, false, false, false, false, false, false, false] rfl rfl (zbl HT_.out (by kernel_rfl)) (fun _ _ _ h => h) (Or.inl ⟨by rfl, ?_⟩) ?_ ?_;rotate_left
       ·intro w'
        go_simp;with_reducible rfl
       rotate_left
       ·simp only [Act.put, Zs1, Zs2, Zs3, zbh, zbj]
        rfl
       refine zbv (i := 1) (N := some 48) (v := ?_) (a' := ?_) #[true, true, false, false, false, false, false, false, false, false] rfl rfl (zbl HT_.out (by kernel_rfl)) (fun _ _ _ h => h) (Or.inl ⟨by rfl, ?_⟩) ?_ ?_;rotate_left
       ·intro w'
        go_simp;with_reducible rfl
       rotate_left
       ·simp only [Act.put, Zs1, Zs2, Zs3, zbh, zbj]
        rfl
       refine zbv (i := 2) (N := some 49) (v := ?_) (a' := ?_) #[true, true, true, false, false, false, false, false, false, false] rfl rfl (zbl HT_.out (by kernel_rfl)) (fun _ _ _ h => h) (Or.inl ⟨by rfl, ?_⟩) ?_ ?_;rotate_left
       ·intro w'
        go_simp;with_reducible rfl
       rotate_left
       ·simp only [Act.put, Zs1, Zs2, Zs3, zbh, zbj]
        rfl
       refine zbv (i := 5) (N := some 52) (v := ?_) (a' := ?_) #[true, true, true, false, false, true, false, false, false, false] rfl rfl (zbl HT_.out (by kernel_rfl)) (fun _ _ _ h => h) (Or.inl ⟨by rfl, ?_⟩) ?_ ?_;rotate_left
       ·intro w'
        go_simp;with_reducible rfl
       rotate_left
       ·simp only [Act.put, Zs1, Zs2, Zs3, zbh, zbj]
        rfl
       refine zdy (i := 4) (N := some 51) (v := ?_) (a' := ?_) #[true, true, true, false, true, true, false, false, false, false] rfl rfl (zcm HT_.out HW_.out (by kernel_rfl)) (fun _ _ _ h => h) (Or.inl ⟨by rfl, ?_⟩) hHeld ?_ ?_;rotate_left
       ·rintro w' ⟨s0, s1⟩
        go_simp;with_reducible rfl
       rotate_left
       ·simp only [Act.put, Zs1, Zs2, Zs3, zbh, zbj]
        rfl
       refine one_ (i := 3) (N := some 50) #[true, true, true, true, true, true, false, false, false, false] rfl rfl (zc2 HT_.out (by kernel_rfl)) (by decide) (fun K hK => ?_);refine zd8 Try.func47 (by kernel_rfl) rfl #[.pointer (some ⟨g661, 0, none⟩), .slice Ao33 x7_16.length co33, .int .i64 16] (by rfl) rfl rfl Zmt ?_;with_reducible refine (zbb.calls kj16 g661 t659 t687 _ _ x7_16 16 t689 t692 w _ ?side1 ?side2 ?side3 ?side4 A26.out).mono ?_
       (case side1 => exact Zq15 HI661 NB661_658 NB661_683);(case side2 => exact Zq17 HB (zh.ge HI661.out) GE658 GE683);(case side3 => exact Kd.C_foot_own (zh.apart (show zh w _ g661 t659 t687 from Zq15 HI661 NB661_658 NB661_683) (Zq14 HO_7) (by decide)) (fun _ h_ => h_.2));(case side4 => exact (Kd.zbu HO_7.out).2.1);rintro e w36 ⟨v690, rfl, ho0, hi, hb, hk⟩;refine ⟨_, rfl, ?_⟩;have n0_ := za.mk (Kd.zbf (Kd.zbq (zh.apart (show zh w _ g661 t659 t687 from Zq15 HI661 NB661_658 NB661_683) (Zq14 HO_7) (by decide)) hk (fun _ h => h.2)) (fun _ h => h.1));have n1_ := za.mk (zi.blk hk (g' := gb658) (o := .cells #[.int .i64 0, .int .i64 0] 51 (0, 0)) (Zq4 BK658) NB658_661.out (by simp));have n2_ := za.mk (zi.blk hk (g' := gb683) (o := .cells #[.int .i64 t680, .int .i64 t681] 51 (0, 0)) (Zq4 BK683) NB683_661.out (by simp));have n3_ := za.mk (Kd.zbf (Kd.zbq (zh.apart (show zh w _ g661 t659 t687 from Zq15 HI661 NB661_658 NB661_683) (Zq14 HO686) (by decide)) hk (fun _ h => h.2)) (fun _ h => h.1));have n4_ := za.mk (Kd.zcf ho0 (zy (Zq17 HB (zh.ge HI661.out) GE658 GE683)));have n5_ := za.mk (hb);have n6_ := za.mk (hi);clear HO_7;clear BK658;clear BK683;clear HO686;clear HB;clear HI661;have HO_7 := n0_;have BK658 := n1_;have BK683 := n2_;have HO686 := n3_;have HO691 := n4_;have HB := n5_;have HI661 := n6_;clear n0_ n1_ n2_ n3_ n4_ n5_ n6_;(try clear hb);(try clear hb2);(try clear hk);(try clear hi);(try clear ho0);refine hK.out _ _ ⟨(ze BK683.out 0).trans rfl, (ze BK683.out 1).trans rfl⟩ (fun hHeld => ?_);clear hK K;refine zc0 (a' := ?_) ?_ ?_;rotate_left
       ·show Act.put _ (some 50) _ = _
        simp only [Act.put, Zs1, Zs2, Zs3, zbh, zbj];rfl
       refine zbv (i := 6) (N := some 2) (v := ?_) (a' := ?_) #[true, true, true, true, true, true, true, false, false, false] rfl rfl (zbl HT_.out (by kernel_rfl)) (fun _ _ _ h => h) (Or.inl ⟨by rfl, ?_⟩) ?_ ?_;rotate_left
       ·intro w'
        go_simp;with_reducible rfl
       rotate_left
       ·simp only [Act.put, Zs1, Zs2, Zs3, zbh, zbj]
        rfl
       refine zbv (i := 7) (N := some 3) (v := ?_) (a' := ?_) #[true, true, true, true, true, true, true, true, false, false] rfl rfl (zbl HT_.out (by kernel_rfl)) (fun _ _ _ h => h) (Or.inl ⟨by rfl, ?_⟩) ?_ ?_;rotate_left
       ·intro w'
        go_simp;with_reducible rfl
       rotate_left
       ·simp only [Act.put, Zs1, Zs2, Zs3, zbh, zbj]
        rfl
       refine one_ (i := 8) (N := none) #[true, true, true, true, true, true, true, true, true, false] rfl rfl (zc2 HT_.out (by kernel_rfl)) (by decide) (fun K hK => ?_);have hs37 : w36.cell? ⟨gb658, 0, none⟩ = some (.int .i64 0) := (ze BK658.out 0).trans rfl;have hfs37 := zg BK658.out 0;have hns37_1 := NB683_658.out;have hms37_1 := NB658_683.out;have hs38 : w36.cell? ⟨gb658, 1, none⟩ = some (.int .i64 0) := (ze BK658.out 1).trans rfl;have hfs38 := zg BK658.out 1;have hns38_1 := NB683_658.out;have hms38_1 := NB658_683.out;refine zjt (w1 := ?_) (by rfl) rfl ?_ ?_;rotate_left
       ·go_simp
        rfl
       refine hK.out _ _ ⟨((cell_far (p := ⟨gb658, _, none⟩) NB683_658.out _).trans (((cell_far (p := ⟨gb658, _, none⟩) NB683_658.out _).trans (hHeld.1)))), ((cell_far (p := ⟨gb658, _, none⟩) NB683_658.out _).trans (((cell_far (p := ⟨gb658, _, none⟩) NB683_658.out _).trans (hHeld.2))))⟩ (fun hHeld => ?_);clear hK K;refine zbv (i := 9) (N := some 5) (v := ?_) (a' := ?_) #[true, true, true, true, true, true, true, true, true, true] rfl rfl (zbl HT_.out (by kernel_rfl)) (fun _ _ _ h => h) (Or.inl ⟨by rfl, ?_⟩) ?_ ?_;rotate_left
       ·intro w'
        go_simp;with_reducible rfl
       rotate_left
       ·simp only [Act.put, Zs1, Zs2, Zs3, zbh, zbj]
        rfl
       refine ze9 (zd6 HT_.out (by kernel_rfl)) ?_
       try go_wp2
       refine bodyPost_ret (zgn (rs := [.tmp 2, .tmp 3, .cell 4 51, .tmp 5]) rfl (by simp) (.tmp (.tmp (.cell gb658 51 #[.int .i64 t680, .int .i64 t681] (0, 0) _ rfl (by (with_reducible repeat (first | refine zt ?_ _ | refine zx ?_ | refine zq ?_ _)); refine zb2 (cs := #[.int .i64 t680, .int .i64 0]) ?_ 1 _ rfl; (with_reducible repeat (first | refine zt ?_ _ | refine zx ?_ | refine zq ?_ _)); refine zb2 (cs := #[.int .i64 0, .int .i64 0]) ?_ 0 _ rfl; (with_reducible repeat (first | refine zt ?_ _ | refine zx ?_ | refine zq ?_ _)); exact BK658.out) Try.underlying51 rfl (by kernel_rfl) (.tmp .nil))))) rfl ?_;exact ⟨_, _, _, by first | rfl | (simp [zu, zw] <;> rfl) | (simp [*, zu, zw] <;> rfl), by (with_reducible repeat (first | apply Kd.zbo | apply Kd.zbn | apply Kd.zbr)); exact Kd.zbf (Kd.zcp (p := ⟨gb658, 1, none⟩) (Kd.zcp (p := ⟨gb658, 0, none⟩) (Kd.zck HO_7.out BK658.out (by decide)) (fun _ hk => hk.2) (.int .i64 t680)) (fun _ hk => hk.2) (.int .i64 t681)) (fun _ hk => trivial), by (with_reducible repeat (first | apply Kd.zbo | apply Kd.zbn | apply Kd.zbr)); exact Kd.zbf (Kd.zcp (p := ⟨gb658, 1, none⟩) (Kd.zcp (p := ⟨gb658, 0, none⟩) (Kd.zck HO691.out BK658.out (by decide)) (fun _ hk => hk.2) (.int .i64 t680)) (fun _ hk => hk.2) (.int .i64 t681)) (fun _ hk => trivial), by (with_reducible repeat (first | apply Kd.zbo | apply Kd.zbn | apply Kd.zbr)); exact Kd.zbf (Kd.zcp (p := ⟨gb658, 1, none⟩) (Kd.zcp (p := ⟨gb658, 0, none⟩) (Kd.zck HO686.out BK658.out (by decide)) (fun _ hk => hk.2) (.int .i64 t680)) (fun _ hk => hk.2) (.int .i64 t681)) (fun _ hk => trivial), Zq17 HB (zh.ge HI661.out) GE658 GE683⟩
      ·replace c25 := Bool.eq_false_iff.mpr c25
       subst c25;have H1 : (some (x7_16, (([] : List (S34))), t680, t681, t684)) = some (r1, r2, r3, r4, r5) := by rw [if_neg (show ¬ (false = true) by decide)] at H; exact H
       clear H;have H := H1;clear H1;obtain ⟨y693, hy693⟩ : ∃ y_ : List (S34), y_ = (([] : List (S34))) := ⟨_, rfl⟩;replace H : (some (x7_16, y693, t680, t681, t684)) = some (r1, r2, r3, r4, r5) := by first | (rw [hy693]; with_reducible exact H) | (have H2_ := (Option.bind_some _ _).symm.trans H; rw [hy693]; with_reducible exact H2_) | (have H2_ := (Option.bind_some _ _).symm.trans H; with_reducible exact H2_) | with_reducible exact H | (rw [hy693]; exact H) | exact H
       have Ny693 := za.mk hy693;clear hy693;simp only [Option.some.injEq, Prod.mk.injEq] at H;obtain ⟨rfl, rfl, rfl, rfl, rfl⟩ := H
       try go_wp2_with (first | ((with_reducible refine zbc (f := 70) rfl ?_); refine zby (some 36) rfl rfl Try.func70 (by kernel_rfl) rfl #[.pointer (some ⟨g661, 0, none⟩), .int .i64 20] rfl Zmt ?_; (with_reducible refine (zdn.calls kj16 g661 t659 x662001_16 20 t680 t681 t682 w _ ?side1 ?side2 A22.out).mono ?_); (case side1 => exact Zq11 HI661 NB661_658); (case side2 => exact Zq12 HB (zh.ge HI661.out) GE658); rintro e w39 ⟨rfl, hi, hb, hk⟩; refine ⟨_, rfl, ?_⟩; have n0_ := za.mk (Kd.zbf (Kd.zbq (zh.apart (show zh w _ g661 t659 x662001_16 from Zq11 HI661 NB661_658) (Zq14 HO_7) (by decide)) hk (fun _ h => h.2)) (fun _ h => h.1)); have n1_ := za.mk (zi.blk hk (g' := gb658) (o := .cells #[.int .i64 0, .int .i64 0] 51 (0, 0)) (Zq4 BK658) NB658_661.out (by simp)); have n2_ := za.mk (hb); have n3_ := za.mk (hi); clear HO_7; clear BK658; clear HB; clear HI661; have HO_7 := n0_; have BK658 := n1_; have HB := n2_; have HI661 := n3_; clear n0_ n1_ n2_ n3_; (try clear hb); (try clear hb2); (try clear hk); (try clear hi)) | ((with_reducible refine zbp (N := 9) rfl ?_); refine zbt ?hg (N := 9) ?hd (cs := #[.int .i64 0, .int .i64 0]) (t := 51) ?hr ?_; (case hd => rfl); (case hg => rfl); (case hr => first | (go_simp; done) | (go_simp; rfl)); intro gb683 hg w40 hbox hb; have n0_ := za.mk (Kd.zcv (Zq14 HO_7) hb); have n1_ := za.mk (zbg (g := gb658) (o := .cells #[.int .i64 0, .int .i64 0] 51 (0, 0)) (Zq4 BK658) hb); have n2_ := za.mk (zh.below (Zq11 HI661 NB661_658) hb); have n3_ := za.mk (zm (Zq12 HB (zh.ge HI661.out) GE658) hb); have n4_ := za.mk (hbox); have n5_ := za.mk ((by rw [hg]; exact (zy (Zq12 HB (zh.ge HI661.out) GE658)) : w.heap.size ≤ gb683)); have n6_ := za.mk ((by rw [hg]; exact (zy (Zq12 HB (zh.ge HI661.out) GE658)) : w.heap.size ≤ gb683)); have n7_ := za.mk ((by rw [hg]; exact Nat.ne_of_lt (zc8 (g := gb658) (o := .cells #[.int .i64 0, .int .i64 0] 51 (0, 0)) (Zq4 BK658)) : gb658 ≠ gb683)); have n8_ := za.mk ((by rw [hg]; exact Nat.ne_of_gt (zc8 (g := gb658) (o := .cells #[.int .i64 0, .int .i64 0] 51 (0, 0)) (Zq4 BK658)) : gb683 ≠ gb658)); have n9_ := za.mk ((by rw [hg]; exact Nat.ne_of_lt (zh.lt (show zh w _ g661 t659 t682 from Zq11 HI661 NB661_658)) : g661 ≠ gb683)); have n10_ := za.mk ((by rw [hg]; exact Nat.ne_of_gt (zh.lt (show zh w _ g661 t659 t682 from Zq11 HI661 NB661_658)) : gb683 ≠ g661)); clear HO_7; clear BK658; clear HI661; clear HB; have HO_7 := n0_; have BK658 := n1_; have HI661 := n2_; have HB := n3_; have BK683 := n4_; have GW683 := n5_; have GE683 := n6_; have NB658_683 := n7_; have NB683_658 := n8_; have NB661_683 := n9_; have NB683_661 := n10_; clear n0_ n1_ n2_ n3_ n4_ n5_ n6_ n7_ n8_ n9_ n10_; clear hb hbox hg; have hnb41 := NB683_658.out; have hnc41 := NB658_683.out; have hnb42 := NB683_661.out; have hnc42 := NB661_683.out; have hcz43_0 : w40.cell? ⟨gb683, 0, none⟩ = some (.int .i64 0) := (ze BK683.out 0).trans rfl; have hcz43_1 : w40.cell? ⟨gb683, 1, none⟩ = some (.int .i64 0) := (ze BK683.out 1).trans rfl; have hfz43_0 := zg BK683.out 0; have hfz43_1 := zg BK683.out 1) | ((with_reducible refine zbc (f := 71) rfl ?_); refine zby (some 39) rfl rfl Try.func71 (by kernel_rfl) rfl #[.pointer (some ⟨g661, 0, none⟩), .agg #[.int .i64 t680, .int .i64 t681], .int .i64 16] rfl Zmt ?_; (with_reducible refine (zn.calls kj16 g661 t659 t682 t680 t681 16 t684 t687 w _ ?side1 ?side2 A23.out).mono ?_); (case side1 => exact Zq15 HI661 NB661_658 NB661_683); (case side2 => exact Zq17 HB (zh.ge HI661.out) GE658 GE683); rintro e w44 ⟨v685, rfl, ho0, hi, hb, hk⟩; refine ⟨_, rfl, ?_⟩; have n0_ := za.mk (Kd.zbf (Kd.zbq (zh.apart (show zh w _ g661 t659 t682 from Zq15 HI661 NB661_658 NB661_683) (by (with_reducible repeat (first | apply Kd.zbo | apply Kd.zbn | apply Kd.zbr)); exact (Kd.zbf (Kd.zcp (p := ⟨gb683, 1, none⟩) (Kd.zcp (p := ⟨gb683, 0, none⟩) (Kd.zck HO_7.out BK683.out (by decide)) (fun _ hk => hk.2) (.int .i64 t680)) (fun _ hk => hk.2) (.int .i64 t681)) (fun _ h_ => h_.1))) (by decide)) hk (fun _ h => h.2)) (fun _ h => h.1)); have n1_ := za.mk (zi.blk hk (g' := gb658) (o := .cells #[.int .i64 0, .int .i64 0] 51 (0, 0)) (by (with_reducible repeat (first | refine zt ?_ _ | refine zx ?_ | refine zq ?_ _)); refine zcj ?_ NB658_683.out _; (with_reducible repeat (first | refine zt ?_ _ | refine zx ?_ | refine zq ?_ _)); refine zcj ?_ NB658_683.out _; (with_reducible repeat (first | refine zt ?_ _ | refine zx ?_ | refine zq ?_ _)); exact BK658.out) NB658_661.out (by simp)); have n2_ := za.mk (zi.blk hk (g' := gb683) (o := .cells #[.int .i64 t680, .int .i64 t681] 51 (0, 0)) (by (with_reducible repeat (first | refine zt ?_ _ | refine zx ?_ | refine zq ?_ _)); refine zb2 (cs := #[.int .i64 t680, .int .i64 0]) ?_ 1 _ rfl; (with_reducible repeat (first | refine zt ?_ _ | refine zx ?_ | refine zq ?_ _)); refine zb2 (cs := #[.int .i64 0, .int .i64 0]) ?_ 0 _ rfl; (with_reducible repeat (first | refine zt ?_ _ | refine zx ?_ | refine zq ?_ _)); exact BK683.out) NB683_661.out (by simp)); have n3_ := za.mk (Kd.zcf ho0 (zy (Zq17 HB (zh.ge HI661.out) GE658 GE683))); have n4_ := za.mk (hb); have n5_ := za.mk (hi); clear HO_7; clear BK658; clear BK683; clear HB; clear HI661; have HO_7 := n0_; have BK658 := n1_; have BK683 := n2_; have HO686 := n3_; have HB := n4_; have HI661 := n5_; clear n0_ n1_ n2_ n3_ n4_ n5_; (try clear hb); (try clear hb2); (try clear hk); (try clear hi); (try clear ho0); obtain ⟨Ao45, co45, eo45⟩ := Kd.zb6 HO_7.out; subst eo45) | ((with_reducible refine zbc (f := 46) rfl ?_); refine zby (some 41) rfl rfl Try.func46 (by kernel_rfl) rfl #[.slice Ao45 x7_16.length co45] rfl Zmt ?_; (with_reducible refine (zb0.calls kj16 _ _ x7_16 false _ ?side1 ?side2 A24.out).mono ?_); (case side1 => exact Zq6 ((Kd.zbu HO_7.out).2.2)); (case side2 => exact (Kd.zbu HO_7.out).2.1); rintro e w46 ⟨rfl, hb⟩; refine ⟨_, rfl, ?_⟩; have n0_ := za.mk (Kd.zcv (Zq14 HO_7) hb); have n1_ := za.mk (Kd.zcv (Zq14 HO686) hb); have n2_ := za.mk (zbg (g := gb658) (o := .cells #[.int .i64 0, .int .i64 0] 51 (0, 0)) (Zq4 BK658) hb); have n3_ := za.mk (zh.below (Zq15 HI661 NB661_658 NB661_683) hb); have n4_ := za.mk (zbg (g := gb683) (o := .cells #[.int .i64 t680, .int .i64 t681] 51 (0, 0)) (Zq4 BK683) hb); have n5_ := za.mk (zm (Zq17 HB (zh.ge HI661.out) GE658 GE683) hb); clear HO_7; clear HO686; clear BK658; clear HI661; clear BK683; clear HB; have HO_7 := n0_; have HO686 := n1_; have BK658 := n2_; have HI661 := n3_; have BK683 := n4_; have HB := n5_; clear n0_ n1_ n2_ n3_ n4_ n5_; (try clear hb); (try clear hb2); (try clear hk); (try clear hi)))
       have n0_ := za.mk (Kd.zbr HO_7.out);have n1_ := za.mk (Kd.zbr HO686.out);have n2_ := za.mk (zx BK658.out);have n3_ := za.mk (zx BK683.out);have n4_ := za.mk (zh.drew HI661.out);have n5_ := za.mk (zbs HB.out);clear HO_7;clear HO686;clear BK658;clear BK683;clear HI661;clear HB;have HO_7 := n0_;have HO686 := n1_;have BK658 := n2_;have BK683 := n3_;have HI661 := n4_;have HB := n5_;clear n0_ n1_ n2_ n3_ n4_ n5_;refine zed (n := 8) (S := fun w' => w'.cell? ⟨gb683, 0, none⟩ = some (.int .i64 t680) ∧ w'.cell? ⟨gb683, 1, none⟩ = some (.int .i64 t681)) (ds := []) #[false, false, false, false, false, false, false, false] (by kernel_rfl) rfl rfl ⟨(ze BK683.out 0).trans rfl, (ze BK683.out 1).trans rfl⟩ (fun hHeld => ?_); refine zdd zbd.tab12 zbd.bits12 (fun HT_ HW_ => ?_);generalize w46.drew = w47 at HO_7 HO686 BK658 BK683 HI661 HB hHeld ⊢;refine zbv (i := 0) (N := some 43) (v := ?_) (a' := ?_) #[true, false, false, false, false, false, false, false] rfl rfl (zbl HT_.out (by kernel_rfl)) (fun _ _ _ h => h) (Or.inl ⟨by rfl, ?_⟩) ?_ ?_;rotate_left
       ·intro w'
        go_simp;with_reducible rfl
       rotate_left
       ·simp only [Act.put, Zs1, Zs2, Zs3, zbh, zbj]
        rfl
       refine zbv (i := 3) (N := some 46) (v := ?_) (a' := ?_) #[true, false, false, true, false, false, false, false] rfl rfl (zbl HT_.out (by kernel_rfl)) (fun _ _ _ h => h) (Or.inl ⟨by rfl, ?_⟩) ?_ ?_;rotate_left
       ·intro w'
        go_simp;with_reducible rfl
       rotate_left
       ·simp only [Act.put, Zs1, Zs2, Zs3, zbh, zbj]
        rfl
       refine zbv (i := 4) (N := some 2) (v := ?_) (a' := ?_) #[true, false, false, true, true, false, false, false] rfl rfl (zbl HT_.out (by kernel_rfl)) (fun _ _ _ h => h) (Or.inl ⟨by rfl, ?_⟩) ?_ ?_;rotate_left
       ·intro w'
        go_simp;with_reducible rfl
       rotate_left
       ·simp only [Act.put, Zs1, Zs2, Zs3, zbh, zbj]
        rfl
       refine zdy (i := 2) (N := some 45) (v := ?_) (a' := ?_) #[true, false, true, true, true, false, false, false] rfl rfl (zcm HT_.out HW_.out (by kernel_rfl)) (fun _ _ _ h => h) (Or.inl ⟨by rfl, ?_⟩) hHeld ?_ ?_;rotate_left
       ·rintro w' ⟨s0, s1⟩
        go_simp;with_reducible rfl
       rotate_left
       ·simp only [Act.put, Zs1, Zs2, Zs3, zbh, zbj]
        rfl
       refine one_ (i := 1) (N := some 44) #[true, true, true, true, true, false, false, false] rfl rfl (zc2 HT_.out (by kernel_rfl)) (by decide) (fun K hK => ?_);refine Kd.zdu k34 _ 34 ?hg (N := 44) ?hd (xs := ([] : List (S34))) (inner := []) (ok := fun _ => True) (okp := fun _ => True) ?hr ?hp (fun _ hk => hk) trivial (Below.refl _ _) (Nat.le_refl _) (by simp) ?_; (case hd => rfl); (case hg => rfl); (case hr => first | (go_simp; done) | (go_simp; rfl)); (case hp => exact (Reps.none _ _));intro v694 w48 ho49 hb hg_ hnew_;clear hg_ hnew_;(first | rw [← Ny693.out] at ho49 | (simp only [Int.reduceToNat] at ho49; rw [← Ny693.out] at ho49));have n0_ := za.mk (Kd.zcv (Zq14 HO_7) hb);have n1_ := za.mk (Kd.zcv (Zq14 HO686) hb);have n2_ := za.mk (Kd.zcf ho49 (zy (Zq17 HB (zh.ge HI661.out) GE658 GE683)));have n3_ := za.mk (zbg (g := gb658) (o := .cells #[.int .i64 0, .int .i64 0] 51 (0, 0)) (Zq4 BK658) hb);have n4_ := za.mk (zh.below (Zq15 HI661 NB661_658 NB661_683) hb);have n5_ := za.mk (zbg (g := gb683) (o := .cells #[.int .i64 t680, .int .i64 t681] 51 (0, 0)) (Zq4 BK683) hb);have n6_ := za.mk (zm (Zq17 HB (zh.ge HI661.out) GE658 GE683) hb);clear HO_7;clear HO686;clear BK658;clear HI661;clear BK683;clear HB;have HO_7 := n0_;have HO686 := n1_;have HO695 := n2_;have BK658 := n3_;have HI661 := n4_;have BK683 := n5_;have HB := n6_;clear n0_ n1_ n2_ n3_ n4_ n5_ n6_;clear hb ho49;refine hK.out _ _ ⟨(ze BK683.out 0).trans rfl, (ze BK683.out 1).trans rfl⟩ (fun hHeld => ?_);clear hK K;refine zc0 (a' := ?_) ?_ ?_;rotate_left
       ·show Act.put _ (some 44) _ = _
        simp only [Act.put, Zs1, Zs2, Zs3, zbh, zbj];rfl
       refine zbv (i := 5) (N := some 3) (v := ?_) (a' := ?_) #[true, true, true, true, true, true, false, false] rfl rfl (zbl HT_.out (by kernel_rfl)) (fun _ _ _ h => h) (Or.inl ⟨by rfl, ?_⟩) ?_ ?_;rotate_left
       ·intro w'
        go_simp;with_reducible rfl
       rotate_left
       ·simp only [Act.put, Zs1, Zs2, Zs3, zbh, zbj]
        rfl
       refine one_ (i := 6) (N := none) #[true, true, true, true, true, true, true, false] rfl rfl (zc2 HT_.out (by kernel_rfl)) (by decide) (fun K hK => ?_);have hs50 : w48.cell? ⟨gb658, 0, none⟩ = some (.int .i64 0) := (ze BK658.out 0).trans rfl;have hfs50 := zg BK658.out 0;have hns50_1 := NB683_658.out;have hms50_1 := NB658_683.out;have hs51 : w48.cell? ⟨gb658, 1, none⟩ = some (.int .i64 0) := (ze BK658.out 1).trans rfl;have hfs51 := zg BK658.out 1;have hns51_1 := NB683_658.out;have hms51_1 := NB658_683.out;refine zjt (w1 := ?_) (by rfl) rfl ?_ ?_;rotate_left
       ·go_simp
        rfl
       refine hK.out _ _ ⟨((cell_far (p := ⟨gb658, _, none⟩) NB683_658.out _).trans (((cell_far (p := ⟨gb658, _, none⟩) NB683_658.out _).trans (hHeld.1)))), ((cell_far (p := ⟨gb658, _, none⟩) NB683_658.out _).trans (((cell_far (p := ⟨gb658, _, none⟩) NB683_658.out _).trans (hHeld.2))))⟩ (fun hHeld => ?_);clear hK K;refine zbv (i := 7) (N := some 5) (v := ?_) (a' := ?_) #[true, true, true, true, true, true, true, true] rfl rfl (zbl HT_.out (by kernel_rfl)) (fun _ _ _ h => h) (Or.inl ⟨by rfl, ?_⟩) ?_ ?_;rotate_left
       ·intro w'
        go_simp;with_reducible rfl
       rotate_left
       ·simp only [Act.put, Zs1, Zs2, Zs3, zbh, zbj]
        rfl
       refine ze9 (zd6 HT_.out (by kernel_rfl)) ?_
       try go_wp2
       refine bodyPost_ret (zgn (rs := [.tmp 2, .tmp 3, .cell 4 51, .tmp 5]) rfl (by simp) (.tmp (.tmp (.cell gb658 51 #[.int .i64 t680, .int .i64 t681] (0, 0) _ rfl (by (with_reducible repeat (first | refine zt ?_ _ | refine zx ?_ | refine zq ?_ _)); refine zb2 (cs := #[.int .i64 t680, .int .i64 0]) ?_ 1 _ rfl; (with_reducible repeat (first | refine zt ?_ _ | refine zx ?_ | refine zq ?_ _)); refine zb2 (cs := #[.int .i64 0, .int .i64 0]) ?_ 0 _ rfl; (with_reducible repeat (first | refine zt ?_ _ | refine zx ?_ | refine zq ?_ _)); exact BK658.out) Try.underlying51 rfl (by kernel_rfl) (.tmp .nil))))) rfl ?_;exact ⟨_, _, _, by first | rfl | (simp [zu, zw] <;> rfl) | (simp [*, zu, zw] <;> rfl), by (with_reducible repeat (first | apply Kd.zbo | apply Kd.zbn | apply Kd.zbr)); exact Kd.zbf (Kd.zcp (p := ⟨gb658, 1, none⟩) (Kd.zcp (p := ⟨gb658, 0, none⟩) (Kd.zck HO_7.out BK658.out (by decide)) (fun _ hk => hk.2) (.int .i64 t680)) (fun _ hk => hk.2) (.int .i64 t681)) (fun _ hk => trivial), by (with_reducible repeat (first | apply Kd.zbo | apply Kd.zbn | apply Kd.zbr)); exact Kd.zbf (Kd.zcp (p := ⟨gb658, 1, none⟩) (Kd.zcp (p := ⟨gb658, 0, none⟩) (Kd.zck HO695.out BK658.out (by decide)) (fun _ hk => hk.2) (.int .i64 t680)) (fun _ hk => hk.2) (.int .i64 t681)) (fun _ hk => trivial), by (with_reducible repeat (first | apply Kd.zbo | apply Kd.zbn | apply Kd.zbr)); exact Kd.zbf (Kd.zcp (p := ⟨gb658, 1, none⟩) (Kd.zcp (p := ⟨gb658, 0, none⟩) (Kd.zck HO686.out BK658.out (by decide)) (fun _ hk => hk.2) (.int .i64 t680)) (fun _ hk => hk.2) (.int .i64 t681)) (fun _ hk => trivial), Zq17 HB (zh.ge HI661.out) GE658 GE683⟩
def bits_Mul64.f (a0 : Int) (a1 : Int) : Option (Int × Int) := some (IntKind.u64.wrap ((IntKind.u64.wrap ((IntKind.u64.wrap ((a0 / 4294967296) * (a1 / 4294967296))) + ((IntKind.u64.wrap ((IntKind.u64.wrap ((a0 / 4294967296) * (Go.bits .and .u64 a1 4294967295))) + ((IntKind.u64.wrap ((Go.bits .and .u64 a0 4294967295) * (Go.bits .and .u64 a1 4294967295))) / 4294967296))) / 4294967296))) + ((IntKind.u64.wrap ((Go.bits .and .u64 (IntKind.u64.wrap ((IntKind.u64.wrap ((a0 / 4294967296) * (Go.bits .and .u64 a1 4294967295))) + ((IntKind.u64.wrap ((Go.bits .and .u64 a0 4294967295) * (Go.bits .and .u64 a1 4294967295))) / 4294967296))) 4294967295) + (IntKind.u64.wrap ((Go.bits .and .u64 a0 4294967295) * (a1 / 4294967296))))) / 4294967296)), IntKind.u64.wrap (a0 * a1))
set_option maxHeartbeats 8000000 in
theorem bits_Mul64.calls (a0 : Int) (a1 : Int) (r1 : Int) (r2 : Int) (w : World) (h : bits_Mul64.f a0 a1 = some (r1, r2)) :
  Calls Try.prog 118 #[.int .u64 a0, .int .u64 a1] w fun e w' => e = .returned (.tuple #[.int .u64 r1, .int .u64 r2]) ∧ zcb w w' := by
 have H : (some (IntKind.u64.wrap ((IntKind.u64.wrap ((IntKind.u64.wrap ((a0 / 4294967296) * (a1 / 4294967296))) + ((IntKind.u64.wrap ((IntKind.u64.wrap ((a0 / 4294967296) * (Go.bits .and .u64 a1 4294967295))) + ((IntKind.u64.wrap ((Go.bits .and .u64 a0 4294967295) * (Go.bits .and .u64 a1 4294967295))) / 4294967296))) / 4294967296))) + ((IntKind.u64.wrap ((Go.bits .and .u64 (IntKind.u64.wrap ((IntKind.u64.wrap ((a0 / 4294967296) * (Go.bits .and .u64 a1 4294967295))) + ((IntKind.u64.wrap ((Go.bits .and .u64 a0 4294967295) * (Go.bits .and .u64 a1 4294967295))) / 4294967296))) 4294967295) + (IntKind.u64.wrap ((Go.bits .and .u64 a0 4294967295) * (a1 / 4294967296))))) / 4294967296)), IntKind.u64.wrap (a0 * a1))) = some (r1, r2) := h
 clear h
 simp only [Option.some.injEq, Prod.mk.injEq] at H
 obtain ⟨rfl, rfl⟩ := H
 go_enter Try.func118, Try.ntmps118
 go_wp2
 go_ret2
 exact ⟨by first | rfl | (simp; done) | (simp [*]; done), by repeat (first | exact zcb.refl _ | apply zcb.step)⟩
def bits_Mul.f (a0 : Int) (a1 : Int) : Option (Int × Int) := (bits_Mul64.f a0 a1).bind fun bt300 => (some (bt300.1, bt300.2))
set_option maxHeartbeats 8000000 in
theorem bits_Mul.calls (a0 : Int) (a1 : Int) (r1 : Int) (r2 : Int) (w : World) (h : bits_Mul.f a0 a1 = some (r1, r2)) :
  Calls Try.prog 116 #[.int .u64 a0, .int .u64 a1] w fun e w' => e = .returned (.tuple #[.int .u64 r1, .int .u64 r2]) ∧ zcb w w' := by
 have H : ((bits_Mul64.f a0 a1).bind fun bt300 => (some (bt300.1, bt300.2))) = some (r1, r2) := h
 clear h
 replace H := Option.bind_eq_some_iff.mp H
 obtain ⟨⟨t300, t301⟩, A30, H⟩ := H
 replace H : (some (t300, t301)) = some (r1, r2) := H
 have A3 := za.mk A30
 clear A30
 simp only [Option.some.injEq, Prod.mk.injEq] at H
 obtain ⟨rfl, rfl⟩ := H
 go_enter Try.func116, Try.ntmps116
 go_wp2_with (first | ((with_reducible refine zbc (f := 118) rfl ?_); refine zby (some 25) rfl rfl Try.func118 (by kernel_rfl) rfl #[.int .u64 a0, .int .u64 a1] rfl Zmt ?_; (with_reducible refine (bits_Mul64.calls a0 a1 t300 t301 _ A3.out).mono ?_); rintro e w' ⟨rfl, ⟨nd, rfl⟩⟩; refine ⟨_, rfl, ?_⟩))
 go_ret2
 exact ⟨by first | rfl | (simp; done) | (simp [*]; done), by repeat (first | exact zcb.refl _ | apply zcb.step)⟩
theorem and_lo (x : Int) (h0 : 0 ≤ x) (h1 : x < 4294967296) : Go.bits .and .u64 x 4294967295 = x := by
  obtain ⟨a, rfl⟩ := Int.eq_ofNat_of_zero_le h0
  have ha : a < 4294967296 := by omega
  have hb : (4294967295 : Int) = ((4294967295 : Nat) : Int) := rfl
  simp only [Go.bits]
  rw [show IntKind.u64.bits = 64 from rfl, hb, BitVec.toNat_and, BitVec.ofInt_natCast, BitVec.ofInt_natCast, BitVec.toNat_ofNat, BitVec.toNat_ofNat, Nat.mod_eq_of_lt (show a < 2 ^ 64 by omega), Nat.mod_eq_of_lt (show 4294967295 < 2 ^ 64 by omega)]
  rw [show (4294967295 : Nat) = 2 ^ 32 - 1 by decide, Nat.and_two_pow_sub_one_eq_mod, Nat.mod_eq_of_lt (by omega)]
  rw [IntKind.wrap_u64]
  omega
theorem zi5 (n : Int) (h0 : 0 ≤ n) (h1 : n ≤ 1000000) : bits_Mul.f 1 n = some (0, n) := by
  have hd : n / 4294967296 = 0 := Int.ediv_eq_zero_of_lt h0 (by omega)
  have w0 : ∀ x : Int, 0 ≤ x → x ≤ 1000000 → IntKind.u64.wrap x = x := fun x h h' => by rw [IntKind.wrap_u64]; omega
  unfold bits_Mul.f bits_Mul64.f
  rw [and_lo 1 (by omega) (by omega), and_lo n h0 (by omega), hd]
  simp only [Int.one_mul, show (1 : Int) / 4294967296 = 0 by decide, Int.zero_mul, w0 0 (by omega) (by omega), w0 n h0 h1, hd, Int.add_zero, Int.mul_zero, and_lo 0 (by omega) (by omega), show (0 : Int) / 4294967296 = 0 by decide, Option.bind_some]
def rowAt (n m : Nat) : List Int := List.replicate m (-1) ++ List.replicate (n - m) 0
theorem rowAt_set (n m : Nat) (h : m < n) : (rowAt n m).set m (-1) = rowAt n (m + 1) := by
  unfold rowAt
  rw [List.set_append_right _ _ (by simp), List.length_replicate, Nat.sub_self, show n - m = (n - (m + 1)) + 1 by omega, List.replicate_succ, List.set_cons_zero, List.replicate_succ', List.append_assoc, List.singleton_append]
theorem rowAt_rd (n m i : Nat) (h : i < m) (hm : m ≤ n) : rdOf 0 (rowAt n m) (i : Int) = -1 := by
  unfold rdOf rowAt
  rw [List.getD_eq_getElem?_getD, Int.toNat_natCast, List.getElem?_append_left (by simpa using h), List.getElem?_replicate, if_pos h]
  rfl
theorem R_rowAt {e base : Nat} {ok : Nat → Prop} {g n cap : Nat} : ∀ (q m : Nat) (W : World), m + q ≤ n → Kd.R (Kd.int .i64) e W base ok (.slice (some ⟨g, 0, none⟩) n cap) (rowAt n m) → Kd.R (Kd.int .i64) e (W.setCells g m (List.replicate q (.int .i64 (-1)))) base ok (.slice (some ⟨g, 0, none⟩) n cap) (rowAt n (m + q))
  | 0, m, W, _, h => h
  | q + 1, m, W, hq, h => by
    rw [List.replicate_succ, World.setCells]
    have h1 := (Kd.zc9 h (m : Int) (-1)).1
    rw [Int.toNat_natCast, rowAt_set n m (by omega)] at h1
    have := R_rowAt q (m + 1) _ (by omega) h1
    rwa [show m + 1 + q = m + (q + 1) by omega] at this
theorem below_setCells {base : Nat} {w : World} {g : Nat} (hg : base ≤ g) : ∀ (vs : List Value) (o : Nat) (W : World), Below base w W → Below base w (W.setCells g o vs)
  | [], _, _, h => h
  | v :: vs, o, W, h => below_setCells hg vs (o + 1) _ (h.setCell hg _)
theorem self_copy {base : Nat} {ok : Nat → Prop} {g n cap m : Nat} {W : World} (hm : 1 ≤ m) (hmn : m ≤ n) (h : Kd.R (Kd.int .i64) 3 W base ok (.slice (some ⟨g, 0, none⟩) n cap) (rowAt n m)) (ty dc sc : Nat) :
    (Builtin.copy_ #[27, 27] ty #[.slice (some ⟨g, m, none⟩) (n - m) dc, .slice (some ⟨g, 0, none⟩) m sc]).run Try.prog W = .ok (goInt ((List.replicate (min m (n - m)) (Value.int .i64 (-1))).length)) (W.setCells g m (List.replicate (min m (n - m)) (.int .i64 (-1)))) := by
  have hc := fun (i : Nat) (hi : i < n) => Kd.zc4 0 h (i : Int) (by omega) (by omega)
  refine run_copy_cells W 27 27 ty 3 g m (n - m) dc ⟨g, 0, none⟩ m sc _ Try.underlying27 (by kernel_rfl) (by rw [List.length_replicate]) (fun j v hj => ?_) (fun j hj => ?_) (fun j hj => ?_) (fun v hv => ?_)
  · rw [List.getElem?_replicate] at hj
    split at hj
    · rename_i hlt
      have := (hc j (by omega)).1
      rw [rowAt_rd n m j (by omega) hmn, Int.toNat_natCast] at this
      injection hj with hj
      rw [← hj, ← this]
      simp only [Addr.add]
      split
      · rename_i h0; subst h0; rfl
      · simp
    · cases hj
  · rw [List.length_replicate] at hj
    have := (hc (m + j) (by omega)).1
    rw [Int.toNat_natCast] at this
    rw [this]; rfl
  · rw [List.length_replicate] at hj
    have := (hc (m + j) (by omega)).2
    rwa [Int.toNat_natCast] at this
  · rw [List.eq_of_mem_replicate hv]; rfl
theorem zi6 {P : Program} (w : World) {o : Oper} {a : Act} {K : Act → World → Prop} {Q : Exit → Act → World → Prop} (d s : Operand) (t t' : TypeId)
    (ho : o.op = .call { callee := .builtin .copy, args := #[d, s], argTypes := #[t, t'] }) (v u : Value) (hd : a.eval d = v) (hs : a.eval s = u) {v' : Value} {w' : World}
    (hr : (Builtin.copy_ #[t, t'] o.type #[v, u]).run P w = .ok v' w') (h : K (a.put o.dst v') w') : o.wp P a w K Q := by
  unfold Oper.wp execOp
  simp only [ho, resolve, invoke, builtin, Sem.run_bind, Sem.run_pure, Result.andThen_ok, List.map_toArray, List.map_cons, List.map_nil, hd, hs, hr]
  exact h
theorem zhp {P : Program} {ops : Array Oper} {o : Oper} {a : Act} {w : World} {K : Act → World → Prop} {Q : Exit → Act → World → Prop} {E : Prop}
    (hg : o.guard = none) (d x : Operand) (dT sT : TypeId) (hop : o.op = Op.call { callee := Callee.builtin Builtin.copy, args := #[d, x], argTypes := #[dT, sT] })
    (v u : Value) (hd : a.eval d = v) (hx : a.eval x = u) {v' : Value} {w' : World} (hr : (Builtin.copy_ #[dT, sT] o.type #[v, u]).run P w = .ok v' w') (hK : K (a.put o.dst v') w') :
    if Region.wanted o (yielded ops a.tmps) = true then Oper.wp P o a w K Q else E := by
  have hw : Region.wanted o (yielded ops a.tmps) = true := by simp [Region.wanted, hg]
  rw [if_pos hw]
  exact zi6 w d x dT sT hop v u hd hx hr hK
set_option maxHeartbeats 4000000 in
theorem zi7 (n : Nat) (hn : n ≤ 1000000) (hpos : 0 < n) (A : Option Addr) (c : Nat) (w : World) (hr : Kd.C (Kd.int .i64) w A 1 [-1]) :
    Calls Try.prog 114 #[.slice A 1 c, .int .i64 n] w fun e w' => ∃ v0_ : Value, e = .returned v0_ ∧ Kd.R (Kd.int .i64) 3 w' w.heap.size (fun _ => True) v0_ (List.replicate n (-1)) ∧ Below w.heap.size w w' := by
  have HR := za.mk hr
  clear hr
  have hM := za.mk (zi5 (n : Int) (by omega) (by omega))
  have hn0 : ¬ (n : Int) < 0 := by omega
  have hn1 : IntKind.u64.wrap (n : Int) = (n : Int) := by rw [IntKind.wrap_u64]; omega
  have hn2 : IntKind.i64.wrap (n : Int) = (n : Int) := by rw [IntKind.wrap_i64]; omega
  have hn3 : ¬ (n : Int) > 9223372036854775807 := by omega
  have hn4 : decide ((n : Int) > 9223372036854775807) = false := decide_eq_false (by omega)
  go_enter Try.func114, Try.ntmps114
  go_wp2_with (first
    | (go_at_call 116; refine (bits_Mul.calls 1 (n : Int) 0 (n : Int) _ hM.out).mono ?_; rintro e w' ⟨rfl, ⟨nq, rfl⟩⟩)
    | ((with_reducible refine zbp (N := 30) rfl ?_); refine Kd.zgl (Kd.int .i64) _ 3 rfl (N := 30) rfl 27 _ _ rfl (n : Int) rfl rfl Try.underlying27 (.int .i64 0) 8 info3 rfl (by decide) (by omega) 0 (ok := fun _ => True) (okp := fun _ => True) rfl (fun _ hk => hk) trivial (by omega) (by omega) (Below.refl _ _) (Nat.le_refl _) ?_; intro v w4 ho5 hb hg_ hnew_; rw [Int.toNat_natCast] at ho5; obtain ⟨gb, cap, ev, hgb, _, _, _⟩ := Kd.zd0 ho5 (by rw [List.length_replicate]; exact hpos); subst ev; rw [List.length_replicate] at ho5; have HO := za.mk ho5; have HB := za.mk hb; have GB := za.mk hgb; clear hg_ hnew_ ho5 hb hgb)
    | ((with_reducible refine zbp (N := 33) rfl ?_); refine Kd.R_copy (0 : Int) (w.drewN nq).heap.size rfl _ _ 27 27 3 rfl Try.underlying27 (by kernel_rfl) _ _ [-1] A 1 c (fun _ => True) rfl rfl HO.out (Kd.zb4 HR.out ((zbi (Below.refl _ _) nq).trans HB.out)) HB.out HB.out.size ?_; intro w5 ho6 hb6 hg6; rw [show [(-1 : Int)].take (min 1 (List.replicate n (0 : Int)).length) ++ (List.replicate n (0 : Int)).drop (min 1 (List.replicate n (0 : Int)).length) = rowAt n 1 by rw [List.length_replicate, Nat.min_eq_left hpos]; simp [rowAt]] at ho6; have HO6 : za (Kd.R (Kd.int .i64) 3 w5 (w.drewN nq).heap.size (fun _ => True) (.slice (some ⟨gb, 0, none⟩) n cap) (rowAt n 1)) := ⟨ho6⟩; have HB6 := za.mk hb6; clear ho6 hb6 hg6))
  go_loopg [8] n (fun gg v8 wr => ∃ m : Nat, v8 = .int .i64 m ∧ 1 ≤ m ∧ m ≤ n ∧ n - m ≤ gg ∧ za (Kd.R (Kd.int .i64) 3 wr (w.drewN nq).heap.size (fun _ => True) (.slice (some ⟨gb, 0, none⟩) n cap) (rowAt n m)) ∧ za (Below (w.drewN nq).heap.size (w.drewN nq) wr))
  case atStart => exact ⟨1, by rw [Nat.min_eq_left hpos], by omega, by omega, by omega, HO6, HB6⟩
  case round =>
    obtain ⟨m, rfl, hm1, hmn, hgg, R7, B7⟩ := hrel
    by_cases hlt : m < n
    · have hltz : (m : Int) < (n : Int) := by omega
      have hmz : (m : Int) ≤ (n : Int) := by omega
      have hm0 : (0 : Int) ≤ (m : Int) := by omega
      have hcap : n ≤ cap := (Kd.zbu R7.out).2.1
      have hmc : m ≤ cap := by omega
      have hcm : ¬ cap = m := by omega
      go_wp2_with fail
      go_region_law (refine zhp rfl _ _ 27 27 rfl (.slice (some ⟨gb, m, none⟩) (n - m) (cap - m)) (.slice (some ⟨gb, 0, none⟩) m cap) (by simp [Act.eval, Act.put]) (by simp [Act.eval, Act.put]) (self_copy hm1 hmn (Kd.zbr R7.out) _ _ _) ?_)
      all_goals go_wp2
      go_roundg (n - (m + min m (n - m)))
      case measure => omega
      case rel =>
        refine ⟨m + min m (n - m), ?_, by omega, by omega, Nat.le_refl _, ⟨R_rowAt _ _ _ (by omega) (Kd.zbr R7.out)⟩, ⟨below_setCells GB.out _ _ _ (zbs B7.out)⟩⟩
        first | rfl | (congr 1; unfold wrap64; omega) | (congr 1; rw [IntKind.wrap_i64]; omega)
    · have hltz : ¬ (m : Int) < (n : Int) := by omega
      go_wp2
      go_ret
      refine ⟨_, rfl, ?_, ?_⟩
      · have := R7.out
        rw [show m = n by omega] at this
        unfold rowAt at this
        rw [Nat.sub_self, List.replicate_zero, List.append_nil] at this
        exact Kd.zcf this (Nat.le_refl _)
      · exact zb8 (zbi (Below.refl _ _) nq) (Nat.le_refl _) B7.out
set_option maxHeartbeats 4000000 in
theorem zjw (A : Option Addr) (c : Nat) (w : World) (hr : Kd.C (Kd.int .i64) w A 1 [-1]) :
    Calls Try.prog 114 #[.slice A 1 c, .int .i64 0] w fun e w' => ∃ v0_ : Value, e = .returned v0_ ∧ Kd.R (Kd.int .i64) 3 w' w.heap.size (fun _ => True) v0_ [] ∧ Below w.heap.size w w' := by
  have HR := za.mk hr
  clear hr
  have hM := za.mk (zi5 0 (by omega) (by omega))
  go_enter Try.func114, Try.ntmps114
  go_wp2_with (first
    | (go_at_call 116; refine (bits_Mul.calls 1 0 0 0 _ hM.out).mono ?_; rintro e w' ⟨rfl, ⟨nq, rfl⟩⟩)
    | ((with_reducible refine zbp (N := 30) rfl ?_); refine Kd.zgl (Kd.int .i64) _ 3 rfl (N := 30) rfl 27 _ _ rfl 0 rfl rfl Try.underlying27 (.int .i64 0) 8 info3 rfl (by decide) (by omega) 0 (ok := fun _ => True) (okp := fun _ => True) rfl (fun _ hk => hk) trivial (by omega) (by omega) (Below.refl _ _) (Nat.le_refl _) ?_; intro v w4 ho5 hb hg_ hnew_; have HO := za.mk ho5; have HB := za.mk hb; clear hg_ hnew_ ho5 hb; obtain ⟨A2, c2, ev⟩ := Kd.zb6 HO.out; subst ev)
    | ((with_reducible refine zbp (N := 33) rfl ?_); refine Kd.R_copy (0 : Int) (w.drewN nq).heap.size rfl _ _ 27 27 3 rfl Try.underlying27 (by kernel_rfl) _ _ [-1] A 1 c (fun _ => True) rfl rfl HO.out (Kd.zb4 HR.out ((zbi (Below.refl _ _) nq).trans HB.out)) HB.out HB.out.size ?_; intro w5 ho6 hb6 hg6; have HO6 : za (Kd.R (Kd.int .i64) 3 w5 (w.drewN nq).heap.size (fun _ => True) (.slice A2 0 c2) []) := ⟨ho6⟩; have HB6 := za.mk hb6; clear ho6 hb6 hg6))
  go_loopg [8] 0 (fun gg v8 wr => v8 = .int .i64 0 ∧ za (Kd.R (Kd.int .i64) 3 wr (w.drewN nq).heap.size (fun _ => True) (.slice A2 0 c2) []) ∧ za (Below (w.drewN nq).heap.size (w.drewN nq) wr))
  case atStart => exact ⟨rfl, HO6, HB6⟩
  case round =>
    obtain ⟨rfl, R7, B7⟩ := hrel
    go_wp2
    go_ret
    exact ⟨_, rfl, Kd.zcf R7.out (Nat.le_refl _), zb8 (zbi (Below.refl _ _) nq) (Nat.le_refl _) B7.out⟩
theorem repeat_any (n : Nat) (hn : n ≤ 1000000) (A : Option Addr) (c : Nat) (w : World) (hr : Kd.C (Kd.int .i64) w A 1 [-1]) :
    Calls Try.prog 114 #[.slice A 1 c, .int .i64 n] w fun e w' => ∃ v0_ : Value, e = .returned v0_ ∧ Kd.R (Kd.int .i64) 3 w' w.heap.size (fun _ => True) v0_ (List.replicate n (-1)) ∧ Below w.heap.size w w' := by
  rcases Nat.eq_zero_or_pos n with rfl | h
  · exact zjw A c w hr
  · exact zi7 n hn h A c w hr
def zfe.f (a0 : Int) : Option (List Int) := if 0 ≤ a0 ∧ a0 ≤ 1000000 then (some (List.replicate a0.toNat (-1))) else (none)
set_option maxHeartbeats 4000000 in
theorem zfe.calls (a0 : Int) (r : List Int) (w : World) (h : zfe.f a0 = some r) :
    Calls Try.prog 99 #[.int .i64 a0] w fun e w' => ∃ v0_ : Value, e = .returned (v0_) ∧ Kd.R (Kd.int .i64) 3 w' w.heap.size (fun _ => True) v0_ r ∧ Below w.heap.size w w' := by
  unfold zfe.f at h
  by_cases hc : 0 ≤ a0 ∧ a0 ≤ 1000000
  · rw [if_pos hc] at h
    obtain rfl := Option.some.inj h
    clear h
    obtain ⟨n, rfl⟩ := Int.eq_ofNat_of_zero_le hc.1
    rw [Int.toNat_natCast]
    have hn : n ≤ 1000000 := by omega
    clear hc
    go_enter Try.func99, Try.ntmps99
    go_wp2_with (go_at_call 114; refine (repeat_any n hn _ _ _ ?_).mono ?_)
    · refine ⟨rfl, by omega, fun _ => ⟨_, rfl, fun j p hj => ?_⟩⟩
      match j, hj with
      | 0, hj =>
        injection hj with hj
        subst hj
        refine ⟨[.int .i64 (-1)], rfl, rfl, fun i u hi => ?_⟩
        match i, hi with
        | 0, hi =>
          injection hi with hi
          subst hi
          show (w.alloc _).cell? (Addr.add _ 0) = _
          rw [Addr.add_zero']
          simp
        | i + 1, hi => simp at hi
      | j + 1, hj => simp at hj
    · rintro e w' ⟨v0_, rfl, hR, hB⟩
      have HR := za.mk hR
      have HB := za.mk hB
      clear hR hB
      go_wp2
      go_ret
      exact ⟨_, rfl, Kd.zcf HR.out (by simp), zdf (zbm (Below.refl _ _) _) (by simp) HB.out⟩
  · rw [if_neg hc] at h
    cases h
def stepD (js : List JobT) (now : Int) (p : List Int × List Int) (i : Int) : List Int × List Int :=
  if i < 0 then p else (p.1.set i.toNat (wrap64 (rd p.1 i + 1)), if wrap64 (rd p.1 i + 1) = (jrd js i.toNat).f3 then p.2.set i.toNat (now + 1) else p.2)
def simT (pk : List Int → Int → Int) (js : List JobT) : Nat → List Int × List Int
  | 0 => (List.replicate js.length 0, List.replicate js.length (-1))
  | t + 1 => stepD js (t : Int) (simT pk js t) (pk (simT pk js t).1 (t : Int))
def runT (pk : List Int → Int → Int) (js : List JobT) (t : Nat) : Int := pk (simT pk js t).1 (t : Int)
def zfr (pk : List Int → Int → Int) (js : List JobT) (t : Nat) : List Int := (List.range t).map (runT pk js) ++ List.replicate (120 - t) (-1)
def simR (pk : List Int → Int → Int) (js : List JobT) : List Int × List Int := ((List.range 120).map (runT pk js), (simT pk js 120).2)
theorem stepD_len (js : List JobT) (now : Int) (p : List Int × List Int) (i : Int) : (stepD js now p i).1.length = p.1.length ∧ (stepD js now p i).2.length = p.2.length := by
  unfold stepD
  split
  · exact ⟨rfl, rfl⟩
  · refine ⟨by simp, ?_⟩
    simp only
    split <;> simp
theorem zf1 (pk : List Int → Int → Int) (js : List JobT) : ∀ t, (simT pk js t).1.length = js.length ∧ (simT pk js t).2.length = js.length
  | 0 => by simp [simT]
  | t + 1 => by
    have h1 := stepD_len js (t : Int) (simT pk js t) (pk (simT pk js t).1 (t : Int))
    have h2 := zf1 pk js t
    rw [simT]; omega
theorem runRow_len (pk : List Int → Int → Int) (js : List JobT) (t : Nat) (h : t ≤ 120) : (zfr pk js t).length = 120 := by simp [zfr]; omega
theorem zgi (pk : List Int → Int → Int) (js : List JobT) (t : Nat) (h : t < 120) : (zfr pk js t).set t (runT pk js t) = zfr pk js (t + 1) := by
  unfold zfr
  rw [List.set_append_right _ _ (by simp), List.length_map, List.length_range, Nat.sub_self, show 120 - t = (120 - (t + 1)) + 1 by omega, List.replicate_succ, List.set_cons_zero, List.range_succ, List.map_append, List.append_assoc]
  rfl
theorem zi8 {pk : List Int → Int → Int} {js : List JobT} {t : Nat} (h : pk (simT pk js t).1 (t : Int) = -1) : simT pk js (t + 1) = simT pk js t := by
  rw [simT, h]
  rfl
theorem zi9 {pk : List Int → Int → Int} {js : List JobT} {t b : Nat} {x y : Int} (h : pk (simT pk js t).1 (t : Int) = (b : Int)) (hx : rd (simT pk js t).1 (b : Int) = x) (hy : (jrd js b).f3 = y) :
    simT pk js (t + 1) = ((simT pk js t).1.set b (wrap64 (x + 1)), if wrap64 (x + 1) = y then (simT pk js t).2.set b ((t : Int) + 1) else (simT pk js t).2) := by
  rw [simT, h]
  unfold stepD
  rw [if_neg (by omega), hx, Int.toNat_natCast, hy]
structure SimW (w : World) (n : Nat) (A : Option Addr) (c g go : Nat) (D R F : Option Addr) (cd cr cf : Nat) (dn rn fn : List Int) (now : Int) (W : World) : Prop where
  jobs : W.cell? ⟨g, 0, none⟩ = some (.slice A n c)
  done : W.cell? ⟨g, 1, none⟩ = some (.slice D n cd)
  time : W.cell? ⟨g, 2, none⟩ = some (.int .i64 now)
  ftime : W.frozen? ⟨g, 2, none⟩ = false
  o0 : W.cell? ⟨go, 0, none⟩ = some (.slice R 120 cr)
  o1 : W.cell? ⟨go, 1, none⟩ = some (.slice F n cf)
  dR : Kd.R (Kd.int .i64) 3 W w.heap.size (fun k => some k = (Value.slice D n cd).ownBlock) (.slice D n cd) dn
  rR : Kd.R (Kd.int .i64) 3 W w.heap.size (fun k => some k = (Value.slice R 120 cr).ownBlock) (.slice R 120 cr) rn
  fR : Kd.R (Kd.int .i64) 3 W w.heap.size (fun k => some k = (Value.slice F n cf).ownBlock) (.slice F n cf) fn
  bel : Below w.heap.size w W
structure SimNe (w : World) (n g go : Nat) (D R F : Option Addr) (cd cr cf : Nat) : Prop where
  gn : w.heap.size ≤ g
  gon : w.heap.size ≤ go
  ggo : g ≠ go
  gD : ∀ k, (Value.slice D n cd).ownBlock = some k → k ≠ g ∧ k ≠ go
  gR : ∀ k, (Value.slice R 120 cr).ownBlock = some k → k ≠ g ∧ k ≠ go
  gF : ∀ k, (Value.slice F n cf).ownBlock = some k → k ≠ g ∧ k ≠ go
  DR : ∀ k, (Value.slice D n cd).ownBlock = some k → some k ≠ (Value.slice R 120 cr).ownBlock
  DF : ∀ k, (Value.slice D n cd).ownBlock = some k → some k ≠ (Value.slice F n cf).ownBlock
  RF : ∀ k, (Value.slice R 120 cr).ownBlock = some k → some k ≠ (Value.slice F n cf).ownBlock
section
variable {w W W1 : World} {n : Nat} {A : Option Addr} {c g go : Nat} {D R F : Option Addr} {cd cr cf : Nat} {dn rn fn : List Int} {now : Int}
theorem SimW.below (h : SimW w n A c g go D R F cd cr cf dn rn fn now W) (hb : Below W.heap.size W W1) : SimW w n A c g go D R F cd cr cf dn rn fn now W1 :=
  ⟨(hb.cell (World.block_lt_of_cell? _ _ h.jobs)).trans h.jobs, (hb.cell (World.block_lt_of_cell? _ _ h.done)).trans h.done, (hb.cell (World.block_lt_of_cell? _ _ h.time)).trans h.time,
   (hb.frozen (World.block_lt_of_cell? _ _ h.time)).trans h.ftime, (hb.cell (World.block_lt_of_cell? _ _ h.o0)).trans h.o0, (hb.cell (World.block_lt_of_cell? _ _ h.o1)).trans h.o1,
   Kd.zcv h.dR hb, Kd.zcv h.rR hb, Kd.zcv h.fR hb, zm h.bel hb⟩
theorem SimW.mach (h : SimW w n A c g go D R F cd cr cf dn rn fn now W) {js : List JobT} (hn : js.length = n) (hr : Kd.C k34 w A js.length js) (hl : dn.length = js.length) : Mach W g A c js D cd dn now := by
  subst hn
  refine ⟨h.jobs, by rw [hl]; exact h.done, h.time, Kd.zb4 hr h.bel, (Kd.zbu h.dR).2.2, hl⟩
theorem SimW.zjx (h : SimW w n A c g go D R F cd cr cf dn rn fn now W) (ne : SimNe w n g go D R F cd cr cf) (x : Int) : SimW w n A c g go D R F cd cr cf dn rn fn x (W.setCell ⟨g, 2, none⟩ (.int .i64 x)) := by
  refine ⟨?_, ?_, World.cell?_setCell_same _ _ _ h.time, ?_, ?_, ?_, Kd.zcp h.dR (fun k hk => (ne.gD k hk.symm).1) _, Kd.zcp h.rR (fun k hk => (ne.gR k hk.symm).1) _, Kd.zcp h.fR (fun k hk => (ne.gF k hk.symm).1) _, h.bel.setCell ne.gn _⟩
  · rw [World.cell?_setCell_other _ _ _ _ (by simp)]; exact h.jobs
  · rw [World.cell?_setCell_other _ _ _ _ (by simp)]; exact h.done
  · rw [World.frozen?_setCell]; exact h.ftime
  · rw [World.cell?_setCell_far _ _ _ _ ne.ggo]; exact h.o0
  · rw [World.cell?_setCell_far _ _ _ _ ne.ggo]; exact h.o1
theorem SimW.setRun {gr : Nat} (h : SimW w n A c g go D (some ⟨gr, 0, none⟩) F cd cr cf dn rn fn now W) (ne : SimNe w n g go D (some ⟨gr, 0, none⟩) F cd cr cf) (ho : (Value.slice (some ⟨gr, 0, none⟩) 120 cr).ownBlock = some gr) (i : Nat) (x : Int) :
    SimW w n A c g go D (some ⟨gr, 0, none⟩) F cd cr cf dn (rn.set i x) fn now (W.setCell ⟨gr, i, none⟩ (.int .i64 x)) := by
  have hg := ne.gR gr ho
  have h1 := (Kd.zc9 h.rR (i : Int) x).1
  rw [Int.toNat_natCast] at h1
  refine ⟨?_, ?_, ?_, ?_, ?_, ?_, Kd.zcp h.dR (fun k hk e => ne.DR k hk.symm (by rw [ho]; exact congrArg some e)) _, h1, Kd.zcp h.fR (fun k hk e => ne.RF gr ho (by rw [← hk]; exact congrArg some e.symm)) _, h.bel.setCell (Kd.zda h.rR _ ho) _⟩
  · rw [World.cell?_setCell_far _ _ _ _ hg.1]; exact h.jobs
  · rw [World.cell?_setCell_far _ _ _ _ hg.1]; exact h.done
  · rw [World.cell?_setCell_far _ _ _ _ hg.1]; exact h.time
  · rw [World.frozen?_setCell]; exact h.ftime
  · rw [World.cell?_setCell_far _ _ _ _ hg.2]; exact h.o0
  · rw [World.cell?_setCell_far _ _ _ _ hg.2]; exact h.o1
theorem SimW.setFin {gr : Nat} (h : SimW w n A c g go D R (some ⟨gr, 0, none⟩) cd cr cf dn rn fn now W) (ne : SimNe w n g go D R (some ⟨gr, 0, none⟩) cd cr cf) (ho : (Value.slice (some ⟨gr, 0, none⟩) n cf).ownBlock = some gr) (i : Nat) (x : Int) :
    SimW w n A c g go D R (some ⟨gr, 0, none⟩) cd cr cf dn rn (fn.set i x) now (W.setCell ⟨gr, i, none⟩ (.int .i64 x)) := by
  have hg := ne.gF gr ho
  have h1 := (Kd.zc9 h.fR (i : Int) x).1
  rw [Int.toNat_natCast] at h1
  refine ⟨?_, ?_, ?_, ?_, ?_, ?_, Kd.zcp h.dR (fun k hk e => ne.DF k hk.symm (by rw [ho]; exact congrArg some e)) _, Kd.zcp h.rR (fun k hk e => ne.RF k hk.symm (by rw [ho]; exact congrArg some e)) _, h1, h.bel.setCell (Kd.zda h.fR _ ho) _⟩
  · rw [World.cell?_setCell_far _ _ _ _ hg.1]; exact h.jobs
  · rw [World.cell?_setCell_far _ _ _ _ hg.1]; exact h.done
  · rw [World.cell?_setCell_far _ _ _ _ hg.1]; exact h.time
  · rw [World.frozen?_setCell]; exact h.ftime
  · rw [World.cell?_setCell_far _ _ _ _ hg.2]; exact h.o0
  · rw [World.cell?_setCell_far _ _ _ _ hg.2]; exact h.o1
theorem SimW.setDone {gr : Nat} (h : SimW w n A c g go (some ⟨gr, 0, none⟩) R F cd cr cf dn rn fn now W) (ne : SimNe w n g go (some ⟨gr, 0, none⟩) R F cd cr cf) (ho : (Value.slice (some ⟨gr, 0, none⟩) n cd).ownBlock = some gr) (i : Nat) (x : Int) :
    SimW w n A c g go (some ⟨gr, 0, none⟩) R F cd cr cf (dn.set i x) rn fn now (W.setCell ⟨gr, i, none⟩ (.int .i64 x)) := by
  have hg := ne.gD gr ho
  have h1 := (Kd.zc9 h.dR (i : Int) x).1
  rw [Int.toNat_natCast] at h1
  refine ⟨?_, ?_, ?_, ?_, ?_, ?_, h1, Kd.zcp h.rR (fun k hk e => ne.DR gr ho (by rw [← hk]; exact congrArg some e.symm)) _, Kd.zcp h.fR (fun k hk e => ne.DF gr ho (by rw [← hk]; exact congrArg some e.symm)) _, h.bel.setCell (Kd.zda h.dR _ ho) _⟩
  · rw [World.cell?_setCell_far _ _ _ _ hg.1]; exact h.jobs
  · rw [World.cell?_setCell_far _ _ _ _ hg.1]; exact h.done
  · rw [World.cell?_setCell_far _ _ _ _ hg.1]; exact h.time
  · rw [World.frozen?_setCell]; exact h.ftime
  · rw [World.cell?_setCell_far _ _ _ _ hg.2]; exact h.o0
  · rw [World.cell?_setCell_far _ _ _ _ hg.2]; exact h.o1
end
set_option maxHeartbeats 4000000 in
theorem zgp (A : Option Addr) (c : Nat) (n : Nat) (hn : n ≤ 1000000) (w : World) :
    Calls Try.prog 98 #[.slice A n c] w fun e w' => ∃ (g : Nat) (D : Option Addr) (cd : Nat), e = .returned (.pointer (some ⟨g, 0, none⟩)) ∧ w.heap.size ≤ g ∧ g < w'.heap.size ∧
      w'.cell? ⟨g, 0, none⟩ = some (.slice A n c) ∧ w'.cell? ⟨g, 1, none⟩ = some (.slice D n cd) ∧ w'.cell? ⟨g, 2, none⟩ = some (.int .i64 0) ∧ w'.frozen? ⟨g, 2, none⟩ = false ∧
      Kd.R (Kd.int .i64) 3 w' w.heap.size (fun k => k ≠ g) (.slice D n cd) (List.replicate n 0) ∧ Below w.heap.size w w' := by
  have hn2 : IntKind.i64.wrap (n : Int) = (n : Int) := by rw [IntKind.wrap_i64]; omega
  go_enter Try.func98, Try.ntmps98
  go_wp2_with (first
    | ((with_reducible refine zbp (N := 6) rfl ?_); refine Kd.zgl (Kd.int .i64) _ 3 rfl (N := 6) rfl 27 _ _ rfl (n : Int) rfl rfl Try.underlying27 (.int .i64 0) 8 info3 rfl (by decide) (by omega) 0 (ok := fun _ => True) (okp := fun _ => True) rfl (fun _ hk => hk) trivial (by omega) (by omega) (Below.refl _ _) (Nat.le_refl _) ?_; intro v w4 ho5 hb hg_ hnew_; have HO := za.mk ho5; have HB := za.mk hb; clear hg_ hnew_ ho5 hb; obtain ⟨A2, c2, ev⟩ := Kd.zb6 HO.out; subst ev))
  go_ret
  have hO := HO.out
  rw [List.length_replicate, Int.toNat_natCast] at hO
  refine ⟨_, A2, c2, rfl, HB.out.size, by simp, by simp, ?_, by simp, by simp, Kd.zbf (Kd.zbo (Kd.zeo hO) _) (fun k hk => by have := hk.2.2.1; omega), zbm HB.out _⟩
  simp [Int.toNat_natCast]
theorem none_sl (n : Nat) (hn : n ≤ 1000000) (x : Int) (hx : x = (n : Int)) (w : World) :
    Calls Try.prog 99 #[.int .i64 x] w fun e w' => ∃ (A : Option Addr) (c : Nat), e = .returned (.slice A n c) ∧ Kd.R (Kd.int .i64) 3 w' w.heap.size (fun _ => True) (.slice A n c) (List.replicate n (-1)) ∧ Below w.heap.size w w' := by
  subst hx
  refine (zfe.calls (n : Int) (List.replicate n (-1)) w (by unfold zfe.f; rw [if_pos (by omega)]; rfl)).mono ?_
  rintro e w' ⟨v, rfl, hr, hb⟩
  obtain ⟨A, c, ev⟩ := Kd.zb6 hr
  subst ev
  rw [List.length_replicate] at hr ⊢
  exact ⟨A, c, rfl, hr, hb⟩
set_option maxHeartbeats 16000000 in
theorem zhq (pk : List Int → Int → Int) (pn : Nat) (pb pl : Array Value) (ep : ∀ args w, (callFunc pn args).run Try.prog w = .ok (.enter pn args) w)
    (A : Option Addr) (c : Nat) (js : List JobT) (w : World) (hr : Kd.C k34 w A js.length js) (hlen : js.length ≤ 1000)
    (hrng : ∀ dn now, pk dn now = -1 ∨ ∃ b : Nat, b < js.length ∧ pk dn now = (b : Int))
    (hp : ∀ (W : World) (g : Nat) (D : Option Addr) (cd : Nat) (dn : List Int) (t : Nat), t < 120 → Below w.heap.size w W → Mach W g A c js D cd dn (t : Int) → Calls Try.prog pn (pb ++ #[.pointer (some ⟨g, 0, none⟩)] ++ pl) W fun e w' => e = .returned (.int .i64 (pk dn (t : Int))) ∧ Below W.heap.size W w') :
    Calls Try.prog 49 #[.slice A js.length c, .func (.func pn) pb pl] w fun e w' => ∃ v0_ v1_ : Value, e = .returned (.agg #[v0_, v1_]) ∧ Kd.R (Kd.int .i64) 3 w' w.heap.size (fun k_ => some k_ ≠ (v1_ : Value).ownBlock) v0_ (simR pk js).1 ∧ Kd.R (Kd.int .i64) 3 w' w.heap.size (fun k_ => some k_ ≠ (v0_ : Value).ownBlock) v1_ (simR pk js).2 ∧ Below w.heap.size w w' := by
  have HR := za.mk hr
  have HP := za.mk hp
  have HG := za.mk hrng
  clear hr hp hrng
  have tok1 : True := trivial
  go_enter Try.func49, Try.ntmps49
  go_wp2_with (first
    | (go_at_call 98; refine (zgp A c js.length (by omega) _).mono ?_; rintro e w1 ⟨g, D, cd, rfl, hg0, hg1, hj, hd, ht, hf, hdr, hb⟩; have N1 := za.mk (And.intro hg0 (And.intro hg1 (And.intro hj (And.intro hd (And.intro ht (And.intro hf (And.intro hdr hb))))))); clear hg0 hg1 hj hd ht hf hdr hb)
    | (go_at_call 99; have _t := tok1; refine (none_sl 120 (by omega) _ rfl _).mono ?_; rintro e w2 ⟨R, cr, rfl, hr2, hb2⟩; have N2 := za.mk (And.intro hr2 hb2); clear hr2 hb2 tok1)
    | (go_at_call 99; refine (none_sl js.length (by omega) _ rfl _).mono ?_; rintro e w3 ⟨F, cf, rfl, hr3, hb3⟩; have N3 := za.mk (And.intro hr3 hb3); clear hr3 hb3))
  have hne : SimNe (w.alloc (.cells #[.slice none 0 0, .slice none 0 0] 29)) js.length g w3.heap.size D R F cd cr cf ∧ SimW (w.alloc (.cells #[.slice none 0 0, .slice none 0 0] 29)) js.length A c g w3.heap.size D R F cd cr cf (simT pk js 0).1 (zfr pk js 0) (simT pk js 0).2 ((0 : Nat) : Int) (w3.alloc (.cells #[.slice R 120 cr, .slice F js.length cf] 29)) := by
    obtain ⟨hg0, hg1, hj, hd, ht, hf, hdr, hb⟩ := N1.out
    obtain ⟨hr2, hb2⟩ := N2.out
    obtain ⟨hr3, hb3⟩ := N3.out
    have s1 := hb.size
    have s2 := hb2.size
    have s3 := hb3.size
    have h14 : Below w1.heap.size w1 (w3.alloc (.cells #[.slice R 120 cr, .slice F js.length cf] 29)) := zbm (zm hb2 hb3) _
    have h24 : Below w2.heap.size w2 (w3.alloc (.cells #[.slice R 120 cr, .slice F js.length cf] 29)) := zbm hb3 _
    have h34 : Below w3.heap.size w3 (w3.alloc (.cells #[.slice R 120 cr, .slice F js.length cf] 29)) := zbm (Below.refl _ _) _
    have dlt := Kd.R_lt hdr
    have rlt := Kd.R_lt hr2
    have rge := Kd.zda hr2
    have flt := Kd.R_lt hr3
    have fge := Kd.zda hr3
    have dg := hdr.1
    refine ⟨⟨hg0, by omega, by omega, fun k hk => ⟨dg k hk, by have := dlt k hk; omega⟩, fun k hk => ?_, fun k hk => ?_, fun k hk e => ?_, fun k hk e => ?_, fun k hk e => ?_⟩, ?_⟩
    · have := rlt k hk; have := rge k hk; omega
    · have := flt k hk; have := fge k hk; omega
    · have := dlt k hk; have := rge k e.symm; omega
    · have := dlt k hk; have := fge k e.symm; omega
    · have := rlt k hk; have := fge k e.symm; omega
    · refine ⟨(h14.cell (World.block_lt_of_cell? _ _ hj)).trans hj, (h14.cell (World.block_lt_of_cell? _ _ hd)).trans hd, (h14.cell (World.block_lt_of_cell? _ _ ht)).trans ht, (h14.frozen (World.block_lt_of_cell? _ _ ht)).trans hf, by simp, by simp, Kd.zcv (Kd.zh9 rfl hdr) h14, ?_, Kd.zcv (Kd.zh9 rfl (Kd.zcf hr3 (by omega))) h34, zm hb h14⟩
      have h := Kd.zcv (Kd.zh9 rfl (Kd.zcf hr2 (by omega : (w.alloc (.cells #[.slice none 0 0, .slice none 0 0] 29)).heap.size ≤ w1.heap.size))) h24
      simpa [zfr] using h
  have NE := za.mk hne.1
  have S0 := za.mk hne.2
  have HB0 : za (Below w.heap.size w (w.alloc (.cells #[.slice none 0 0, .slice none 0 0] 29))) := ⟨zbm (Below.refl _ _) _⟩
  clear hne N1 N2 N3
  generalize w3.heap.size = go at NE S0 ⊢
  go_loopg [7] 120 (fun gg _ wr => ∃ t : Nat, t ≤ 120 ∧ 120 - t ≤ gg ∧ za (SimW (w.alloc (.cells #[.slice none 0 0, .slice none 0 0] 29)) js.length A c g go D R F cd cr cf (simT pk js t).1 (zfr pk js t) (simT pk js t).2 (t : Int) wr))
  case atStart => exact ⟨0, by omega, by omega, S0⟩
  case round =>
    obtain ⟨t, ht, hgg, SI⟩ := hrel
    have tm := SI.out.time
    by_cases hlt : t < 120
    · have hltz : (t : Int) < 120 := by omega
      have hcall := HP.out wr g D cd (simT pk js t).1 t hlt (zb8 HB0.out HB0.out.size SI.out.bel) (SI.out.mach rfl (Kd.zg0 HR.out _) (zf1 pk js t).1)
      have hrl := runRow_len pk js t ht
      obtain ⟨gr, cr', er, _, _, _, _⟩ := Kd.zd0 SI.out.rR (by omega)
      injection er with er1 er2 er3
      subst er1
      clear er2 er3
      rcases HG.out (simT pk js t).1 (t : Int) with hi | ⟨b, hb, hi⟩
      · rw [hi] at hcall
        have HI := za.mk hi
        clear hi hrl
        go_wp2_with (go_at_fn pn; refine hcall.mono ?_; rintro e w5 ⟨rfl, hb5⟩; have S5 := za.mk (SI.out.below hb5); have tm5 := S5.out.time; have o05 := S5.out.o0; obtain ⟨cx, fx⟩ := Kd.zc4 0 S5.out.rR (t : Int) (by omega) hltz; rw [Int.toNat_natCast] at cx fx; clear hb5)
        go_big_region
        have S6 := za.mk ((S5.out.setRun NE.out rfl t (-1)).below (zbs (Below.refl _ _)))
        have tm6 := S6.out.time
        have ft6 := S6.out.ftime
        clear tm5 o05 cx fx hcall S5
        generalize (w5.setCell ⟨gr, t, none⟩ (Value.int .i64 (-1))).drew = w6 at S6 tm6 ft6 ⊢
        go_wp2
        go_roundg (120 - (t + 1))
        case measure => omega
        case rel =>
          refine ⟨t + 1, by omega, by omega, ⟨?_⟩⟩
          have h := S6.out.zjx NE.out ((t : Int) + 1)
          rw [show (-1 : Int) = runT pk js t from HI.out.symm, zgi pk js t hlt] at h
          rw [zi8 HI.out]
          exact h
      · rw [hi] at hcall
        have HI := za.mk hi
        have hl := zf1 pk js t
        obtain ⟨gd, cd', er, _, _, _, _⟩ := Kd.zd0 SI.out.dR (by omega)
        injection er with er1 er2 er3
        subst er1
        clear er2 er3
        obtain ⟨gf, cf', er, _, _, _, _⟩ := Kd.zd0 SI.out.fR (by omega)
        injection er with er1 er2 er3
        subst er1
        clear er2 er3
        have hbz : (b : Int) < (js.length : Int) := by omega
        obtain ⟨ad, ea, hx0, hx1, hx2, hx3⟩ := zdh HR.out (b : Int) (by omega) hbz
        cases ea
        rw [Int.toNat_natCast] at hx3
        obtain ⟨y, hy⟩ : ∃ y, (jrd js b).f3 = y := ⟨_, rfl⟩
        obtain ⟨x, hx⟩ : ∃ x, rd (simT pk js t).1 (b : Int) = x := ⟨_, rfl⟩
        have hx3' := hx3
        rw [show (zf js (b : Int)).f3 = y from hy] at hx3'
        have HX3 := za.mk hx3'
        have STEP := za.mk (zi9 hi hx hy)
        have HX := za.mk hx
        have LEN := za.mk hl
        clear hi hrl hl hx0 hx1 hx2 hx3 hx3' hy hx
        go_wp2_with (go_at_fn pn; refine hcall.mono ?_; rintro e w5 ⟨rfl, hb5⟩; have S5 := za.mk (SI.out.below hb5); have tm5 := S5.out.time; have o05 := S5.out.o0; obtain ⟨cx, fx⟩ := Kd.zc4 0 S5.out.rR (t : Int) (by omega) hltz; rw [Int.toNat_natCast] at cx fx; clear hb5)
        go_big_region
        have S6 := za.mk ((S5.out.setRun NE.out rfl t (b : Int)).below (zbs (Below.refl _ _)))
        have dn6 := S6.out.done
        obtain ⟨cd6, fd6⟩ := Kd.zc4 0 S6.out.dR (b : Int) (by omega) hbz
        rw [Int.toNat_natCast, show rdOf 0 (simT pk js t).1 (b : Int) = x from HX.out] at cd6
        rw [Int.toNat_natCast] at fd6
        clear tm5 o05 cx fx hcall S5
        generalize (w5.setCell ⟨gr, t, none⟩ (Value.int .i64 (b : Int))).drew = w6 at S6 dn6 cd6 fd6 ⊢
        go_wp2_with fail
        have S7 := za.mk (S6.out.setDone NE.out rfl b (wrap64 (x + 1)))
        have dn7 := S7.out.done
        have tm7 := S7.out.time
        have ft7 := S7.out.ftime
        have o17 := S7.out.o1
        have cd7 := World.cell?_setCell_same w6 ⟨gd, b, none⟩ (Value.int .i64 (wrap64 (x + 1))) cd6
        obtain ⟨cf7, ff7⟩ := Kd.zc4 0 S7.out.fR (b : Int) (by omega) hbz
        rw [Int.toNat_natCast] at cf7 ff7
        have hx7 := HX3.out
        have hx7 := (HB0.out.cell (World.block_lt_of_cell? _ _ hx7)).trans hx7
        have hx7 := (S7.out.bel.cell (World.block_lt_of_cell? _ _ hx7)).trans hx7
        clear dn6 cd6 fd6 S6
        generalize w6.setCell ⟨gd, b, none⟩ (Value.int .i64 (wrap64 (x + 1))) = w7 at S7 dn7 tm7 ft7 o17 cd7 cf7 ff7 hx7 ⊢
        generalize wrap64 (x + 1) = z at S7 cd7 STEP ⊢
        by_cases hq : z = y
        · subst hq
          rw [if_pos rfl] at STEP
          go_big_region
          go_wp2_with fail
          have S8 := za.mk (S7.out.below (zbs (Below.refl _ _)))
          have tm8 := S8.out.time
          have o18 := S8.out.o1
          have cf8 : w7.drew.cell? ⟨gf, b, none⟩ = _ := cf7
          have ff8 : w7.drew.frozen? ⟨gf, b, none⟩ = false := ff7
          have hw : IntKind.i64.wrap ((t : Int) + 1) = (t : Int) + 1 := by rw [IntKind.wrap_i64]; omega
          clear dn7 tm7 ft7 o17 cd7 cf7 ff7 hx7 S7
          generalize w7.drew = w8 at S8 tm8 o18 cf8 ff8 ⊢
          go_big_region
          have S9 := za.mk ((S8.out.setFin NE.out rfl b ((t : Int) + 1)).below (zbs (Below.refl _ _)))
          have tm9 := S9.out.time
          have ft9 := S9.out.ftime
          clear tm8 o18 cf8 ff8 hw S8
          generalize (w8.setCell ⟨gf, b, none⟩ (Value.int .i64 ((t : Int) + 1))).drew = w9 at S9 tm9 ft9 ⊢
          go_wp2
          go_roundg (120 - (t + 1))
          case measure => omega
          case rel =>
            refine ⟨t + 1, by omega, by omega, ⟨?_⟩⟩
            have h := S9.out.zjx NE.out ((t : Int) + 1)
            rw [show (b : Int) = runT pk js t from HI.out.symm, zgi pk js t hlt] at h
            rw [STEP.out]
            exact h
        · have hq2 : (z == y) = false := by simpa using hq
          have hq3 : decide (z = y) = false := by simpa using hq
          rw [if_neg hq] at STEP
          have QN := za.mk hq
          clear hq
          go_big_region
          have S8 := za.mk (S7.out.below (zbs (Below.refl _ _)))
          have tm8 := S8.out.time
          have ft8 := S8.out.ftime
          clear dn7 tm7 ft7 o17 cd7 cf7 ff7 hx7 S7
          generalize w7.drew = w8 at S8 tm8 ft8 ⊢
          go_wp2
          go_roundg (120 - (t + 1))
          case measure => omega
          case rel =>
            refine ⟨t + 1, by omega, by omega, ⟨?_⟩⟩
            have h := S8.out.zjx NE.out ((t : Int) + 1)
            rw [show (b : Int) = runT pk js t from HI.out.symm, zgi pk js t hlt] at h
            rw [STEP.out]
            exact h
    · have hltz : ¬ (t : Int) < 120 := by omega
      obtain rfl : t = 120 := by omega
      have o0 := SI.out.o0
      have o1 := SI.out.o1
      have BKr : wr.heap[w.heap.size]? = some (.cells #[.slice none 0 0, .slice none 0 0] 29 (0, 0)) := (SI.out.bel.block w.heap.size (by simp)).trans (zgz w _)
      have r0 : wr.cell? ⟨w.heap.size, 0, none⟩ = some (.slice none 0 0) := (ze BKr 0).trans rfl
      have r1 : wr.cell? ⟨w.heap.size, 1, none⟩ = some (.slice none 0 0) := (ze BKr 1).trans rfl
      have f0 := zg BKr 0
      have f1 := zg BKr 1
      have BK := za.mk BKr
      clear BKr
      go_wp2
      refine bodyPost_ret (results_cell_row rfl _ _ w.heap.size 29 #[.slice R 120 cr, .slice F js.length cf] (0, 0) _ rfl (by refine zb2 (cs := #[.slice R 120 cr, .slice none 0 0]) ?_ 1 _ rfl; refine zb2 (cs := #[.slice none 0 0, .slice none 0 0]) ?_ 0 _ rfl; exact BK.out) Try.underlying29 rfl (by kernel_rfl)) rfl ?_
      have hsz : w.heap.size < (w.alloc (.cells #[.slice none 0 0, .slice none 0 0] 29)).heap.size := by simp
      have mv : ∀ {v : Value} {l : List Int}, Kd.R (Kd.int .i64) 3 wr (w.alloc (.cells #[.slice none 0 0, .slice none 0 0] 29)).heap.size (fun k => some k = v.ownBlock) v l → ∀ x y, Kd.R (Kd.int .i64) 3 ((wr.setCell ⟨w.heap.size, 0, none⟩ x).setCell ⟨w.heap.size, 1, none⟩ y) w.heap.size (fun k => some k = v.ownBlock) v l := fun h x y =>
        Kd.zcf (Kd.zcp (Kd.zcp h (fun k hk e => by have := Kd.zda h k hk.symm; simp only at e; omega) x) (fun k hk e => by have := Kd.zda h k hk.symm; simp only at e; omega) y) (by omega)
      refine ⟨_, _, rfl, ?_, ?_, ?_⟩
      · have h := mv SI.out.rR (.slice R 120 cr) (.slice F js.length cf)
        have e : zfr pk js 120 = (simR pk js).1 := by simp [zfr, simR]
        rw [e] at h
        exact Kd.zbf h (fun k hk e2 => NE.out.RF k hk.symm e2)
      · exact Kd.zbf (mv SI.out.fR (.slice R 120 cr) (.slice F js.length cf)) (fun k hk e2 => NE.out.RF k e2.symm hk)
      · exact ((zb8 HB0.out HB0.out.size SI.out.bel).setCell (Nat.le_refl _) _).setCell (Nat.le_refl _) _
theorem zgq {W : World} {b g : Nat} {ok : Nat → Prop} {v : Value} {l : List Int} (hg : g < b) (h : Kd.R (Kd.int .i64) 3 W b ok v l) (x y : Value) : Kd.R (Kd.int .i64) 3 ((W.setCell ⟨g, 0, none⟩ x).setCell ⟨g, 1, none⟩ y) b (fun k => some k = v.ownBlock ∧ ok k) v l :=
  Kd.zcp (Kd.zcp (Kd.R_tight2 rfl h) (fun k hk e => by have := Kd.zda h k hk.1.symm; simp only at e; omega) x) (fun k hk e => by have := Kd.zda h k hk.1.symm; simp only at e; omega) y
theorem edfD_rng (js : List JobT) (dn : List Int) (now : Int) : edfD js dn now = -1 ∨ ∃ b : Nat, b < js.length ∧ edfD js dn now = (b : Int) := zha _ _ _
def pauD (js : List JobT) (tk : Int → Bool) (dn : List Int) (now : Int) : Int := if tk now = true then -1 else edfD js dn now
theorem pauD_rng (js : List JobT) (tk : Int → Bool) (dn : List Int) (now : Int) : pauD js tk dn now = -1 ∨ ∃ b : Nat, b < js.length ∧ pauD js tk dn now = (b : Int) := by
  unfold pauD
  split
  · exact Or.inl rfl
  · exact edfD_rng _ _ _
set_option maxHeartbeats 4000000 in
theorem zia (tk : Int → Bool) (tn : Nat) (tl : Array Value) (et : ∀ args w, (callFunc tn args).run Try.prog w = .ok (.enter tn args) w) (g : Nat) (A : Option Addr) (c : Nat) (js : List JobT) (D : Option Addr) (cd : Nat) (dn : List Int) (t : Nat) (B : Addr) (w : World) (hB : w.cell? B = some (.func (.func tn) #[] tl)) (h : Mach w g A c js D cd dn (t : Int))
    (ht : ∀ q : Nat, Calls Try.prog tn (#[.int .i64 t] ++ tl) (w.drewN q) fun e w' => e = .returned (.bool (tk (t : Int))) ∧ ∃ n, w' = (w.drewN q).drewN n) :
    Calls Try.prog 108 #[.pointer (some ⟨g, 0, none⟩), .pointer (some B)] w fun e w' => e = .returned (.int .i64 (pauD js tk dn (t : Int))) ∧ Below w.heap.size w w' := by
  have HM := za.mk h
  have HT := za.mk ht
  have tm := h.time
  clear h ht
  cases hk : tk (t : Int) with
  | true =>
    have HT2 := HT.out
    rw [hk] at HT2
    have e : pauD js tk dn (t : Int) = -1 := by unfold pauD; rw [if_pos hk]
    rw [e]
    clear e HT hk
    go_enter Try.func108, Try.ntmps108
    go_wp2_with fail
    go_quiet (first | (go_at_fn tn; refine Calls.quiet_of (HT2 _)))
    go_wp2
    go_ret
    exact ⟨rfl, zbi (Below.refl _ _) _⟩
  | false =>
    have HT2 := HT.out
    rw [hk] at HT2
    have e : pauD js tk dn (t : Int) = edfD js dn (t : Int) := by unfold pauD; rw [if_neg (by rw [hk]; simp)]
    rw [e]
    clear e HT hk
    go_enter Try.func108, Try.ntmps108
    go_wp2_with fail
    go_quiet (first | (go_at_fn tn; refine Calls.quiet_of (HT2 _)))
    go_wp2_with (go_at_call 54; refine (edf_calls g A c js D cd dn (t : Int) _ (HM.out.below (zbi (Below.refl _ _) _))).mono ?_; rintro e w1 ⟨rfl, hb⟩; have HB := za.mk (zm (zbi (Below.refl w.heap.size w) _) hb); clear hb)
    go_ret
    exact ⟨rfl, HB.out⟩
set_option maxHeartbeats 4000000 in
theorem zja (tk : Int → Bool) (tn : Nat) (tl : Array Value) (et : ∀ args w, (callFunc tn args).run Try.prog w = .ok (.enter tn args) w) (A : Option Addr) (c : Nat) (js : List JobT) (w : World) (hr : Kd.C k34 w A js.length js) (hlen : js.length ≤ 1000)
    (ht : ∀ (W : World) (t : Nat), t < 120 → Below w.heap.size w W → Calls Try.prog tn (#[.int .i64 t] ++ tl) W fun e w' => e = .returned (.bool (tk (t : Int))) ∧ ∃ n, w' = W.drewN n) :
    Calls Try.prog 73 #[.slice A js.length c, .func (.func tn) #[] tl] w fun e w' => ∃ v0_ v1_ : Value, e = .returned (.agg #[v0_, v1_]) ∧ Kd.R (Kd.int .i64) 3 w' w.heap.size (fun k_ => some k_ ≠ (v1_ : Value).ownBlock) v0_ (simR (pauD js tk) js).1 ∧ Kd.R (Kd.int .i64) 3 w' w.heap.size (fun k_ => some k_ ≠ (v0_ : Value).ownBlock) v1_ (simR (pauD js tk) js).2 ∧ Below w.heap.size w w' := by
  obtain ⟨W0, hW0⟩ : ∃ W0 : World, W0 = (w.alloc (.cells #[.func (.func tn) #[] tl] 82)).alloc (.cells #[.slice none 0 0, .slice none 0 0] 29) := ⟨_, rfl⟩
  have B0 : Below w.heap.size w W0 := by rw [hW0]; exact zbm (zbm (Below.refl _ _) _) _
  have BK0 : W0.heap[w.heap.size + 1]? = some (.cells #[.slice none 0 0, .slice none 0 0] 29 (0, 0)) := by
    rw [hW0]
    have h := zgz (w.alloc (.cells #[.func (.func tn) #[] tl] 82)) (.cells #[.slice none 0 0, .slice none 0 0] 29)
    rwa [show (w.alloc (.cells #[.func (.func tn) #[] tl] 82)).heap.size = w.heap.size + 1 by simp] at h
  have CB : W0.cell? ⟨w.heap.size, 0, none⟩ = some (.func (.func tn) #[] tl) := by rw [hW0]; exact ((zbm (Below.refl _ _) _).cell (p := ⟨w.heap.size, 0, none⟩) (by simp)).trans (by simp)
  have S0 : w.heap.size + 1 < W0.heap.size := by rw [hW0]; simp
  have HS := za.mk (zhq (pauD js tk) 108 #[] #[.pointer (some ⟨w.heap.size, 0, none⟩)] (enters_of Try.func108 (by kernel_rfl) rfl) A c js W0 (Kd.zb4 hr B0) hlen (pauD_rng js tk)
    (fun W g D cd dn t htl hb hM => zia tk tn tl et g A c js D cd dn t ⟨w.heap.size, 0, none⟩ W ((hb.cell (p := ⟨w.heap.size, 0, none⟩) (show w.heap.size < W0.heap.size by omega)).trans CB) hM (fun q => ht (W.drewN q) t htl (zbi (zb8 B0 B0.size hb) q))))
  have HB0 := za.mk B0
  have HBK := za.mk BK0
  have HS0 := za.mk S0
  have HW := za.mk hW0
  clear hr ht B0 BK0 CB S0 hW0
  go_enter Try.func73, Try.ntmps73
  go_wp2_with (go_at_call 49; (try rw [← HW.out]); refine HS.out.mono ?_; rintro e w1 ⟨v0, v1, rfl, hR0, hR1, hb⟩; obtain ⟨A0, c0, ev⟩ := Kd.zb6 hR0; subst ev; obtain ⟨A1, c1, ev⟩ := Kd.zb6 hR1; subst ev; have H0 := za.mk hR0; have H1 := za.mk hR1; have HB := za.mk (zb8 HB0.out HB0.out.size hb); have BK1 := zbg HBK.out hb; have r0 := (ze BK1 0); have r1 := (ze BK1 1); have f0 := zg BK1 0; have f1 := zg BK1 1; have BK := za.mk BK1; clear hR0 hR1 hb BK1)
  refine bodyPost_ret (results_cell_row rfl _ _ (w.heap.size + 1) 29 #[.slice A0 (simR (pauD js tk) js).1.length c0, .slice A1 (simR (pauD js tk) js).2.length c1] (0, 0) _ rfl (by refine zb2 (cs := #[.slice A0 (simR (pauD js tk) js).1.length c0, .slice none 0 0]) ?_ 1 _ rfl; refine zb2 (cs := #[.slice none 0 0, .slice none 0 0]) ?_ 0 _ rfl; exact BK.out) Try.underlying29 rfl (by kernel_rfl)) rfl ?_
  exact ⟨_, _, rfl, Kd.zcf (Kd.zbf (zgq HS0.out H0.out _ _) (fun k hk => hk.2)) HB0.out.size, Kd.zcf (Kd.zbf (zgq HS0.out H1.out _ _) (fun k hk => hk.2)) HB0.out.size, (HB.out.setCell (by simp) _).setCell (by simp) _⟩
abbrev zfp := S88
def trd (l : List zfp) (i : Int) : zfp := zbe l i
def inRng (l : List zfp) (j : JobT) : Bool := decide (0 ≤ j.f0 ∧ j.f0 ≤ (l.length : Int) - 1)
def relOk (j : JobT) : Bool := decide (0 ≤ j.f1 ∧ j.f1 ≤ 119)
def exOk (l : List zfp) (j : JobT) : Bool := decide (1 ≤ j.f3 ∧ j.f3 ≤ (trd l j.f0).f0)
def bhd (p j : JobT) : Bool := decide (p.f1 > j.f1) || (decide (p.f1 = j.f1) && decide (p.f0 ≥ j.f0))
def zgj (l : List zfp) (js : List JobT) (i : Nat) : Bool := inRng l (jrd js i) && relOk (jrd js i) && exOk l (jrd js i) && (decide (i = 0) || !(bhd (jrd js (i - 1)) (jrd js i)))
def allB (p : Nat → Bool) : Nat → Bool
  | 0 => true
  | n + 1 => allB p n && p n
theorem zgk {p : Nat → Bool} {i : Nat} (h : p i = false) : ∀ n, i < n → allB p n = false
  | 0, hn => by omega
  | n + 1, hn => by
    rw [allB]
    by_cases e : i = n
    · subst e; rw [h]; simp
    · rw [zgk h n (by omega)]; rfl
theorem zhd {p : Nat → Bool} : ∀ {n : Nat}, allB p n = true → ∀ i, i < n → p i = true
  | 0, _, i, hi => by omega
  | n + 1, h, i, hi => by
    rw [allB, Bool.and_eq_true] at h
    by_cases e : i = n
    · subst e; exact h.2
    · exact zhd h.1 i (by omega)
def ordB (l : List zfp) (js : List JobT) : Bool := allB (zgj l js) js.length && decide ((js.length : Int) ≤ 60)
set_option maxHeartbeats 4000000 in
theorem jl1_calls (A0 : Option Addr) (c0 : Nat) (l0 : List zfp) (B : Addr) (a : Int) (h0 : 0 ≤ a) (h1 : a < (l0.length : Int)) (w : World) (hB : w.cell? B = some (.slice A0 l0.length c0)) (hr0 : Kd.C k88 w A0 l0.length l0) :
    Calls Try.prog 92 #[.int .i64 a, .pointer (some B)] w fun e w' => e = .returned (.int .i64 (trd l0 a).f0) ∧ zcb w w' := by
  obtain ⟨ad, ea, hx0, hx1, hx2⟩ := zel hr0 a h0 h1
  cases ea
  unfold trd
  clear hr0 hx1 hx2
  generalize (zbe l0 a).f0 = x at hx0 ⊢
  go_enter Try.func92, Try.ntmps92
  go_wp2
  go_ret
  exact ⟨rfl, zcb.refl _⟩
set_option maxHeartbeats 4000000 in
theorem jl2_calls (A0 : Option Addr) (c0 : Nat) (l0 : List zfp) (B : Addr) (a : Int) (h0 : 0 ≤ a) (h1 : a < (l0.length : Int)) (w : World) (hB : w.cell? B = some (.slice A0 l0.length c0)) (hr0 : Kd.C k88 w A0 l0.length l0) :
    Calls Try.prog 95 #[.int .i64 a, .pointer (some B)] w fun e w' => e = .returned (.int .i64 (trd l0 a).f2) ∧ zcb w w' := by
  obtain ⟨ad, ea, hx0, hx1, hx2⟩ := zel hr0 a h0 h1
  cases ea
  unfold trd
  clear hr0 hx0 hx1
  generalize (zbe l0 a).f2 = x at hx2 ⊢
  go_enter Try.func95, Try.ntmps95
  go_wp2
  go_ret
  exact ⟨rfl, zcb.refl _⟩
def zjb (l : List zfp) (j : JobT) : Bool := j.f2 != wrap64 (j.f1 + (trd l j.f0).f1)
set_option maxHeartbeats 4000000 in
theorem jl3_calls (A0 : Option Addr) (c0 : Nat) (l0 : List zfp) (B : Addr) (j : JobT) (h0 : 0 ≤ j.f0) (h1 : j.f0 < (l0.length : Int)) (w : World) (hB : w.cell? B = some (.slice A0 l0.length c0)) (hr0 : Kd.C k88 w A0 l0.length l0) :
    Calls Try.prog 97 #[.agg #[.int .i64 j.f0, .int .i64 j.f1, .int .i64 j.f2, .int .i64 j.f3], .pointer (some B)] w fun e w' => e = .returned (.bool (zjb l0 j)) ∧ Below w.heap.size w w' := by
  have hBl := World.block_lt_of_cell? _ _ hB
  have hB2 : ∀ o, (w.alloc o).cell? B = some (.slice A0 l0.length c0) := fun o => (World.cell?_alloc_lt _ _ _ hBl).trans hB
  obtain ⟨ad, ea, hx0, hx1, hx2⟩ := zel hr0 j.f0 h0 h1
  cases ea
  have hxl := World.block_lt_of_cell? _ _ hx1
  have hx3 := fun (o : Obj) => (show (w.alloc o).cell? _ = w.cell? _ from World.cell?_alloc_lt _ _ _ hxl).trans hx1
  unfold zjb trd
  clear hr0 hx0 hx1 hx2 hBl hxl hB
  generalize (zbe l0 j.f0).f1 = x at hx3 ⊢
  have hc2 := hB2 (.cells #[.int .i64 j.f0, .int .i64 j.f1, .int .i64 j.f2, .int .i64 j.f3] 34)
  have hx4 := hx3 (.cells #[.int .i64 j.f0, .int .i64 j.f1, .int .i64 j.f2, .int .i64 j.f3] 34)
  clear hB2 hx3
  go_enter Try.func97, Try.ntmps97
  go_wp2_with fail
  go_big_region
  all_goals go_wp2
  go_ret
  exact ⟨rfl, zbs (zbm (Below.refl _ _) _)⟩
theorem in_is (a b c : Int) (v : Bool) (h : decide (b ≤ a ∧ a ≤ c) = v) : zc1.f a b c = some v := by
  unfold zc1.f
  subst h
  by_cases h1 : a ≥ b
  · rw [if_pos h1]; simp [show b ≤ a from h1]
  · rw [if_neg h1]; simp [show ¬ b ≤ a from h1]
set_option maxHeartbeats 16000000 in
theorem zib (mn : Nat) (ml : Array Value) (em : ∀ args w, (callFunc mn args).run Try.prog w = .ok (.enter mn args) w) (l0 : List zfp) (A : Option Addr) (c : Nat) (js : List JobT) (hjl : js.length ≤ 1000000000) (hll : l0.length ≤ 1000000000) (w : World) (hm : ∀ (W : World) (a : Int), Below w.heap.size w W → 0 ≤ a → a < (l0.length : Int) → Calls Try.prog mn (#[.int .i64 a] ++ ml) W fun e w' => e = .returned (.int .i64 (trd l0 a).f0) ∧ ∃ q, w' = W.drewN q) (hr : Kd.C k34 w A js.length js) :
    Calls Try.prog 91 #[.slice A js.length c, .int .i64 (l0.length : Int), .func (.func mn) #[] ml] w fun e w' => e = .returned (.bool (ordB l0 js)) ∧ Below w.heap.size w w' := by
  have HMM := za.mk hm
  have HR := za.mk hr
  clear hm hr
  go_enter Try.func91, Try.ntmps91
  go_wp2
  go_loopg [11] js.length (fun gg v11 wr => ∃ i : Nat, v11 = .int .i64 i ∧ i ≤ js.length ∧ js.length - i ≤ gg ∧ za (Below w.heap.size w wr) ∧ za (allB (zgj l0 js) i = true))
  case atStart => exact ⟨0, by go_num, by omega, by omega, ⟨Below.refl _ _⟩, ⟨rfl⟩⟩
  case round =>
    obtain ⟨i, rfl, hil, hgg, BW, OK⟩ := hrel
    by_cases hlt : i < js.length
    · have hltz : (i : Int) < (js.length : Int) := by omega
      obtain ⟨ad, ea, hx0, hx1, hx2, hx3⟩ := zdh HR.out (i : Int) (by omega) hltz
      cases ea
      have hy0 := (BW.out.cell (World.block_lt_of_cell? w _ hx0)).trans hx0
      have hy1 := (BW.out.cell (World.block_lt_of_cell? w _ hx1)).trans hx1
      have hy2 := (BW.out.cell (World.block_lt_of_cell? w _ hx2)).trans hx2
      have hy3 := (BW.out.cell (World.block_lt_of_cell? w _ hx3)).trans hx3
      clear hx0 hx1 hx2 hx3
      rw [Int.toNat_natCast] at hy0 hy1 hy2 hy3
      obtain ⟨j, hj⟩ : ∃ j : JobT, j = jrd js i := ⟨_, rfl⟩
      rw [show zf js (i : Int) = j from hj.symm] at hy0 hy1 hy2 hy3
      have HJ := za.mk hj
      clear hj
      have hw : IntKind.i64.wrap ((l0.length : Int) - 1) = (l0.length : Int) - 1 := by rw [IntKind.wrap_i64]; omega
      have HW := za.mk hw
      clear hw
      have no : zgj l0 js i = false → ordB l0 js = false := fun h => by unfold ordB; rw [zgk h _ hlt]; rfl
      have NO := za.mk no
      clear no
      cases q1 : inRng l0 j with
      | false =>
        have H1 := za.mk (in_is j.f0 0 ((l0.length : Int) - 1) false q1)
        have F := za.mk (NO.out (by unfold zgj; rw [← HJ.out, q1]; rfl))
        clear q1
        go_wp2_with fail
        have hw := HW.out
        go_quiet ((first | (go_at_call 103; (with_reducible refine (zc1.calls _ _ _ _ _ H1.out).mono ?_); rintro e w' ⟨rfl, ⟨nd, rfl⟩⟩; (try first | exact ⟨rfl, _, World.drewN_drewN _ _ _⟩ | exact ⟨rfl, _, Eq.trans (World.drewN_drewN _ _ _) (congrArg (World.drewN _) (Nat.add_assoc _ _ _))⟩ | exact ⟨rfl, _, rfl⟩))))
        clear hw
        go_wp2
        go_ret
        exact ⟨by rw [F.out]; rfl, by first | exact zbi (zbm BW.out _) _ | exact zbs (zbm BW.out _) | exact zbm BW.out _⟩
      | true =>
        have H1 := za.mk (in_is j.f0 0 ((l0.length : Int) - 1) true q1)
        have Q1 := za.mk q1
        clear q1
        cases q2 : relOk j with
        | false =>
          have H2 := za.mk (in_is j.f1 0 119 false q2)
          have F := za.mk (NO.out (by unfold zgj; rw [← HJ.out, q2, Bool.and_false]; rfl))
          clear q2
          go_wp2_with fail
          have hw := HW.out
          go_quiet ((first | (go_at_call 103; (with_reducible refine (zc1.calls _ _ _ _ _ H1.out).mono ?_); rintro e w' ⟨rfl, ⟨nd, rfl⟩⟩; (try first | exact ⟨rfl, _, World.drewN_drewN _ _ _⟩ | exact ⟨rfl, _, Eq.trans (World.drewN_drewN _ _ _) (congrArg (World.drewN _) (Nat.add_assoc _ _ _))⟩ | exact ⟨rfl, _, rfl⟩)) | (go_at_call 103; (with_reducible refine (zc1.calls _ _ _ _ _ H2.out).mono ?_); rintro e w' ⟨rfl, ⟨nd, rfl⟩⟩; (try first | exact ⟨rfl, _, World.drewN_drewN _ _ _⟩ | exact ⟨rfl, _, Eq.trans (World.drewN_drewN _ _ _) (congrArg (World.drewN _) (Nat.add_assoc _ _ _))⟩ | exact ⟨rfl, _, rfl⟩))))
          clear hw
          go_wp2
          go_ret
          exact ⟨by rw [F.out]; rfl, by first | exact zbi (zbm BW.out _) _ | exact zbs (zbm BW.out _) | exact zbm BW.out _⟩
        | true =>
          have H2 := za.mk (in_is j.f1 0 119 true q2)
          have Q2 := za.mk q2
          clear q2
          have hr1 := of_decide_eq_true Q1.out
          have HM := za.mk (fun (W : World) (hb : Below w.heap.size w W) => HMM.out W j.f0 hb (by omega) (by omega))
          clear hr1
          obtain ⟨z, hz⟩ : ∃ z, (trd l0 j.f0).f0 = z := ⟨_, rfl⟩
          rw [hz] at HM
          have HZ := za.mk hz
          clear hz
          cases q3 : exOk l0 j with
          | false =>
            have H3 := za.mk (in_is j.f3 1 z false (by have := q3; unfold exOk at this; rw [HZ.out] at this; exact this))
            have F := za.mk (NO.out (by unfold zgj; rw [← HJ.out, q3, Bool.and_false]; rfl))
            clear q3
            go_wp2_with fail
            have hw := HW.out
            go_quiet ((first | (go_at_call 103; (with_reducible refine (zc1.calls _ _ _ _ _ H1.out).mono ?_); rintro e w' ⟨rfl, ⟨nd, rfl⟩⟩; (try first | exact ⟨rfl, _, World.drewN_drewN _ _ _⟩ | exact ⟨rfl, _, Eq.trans (World.drewN_drewN _ _ _) (congrArg (World.drewN _) (Nat.add_assoc _ _ _))⟩ | exact ⟨rfl, _, rfl⟩)) | (go_at_call 103; (with_reducible refine (zc1.calls _ _ _ _ _ H2.out).mono ?_); rintro e w' ⟨rfl, ⟨nd, rfl⟩⟩; (try first | exact ⟨rfl, _, World.drewN_drewN _ _ _⟩ | exact ⟨rfl, _, Eq.trans (World.drewN_drewN _ _ _) (congrArg (World.drewN _) (Nat.add_assoc _ _ _))⟩ | exact ⟨rfl, _, rfl⟩)) | (go_at_call 103; (with_reducible refine (zc1.calls _ _ _ _ _ H3.out).mono ?_); rintro e w' ⟨rfl, ⟨nd, rfl⟩⟩; (try first | exact ⟨rfl, _, World.drewN_drewN _ _ _⟩ | exact ⟨rfl, _, Eq.trans (World.drewN_drewN _ _ _) (congrArg (World.drewN _) (Nat.add_assoc _ _ _))⟩ | exact ⟨rfl, _, rfl⟩)) | (go_at_fn mn; refine Calls.quiet_of (HM.out _ (by first | exact zbi (zbm BW.out _) _ | exact zbm BW.out _)))))
            clear hw
            go_wp2
            go_ret
            exact ⟨by rw [F.out]; rfl, by first | exact zbi (zbm BW.out _) _ | exact zbs (zbm BW.out _) | exact zbm BW.out _⟩
          | true =>
            have H3 := za.mk (in_is j.f3 1 z true (by have := q3; unfold exOk at this; rw [HZ.out] at this; exact this))
            have Q3 := za.mk q3
            clear q3
            go_wp2_with fail
            have hw := HW.out
            go_quiet ((first | (go_at_call 103; (with_reducible refine (zc1.calls _ _ _ _ _ H1.out).mono ?_); rintro e w' ⟨rfl, ⟨nd, rfl⟩⟩; (try first | exact ⟨rfl, _, World.drewN_drewN _ _ _⟩ | exact ⟨rfl, _, Eq.trans (World.drewN_drewN _ _ _) (congrArg (World.drewN _) (Nat.add_assoc _ _ _))⟩ | exact ⟨rfl, _, rfl⟩)) | (go_at_call 103; (with_reducible refine (zc1.calls _ _ _ _ _ H2.out).mono ?_); rintro e w' ⟨rfl, ⟨nd, rfl⟩⟩; (try first | exact ⟨rfl, _, World.drewN_drewN _ _ _⟩ | exact ⟨rfl, _, Eq.trans (World.drewN_drewN _ _ _) (congrArg (World.drewN _) (Nat.add_assoc _ _ _))⟩ | exact ⟨rfl, _, rfl⟩)) | (go_at_call 103; (with_reducible refine (zc1.calls _ _ _ _ _ H3.out).mono ?_); rintro e w' ⟨rfl, ⟨nd, rfl⟩⟩; (try first | exact ⟨rfl, _, World.drewN_drewN _ _ _⟩ | exact ⟨rfl, _, Eq.trans (World.drewN_drewN _ _ _) (congrArg (World.drewN _) (Nat.add_assoc _ _ _))⟩ | exact ⟨rfl, _, rfl⟩)) | (go_at_fn mn; refine Calls.quiet_of (HM.out _ (by first | exact zbi (zbm BW.out _) _ | exact zbm BW.out _)))))
            clear hw
            go_wp2_with fail
            have B6 := za.mk (zbi (zbm BW.out (.cells #[.int .i64 j.f0, .int .i64 j.f1, .int .i64 j.f2, .int .i64 j.f3] 34)) nq)
            have cj0 : ((wr.alloc (.cells #[.int .i64 j.f0, .int .i64 j.f1, .int .i64 j.f2, .int .i64 j.f3] 34)).drewN nq).cell? ⟨wr.heap.size, 0, none⟩ = some (.int .i64 j.f0) := by simp
            have cj1 : ((wr.alloc (.cells #[.int .i64 j.f0, .int .i64 j.f1, .int .i64 j.f2, .int .i64 j.f3] 34)).drewN nq).cell? ⟨wr.heap.size, 1, none⟩ = some (.int .i64 j.f1) := by simp
            clear hy0 hy1 hy2 hy3
            generalize ((wr.alloc (.cells #[.int .i64 j.f0, .int .i64 j.f1, .int .i64 j.f2, .int .i64 j.f3] 34)).drewN nq) = w6 at B6 cj0 cj1 ⊢
            rcases Nat.eq_zero_or_pos i with h0 | h0
            · subst h0
              have ONE := za.mk (show zgj l0 js 0 = true by unfold zgj; rw [← HJ.out, Q1.out, Q2.out, Q3.out]; rfl)
              go_quiet (fail)
              go_wp2
              go_roundg (js.length - (0 + 1))
              case measure => omega
              case rel => exact ⟨0 + 1, by go_num, by omega, by omega, ⟨zbi B6.out _⟩, ⟨by rw [allB, OK.out, ONE.out]; rfl⟩⟩
            · obtain ⟨k, hk⟩ : ∃ k : Nat, k = i - 1 := ⟨_, rfl⟩
              have hkl : (k : Int) < (js.length : Int) := by omega
              have hk0 : (0 : Int) ≤ (k : Int) := by omega
              have hi0 : (0 : Int) < (i : Int) := by omega
              obtain ⟨ad2, ea2, hp0, hp1, hp2, hp3⟩ := zdh HR.out (k : Int) (by omega) hkl
              cases ea2
              have hp0 := (B6.out.cell (World.block_lt_of_cell? w _ hp0)).trans hp0
              have hp1 := (B6.out.cell (World.block_lt_of_cell? w _ hp1)).trans hp1
              clear hp2 hp3
              rw [Int.toNat_natCast] at hp0 hp1
              obtain ⟨p, hp⟩ : ∃ p : JobT, p = jrd js k := ⟨_, rfl⟩
              rw [show zf js (k : Int) = p from hp.symm] at hp0 hp1
              have HPK : za (p = jrd js (i - 1)) := ⟨by rw [hp, hk]⟩
              have hw2 : IntKind.i64.wrap ((i : Int) - 1) = (k : Int) := by rw [IntKind.wrap_i64]; omega
              have HW2 := za.mk hw2
              have Hi0 := za.mk (show decide (i = 0) = false from decide_eq_false (by omega))
              clear hp hw2 hk
              have two : ∀ b, bhd p j = b → zgj l0 js i = !b := fun b hb => by unfold zgj; rw [← HJ.out, ← HPK.out, Q1.out, Q2.out, Q3.out, Hi0.out, hb]; simp
              have TWO := za.mk two
              clear two
              by_cases ha : p.f1 > j.f1
              · have F := za.mk (NO.out (TWO.out true (by unfold bhd; rw [decide_eq_true ha]; rfl)))
                have ha1 : decide (p.f1 > j.f1) = true := decide_eq_true ha
                have hw2 := HW2.out
                go_quiet (fail)
                clear hw2
                go_wp2
                go_ret
                exact ⟨by rw [F.out]; rfl, zbi B6.out _⟩
              · have ha1 : decide (p.f1 > j.f1) = false := decide_eq_false ha
                by_cases hb : p.f1 = j.f1
                · by_cases hc : p.f0 ≥ j.f0
                  · have F := za.mk (NO.out (TWO.out true (by unfold bhd; rw [decide_eq_true hb, decide_eq_true hc, Bool.and_self, Bool.or_true])))
                    have hb1 : (p.f1 == j.f1) = true := by simpa using hb
                    have hb2 : decide (p.f1 = j.f1) = true := decide_eq_true hb
                    have hc1 : decide (p.f0 ≥ j.f0) = true := decide_eq_true hc
                    clear hb
                    have hw2 := HW2.out
                    go_quiet (fail)
                    clear hw2
                    go_wp2
                    go_ret
                    exact ⟨by rw [F.out]; rfl, zbi B6.out _⟩
                  · have ONE := za.mk (TWO.out false (by unfold bhd; rw [decide_eq_false ha, decide_eq_false hc, Bool.and_false]; rfl))
                    have hb1 : (p.f1 == j.f1) = true := by simpa using hb
                    have hb2 : decide (p.f1 = j.f1) = true := decide_eq_true hb
                    have hc1 : decide (p.f0 ≥ j.f0) = false := decide_eq_false hc
                    clear hb
                    have hw2 := HW2.out
                    go_quiet (fail)
                    clear hw2
                    go_wp2
                    go_roundg (js.length - (i + 1))
                    case measure => omega
                    case rel => exact ⟨i + 1, by go_num, by omega, by omega, ⟨zbi B6.out _⟩, ⟨by rw [allB, OK.out, ONE.out]; rfl⟩⟩
                · have ONE := za.mk (TWO.out false (by unfold bhd; rw [decide_eq_false ha, decide_eq_false hb]; rfl))
                  have hb1 : (p.f1 == j.f1) = false := by simpa using hb
                  have hb2 : decide (p.f1 = j.f1) = false := decide_eq_false hb
                  have hw2 := HW2.out
                  go_quiet (fail)
                  clear hw2
                  go_wp2
                  go_roundg (js.length - (i + 1))
                  case measure => omega
                  case rel => exact ⟨i + 1, by go_num, by omega, by omega, ⟨zbi B6.out _⟩, ⟨by rw [allB, OK.out, ONE.out]; rfl⟩⟩
    · have hltz : ¬ (i : Int) < (js.length : Int) := by omega
      go_wp2
      go_ret
      exact ⟨by rw [show i = js.length by omega] at OK; unfold ordB; rw [OK.out]; rfl, BW.out⟩
theorem zhe : Go.Maps.Keyed Try.prog 3 := Go.Maps.int_keyed Try.underlying3
theorem zic (w : World) : (zeroValue 3).run Try.prog w = .ok (.int .i64 0) w := by kernel_rfl
def lastOf (js : List JobT) : Nat → Int → Option Int
  | 0, _ => none
  | i + 1, k => if (jrd js i).f0 = k then some (jrd js i).f1 else lastOf js i k
def zhr (l : List zfp) (js : List JobT) (i : Nat) : Bool :=
  match lastOf js i (jrd js i).f0 with
  | none => true
  | some b => !(decide (wrap64 ((jrd js i).f1 - b) < (trd l (jrd js i).f0).f2))
def spcB (l : List zfp) (js : List JobT) : Bool := allB (zhr l js) js.length
def Ds (js : List JobT) : Nat → DataW Unit
  | 0 => .map []
  | i + 1 => (Ds js i).put (.int .i64 (jrd js i).f0) (.lit (.int .i64 (jrd js i).f1))
theorem zf2 {w w1 : World} {P : Program} {k : TypeId} {R : Value → Option (DataW Unit × List MemPlace)} {b n : Nat} {D : DataW Unit} (h : w.ownsMap P k R b n D) (hb : Below w.heap.size w w1) : w1.ownsMap P k R b n D := by
  obtain ⟨es, clock, h1, h2⟩ := h
  exact ⟨es, clock, (hb.block b (Array.getElem?_eq_some_iff.1 h1).1).trans h1, h2⟩
theorem Ds_map (js : List JobT) : ∀ i, Go.Maps.IsMap (Ds js i)
  | 0 => Go.Maps.isMap_empty
  | i + 1 => (Ds_map js i).put _ _
theorem Ds_has (js : List JobT) (k : Int) : ∀ i, Go.Maps.has (Ds js i) (.int .i64 k) = (lastOf js i k).isSome
  | 0 => rfl
  | i + 1 => by
    rw [Ds, lastOf]
    by_cases h : (jrd js i).f0 = k
    · rw [if_pos h, h, Go.Maps.has_put_same (Ds_map js i) (show Go.WideAt.IsKeyLit (.int .i64 k) from trivial)]; rfl
    · rw [if_neg h, Go.Maps.has_put_other (fun e => h (by injection e with _ e; exact e.symm)), Ds_has js k i]
theorem Ds_at (js : List JobT) (k b : Int) (z : DataW Unit) : ∀ i, lastOf js i k = some b → (Ds js i).atKey (.int .i64 k) z = .lit (.int .i64 b)
  | 0, h => by simp [lastOf] at h
  | i + 1, h => by
    rw [lastOf] at h
    rw [Ds]
    by_cases e : (jrd js i).f0 = k
    · rw [if_pos e] at h
      rw [e, Go.Maps.atKey_put_same (Ds_map js i) (show Go.WideAt.IsKeyLit (.int .i64 k) from trivial), Option.some.inj h]
    · rw [if_neg e] at h
      rw [Go.Maps.atKey_put_other (fun e2 => e (by injection e2 with _ e2; exact e2.symm)), Ds_at js k b z i h]
set_option maxHeartbeats 16000000 in
theorem zjc (tn mn : Nat) (ml : Array Value) (et : ∀ args w, (callFunc tn args).run Try.prog w = .ok (.enter tn args) w) (em : ∀ args w, (callFunc mn args).run Try.prog w = .ok (.enter mn args) w) (hne : tn ≠ mn) (l0 : List zfp) (A : Option Addr) (c : Nat) (js : List JobT) (hjl : js.length ≤ 1000000000)
    (hid : ∀ i, i < js.length → 0 ≤ (jrd js i).f0 ∧ (jrd js i).f0 < (l0.length : Int)) (hrel : ∀ i, i < js.length → 0 ≤ (jrd js i).f1 ∧ (jrd js i).f1 ≤ 119) (hll : l0.length ≤ 1000000000) (w : World)
    (ht : ∀ (W : World) (j : JobT), Below w.heap.size w W → Calls Try.prog tn #[.agg #[.int .i64 j.f0, .int .i64 j.f1, .int .i64 j.f2, .int .i64 j.f3]] W fun e w' => e = .returned (.int .i64 j.f1) ∧ Below W.heap.size W w')
    (hm : ∀ (W : World) (a : Int), Below w.heap.size w W → 0 ≤ a → a < (l0.length : Int) → Calls Try.prog mn (#[.int .i64 a] ++ ml) W fun e w' => e = .returned (.int .i64 (trd l0 a).f2) ∧ ∃ q, w' = W.drewN q) (hr : Kd.C k34 w A js.length js) :
    Calls Try.prog 93 #[.slice A js.length c, .func (.func tn) #[] #[], .func (.func mn) #[] ml] w fun e w' => e = .returned (.bool (spcB l0 js)) ∧ Below w.heap.size w w' := by
  have HT := za.mk ht
  have HMM := za.mk hm
  have HR := za.mk hr
  have HID := za.mk hid
  have HRL := za.mk hrel
  have hmm := @run_makeMap Try.prog
  clear ht hm hr hid hrel
  go_enter Try.func93, Try.ntmps93
  go_wp2
  go_loopg [16] js.length (fun gg v16 wr => ∃ i : Nat, v16 = .int .i64 i ∧ i ≤ js.length ∧ js.length - i ≤ gg ∧ za (Below w.heap.size w wr) ∧ za (wr.ownsMap Try.prog 3 (plainElem Try.prog 3) w.heap.size i (Ds js i)) ∧ za (allB (zhr l0 js) i = true))
  case atStart => exact ⟨0, by go_num, by omega, by omega, ⟨(Below.refl _ _).alloc (Nat.le_refl _) _⟩, ⟨World.ownsMap_made _ _ _ _⟩, ⟨rfl⟩⟩
  case round =>
    obtain ⟨i, rfl, hil, hgg, BW, OM, OK⟩ := hrel
    by_cases hlt : i < js.length
    · have hltz : (i : Int) < (js.length : Int) := by omega
      obtain ⟨ad, ea, hx0, hx1, hx2, hx3⟩ := zdh HR.out (i : Int) (by omega) hltz
      cases ea
      have hy0 := (BW.out.cell (World.block_lt_of_cell? w _ hx0)).trans hx0
      have hy1 := (BW.out.cell (World.block_lt_of_cell? w _ hx1)).trans hx1
      have hy2 := (BW.out.cell (World.block_lt_of_cell? w _ hx2)).trans hx2
      have hy3 := (BW.out.cell (World.block_lt_of_cell? w _ hx3)).trans hx3
      clear hx0 hx1 hx2 hx3
      rw [Int.toNat_natCast] at hy0 hy1 hy2 hy3
      have hb0 := HID.out i hlt
      have hb1 := HRL.out i hlt
      obtain ⟨j, hj⟩ : ∃ j : JobT, j = jrd js i := ⟨_, rfl⟩
      rw [show zf js (i : Int) = j from hj.symm] at hy0 hy1 hy2 hy3
      rw [← hj] at hb0 hb1
      have HJ := za.mk hj
      clear hj
      have WF := za.mk (show (Lit.int .i64 j.f0).wf = true from WalkArith.wf_i64 (by omega))
      have WF1 := za.mk (show (Lit.int .i64 j.f1).wf = true from WalkArith.wf_i64 (by omega))
      have KEY := za.mk (Go.Maps.keyOf_int_mk Try.underlying3 WF.out)
      obtain ⟨z, hz⟩ : ∃ z, (trd l0 j.f0).f2 = z := ⟨_, rfl⟩
      have HM := za.mk (fun (W : World) (hb : Below w.heap.size w W) => HMM.out W j.f0 hb hb0.1 hb0.2)
      rw [hz] at HM
      have HZ := za.mk hz
      clear hz hb0 hb1
      have no : zhr l0 js i = false → spcB l0 js = false := fun h => by unfold spcB; exact zgk h _ hlt
      have NO := za.mk no
      clear no
      cases hl : lastOf js i j.f0 with
      | none =>
        have HH := za.mk (show Go.Maps.has (Ds js i) (.int .i64 j.f0) = false by rw [Ds_has, hl]; rfl)
        have ONE := za.mk (show zhr l0 js i = true by unfold zhr; rw [← HJ.out, hl])
        clear hl
        go_wp2_with (first | (go_at_fn tn; refine (HT.out _ j (zbm BW.out _)).mono ?_; rintro e w2 ⟨rfl, hb2⟩; have B2 := za.mk (zm (zbm BW.out _) hb2); have O2 := za.mk (zf2 (OM.out.alloc _) hb2); have j0 : w2.cell? ⟨wr.heap.size, 0, none⟩ = some (.int .i64 j.f0) := (hb2.cell (p := ⟨wr.heap.size, 0, none⟩) (by simp)).trans (by simp); clear hb2) | (at_lookup; refine wpList_lookup_own_ok_int _ rfl _ _ 122 rfl 3 3 .i64 zhe Try.underlying122 Try.underlying3 (zic _) w.heap.size i _ rfl O2.out _ _ rfl KEY.out ?_; intro c hat hwc; rw [HH.out]; clear hat hwc) | (at_mapUpdate; refine wpList_mapUpdate_own _ rfl _ _ _ 122 rfl 3 3 zhe Try.underlying122 _ w.heap.size i _ rfl O2.out (by unfold maxLen; omega) _ _ _ rfl rfl KEY.out _ [] (plainElem_int Try.underlying3 WF1.out) ?_; intro w4 hown4 hgrow4))
        · have B4 := za.mk ((B2.out).grown hgrow4 (B2.out).size (fun k hk => by cases hk; exact Nat.le_refl _))
          have O4 := za.mk hown4
          clear hown4 hgrow4
          go_wp2
          go_roundg (js.length - (i + 1))
          case measure => omega
          case rel => exact ⟨i + 1, by go_num, by omega, by omega, B4, ⟨by rw [Ds, ← HJ.out]; exact O4.out⟩, ⟨by rw [allB, OK.out, ONE.out]; rfl⟩⟩
      | some b =>
        have HH := za.mk (show Go.Maps.has (Ds js i) (.int .i64 j.f0) = true by rw [Ds_has, hl]; rfl)
        have HA := za.mk (Ds_at js j.f0 b (.lit (.int .i64 0)) i hl)
        by_cases hc : wrap64 (j.f1 - b) < z
        · have F := za.mk (NO.out (by unfold zhr; rw [← HJ.out, hl]; show (!(decide (wrap64 (j.f1 - b) < (trd l0 j.f0).f2))) = false; rw [HZ.out, decide_eq_true hc]; rfl))
          have hc1 : decide (wrap64 (j.f1 - b) < z) = true := decide_eq_true hc
          clear hl
          go_wp2_with (first | (go_at_fn tn; refine (HT.out _ j (zbm BW.out _)).mono ?_; rintro e w2 ⟨rfl, hb2⟩; have B2 := za.mk (zm (zbm BW.out _) hb2); have O2 := za.mk (zf2 (OM.out.alloc _) hb2); have j0 : w2.cell? ⟨wr.heap.size, 0, none⟩ = some (.int .i64 j.f0) := (hb2.cell (p := ⟨wr.heap.size, 0, none⟩) (by simp)).trans (by simp); clear hb2) | (at_lookup; refine wpList_lookup_own_ok_int _ rfl _ _ 122 rfl 3 3 .i64 zhe Try.underlying122 Try.underlying3 (zic _) w.heap.size i _ rfl O2.out _ _ rfl KEY.out ?_; intro c hat hwc; rw [HH.out]; (obtain rfl : c = b := by (have e := HA.out.symm.trans hat; injection e with e; injection e with _ e; exact e.symm)); clear hat hwc) | (go_at_fn mn; refine (HM.out _ B2.out).mono ?_; rintro e w3 ⟨rfl, ⟨q, rfl⟩⟩))
          go_ret
          exact ⟨by rw [F.out]; rfl, zbi B2.out _⟩
        · have ONE := za.mk (show zhr l0 js i = true by unfold zhr; rw [← HJ.out, hl]; show (!(decide (wrap64 (j.f1 - b) < (trd l0 j.f0).f2))) = true; rw [HZ.out, decide_eq_false hc]; rfl)
          have hc1 : decide (wrap64 (j.f1 - b) < z) = false := decide_eq_false hc
          clear hl
          go_wp2_with (first | (go_at_fn tn; refine (HT.out _ j (zbm BW.out _)).mono ?_; rintro e w2 ⟨rfl, hb2⟩; have B2 := za.mk (zm (zbm BW.out _) hb2); have O2 := za.mk (zf2 (OM.out.alloc _) hb2); have j0 : w2.cell? ⟨wr.heap.size, 0, none⟩ = some (.int .i64 j.f0) := (hb2.cell (p := ⟨wr.heap.size, 0, none⟩) (by simp)).trans (by simp); clear hb2) | (at_lookup; refine wpList_lookup_own_ok_int _ rfl _ _ 122 rfl 3 3 .i64 zhe Try.underlying122 Try.underlying3 (zic _) w.heap.size i _ rfl O2.out _ _ rfl KEY.out ?_; intro c hat hwc; rw [HH.out]; (obtain rfl : c = b := by (have e := HA.out.symm.trans hat; injection e with e; injection e with _ e; exact e.symm)); clear hat hwc) | (go_at_fn mn; refine (HM.out _ B2.out).mono ?_; rintro e w3 ⟨rfl, ⟨q, rfl⟩⟩) | (at_mapUpdate; refine wpList_mapUpdate_own _ rfl _ _ _ 122 rfl 3 3 zhe Try.underlying122 _ w.heap.size i _ rfl (zf2 O2.out (zbi (Below.refl _ _) _)) (by unfold maxLen; omega) _ _ _ rfl rfl KEY.out _ [] (plainElem_int Try.underlying3 WF1.out) ?_; intro w4 hown4 hgrow4))
          have B4 := za.mk ((zbi B2.out _).grown hgrow4 (zbi B2.out _).size (fun k hk => by cases hk; exact Nat.le_refl _))
          have O4 := za.mk hown4
          clear hown4 hgrow4
          go_wp2
          go_roundg (js.length - (i + 1))
          case measure => omega
          case rel => exact ⟨i + 1, by go_num, by omega, by omega, B4, ⟨by rw [Ds, ← HJ.out]; exact O4.out⟩, ⟨by rw [allB, OK.out, ONE.out]; rfl⟩⟩
    · have hltz : ¬ (i : Int) < (js.length : Int) := by omega
      go_wp2
      go_ret
      exact ⟨by rw [show i = js.length by omega] at OK; unfold spcB; rw [OK.out]; rfl, BW.out⟩
def idxOf {α : Type} (p : α → Bool) (l : List α) : Int := match l.findIdx? p with
  | some i => (i : Int)
  | none => -1
theorem idxOf_hit {α : Type} (p : α → Bool) (l : List α) (k : Nat) (hk : k < l.length) (hp : p l[k] = true) (hn : ∀ j (h : j < k), p (l[j]'(by omega)) = false) : idxOf p l = (k : Int) := by
  have : l.findIdx? p = some k := by
    rw [List.findIdx?_eq_some_iff_getElem]
    exact ⟨hk, hp, fun j hj => by simp [hn j hj]⟩
  unfold idxOf
  rw [this]
theorem idxOf_miss {α : Type} (p : α → Bool) (l : List α) (hn : ∀ j (h : j < l.length), p l[j] = false) : idxOf p l = -1 := by
  have : l.findIdx? p = none := by
    rw [List.findIdx?_eq_none_iff]
    intro x hx
    obtain ⟨j, hj, rfl⟩ := List.getElem_of_mem hx
    exact hn j hj
  unfold idxOf
  rw [this]
theorem zjd {α : Type} (p : α → Bool) (l : List α) : decide (0 ≤ idxOf p l) = l.any p := by
  unfold idxOf
  cases h : l.findIdx? p with
  | none =>
    rw [List.findIdx?_eq_none_iff] at h
    have : l.any p = false := by
      rw [List.any_eq_false]
      intro x hx
      simp [h x hx]
    rw [this]
    rfl
  | some i =>
    rw [List.findIdx?_eq_some_iff_getElem] at h
    obtain ⟨hi, hp, _⟩ := h
    have : l.any p = true := List.any_eq_true.2 ⟨_, List.getElem_mem hi, hp⟩
    rw [this]
    exact decide_eq_true (show (0 : Int) ≤ (i : Int) by omega)
set_option maxHeartbeats 2000000 in
theorem zje (p : S34 → Bool) (g : Nat) (lb : Array Value) (eg : ∀ args w, (callFunc g args).run Try.prog w = .ok (.enter g args) w) (A : Option Addr) (c : Nat) (l : List S34) (w : World)
    (hp : ∀ (W : World) (x : S34), x ∈ l → Below w.heap.size w W → Calls Try.prog g (#[.agg #[.int .i64 x.f0, .int .i64 x.f1, .int .i64 x.f2, .int .i64 x.f3]] ++ lb) W fun e w' => e = .returned (.bool (p x)) ∧ Below W.heap.size W w')
    (hr : Kd.C k34 w A l.length l) :
    Calls Try.prog 113 #[.slice A l.length c, .func (.func g) #[] lb] w fun e w' => e = .returned (.int .i64 (idxOf p l)) ∧ Below w.heap.size w w' := by
  have hbig := za.mk (Kd.C_max hr)
  have HR := za.mk hr
  have HP := za.mk hp
  clear hr hp
  go_enter Try.func113, Try.ntmps113
  go_wp2
  go_loopg [5, 8] l.length (fun gg _ s8 wr => ∃ kk : Nat, kk ≤ l.length ∧ l.length - kk ≤ gg ∧ s8 = .int .i64 kk ∧ za (Below w.heap.size w wr) ∧ za (∀ j (h : j < kk) (h2 : j < l.length), p l[j] = false))
  case atStart => exact ⟨0, Nat.zero_le _, by omega, rfl, ⟨Below.refl _ w⟩, ⟨fun j hj => absurd hj (Nat.not_lt_zero _)⟩⟩
  case round =>
    obtain ⟨kk, hkk, hg, rfl, BW, N⟩ := hrel
    by_cases hlt : kk < l.length
    · have hltz : (kk : Int) < (l.length : Int) := by omega
      have hb1 := hbig.out
      obtain ⟨ad, ea, hx0, hx1, hx2, hx3⟩ := zdh HR.out (kk : Int) (by omega) hltz
      cases ea
      have hy0 := (BW.out.cell (World.block_lt_of_cell? w _ hx0)).trans hx0
      have hy1 := (BW.out.cell (World.block_lt_of_cell? w _ hx1)).trans hx1
      have hy2 := (BW.out.cell (World.block_lt_of_cell? w _ hx2)).trans hx2
      have hy3 := (BW.out.cell (World.block_lt_of_cell? w _ hx3)).trans hx3
      have er : zf l (kk : Int) = l[kk] := by rw [zf, List.getD_eq_getElem?_getD, Int.toNat_natCast, List.getElem?_eq_getElem hlt]; rfl
      rw [er, Int.toNat_natCast] at hy0 hy1 hy2 hy3
      have hcall := HP.out wr l[kk] (List.getElem_mem hlt) BW.out
      generalize hy : l[kk] = y at hy0 hy1 hy2 hy3 hcall
      have Y := za.mk hy
      clear hy hx0 hx1 hx2 hx3 er
      cases hq : p y with
      | true =>
        rw [hq] at hcall
        go_wp2_with (go_at_fn g; refine hcall.mono ?_; rintro e w' ⟨rfl, hb'⟩)
        go_ret
        refine ⟨?_, Below.trans BW.out (hb'.mono BW.out.size)⟩
        rw [idxOf_hit p l kk hlt (by rw [Y.out]; exact hq) (fun j hj => N.out j hj (by omega))]
        rfl
      | false =>
        rw [hq] at hcall
        go_wp2_with (go_at_fn g; refine hcall.mono ?_; rintro e w' ⟨rfl, hb'⟩)
        go_roundg (l.length - (kk + 1))
        case measure => omega
        case rel =>
          refine ⟨kk + 1, by omega, by omega, by go_num, ⟨Below.trans BW.out (hb'.mono BW.out.size)⟩, ⟨fun j hj hj2 => ?_⟩⟩
          by_cases e : j = kk
          · subst e
            rw [Y.out]; exact hq
          · exact N.out j (by omega) hj2
    · have hltz : ¬ (kk : Int) < (l.length : Int) := by omega
      go_wp2
      go_ret
      refine ⟨?_, BW.out⟩
      rw [idxOf_miss p l (fun j hj => N.out j (by omega) hj)]
      rfl
set_option maxHeartbeats 2000000 in
theorem zjf (p : S34 → Bool) (g : Nat) (lb : Array Value) (eg : ∀ args w, (callFunc g args).run Try.prog w = .ok (.enter g args) w) (A : Option Addr) (c : Nat) (l : List S34) (w : World)
    (hp : ∀ (W : World) (x : S34), x ∈ l → Below w.heap.size w W → Calls Try.prog g (#[.agg #[.int .i64 x.f0, .int .i64 x.f1, .int .i64 x.f2, .int .i64 x.f3]] ++ lb) W fun e w' => e = .returned (.bool (p x)) ∧ Below W.heap.size W w')
    (hr : Kd.C k34 w A l.length l) :
    Calls Try.prog 96 #[.slice A l.length c, .func (.func g) #[] lb] w fun e w' => e = .returned (.bool (l.any p)) ∧ Below w.heap.size w w' := by
  have Y := za.mk (zjd p l)
  have h := za.mk (fun W (hW : W = w) => zje p g lb eg A c l W (by subst hW; exact hp) (by subst hW; exact hr))
  clear hp hr eg
  go_enter Try.func96, Try.ntmps96
  go_wp2_with (go_at_call 113; refine (h.out _ rfl).mono ?_; rintro e w' ⟨rfl, hb'⟩)
  go_ret
  exact ⟨by rw [← Y.out]; rfl, hb'⟩
set_option maxHeartbeats 2000000 in
theorem zid (p : S88 → Bool) (g : Nat) (lb : Array Value) (eg : ∀ args w, (callFunc g args).run Try.prog w = .ok (.enter g args) w) (A : Option Addr) (c : Nat) (l : List S88) (w : World)
    (hp : ∀ (W : World) (x : S88), Below w.heap.size w W → Calls Try.prog g (#[.agg #[.int .i64 x.f0, .int .i64 x.f1, .int .i64 x.f2]] ++ lb) W fun e w' => e = .returned (.bool (p x)) ∧ Below W.heap.size W w')
    (hr : Kd.C k88 w A l.length l) :
    Calls Try.prog 115 #[.slice A l.length c, .func (.func g) #[] lb] w fun e w' => e = .returned (.int .i64 (idxOf p l)) ∧ Below w.heap.size w w' := by
  have hbig := za.mk (Kd.C_max hr)
  have HR := za.mk hr
  have HP := za.mk hp
  clear hr hp
  go_enter Try.func115, Try.ntmps115
  go_wp2
  go_loopg [5, 8] l.length (fun gg _ s8 wr => ∃ kk : Nat, kk ≤ l.length ∧ l.length - kk ≤ gg ∧ s8 = .int .i64 kk ∧ za (Below w.heap.size w wr) ∧ za (∀ j (h : j < kk) (h2 : j < l.length), p l[j] = false))
  case atStart => exact ⟨0, Nat.zero_le _, by omega, rfl, ⟨Below.refl _ w⟩, ⟨fun j hj => absurd hj (Nat.not_lt_zero _)⟩⟩
  case round =>
    obtain ⟨kk, hkk, hg, rfl, BW, N⟩ := hrel
    by_cases hlt : kk < l.length
    · have hltz : (kk : Int) < (l.length : Int) := by omega
      have hb1 := hbig.out
      obtain ⟨ad, ea, hx0, hx1, hx2⟩ := zel HR.out (kk : Int) (by omega) hltz
      cases ea
      have hy0 := (BW.out.cell (World.block_lt_of_cell? w _ hx0)).trans hx0
      have hy1 := (BW.out.cell (World.block_lt_of_cell? w _ hx1)).trans hx1
      have hy2 := (BW.out.cell (World.block_lt_of_cell? w _ hx2)).trans hx2
      have er : zbe l (kk : Int) = l[kk] := by rw [zbe, List.getD_eq_getElem?_getD, Int.toNat_natCast, List.getElem?_eq_getElem hlt]; rfl
      rw [er, Int.toNat_natCast] at hy0 hy1 hy2
      have hcall := HP.out wr l[kk] BW.out
      generalize hy : l[kk] = y at hy0 hy1 hy2 hcall
      have Y := za.mk hy
      clear hy hx0 hx1 hx2 er
      cases hq : p y with
      | true =>
        rw [hq] at hcall
        go_wp2_with (go_at_fn g; refine hcall.mono ?_; rintro e w' ⟨rfl, hb'⟩)
        go_ret
        refine ⟨?_, Below.trans BW.out (hb'.mono BW.out.size)⟩
        rw [idxOf_hit p l kk hlt (by rw [Y.out]; exact hq) (fun j hj => N.out j hj (by omega))]
        rfl
      | false =>
        rw [hq] at hcall
        go_wp2_with (go_at_fn g; refine hcall.mono ?_; rintro e w' ⟨rfl, hb'⟩)
        go_roundg (l.length - (kk + 1))
        case measure => omega
        case rel =>
          refine ⟨kk + 1, by omega, by omega, by go_num, ⟨Below.trans BW.out (hb'.mono BW.out.size)⟩, ⟨fun j hj hj2 => ?_⟩⟩
          by_cases e : j = kk
          · subst e
            rw [Y.out]; exact hq
          · exact N.out j (by omega) hj2
    · have hltz : ¬ (kk : Int) < (l.length : Int) := by omega
      go_wp2
      go_ret
      refine ⟨?_, BW.out⟩
      rw [idxOf_miss p l (fun j hj => N.out j (by omega) hj)]
      rfl
set_option maxHeartbeats 2000000 in
theorem zf3 (p : S88 → Bool) (g : Nat) (lb : Array Value) (eg : ∀ args w, (callFunc g args).run Try.prog w = .ok (.enter g args) w) (A : Option Addr) (c : Nat) (l : List S88) (w : World)
    (hp : ∀ (W : World) (x : S88), Below w.heap.size w W → Calls Try.prog g (#[.agg #[.int .i64 x.f0, .int .i64 x.f1, .int .i64 x.f2]] ++ lb) W fun e w' => e = .returned (.bool (p x)) ∧ Below W.heap.size W w')
    (hr : Kd.C k88 w A l.length l) :
    Calls Try.prog 104 #[.slice A l.length c, .func (.func g) #[] lb] w fun e w' => e = .returned (.bool (l.any p)) ∧ Below w.heap.size w w' := by
  have Y := za.mk (zjd p l)
  have h := za.mk (fun W (hW : W = w) => zid p g lb eg A c l W (by subst hW; exact hp) (by subst hW; exact hr))
  clear hp hr eg
  go_enter Try.func104, Try.ntmps104
  go_wp2_with (go_at_call 115; refine (h.out _ rfl).mono ?_; rintro e w' ⟨rfl, hb'⟩)
  go_ret
  exact ⟨by rw [← Y.out]; rfl, hb'⟩
def zd3.f (a0_0 : Int) (a0_1 : Int) (a0_2 : Int) : Option (Bool) := (zcz.f a0_0 a0_1 a0_2).bind fun t292 => (some (!t292))
set_option maxHeartbeats 8000000 in
theorem zd3.calls (a0_0 : Int) (a0_1 : Int) (a0_2 : Int) (r : Bool) (w : World) (h : zd3.f a0_0 a0_1 a0_2 = some r) :
  Calls Try.prog 109 #[.agg #[.int .i64 a0_0, .int .i64 a0_1, .int .i64 a0_2]] w fun e w' => e = .returned (.bool r) ∧ Below w.heap.size w w' := by
 have hu88 := Try.underlying88
 have HB := za.mk (Below.refl w.heap.size w)
 have H : ((zcz.f a0_0 a0_1 a0_2).bind fun t292 => (some (!t292))) = some r := h
 clear h
 replace H := Option.bind_eq_some_iff.mp H
 obtain ⟨t292, A20, H⟩ := H
 replace H : (some (!t292)) = some r := H
 have A2 := za.mk A20
 clear A20
 obtain rfl := Option.some.inj H
 go_enter Try.func109, Try.ntmps109
 go_wp2_with (first | ((with_reducible refine zbp (N := 1) rfl ?_); refine zbt ?hg (N := 1) ?hd (cs := #[.int .i64 a0_0, .int .i64 a0_1, .int .i64 a0_2]) (t := 88) ?hr ?_; (case hd => rfl); (case hg => rfl); (case hr => first | (go_simp; done) | (go_simp; rfl)); intro gb291 hg w3 hbox hb; have n0_ := za.mk (zm (Zq3 HB) hb); have n1_ := za.mk (hbox); have n2_ := za.mk ((by rw [hg]; exact (zy (Zq3 HB)) : w.heap.size ≤ gb291)); have n3_ := za.mk ((by rw [hg]; exact (zy (Zq3 HB)) : w.heap.size ≤ gb291)); clear HB; have HB := n0_; have BK291 := n1_; have GW291 := n2_; have GE291 := n3_; clear n0_ n1_ n2_ n3_; clear hb hbox hg; have hcz4_0 : w3.cell? ⟨gb291, 0, none⟩ = some (.int .i64 a0_0) := (ze BK291.out 0).trans rfl; have hcz4_1 : w3.cell? ⟨gb291, 1, none⟩ = some (.int .i64 a0_1) := (ze BK291.out 1).trans rfl; have hcz4_2 : w3.cell? ⟨gb291, 2, none⟩ = some (.int .i64 a0_2) := (ze BK291.out 2).trans rfl; have hfz4_0 := zg BK291.out 0; have hfz4_1 := zg BK291.out 1; have hfz4_2 := zg BK291.out 2) | ((with_reducible refine zbc (f := 59) rfl ?_); refine zby (some 4) rfl rfl Try.func59 (by kernel_rfl) rfl #[.agg #[.int .i64 a0_0, .int .i64 a0_1, .int .i64 a0_2]] rfl Zmt ?_; (with_reducible refine (zcz.calls a0_0 a0_1 a0_2 t292 _ A2.out).mono ?_); rintro e w5 ⟨rfl, hb⟩; refine ⟨_, rfl, ?_⟩; have n0_ := za.mk (zbg (g := gb291) (o := .cells #[.int .i64 a0_0, .int .i64 a0_1, .int .i64 a0_2] 88 (0, 0)) (Zq4 BK291) hb); have n1_ := za.mk (zm (Zq5 HB GE291) hb); clear BK291; clear HB; have BK291 := n0_; have HB := n1_; clear n0_ n1_; (try clear hb); (try clear hb2); (try clear hk); (try clear hi)))
 go_ret
 exact ⟨by first | rfl | (simp [zu, zw] <;> rfl) | (simp [*, zu, zw] <;> rfl), Zq5 HB GE291⟩
def taskOk (x : S88) : Bool := decide (1 ≤ x.f0 ∧ x.f0 ≤ 8 ∧ x.f0 ≤ x.f1 ∧ x.f1 ≤ x.f2 ∧ x.f2 ≤ 12)
def zdg.bad (x : S88) : Bool := !(taskOk x)
theorem zdg.is (x : S88) : zd3.f x.f0 x.f1 x.f2 = some (zdg.bad x) := by
  unfold zd3.f zcz.f zc1.f zdg.bad taskOk
  by_cases h1 : x.f0 ≥ 1 <;> by_cases h2 : x.f0 ≤ 8 <;> by_cases h3 : x.f1 ≥ x.f0 <;> by_cases h4 : x.f1 ≤ x.f2 <;> by_cases h5 : x.f2 ≤ 12 <;> simp [h1, h2, h3, h4, h5]
  all_goals first | omega | (intros; omega) | skip
def zdg.f (l0 : List S88) : Option Bool := some (l0.any zdg.bad)
theorem zdg.calls (A0 : Option Addr) (c0 : Nat) (l0 : List S88) (r : Bool) (w : World) (hr0 : Kd.C k88 w A0 l0.length l0) (hc0 : l0.length ≤ c0) (h : zdg.f l0 = some r) :
    Calls Try.prog 104 #[.slice A0 l0.length c0, .func (.func 109) #[] #[]] w fun e w' => e = .returned (.bool r) ∧ Below w.heap.size w w' := by
  obtain rfl := Option.some.inj h
  exact zf3 zdg.bad 109 #[] (enters_of Try.func109 (by kernel_rfl) rfl) A0 c0 l0 w (fun W' x _ => (zd3.calls x.f0 x.f1 x.f2 _ W' (zdg.is x)).mono fun e w' hh => ⟨hh.1, hh.2⟩) hr0
theorem Zq20 {X0 P : Prop} (x0 : za X0) (h : X0 → P := by intro x0; repeat (first | exact x0 | (with_reducible refine Kd.zg0 ?_ _) | (with_reducible refine Kd.zh2 ?_ _) | (with_reducible refine Kd.C_drew ?_))) : P := h x0.out
def zcn.f (l0 : List (S88)) : Option (Bool) := if (l0.length : Int) ≤ 5 then ((zdg.f l0).bind fun t293 => (some (!t293))) else (some false)
set_option maxHeartbeats 8000000 in
theorem zcn.calls (A0 : Option Addr) (c0 : Nat) (l0 : List (S88)) (r : Bool) (w : World) (hr0 : Kd.C k88 w A0 l0.length l0) (hc0 : l0.length ≤ c0) (h : zcn.f l0 = some r) :
  Calls Try.prog 76 #[.slice A0 l0.length c0] w fun e w' => e = .returned (.bool r) ∧ Below w.heap.size w w' := by
 have HR0 := za.mk hr0
 have HC0 := za.mk hc0
 clear hr0 hc0
 have HB := za.mk (Below.refl w.heap.size w)
 have H : (if (l0.length : Int) ≤ 5 then ((zdg.f l0).bind fun t293 => (some (!t293))) else (some false)) = some r := h
 clear h
 by_cases c2 : (l0.length : Int) ≤ 5
 ·rw [if_pos c2] at H
  have c2b0 : decide ((l0.length : Int) ≤ 5) = true := decide_eq_true c2;have c2b1 : decide (l0.length ≤ 5) = true := decide_eq_true (by omega);clear c2;replace H := Option.bind_eq_some_iff.mp H;obtain ⟨t293, A30, H⟩ := H;replace H : (some (!t293)) = some r := H;have A3 := za.mk A30;clear A30;obtain rfl := Option.some.inj H;go_enter Try.func76, Try.ntmps76;go_wp2_with (first | (go_at_call 104; (with_reducible refine (zdg.calls _ _ l0  t293 _ ?side1 ?side2 A3.out).mono ?_); (case side1 => exact Zq20 HR0); (case side2 => exact HC0.out); rintro e w4 ⟨rfl, hb⟩; have n0_ := za.mk (zm (Zq3 HB) hb); clear HB; have HB := n0_; clear n0_; (try clear hb); (try clear hb2); (try clear hk); (try clear hi)));go_ret;exact ⟨by first | rfl | (simp [zu, zw] <;> rfl) | (simp [*, zu, zw] <;> rfl), Zq3 HB⟩
 ·rw [if_neg c2] at H
  have c2b0 : decide ((l0.length : Int) ≤ 5) = false := decide_eq_false c2;have c2b1 : decide (l0.length ≤ 5) = false := decide_eq_false (by omega);clear c2;obtain rfl := Option.some.inj H;go_enter Try.func76, Try.ntmps76;go_wp2;go_ret;exact ⟨by first | rfl | (simp [zu, zw] <;> rfl) | (simp [*, zu, zw] <;> rfl), Zq3 HB⟩
def zff.f (a0_0 : Int) (a0_1 : Int) (a0_2 : Int) (a0_3 : Int) : Option (Int) := some a0_1
set_option maxHeartbeats 8000000 in
theorem zff.calls (a0_0 : Int) (a0_1 : Int) (a0_2 : Int) (a0_3 : Int) (r : Int) (w : World) (h : zff.f a0_0 a0_1 a0_2 a0_3 = some r) :
  Calls Try.prog 94 #[.agg #[.int .i64 a0_0, .int .i64 a0_1, .int .i64 a0_2, .int .i64 a0_3]] w fun e w' => e = .returned (.int .i64 r) ∧ Below w.heap.size w w' := by
 have hu34 := Try.underlying34
 have HB := za.mk (Below.refl w.heap.size w)
 have H : (some a0_1) = some r := h
 clear h
 obtain rfl := Option.some.inj H
 go_enter Try.func94, Try.ntmps94
 go_wp2_with (first | ((with_reducible refine zbp (N := 1) rfl ?_); refine zbt ?hg (N := 1) ?hd (cs := #[.int .i64 a0_0, .int .i64 a0_1, .int .i64 a0_2, .int .i64 a0_3]) (t := 34) ?hr ?_; (case hd => rfl); (case hg => rfl); (case hr => first | (go_simp; done) | (go_simp; rfl)); intro gb294 hg w2 hbox hb; have n0_ := za.mk (zm (Zq3 HB) hb); have n1_ := za.mk (hbox); have n2_ := za.mk ((by rw [hg]; exact (zy (Zq3 HB)) : w.heap.size ≤ gb294)); have n3_ := za.mk ((by rw [hg]; exact (zy (Zq3 HB)) : w.heap.size ≤ gb294)); clear HB; have HB := n0_; have BK294 := n1_; have GW294 := n2_; have GE294 := n3_; clear n0_ n1_ n2_ n3_; clear hb hbox hg; have hcz3_0 : w2.cell? ⟨gb294, 0, none⟩ = some (.int .i64 a0_0) := (ze BK294.out 0).trans rfl; have hcz3_1 : w2.cell? ⟨gb294, 1, none⟩ = some (.int .i64 a0_1) := (ze BK294.out 1).trans rfl; have hcz3_2 : w2.cell? ⟨gb294, 2, none⟩ = some (.int .i64 a0_2) := (ze BK294.out 2).trans rfl; have hcz3_3 : w2.cell? ⟨gb294, 3, none⟩ = some (.int .i64 a0_3) := (ze BK294.out 3).trans rfl; have hfz3_0 := zg BK294.out 0; have hfz3_1 := zg BK294.out 1; have hfz3_2 := zg BK294.out 2; have hfz3_3 := zg BK294.out 3))
 go_ret
 exact ⟨by first | rfl | (simp [zu, zw] <;> rfl) | (simp [*, zu, zw] <;> rfl), Zq5 HB GE294⟩
def legB (l : List zfp) (js : List JobT) : Bool := if ordB l js = true then (if spcB l js = true then !(js.any (zjb l)) else false) else false
theorem zie {l : List zfp} {js : List JobT} (h : ordB l js = true) (i : Nat) (hi : i < js.length) : inRng l (jrd js i) = true ∧ relOk (jrd js i) = true := by
  unfold ordB at h
  rw [Bool.and_eq_true] at h
  have := zhd h.1 i hi
  unfold zgj at this
  rw [Bool.and_eq_true, Bool.and_eq_true, Bool.and_eq_true] at this
  exact ⟨this.1.1.1, this.1.1.2⟩
def zc6.f (l0 : List S88) (l1 : List S34) : Option Bool := (zcn.f l0).bind fun t => (if t = true then (if l0.length ≤ 1000000000 ∧ l1.length ≤ 1000000000 then (some (legB l0 l1)) else (none)) else (some false))
set_option maxHeartbeats 16000000 in
theorem zc6.calls (A0 : Option Addr) (c0 : Nat) (l0 : List S88) (A1 : Option Addr) (c1 : Nat) (l1 : List S34) (r : Bool) (w : World) (hr0 : Kd.C k88 w A0 l0.length l0) (hc0 : l0.length ≤ c0) (hr1 : Kd.C k34 w A1 l1.length l1) (hc1 : l1.length ≤ c1) (h : zc6.f l0 l1 = some r) :
    Calls Try.prog 48 #[.slice A0 l0.length c0, .slice A1 l1.length c1] w fun e w' => e = .returned (.bool r) ∧ Below w.heap.size w w' := by
  unfold zc6.f at h
  have hlen0 : l0.length ≤ 9223372036854775807 := hr0.2.1
  have HR0 := za.mk hr0
  have HC0 := za.mk hc0
  have HR1 := za.mk hr1
  clear hr0 hc0 hr1 hc1
  cases hs : zcn.f l0 with
  | none => rw [hs] at h; simp at h
  | some t =>
    rw [hs] at h
    have HS := za.mk hs
    clear hs
    have B0 := za.mk (zbm (Below.refl w.heap.size w) (.cells #[.slice A0 l0.length c0] 23))
    cases t with
    | false =>
      simp at h
      subst h
      go_enter Try.func48, Try.ntmps48
      go_wp2_with (go_at_call 76; refine (zcn.calls A0 c0 l0 false _ (Kd.zb4 HR0.out B0.out) HC0.out HS.out).mono ?_; rintro e w1 ⟨rfl, hb⟩; have HB := za.mk (zm B0.out hb); clear hb)
      go_ret
      exact ⟨rfl, HB.out⟩
    | true =>
      simp only [Option.bind_some, if_true] at h
      by_cases hl : l0.length ≤ 1000000000 ∧ l1.length ≤ 1000000000
      · rw [if_pos hl] at h
        obtain rfl := Option.some.inj h
        clear h
        obtain ⟨hl0, hl1⟩ := hl
        have cellB : ∀ W, Below (w.alloc (.cells #[.slice A0 l0.length c0] 23)).heap.size (w.alloc (.cells #[.slice A0 l0.length c0] 23)) W → W.cell? ⟨w.heap.size, 0, none⟩ = some (.slice A0 l0.length c0) := fun W hb => (hb.cell (p := ⟨w.heap.size, 0, none⟩) (by simp)).trans (by simp)
        have CB := za.mk cellB
        clear cellB
        have HO := za.mk (fun (W1 : World) (hb1 : Below (w.alloc (.cells #[.slice A0 l0.length c0] 23)).heap.size (w.alloc (.cells #[.slice A0 l0.length c0] 23)) W1) =>
          zib 92 #[.pointer (some ⟨w.heap.size, 0, none⟩)] (enters_of Try.func92 (by kernel_rfl) rfl) l0 A1 c1 l1 hl1 hl0 W1
            (fun W a hb h0 h1 => (jl1_calls A0 c0 l0 ⟨w.heap.size, 0, none⟩ a h0 h1 W (CB.out W (zb8 hb1 hb1.size hb)) (Kd.zb4 (Kd.zb4 HR0.out B0.out) (zb8 hb1 hb1.size hb))).mono fun e w' hh => ⟨hh.1, hh.2.out⟩) (Kd.zb4 (Kd.zb4 HR1.out B0.out) hb1))
        have HP := za.mk (fun (hord : ordB l0 l1 = true) (W1 : World) (hb1 : Below (w.alloc (.cells #[.slice A0 l0.length c0] 23)).heap.size (w.alloc (.cells #[.slice A0 l0.length c0] 23)) W1) =>
          zjc 94 95 #[.pointer (some ⟨w.heap.size, 0, none⟩)] (enters_of Try.func94 (by kernel_rfl) rfl) (enters_of Try.func95 (by kernel_rfl) rfl) (by decide) l0 A1 c1 l1 hl1
            (fun i hi => by have h1 := (zie hord i hi).1; unfold inRng at h1; have h1 := of_decide_eq_true h1; omega) (fun i hi => by have h1 := (zie hord i hi).2; unfold relOk at h1; exact of_decide_eq_true h1) hl0 W1
            (fun W j _ => (zff.calls j.f0 j.f1 j.f2 j.f3 _ W rfl).mono fun e w' hh => ⟨hh.1, hh.2⟩)
            (fun W a hb h0 h1 => (jl2_calls A0 c0 l0 ⟨w.heap.size, 0, none⟩ a h0 h1 W (CB.out W (zb8 hb1 hb1.size hb)) (Kd.zb4 (Kd.zb4 HR0.out B0.out) (zb8 hb1 hb1.size hb))).mono fun e w' hh => ⟨hh.1, hh.2.out⟩) (Kd.zb4 (Kd.zb4 HR1.out B0.out) hb1))
        have HL := za.mk (fun (hord : ordB l0 l1 = true) (W1 : World) (hb1 : Below (w.alloc (.cells #[.slice A0 l0.length c0] 23)).heap.size (w.alloc (.cells #[.slice A0 l0.length c0] 23)) W1) =>
          zjf (zjb l0) 97 #[.pointer (some ⟨w.heap.size, 0, none⟩)] (enters_of Try.func97 (by kernel_rfl) rfl) A1 c1 l1 W1
            (fun W x hx hb => by
              obtain ⟨i, hi, rfl⟩ := List.getElem_of_mem hx
              have h1 := (zie hord i hi).1
              have e : jrd l1 i = l1[i] := by unfold jrd zf; rw [List.getD_eq_getElem?_getD, Int.toNat_natCast, List.getElem?_eq_getElem hi]; rfl
              rw [e] at h1
              unfold inRng at h1
              have h1 := of_decide_eq_true h1
              exact jl3_calls A0 c0 l0 ⟨w.heap.size, 0, none⟩ l1[i] h1.1 (by omega) W (CB.out W (zb8 hb1 hb1.size hb)) (Kd.zb4 (Kd.zb4 HR0.out B0.out) (zb8 hb1 hb1.size hb))) (Kd.zb4 (Kd.zb4 HR1.out B0.out) hb1))
        unfold legB
        cases ho : ordB l0 l1 with
        | false =>
          rw [ho] at HO
          rw [if_neg (by simp)]
          clear ho HP HL
          go_enter Try.func48, Try.ntmps48
          go_wp2_with (first
            | (go_at_call 76; refine (zcn.calls A0 c0 l0 true _ (Kd.zb4 HR0.out B0.out) HC0.out HS.out).mono ?_; rintro e w1 ⟨rfl, hb⟩; have HB := za.mk hb; have hcell := CB.out w1 hb; clear hb)
            | (go_at_call 91; refine (HO.out _ HB.out).mono ?_; rintro e w2 ⟨rfl, hb⟩; have HB2 := za.mk (zb8 HB.out HB.out.size hb); have hcell2 := CB.out w2 HB2.out; clear hb))
          go_ret
          exact ⟨rfl, zb8 B0.out B0.out.size HB2.out⟩
        | true =>
          rw [ho] at HO
          rw [if_pos rfl]
          have HP2 := za.mk (HP.out ho)
          have HL2 := za.mk (HL.out ho)
          clear ho HP HL
          cases hp : spcB l0 l1 with
          | false =>
            rw [hp] at HP2
            rw [if_neg (by simp)]
            clear hp
            go_enter Try.func48, Try.ntmps48
            go_wp2_with (first
              | (go_at_call 76; refine (zcn.calls A0 c0 l0 true _ (Kd.zb4 HR0.out B0.out) HC0.out HS.out).mono ?_; rintro e w1 ⟨rfl, hb⟩; have HB := za.mk hb; have hcell := CB.out w1 hb; clear hb)
              | (go_at_call 91; refine (HO.out _ HB.out).mono ?_; rintro e w2 ⟨rfl, hb⟩; have HB2 := za.mk (zb8 HB.out HB.out.size hb); have hcell2 := CB.out w2 HB2.out; clear hb)
              | (go_at_call 93; refine (HP2.out _ HB2.out).mono ?_; rintro e w3 ⟨rfl, hb⟩; have HB3 := za.mk (zb8 HB2.out HB2.out.size hb); have hcell3 := CB.out w3 HB3.out; clear hb))
            go_ret
            exact ⟨rfl, zb8 B0.out B0.out.size HB3.out⟩
          | true =>
            rw [hp] at HP2
            rw [if_pos rfl]
            clear hp
            obtain ⟨v, hv⟩ : ∃ v, l1.any (zjb l0) = v := ⟨_, rfl⟩
            rw [hv] at HL2 ⊢
            clear hv
            go_enter Try.func48, Try.ntmps48
            go_wp2_with (first
              | (go_at_call 76; refine (zcn.calls A0 c0 l0 true _ (Kd.zb4 HR0.out B0.out) HC0.out HS.out).mono ?_; rintro e w1 ⟨rfl, hb⟩; have HB := za.mk hb; have hcell := CB.out w1 hb; clear hb)
              | (go_at_call 91; refine (HO.out _ HB.out).mono ?_; rintro e w2 ⟨rfl, hb⟩; have HB2 := za.mk (zb8 HB.out HB.out.size hb); have hcell2 := CB.out w2 HB2.out; clear hb)
              | (go_at_call 93; refine (HP2.out _ HB2.out).mono ?_; rintro e w3 ⟨rfl, hb⟩; have HB3 := za.mk (zb8 HB2.out HB2.out.size hb); have hcell3 := CB.out w3 HB3.out; clear hb)
              | (go_at_call 96; refine (HL2.out _ HB3.out).mono ?_; rintro e w4 ⟨rfl, hb⟩; have HB4 := za.mk (zb8 HB3.out HB3.out.size hb); clear hb))
            go_ret
            exact ⟨rfl, zb8 B0.out B0.out.size HB4.out⟩
      · rw [if_neg hl] at h
        cases h
def zcd.f (a0_0 : Int) (a0_1 : Int) : Option (Bool) := (zc1.f a0_0 1 a0_1).bind fun t697 => (if t697 = true then (some (decide (a0_1 ≤ 12))) else (some false))
set_option maxHeartbeats 8000000 in
theorem zcd.calls (a0_0 : Int) (a0_1 : Int) (r : Bool) (w : World) (h : zcd.f a0_0 a0_1 = some r) :
  Calls Try.prog 77 #[.agg #[.int .i64 a0_0, .int .i64 a0_1]] w fun e w' => e = .returned (.bool r) ∧ Below w.heap.size w w' := by
 have hu51 := Try.underlying51
 have HB := za.mk (Below.refl w.heap.size w)
 have H : ((zc1.f a0_0 1 a0_1).bind fun t697 => (if t697 = true then (some (decide (a0_1 ≤ 12))) else (some false))) = some r := h
 clear h
 replace H := Option.bind_eq_some_iff.mp H
 obtain ⟨t697, A20, H⟩ := H
 replace H : (if t697 = true then (some (decide (a0_1 ≤ 12))) else (some false)) = some r := H
 have A2 := za.mk A20
 clear A20
 by_cases c3 : t697 = true
 ·subst c3
  have H1 : (some (decide (a0_1 ≤ 12))) = some r := by rw [if_pos rfl] at H; exact H
  clear H;have H := H1;clear H1;obtain rfl := Option.some.inj H;go_enter Try.func77, Try.ntmps77;go_wp2_with (first | ((with_reducible refine zbp (N := 1) rfl ?_); refine zbt ?hg (N := 1) ?hd (cs := #[.int .i64 a0_0, .int .i64 a0_1]) (t := 51) ?hr ?_; (case hd => rfl); (case hg => rfl); (case hr => first | (go_simp; done) | (go_simp; rfl)); intro gb696 hg w4 hbox hb; have n0_ := za.mk (zm (Zq3 HB) hb); have n1_ := za.mk (hbox); have n2_ := za.mk ((by rw [hg]; exact (zy (Zq3 HB)) : w.heap.size ≤ gb696)); have n3_ := za.mk ((by rw [hg]; exact (zy (Zq3 HB)) : w.heap.size ≤ gb696)); clear HB; have HB := n0_; have BK696 := n1_; have GW696 := n2_; have GE696 := n3_; clear n0_ n1_ n2_ n3_; clear hb hbox hg; have hcz5_0 : w4.cell? ⟨gb696, 0, none⟩ = some (.int .i64 a0_0) := (ze BK696.out 0).trans rfl; have hcz5_1 : w4.cell? ⟨gb696, 1, none⟩ = some (.int .i64 a0_1) := (ze BK696.out 1).trans rfl; have hfz5_0 := zg BK696.out 0; have hfz5_1 := zg BK696.out 1) | ((with_reducible refine zbc (f := 103) rfl ?_); refine zby (some 7) rfl rfl Try.func103 (by kernel_rfl) rfl #[.int .i64 a0_0, .int .i64 1, .int .i64 a0_1] rfl Zmt ?_; (with_reducible refine (zc1.calls a0_0 1 a0_1 true _ A2.out).mono ?_); rintro e w' ⟨rfl, ⟨nd, rfl⟩⟩; refine ⟨_, rfl, ?_⟩));go_ret;exact ⟨by first | rfl | (simp [zu, zw] <;> rfl) | (simp [*, zu, zw] <;> rfl), Zq5 HB GE696⟩
 ·replace c3 := Bool.eq_false_iff.mpr c3
  subst c3;have H1 : (some false) = some r := by rw [if_neg (show ¬ (false = true) by decide)] at H; exact H
  clear H;have H := H1;clear H1;obtain rfl := Option.some.inj H;go_enter Try.func77, Try.ntmps77;go_wp2_with (first | ((with_reducible refine zbp (N := 1) rfl ?_); refine zbt ?hg (N := 1) ?hd (cs := #[.int .i64 a0_0, .int .i64 a0_1]) (t := 51) ?hr ?_; (case hd => rfl); (case hg => rfl); (case hr => first | (go_simp; done) | (go_simp; rfl)); intro gb696 hg w6 hbox hb; have n0_ := za.mk (zm (Zq3 HB) hb); have n1_ := za.mk (hbox); have n2_ := za.mk ((by rw [hg]; exact (zy (Zq3 HB)) : w.heap.size ≤ gb696)); have n3_ := za.mk ((by rw [hg]; exact (zy (Zq3 HB)) : w.heap.size ≤ gb696)); clear HB; have HB := n0_; have BK696 := n1_; have GW696 := n2_; have GE696 := n3_; clear n0_ n1_ n2_ n3_; clear hb hbox hg; have hcz7_0 : w6.cell? ⟨gb696, 0, none⟩ = some (.int .i64 a0_0) := (ze BK696.out 0).trans rfl; have hcz7_1 : w6.cell? ⟨gb696, 1, none⟩ = some (.int .i64 a0_1) := (ze BK696.out 1).trans rfl; have hfz7_0 := zg BK696.out 0; have hfz7_1 := zg BK696.out 1) | ((with_reducible refine zbc (f := 103) rfl ?_); refine zby (some 7) rfl rfl Try.func103 (by kernel_rfl) rfl #[.int .i64 a0_0, .int .i64 1, .int .i64 a0_1] rfl Zmt ?_; (with_reducible refine (zc1.calls a0_0 1 a0_1 false _ A2.out).mono ?_); rintro e w' ⟨rfl, ⟨nd, rfl⟩⟩; refine ⟨_, rfl, ?_⟩));go_ret;exact ⟨by first | rfl | (simp [zu, zw] <;> rfl) | (simp [*, zu, zw] <;> rfl), Zq5 HB GE696⟩
mutual
def z8.j0 : Nat → List Bool → Bool → Int → Int → Option (Bool)
 | 0, _, _, _, _ => none
 | k + 1, x1, x16, x699000, x699001 => if x16 = true then (some false) else (z8.l0 k x1 0 x699000 x699001)
def z8.l0 : Nat → List Bool → Int → Int → Int → Option (Bool)
 | 0, _, _, _, _ => none
 | k + 1, x1, x5, x699000, x699001 => if (wrap64 (x5 + x699001)) ≤ 120 then (if 0 ≤ x5 then (if x5 ≤ (wrap64 (x5 + x699001)) then (if (wrap64 (x5 + x699001)) ≤ (x1.length : Int) then (z8.l1 k x1 x5 0 ((x1.take ((wrap64 (x5 + x699001)) : Int).toNat).drop (x5 : Int).toNat) (((x1.take ((wrap64 (x5 + x699001)) : Int).toNat).drop (x5 : Int).toNat).length : Int) 0 x699000 x699001) else (none)) else (none)) else (none)) else (some true)
def z8.l1 : Nat → List Bool → Int → Int → List Bool → Int → Int → Int → Int → Option (Bool)
 | 0, _, _, _, _, _, _, _, _ => none
 | k + 1, x1, x5, x6, x32, x33, x34, x699000, x699001 => if x34 < x33 then (if 0 ≤ x34 then (if x34 < (x32.length : Int) then (if rdOf false x32 x34 = true then (z8.l1 k x1 x5 (wrap64 (x6 + 1)) x32 x33 (wrap64 (x34 + 1)) x699000 x699001) else (z8.l1 k x1 x5 x6 x32 x33 (wrap64 (x34 + 1)) x699000 x699001)) else (none)) else (none)) else (if x6 = x699000 then (z8.l0 k x1 (wrap64 (x5 + x699001)) x699000 x699001) else (some false))
end
def z8.f (k : Nat) (a0_0 : Int) (a0_1 : Int) (l1 : List Bool) : Option (Bool) := (zcd.f a0_0 a0_1).bind fun t699 => (if t699 = true then (z8.j0 k l1 ((l1.length : Int) != 120) a0_0 a0_1) else (z8.j0 k l1 true a0_0 a0_1))
set_option maxHeartbeats 8000000 in
theorem z8.calls (k : Nat) (a0_0 : Int) (a0_1 : Int) (A1 : Option Addr) (c1 : Nat) (l1 : List Bool) (r : Bool) (w : World) (hr1 : Kd.C Kd.bool w A1 l1.length l1) (hc1 : l1.length ≤ c1) (h : z8.f k a0_0 a0_1 l1 = some r) :
  Calls Try.prog 72 #[.agg #[.int .i64 a0_0, .int .i64 a0_1], .slice A1 l1.length c1] w fun e w' => e = .returned (.bool r) ∧ Below w.heap.size w w' := by
 have hu51 := Try.underlying51
 have HR1 := za.mk hr1
 have HC1 := za.mk hc1
 clear hr1 hc1
 have HB := za.mk (Below.refl w.heap.size w)
 have H : ((zcd.f a0_0 a0_1).bind fun t699 => (if t699 = true then (z8.j0 k l1 ((l1.length : Int) != 120) a0_0 a0_1) else (z8.j0 k l1 true a0_0 a0_1))) = some r := h
 clear h
 have HC3 := za.mk H
 clear H
 go_enter Try.func72, Try.ntmps72
 go_upto_region 1 with (first | ((with_reducible refine zbp (N := 2) rfl ?_); (try (refine zcx (by rfl) ?_; dsimp only)); refine zbt ?hg (N := 2) ?hd (cs := #[.int .i64 a0_0, .int .i64 a0_1]) (t := 51) ?hr ?_; (case hd => rfl); (case hg => rfl); (case hr => first | (go_simp; done) | (go_simp; rfl)); intro gb698 hg w4 hbox hb; have n0_ := za.mk (zm (Zq3 HB) hb); have n1_ := za.mk (hbox); have n2_ := za.mk ((by rw [hg]; exact (zy (Zq3 HB)) : w.heap.size ≤ gb698)); have n3_ := za.mk ((by rw [hg]; exact (zy (Zq3 HB)) : w.heap.size ≤ gb698)); clear HB; have HB := n0_; have BK698 := n1_; have GW698 := n2_; have GE698 := n3_; clear n0_ n1_ n2_ n3_; clear hb hbox hg))
 (try simp only [Act.put, Zs1, Zs2, Zs3])
 go_cut [16] (fun v16 wc => ∃ (kq : Nat) (x16_2 : Bool), v16 = .bool x16_2 ∧ za (z8.j0 kq l1 x16_2 a0_0 a0_1 = some r) ∧ za (kq ≤ k) ∧ za (wc.heap[gb698]? = some (.cells #[.int .i64 a0_0, .int .i64 a0_1] 51 (0, 0))) ∧ za (Below w.heap.size w wc))
 case first =>
  have H := HC3.out;clear HC3;replace H := Option.bind_eq_some_iff.mp H;obtain ⟨t699, A50, H⟩ := H;replace H : (if t699 = true then (z8.j0 k l1 ((l1.length : Int) != 120) a0_0 a0_1) else (z8.j0 k l1 true a0_0 a0_1)) = some r := H;have A5 := za.mk A50;clear A50;by_cases c6 : t699 = true
  ·subst c6
   have H1 : (z8.j0 k l1 ((l1.length : Int) != 120) a0_0 a0_1) = some r := by rw [if_pos rfl] at H; exact H
   clear H;have H := H1;clear H1;have H' := za.mk H;clear H;have hcz7_0 : w4.cell? ⟨gb698, 0, none⟩ = some (.int .i64 a0_0) := (ze BK698.out 0).trans rfl;have hcz7_1 : w4.cell? ⟨gb698, 1, none⟩ = some (.int .i64 a0_1) := (ze BK698.out 1).trans rfl;have hfz7_0 := zg BK698.out 0;have hfz7_1 := zg BK698.out 1;go_wp2_with (first | ((with_reducible refine zbc (f := 77) rfl ?_); refine zby (some 10) rfl rfl Try.func77 (by kernel_rfl) rfl #[.agg #[.int .i64 a0_0, .int .i64 a0_1]] rfl Zmt ?_; (with_reducible refine (zcd.calls a0_0 a0_1 true _ A5.out).mono ?_); rintro e w8 ⟨rfl, hb⟩; refine ⟨_, rfl, ?_⟩; have n0_ := za.mk (zbg (g := gb698) (o := .cells #[.int .i64 a0_0, .int .i64 a0_1] 51 (0, 0)) (Zq4 BK698) hb); have n1_ := za.mk (zm (Zq5 HB GE698) hb); clear BK698; clear HB; have BK698 := n0_; have HB := n1_; clear n0_ n1_; (try clear hb); (try clear hb2); (try clear hk); (try clear hi)));go_meet
   case rel => exact ⟨_, (((l1.length : Int) != 120)), Zrs, H', ⟨by first | omega | exact Nat.le_refl _⟩, ⟨Zq4 BK698⟩, ⟨Zq5 HB GE698⟩⟩
  ·replace c6 := Bool.eq_false_iff.mpr c6
   subst c6;have H1 : (z8.j0 k l1 true a0_0 a0_1) = some r := by rw [if_neg (show ¬ (false = true) by decide)] at H; exact H
   clear H;have H := H1;clear H1;have H' := za.mk H;clear H;have hcz9_0 : w4.cell? ⟨gb698, 0, none⟩ = some (.int .i64 a0_0) := (ze BK698.out 0).trans rfl;have hcz9_1 : w4.cell? ⟨gb698, 1, none⟩ = some (.int .i64 a0_1) := (ze BK698.out 1).trans rfl;have hfz9_0 := zg BK698.out 0;have hfz9_1 := zg BK698.out 1;go_wp2_with (first | ((with_reducible refine zbc (f := 77) rfl ?_); refine zby (some 10) rfl rfl Try.func77 (by kernel_rfl) rfl #[.agg #[.int .i64 a0_0, .int .i64 a0_1]] rfl Zmt ?_; (with_reducible refine (zcd.calls a0_0 a0_1 false _ A5.out).mono ?_); rintro e w10 ⟨rfl, hb⟩; refine ⟨_, rfl, ?_⟩; have n0_ := za.mk (zbg (g := gb698) (o := .cells #[.int .i64 a0_0, .int .i64 a0_1] 51 (0, 0)) (Zq4 BK698) hb); have n1_ := za.mk (zm (Zq5 HB GE698) hb); clear BK698; clear HB; have BK698 := n0_; have HB := n1_; clear n0_ n1_; (try clear hb); (try clear hb2); (try clear hk); (try clear hi)));go_meet
   case rel => exact ⟨_, (true), Zrs, H', ⟨by first | omega | exact Nat.le_refl _⟩, ⟨Zq4 BK698⟩, ⟨Zq5 HB GE698⟩⟩
 case rest =>
  clear HC3
  (try clear c1);(try clear p2);(try clear c6);(try clear c7);(try clear hcz7_0);(try clear hcz7_1);(try clear hcz9_0);(try clear hcz9_1);(try clear hfz7_0);(try clear hfz7_1);(try clear hfz9_0);(try clear hfz9_1)
  obtain ⟨kq, x16_2, rfl, HA, HJ2, BK698, HB⟩ := hcut
  cases kq with
  | zero => exact absurd HA.out (by simp [z8.j0])
  | succ kj2 =>
   have H := HA.out;clear HA;simp only [z8.j0] at H;by_cases c11 : x16_2 = true
   ·subst c11
    have H1 : (some false) = some r := by rw [if_pos rfl] at H; exact H
    clear H;have H := H1;clear H1;obtain rfl := Option.some.inj H;go_wp2;go_ret;exact ⟨by first | rfl | (simp [zu, zw] <;> rfl) | (simp [*, zu, zw] <;> rfl), Zq5 HB GE698⟩
   ·replace c11 := Bool.eq_false_iff.mpr c11
    subst c11;have H1 : (z8.l0 kj2 l1 0 a0_0 a0_1) = some r := by rw [if_neg (show ¬ (false = true) by decide)] at H; exact H
    clear H;have H := H1;clear H1;have H' := za.mk H;clear H;go_wp2
    go_loopg [5] kj2 (fun kq v5 w' => ∃ (x5_2 : Int), v5 = .int .i64 x5_2 ∧ za (z8.l0 kq l1 x5_2 a0_0 a0_1 = some r) ∧ za (kq ≤ kj2) ∧ za (w'.heap[gb698]? = some (.cells #[.int .i64 a0_0, .int .i64 a0_1] 51 (0, 0))) ∧ za (Below w.heap.size w w'))
    case atStart => exact ⟨(0), Zrs, H', ⟨Nat.le_refl _⟩, ⟨Zq4 BK698⟩, ⟨Zq5 HB GE698⟩⟩
    case round =>
     clear H'
     (try clear c1);(try clear p2);(try clear c6);(try clear c7);(try clear c11);(try clear hcz7_0);(try clear hcz7_1);(try clear hcz9_0);(try clear hcz9_1);(try clear hfz7_0);(try clear hfz7_1);(try clear hfz9_0);(try clear hfz9_1);(try clear p2)
     obtain ⟨x5_2, rfl, HA, HK2, BK698, HB⟩ := hrel
     cases gk with
     | zero => exact absurd HA.out (by simp [z8.l0])
     | succ k2 =>
      have H := HA.out;clear HA;simp only [z8.l0] at H;by_cases c12 : (wrap64 (x5_2 + a0_1)) ≤ 120
      ·rw [if_pos c12] at H
       have c12b0 : decide ((wrap64 (x5_2 + a0_1)) ≤ 120) = true := decide_eq_true c12;clear c12;by_cases c13 : 0 ≤ x5_2
       ·rw [if_pos c13] at H
        have c13b0 := eq_true c13;have c13b1 : decide (0 ≤ x5_2) = true := decide_eq_true c13;clear c13;by_cases c14 : x5_2 ≤ (wrap64 (x5_2 + a0_1))
        ·rw [if_pos c14] at H
         have c14b0 := eq_true c14;have c14b1 : decide (x5_2 ≤ (wrap64 (x5_2 + a0_1))) = true := decide_eq_true c14;by_cases c15 : (wrap64 (x5_2 + a0_1)) ≤ (l1.length : Int)
         ·rw [if_pos c15] at H
          have c15b0 := eq_true c15;have c15b1 : decide ((wrap64 (x5_2 + a0_1)) ≤ (l1.length : Int)) = true := decide_eq_true c15;have HLEN := za.mk (show ((l1.take ((wrap64 (x5_2 + a0_1)) : Int).toNat).drop (x5_2 : Int).toNat).length = ((wrap64 (x5_2 + a0_1)) : Int).toNat - (x5_2 : Int).toNat by rw [List.length_drop, List.length_take]; have := c15; omega);have H' := za.mk H;clear H;have hcz16_0 : wr.cell? ⟨gb698, 0, none⟩ = some (.int .i64 a0_0) := (ze BK698.out 0).trans rfl;have hcz16_1 : wr.cell? ⟨gb698, 1, none⟩ = some (.int .i64 a0_1) := (ze BK698.out 1).trans rfl;have hfz16_0 := zg BK698.out 0;have hfz16_1 := zg BK698.out 1;obtain ⟨i017, hi017, _, hsz17, _⟩ := info_parts info4;obtain ⟨A17, hcut17, hA17, hC17⟩ := zit (P := Try.prog) Value.bool false 52 4 .i64 .i64 Try.underlying52 hi017 hsz17 A1 c1 l1 x5_2 (wrap64 (x5_2 + a0_1)) (of_decide_eq_true Zas) (by first | omega | exact of_decide_eq_true Zas) (of_decide_eq_true Zas) HC1.out;have HR700 := za.mk (Kd.zht (h1 := fun _ => rfl) (hA17 _ (Kd.ze1 HR1.out)));have HC700 := za.mk hC17;clear hA17 hC17 hi017 hsz17;go_wp2
          go_loopg [6, 34] k2 (fun kq v6 v34 w' => ∃ (x6_3 : Int) (x34_3 : Int), v6 = .int .i64 x6_3 ∧ v34 = .int .i64 x34_3 ∧ za (z8.l1 kq l1 x5_2 x6_3 ((l1.take ((wrap64 (x5_2 + a0_1)) : Int).toNat).drop (x5_2 : Int).toNat) (((l1.take ((wrap64 (x5_2 + a0_1)) : Int).toNat).drop (x5_2 : Int).toNat).length : Int) x34_3 a0_0 a0_1 = some r) ∧ za (kq ≤ k2) ∧ za (w'.heap[gb698]? = some (.cells #[.int .i64 a0_0, .int .i64 a0_1] 51 (0, 0))) ∧ za (Below w.heap.size w w'))
          case atStart => exact ⟨(0), (0), Zrs, Zrs, H', ⟨Nat.le_refl _⟩, ⟨Zq4 BK698⟩, ⟨Zq5 HB GE698⟩⟩
          case round =>
           clear H'
           (try clear c1);(try clear p2);(try clear c6);(try clear p6);(try clear c7);(try clear c11);(try clear c12);(try clear c12b0);(try clear c13);(try clear c13b0);(try clear c13b1);(try clear c14);(try clear c14b0);(try clear c14b1);(try clear c15);(try clear c15b0);(try clear c15b1);(try clear hcz16_0);(try clear hcz16_1);(try clear hcz7_0);(try clear hcz7_1);(try clear hcz9_0);(try clear hcz9_1);(try clear hfz16_0);(try clear hfz16_1);(try clear hfz7_0);(try clear hfz7_1);(try clear hfz9_0);(try clear hfz9_1);(try clear p2)
           obtain ⟨x6_3, x34_3, rfl, rfl, HA, HK3, BK698, HB⟩ := hrel
           cases gk with
           | zero => exact absurd HA.out (by simp [z8.l1])
           | succ k3 =>
            have H := HA.out;clear HA;simp only [z8.l1] at H;by_cases c18 : x34_3 < (((l1.take ((wrap64 (x5_2 + a0_1)) : Int).toNat).drop (x5_2 : Int).toNat).length : Int)
            ·rw [if_pos c18] at H
             have c18b0 : decide (x34_3 < (((l1.take ((wrap64 (x5_2 + a0_1)) : Int).toNat).drop (x5_2 : Int).toNat).length : Int)) = true := decide_eq_true c18;have c18w : decide (x34_3 < ((((wrap64 (x5_2 + a0_1)) : Int).toNat - (x5_2 : Int).toNat : Nat) : Int)) = true := by rw [← HLEN.out]; exact c18b0
             clear c18;by_cases c19 : 0 ≤ x34_3
             ·rw [if_pos c19] at H
              have c19b0 : decide (0 ≤ x34_3) = true := decide_eq_true c19;clear c19;by_cases c20 : x34_3 < (((l1.take ((wrap64 (x5_2 + a0_1)) : Int).toNat).drop (x5_2 : Int).toNat).length : Int)
              ·rw [if_pos c20] at H
               have c20b0 : decide (x34_3 < (((l1.take ((wrap64 (x5_2 + a0_1)) : Int).toNat).drop (x5_2 : Int).toNat).length : Int)) = true := decide_eq_true c20;have c20w : decide (x34_3 < ((((wrap64 (x5_2 + a0_1)) : Int).toNat - (x5_2 : Int).toNat : Nat) : Int)) = true := by rw [← HLEN.out]; exact c20b0
               clear c20;obtain ⟨bq21, hbq21⟩ : ∃ b_ : Bool, b_ = (rdOf false ((l1.take ((wrap64 (x5_2 + a0_1)) : Int).toNat).drop (x5_2 : Int).toNat) x34_3) := ⟨_, rfl⟩;replace H : (if bq21 = true then (z8.l1 k3 l1 x5_2 (wrap64 (x6_3 + 1)) ((l1.take ((wrap64 (x5_2 + a0_1)) : Int).toNat).drop (x5_2 : Int).toNat) (((l1.take ((wrap64 (x5_2 + a0_1)) : Int).toNat).drop (x5_2 : Int).toNat).length : Int) (wrap64 (x34_3 + 1)) a0_0 a0_1) else (z8.l1 k3 l1 x5_2 x6_3 ((l1.take ((wrap64 (x5_2 + a0_1)) : Int).toNat).drop (x5_2 : Int).toNat) (((l1.take ((wrap64 (x5_2 + a0_1)) : Int).toNat).drop (x5_2 : Int).toNat).length : Int) (wrap64 (x34_3 + 1)) a0_0 a0_1)) = some r := by rw [← hbq21] at H; exact H
               have Nbq21 := za.mk hbq21;clear hbq21;by_cases c22 : bq21 = true
               ·subst c22
                have H1 : (z8.l1 k3 l1 x5_2 (wrap64 (x6_3 + 1)) ((l1.take ((wrap64 (x5_2 + a0_1)) : Int).toNat).drop (x5_2 : Int).toNat) (((l1.take ((wrap64 (x5_2 + a0_1)) : Int).toNat).drop (x5_2 : Int).toNat).length : Int) (wrap64 (x34_3 + 1)) a0_0 a0_1) = some r := by rw [if_pos rfl] at H; exact H
                clear H;have H := H1;clear H1;have H' := za.mk H;clear H;have p701 : 0 ≤ (x34_3 : Int) := of_decide_eq_true Zas;have q701 : x34_3 < (((l1.take ((wrap64 (x5_2 + a0_1)) : Int).toNat).drop (x5_2 : Int).toNat).length : Int) := of_decide_eq_true Zas;obtain ⟨ad701, e701, hx701_0⟩ := Kd.zft HR700.out x34_3 p701 q701;(try rw [← Nbq21.out] at hx701_0)
                cases e701
                replace hx701_0 := (HB.out.cell (World.block_lt_of_cell? w _ hx701_0)).trans hx701_0;replace p701 := eq_true p701;replace q701 := eq_true q701;have q701w := eq_true (show x34_3 < ((((wrap64 (x5_2 + a0_1)) : Int).toNat - (x5_2 : Int).toNat : Nat) : Int) by rw [← HLEN.out]; exact of_eq_true q701);go_wp2;go_roundg k3
                case measure => have := HJ2.out; have := HK2.out; have := HK3.out; omega
                case rel => exact ⟨(wrap64 (x6_3 + 1)), (wrap64 (x34_3 + 1)), Zrs, Zrs, H', ⟨by have := HJ2.out; have := HK2.out; have := HK3.out; omega⟩, ⟨Zq4 BK698⟩, ⟨Zq5 HB GE698⟩⟩
               ·replace c22 := Bool.eq_false_iff.mpr c22
                subst c22;have H1 : (z8.l1 k3 l1 x5_2 x6_3 ((l1.take ((wrap64 (x5_2 + a0_1)) : Int).toNat).drop (x5_2 : Int).toNat) (((l1.take ((wrap64 (x5_2 + a0_1)) : Int).toNat).drop (x5_2 : Int).toNat).length : Int) (wrap64 (x34_3 + 1)) a0_0 a0_1) = some r := by rw [if_neg (show ¬ (false = true) by decide)] at H; exact H
                clear H;have H := H1;clear H1;have H' := za.mk H;clear H;have p701 : 0 ≤ (x34_3 : Int) := of_decide_eq_true Zas;have q701 : x34_3 < (((l1.take ((wrap64 (x5_2 + a0_1)) : Int).toNat).drop (x5_2 : Int).toNat).length : Int) := of_decide_eq_true Zas;obtain ⟨ad701, e701, hx701_0⟩ := Kd.zft HR700.out x34_3 p701 q701;(try rw [← Nbq21.out] at hx701_0)
                cases e701
                replace hx701_0 := (HB.out.cell (World.block_lt_of_cell? w _ hx701_0)).trans hx701_0;replace p701 := eq_true p701;replace q701 := eq_true q701;have q701w := eq_true (show x34_3 < ((((wrap64 (x5_2 + a0_1)) : Int).toNat - (x5_2 : Int).toNat : Nat) : Int) by rw [← HLEN.out]; exact of_eq_true q701);go_wp2;go_roundg k3
                case measure => have := HJ2.out; have := HK2.out; have := HK3.out; omega
                case rel => exact ⟨(x6_3), (wrap64 (x34_3 + 1)), Zrs, Zrs, H', ⟨by have := HJ2.out; have := HK2.out; have := HK3.out; omega⟩, ⟨Zq4 BK698⟩, ⟨Zq5 HB GE698⟩⟩
              ·rw [if_neg c20] at H
               exact absurd H (by simp)
             ·rw [if_neg c19] at H
              exact absurd H (by simp)
            ·rw [if_neg c18] at H
             have c18b0 : decide (x34_3 < (((l1.take ((wrap64 (x5_2 + a0_1)) : Int).toNat).drop (x5_2 : Int).toNat).length : Int)) = false := decide_eq_false c18;have c18w : decide (x34_3 < ((((wrap64 (x5_2 + a0_1)) : Int).toNat - (x5_2 : Int).toNat : Nat) : Int)) = false := by rw [← HLEN.out]; exact c18b0
             clear c18;by_cases c23 : x6_3 = a0_0
             ·rw [if_pos c23] at H
              have c23b0 : (x6_3 == a0_0) = true := beq_iff_eq.mpr c23;have c23b1 : (x6_3 != a0_0) = false := bne_eq_false_iff_eq.mpr c23;clear c23;have H' := za.mk H;clear H;have hcz24_0 : wr.cell? ⟨gb698, 0, none⟩ = some (.int .i64 a0_0) := (ze BK698.out 0).trans rfl;have hcz24_1 : wr.cell? ⟨gb698, 1, none⟩ = some (.int .i64 a0_1) := (ze BK698.out 1).trans rfl;have hfz24_0 := zg BK698.out 0;have hfz24_1 := zg BK698.out 1;go_wp2;go_roundg k3
              case measure => have := HJ2.out; have := HK2.out; have := HK3.out; omega
              case rel => exact ⟨(wrap64 (x5_2 + a0_1)), Zrs, H', ⟨by have := HJ2.out; have := HK2.out; have := HK3.out; omega⟩, ⟨Zq4 BK698⟩, ⟨Zq5 HB GE698⟩⟩
             ·rw [if_neg c23] at H
              have c23b0 : (x6_3 == a0_0) = false := beq_eq_false_iff_ne.mpr c23;have c23b1 : (x6_3 != a0_0) = true := bne_iff_ne.mpr c23;obtain rfl := Option.some.inj H;have hcz25_0 : wr.cell? ⟨gb698, 0, none⟩ = some (.int .i64 a0_0) := (ze BK698.out 0).trans rfl;have hcz25_1 : wr.cell? ⟨gb698, 1, none⟩ = some (.int .i64 a0_1) := (ze BK698.out 1).trans rfl;have hfz25_0 := zg BK698.out 0;have hfz25_1 := zg BK698.out 1;go_wp2;go_ret;exact ⟨by first | rfl | (simp [zu, zw] <;> rfl) | (simp [*, zu, zw] <;> rfl), Zq5 HB GE698⟩
         ·rw [if_neg c15] at H
          exact absurd H (by simp)
        ·rw [if_neg c14] at H
         exact absurd H (by simp)
       ·rw [if_neg c13] at H
        exact absurd H (by simp)
      ·rw [if_neg c12] at H
       have c12b0 : decide ((wrap64 (x5_2 + a0_1)) ≤ 120) = false := decide_eq_false c12;clear c12;obtain rfl := Option.some.inj H;have hcz26_0 : wr.cell? ⟨gb698, 0, none⟩ = some (.int .i64 a0_0) := (ze BK698.out 0).trans rfl;have hcz26_1 : wr.cell? ⟨gb698, 1, none⟩ = some (.int .i64 a0_1) := (ze BK698.out 1).trans rfl;have hfz26_0 := zg BK698.out 0;have hfz26_1 := zg BK698.out 1;go_wp2;go_ret;exact ⟨by first | rfl | (simp [zu, zw] <;> rfl) | (simp [*, zu, zw] <;> rfl), Zq5 HB GE698⟩
set_option maxHeartbeats 4000000 in
theorem zif (A3 : Option Addr) (c3 : Nat) (l3 : List Bool) (B : Addr) (t : Nat) (htl : t < l3.length) (w : World) (hB : w.cell? B = some (.slice A3 l3.length c3)) (hr3 : Kd.C Kd.bool w A3 l3.length l3) :
    Calls Try.prog 74 #[.int .i64 (t : Int), .pointer (some B)] w fun e w' => e = .returned (.bool (!(rdOf false l3 (t : Int)))) ∧ zcb w w' := by
  have htz : (t : Int) < (l3.length : Int) := by omega
  obtain ⟨ad, ea, hx⟩ := Kd.zft hr3 (t : Int) (by omega) htz
  cases ea
  rw [Int.toNat_natCast] at hx
  clear hr3
  generalize rdOf false l3 (t : Int) = v at hx ⊢
  go_enter Try.func74, Try.ntmps74
  go_wp2
  go_ret
  exact ⟨rfl, zcb.refl _⟩
def zc7.f (k : Nat) (l0 : List S88) (l1 : List S34) (a2_0 : Int) (a2_1 : Int) (l3 : List Bool) : Option (List Int × List Int) := (z8.f k a2_0 a2_1 l3).bind fun p => (if p = true then ((zc6.f l0 l1).bind fun t => (if t = true then (if l1.length ≤ 1000 ∧ 120 ≤ l3.length then (some (simR (pauD l1 (fun t => !(rdOf false l3 t))) l1)) else (none)) else (some ([], [])))) else (some ([], [])))
set_option maxHeartbeats 8000000 in
theorem zc7.calls (k : Nat) (A0 : Option Addr) (c0 : Nat) (l0 : List S88) (A1 : Option Addr) (c1 : Nat) (l1 : List S34) (a2_0 : Int) (a2_1 : Int) (A3 : Option Addr) (c3 : Nat) (l3 : List Bool) (r1 : List Int) (r2 : List Int) (w : World) (hr0 : Kd.C k88 w A0 l0.length l0) (hc0 : l0.length ≤ c0) (hr1 : Kd.C k34 w A1 l1.length l1) (hc1 : l1.length ≤ c1) (hr3 : Kd.C Kd.bool w A3 l3.length l3) (hc3 : l3.length ≤ c3) (h : zc7.f k l0 l1 a2_0 a2_1 l3 = some (r1, r2)) :
    Calls Try.prog 31 #[.slice A0 l0.length c0, .slice A1 l1.length c1, .agg #[.int .i64 a2_0, .int .i64 a2_1], .slice A3 l3.length c3] w fun e w' => ∃ v0_ v1_ : Value, e = .returned (.agg #[v0_, v1_]) ∧ Kd.R (Kd.int .i64) 3 w' w.heap.size (fun k_ => some k_ ≠ (v1_ : Value).ownBlock) v0_ r1 ∧ Kd.R (Kd.int .i64) 3 w' w.heap.size (fun k_ => some k_ ≠ (v0_ : Value).ownBlock) v1_ r2 ∧ Below w.heap.size w w' := by
  unfold zc7.f at h
  obtain ⟨W0, hW0⟩ : ∃ W0 : World, W0 = ((w.alloc (.cells #[.int .i64 a2_0, .int .i64 a2_1] 51)).alloc (.cells #[.slice A3 l3.length c3] 52)).alloc (.cells #[.slice none 0 0, .slice none 0 0] 29) := ⟨_, rfl⟩
  have b0 : Below w.heap.size w W0 := by rw [hW0]; exact zbm (zbm (zbm (Below.refl _ _) _) _) _
  have bk0 : W0.heap[w.heap.size + 2]? = some (.cells #[.slice none 0 0, .slice none 0 0] 29 (0, 0)) := by
    rw [hW0]
    have h := zgz ((w.alloc (.cells #[.int .i64 a2_0, .int .i64 a2_1] 51)).alloc (.cells #[.slice A3 l3.length c3] 52)) (.cells #[.slice none 0 0, .slice none 0 0] 29)
    rwa [show ((w.alloc (.cells #[.int .i64 a2_0, .int .i64 a2_1] 51)).alloc (.cells #[.slice A3 l3.length c3] 52)).heap.size = w.heap.size + 2 by simp] at h
  have bk1 : W0.heap[w.heap.size + 1]? = some (.cells #[.slice A3 l3.length c3] 52 (0, 0)) := by
    rw [hW0]
    have h := zgz (w.alloc (.cells #[.int .i64 a2_0, .int .i64 a2_1] 51)) (.cells #[.slice A3 l3.length c3] 52)
    rw [show (w.alloc (.cells #[.int .i64 a2_0, .int .i64 a2_1] 51)).heap.size = w.heap.size + 1 by simp] at h
    exact zq h _
  have s0 : w.heap.size + 2 < W0.heap.size := by rw [hW0]; simp
  have HR0 := za.mk (Kd.zb4 hr0 b0)
  have HC0 := za.mk hc0
  have HR1 := za.mk (Kd.zb4 hr1 b0)
  have HC1 := za.mk hc1
  have HR3 := za.mk (Kd.zb4 hr3 b0)
  have HC3 := za.mk hc3
  have B0 := za.mk b0
  have K0 := za.mk bk0
  have K1 := za.mk bk1
  have S0 := za.mk s0
  have HW := za.mk hW0
  clear hr0 hc0 hr1 hc1 hr3 hc3 b0 bk0 bk1 s0 hW0
  have fin : ∀ (W : World), za (Below W0.heap.size W0 W) → za (W.heap[w.heap.size + 2]? = some (.cells #[.slice none 0 0, .slice none 0 0] 29 (0, 0))) := fun W hb => ⟨zbg K0.out hb.out⟩
  cases hp : z8.f k a2_0 a2_1 l3 with
  | none => rw [hp] at h; simp at h
  | some p =>
    rw [hp] at h
    have HPV := za.mk hp
    clear hp
    cases p with
    | false =>
      simp at h
      obtain ⟨rfl, rfl⟩ := h
      go_enter Try.func31, Try.ntmps31
      go_wp2_with (go_at_call 72; (try rw [← HW.out]); refine (z8.calls k a2_0 a2_1 A3 c3 l3 false _ HR3.out HC3.out HPV.out).mono ?_; rintro e w1 ⟨rfl, hb⟩; have HB := za.mk hb; have BK1 := (fin w1 HB).out; have r0 := (ze BK1 0); have r1 := (ze BK1 1); have f0 := zg BK1 0; have f1 := zg BK1 1; have BK := za.mk BK1; clear hb BK1 fin)
      refine bodyPost_ret (results_cell_row rfl _ _ (w.heap.size + 2) 29 #[.slice none 0 0, .slice none 0 0] (0, 0) _ rfl (by first | exact BK.out | (refine zb2 (cs := #[.slice none 0 0, .slice none 0 0]) ?_ 1 _ rfl; refine zb2 (cs := #[.slice none 0 0, .slice none 0 0]) ?_ 0 _ rfl; exact BK.out)) Try.underlying29 rfl (by kernel_rfl)) rfl ?_
      exact ⟨_, _, rfl, Kd.zf8 _ _ _ _ _, Kd.zf8 _ _ _ _ _, by first | exact zb8 B0.out B0.out.size HB.out | exact ((zb8 B0.out B0.out.size HB.out).setCell (by show w.heap.size ≤ _; simp only; omega) _).setCell (by show w.heap.size ≤ _; simp only; omega) _⟩
    | true =>
      simp only [Option.bind_some, if_true] at h
      cases hs : zc6.f l0 l1 with
      | none => rw [hs] at h; simp at h
      | some t =>
        rw [hs] at h
        have HS := za.mk hs
        clear hs
        cases t with
        | false =>
          simp at h
          obtain ⟨rfl, rfl⟩ := h
          go_enter Try.func31, Try.ntmps31
          go_wp2_with (first
            | (go_at_call 72; (try rw [← HW.out]); refine (z8.calls k a2_0 a2_1 A3 c3 l3 true _ HR3.out HC3.out HPV.out).mono ?_; rintro e w1 ⟨rfl, hb⟩; have HB1 := za.mk hb; clear hb)
            | (go_at_call 48; refine (zc6.calls A0 c0 l0 A1 c1 l1 false _ (Kd.zb4 HR0.out HB1.out) HC0.out (Kd.zb4 HR1.out HB1.out) HC1.out HS.out).mono ?_; rintro e w2 ⟨rfl, hb⟩; have HB := za.mk (zb8 HB1.out HB1.out.size hb); have BK1 := (fin w2 HB).out; have r0 := (ze BK1 0); have r1 := (ze BK1 1); have f0 := zg BK1 0; have f1 := zg BK1 1; have BK := za.mk BK1; clear hb BK1 fin))
          refine bodyPost_ret (results_cell_row rfl _ _ (w.heap.size + 2) 29 #[.slice none 0 0, .slice none 0 0] (0, 0) _ rfl (by first | exact BK.out | (refine zb2 (cs := #[.slice none 0 0, .slice none 0 0]) ?_ 1 _ rfl; refine zb2 (cs := #[.slice none 0 0, .slice none 0 0]) ?_ 0 _ rfl; exact BK.out)) Try.underlying29 rfl (by kernel_rfl)) rfl ?_
          exact ⟨_, _, rfl, Kd.zf8 _ _ _ _ _, Kd.zf8 _ _ _ _ _, by first | exact zb8 B0.out B0.out.size HB.out | exact ((zb8 B0.out B0.out.size HB.out).setCell (by show w.heap.size ≤ _; simp only; omega) _).setCell (by show w.heap.size ≤ _; simp only; omega) _⟩
        | true =>
          simp only [Option.bind_some, if_true] at h
          by_cases hl : l1.length ≤ 1000 ∧ 120 ≤ l3.length
          · rw [if_pos hl] at h
            have h := Option.some.inj h
            have e1 := congrArg Prod.fst h
            have e2 := congrArg Prod.snd h
            simp only at e1 e2
            subst e1 e2
            clear h
            obtain ⟨hl1, hl3⟩ := hl
            have HPA := za.mk (fun (W : World) (hb1 : Below W0.heap.size W0 W) => zja (fun t => !(rdOf false l3 t)) 74 #[.pointer (some ⟨w.heap.size + 1, 0, none⟩)] (enters_of Try.func74 (by kernel_rfl) rfl) A1 c1 l1 W (Kd.zb4 HR1.out hb1) hl1
              (fun W2 t htl hb => (zif A3 c3 l3 ⟨w.heap.size + 1, 0, none⟩ t (by omega) W2 ((ze (zbg K1.out (zb8 hb1 hb1.size hb)) 0).trans rfl) (Kd.zb4 HR3.out (zb8 hb1 hb1.size hb))).mono fun e w' hh => ⟨hh.1, hh.2.out⟩))
            obtain ⟨sr, hsr⟩ : ∃ sr, sr = simR (pauD l1 (fun t => !(rdOf false l3 t))) l1 := ⟨_, rfl⟩
            rw [← hsr] at HPA ⊢
            clear hsr
            go_enter Try.func31, Try.ntmps31
            go_wp2_with (first
              | (go_at_call 72; (try rw [← HW.out]); refine (z8.calls k a2_0 a2_1 A3 c3 l3 true _ HR3.out HC3.out HPV.out).mono ?_; rintro e w1 ⟨rfl, hb⟩; have HB1 := za.mk hb; clear hb)
              | (go_at_call 48; refine (zc6.calls A0 c0 l0 A1 c1 l1 true _ (Kd.zb4 HR0.out HB1.out) HC0.out (Kd.zb4 HR1.out HB1.out) HC1.out HS.out).mono ?_; rintro e w2 ⟨rfl, hb⟩; have HB2 := za.mk (zb8 HB1.out HB1.out.size hb); clear hb)
              | (go_at_call 73; refine (HPA.out w2 HB2.out).mono ?_; rintro e w3 ⟨v0, v1, rfl, hR0, hR1, hb⟩; obtain ⟨X0, y0, ev⟩ := Kd.zb6 hR0; subst ev; obtain ⟨X1, y1, ev⟩ := Kd.zb6 hR1; subst ev; have H0 := za.mk hR0; have H1 := za.mk hR1; have S1 := za.mk (Nat.lt_of_lt_of_le S0.out HB2.out.size); have HB := za.mk (zb8 HB2.out HB2.out.size hb); have BK1 := (fin w3 HB).out; have r0 := (ze BK1 0); have r1 := (ze BK1 1); have f0 := zg BK1 0; have f1 := zg BK1 1; have BK := za.mk BK1; clear hR0 hR1 hb BK1 fin))
            refine bodyPost_ret (results_cell_row rfl _ _ (w.heap.size + 2) 29 #[.slice X0 sr.1.length y0, .slice X1 sr.2.length y1] (0, 0) _ rfl (by refine zb2 (cs := #[.slice X0 sr.1.length y0, .slice none 0 0]) ?_ 1 _ rfl; refine zb2 (cs := #[.slice none 0 0, .slice none 0 0]) ?_ 0 _ rfl; exact BK.out) Try.underlying29 rfl (by kernel_rfl)) rfl ?_
            exact ⟨_, _, rfl, Kd.zcf (Kd.zbf (zgq S1.out H0.out _ _) (fun k hk => hk.2)) (by have := S1.out; omega), Kd.zcf (Kd.zbf (zgq S1.out H1.out _ _) (fun k hk => hk.2)) (by have := S1.out; omega), ((zb8 B0.out B0.out.size HB.out).setCell (by show w.heap.size ≤ _; simp only; omega) _).setCell (by show w.heap.size ≤ _; simp only; omega) _⟩
          · rw [if_neg hl] at h
            cases h
end Go.Proofs.Ytkdfjomhichkoaa.P
